/-
  Plain law: two right values have one literal just if they are of one kind, and the same; the walk of CellApart. Conditions: the library's tables are as laid.
-/
import Derived.Test.YtpkohkhgimmkhaaDoorCellLaws4
namespace Go.Proofs.YtpkohkhgimmkhaaDoor
open Go.RowKit Go.Sort
set_option linter.unusedVariables false
set_option linter.unusedSimpArgs false

def valD (l : List UInt8) : Nat := l.foldl (fun n c => n * 10 + (c.toNat - 48)) 0
theorem digc (d : Nat) (h : d < 10) : (UInt8.ofNat (48 + d)).toNat = 48 + d := by
  rw [UInt8.toNat_ofNat']; omega
theorem valD_dec (u : Nat) : valD (Lib.decDigits u) = u := by
  induction u using Nat.strongRecOn with
  | _ u ih =>
    rw [Lib.decDigits]
    by_cases h : u < 10
    · rw [dif_pos h]
      simp [valD, digc u h]
      omega
    · rw [dif_neg h]
      have := ih (u / 10) (by omega)
      unfold valD at this ⊢
      rw [List.foldl_append, this]
      simp [digc (u % 10) (by omega)]
      omega
theorem dec_head (u : Nat) : ∃ c t, Lib.decDigits u = c :: t ∧ 48 ≤ c.toNat ∧ c.toNat ≤ 57 := by
  induction u using Nat.strongRecOn with
  | _ u ih =>
    rw [Lib.decDigits]
    by_cases h : u < 10
    · rw [dif_pos h]
      exact ⟨_, [], rfl, by rw [digc u h]; omega, by rw [digc u h]; omega⟩
    · rw [dif_neg h]
      obtain ⟨c, t, e, h1, h2⟩ := ih (u / 10) (by omega)
      exact ⟨c, t ++ _, by rw [e]; rfl, h1, h2⟩
theorem itoa_inj {a b : Int} (h : Lib.itoa a = Lib.itoa b) : a = b := by
  unfold Lib.itoa at h
  by_cases ha : a < 0 <;> by_cases hb : b < 0
  · rw [if_pos ha, if_pos hb] at h
    have := congrArg valD (List.cons.inj h).2
    rw [valD_dec, valD_dec] at this
    omega
  · rw [if_pos ha, if_neg hb] at h
    obtain ⟨c, t, e, h1, h2⟩ := dec_head b.toNat
    rw [e] at h
    have := (List.cons.inj h).1
    subst this
    exact absurd h1 (by decide)
  · rw [if_neg ha, if_pos hb] at h
    obtain ⟨c, t, e, h1, h2⟩ := dec_head a.toNat
    rw [e] at h
    have := (List.cons.inj h).1
    subst this
    exact absurd h1 (by decide)
  · rw [if_neg ha, if_neg hb] at h
    have := congrArg valD h
    rw [valD_dec, valD_dec] at this
    omega
theorem dbl_inj : ∀ {l m : List UInt8}, dbl l = dbl m → l = m
  | [], [], _ => rfl
  | [], b :: m, h => by rw [dbl, dbl] at h; split at h <;> cases h
  | a :: l, [], h => by rw [dbl, dbl] at h; split at h <;> cases h
  | a :: l, b :: m, h => by
    rw [dbl, dbl] at h
    by_cases ha : a = 39 <;> by_cases hb : b = 39
    · rw [if_pos ha, if_pos hb] at h
      rw [ha, hb, dbl_inj (List.cons.inj (List.cons.inj h).2).2]
    · rw [if_pos ha, if_neg hb] at h
      exact absurd (List.cons.inj h).1.symm hb
    · rw [if_neg ha, if_pos hb] at h
      exact absurd (List.cons.inj h).1 ha
    · rw [if_neg ha, if_neg hb] at h
      obtain ⟨e1, e2⟩ := List.cons.inj h
      rw [e1, dbl_inj e2]
theorem quote_inj {l m : List UInt8} (h : quoteL l = quoteL m) : l = m := by
  unfold quoteL at h
  rw [List.append_assoc, List.append_assoc] at h
  exact dbl_inj (List.append_cancel_right (List.append_cancel_left h))
/-- the first byte of a literal tells the kind -/
def kindOf (c : UInt8) : Int := if c = 78 then 0 else if c = 39 then 2 else if c = 84 ∨ c = 70 then 3 else 1
theorem lit_kind (k i : Int) (s : ByteArray) (b : Bool) (h : four k) : ∃ c t, (litV k i s b).toList = c :: t ∧ kindOf c = k := by
  rcases h with rfl | rfl | rfl | rfl
  · exact ⟨78, [85, 76, 76], by rw [Lib.toList_data]; rfl, by decide⟩
  · have e : (litV 1 i s b).toList = Lib.itoa i := by rw [Lib.toList_data]; rfl
    rw [e]
    unfold Lib.itoa
    by_cases h0 : i < 0
    · rw [if_pos h0]
      exact ⟨45, _, rfl, by decide⟩
    · rw [if_neg h0]
      obtain ⟨c, t, e, h1, h2⟩ := dec_head i.toNat
      refine ⟨c, t, e, ?_⟩
      unfold kindOf
      have n1 : c ≠ 78 := fun e => by rw [e] at h2; exact absurd h2 (by decide)
      have n2 : c ≠ 39 := fun e => by rw [e] at h1; exact absurd h1 (by decide)
      have n3 : c ≠ 84 := fun e => by rw [e] at h2; exact absurd h2 (by decide)
      have n4 : c ≠ 70 := fun e => by rw [e] at h2; exact absurd h2 (by decide)
      simp [n1, n2, n3, n4]
  · refine ⟨39, dbl s.data.toList ++ [39], ?_, by decide⟩
    rw [Lib.toList_data]
    show quoteL s.data.toList = _
    simp [quoteL]
  · cases b
    · exact ⟨70, [65, 76, 83, 69], by rw [Lib.toList_data]; rfl, by decide⟩
    · exact ⟨84, [82, 85, 69], by rw [Lib.toList_data]; rfl, by decide⟩
theorem lit_apart {k i : Int} {s : ByteArray} {b : Bool} {k2 i2 : Int} {s2 : ByteArray} {b2 : Bool} (h : four k) (h2 : four k2) (hk : k ≠ k2) : ((litV k i s b).toList == (litV k2 i2 s2 b2).toList) = false := by
  rw [beq_eq_false_iff_ne]
  intro he
  obtain ⟨c, t, e, hc⟩ := lit_kind k i s b h
  obtain ⟨c2, t2, e2, hc2⟩ := lit_kind k2 i2 s2 b2 h2
  rw [e, e2] at he
  rw [← hc, ← hc2, (List.cons.inj he).1] at hk
  exact hk rfl
theorem lit_same {k i : Int} {s : ByteArray} {b : Bool} {i2 : Int} {s2 : ByteArray} {b2 : Bool} (h : four k) : ((litV k i s b).toList == (litV k i2 s2 b2).toList) = (orderV k i s b k i2 s2 b2 == 0) := by
  rw [Bool.eq_iff_iff, beq_iff_eq, beq_iff_eq, eq_iff]
  rw [Lib.toList_data, Lib.toList_data]
  rcases h with rfl | rfl | rfl | rfl
  · simp [litV]
  · constructor
    · intro e
      exact ⟨rfl, fun _ => itoa_inj e, fun e => by omega, fun e => by omega⟩
    · rintro ⟨_, e, _⟩
      rw [e rfl]
      rfl
  · constructor
    · intro e
      exact ⟨rfl, fun e => by omega, fun _ => by rw [Lib.toList_data, Lib.toList_data]; exact quote_inj e, fun e => by omega⟩
    · rintro ⟨_, _, e, _⟩
      have e' := e rfl
      rw [Lib.toList_data, Lib.toList_data] at e'
      show quoteL s.data.toList = quoteL s2.data.toList
      rw [e']
  · cases b <;> cases b2 <;> simp [litV]
theorem apart_walk (k i : Int) (s : ByteArray) (b : Bool) (k2 i2 : Int) (s2 : ByteArray) (b2 : Bool) (w : World) (he : Env w) (hi : R i) (hi2 : R i2) :
    Calls Tryd.prog 4 #[.agg #[.int .u8 k, .int .i64 i, .string s, .bool b], .agg #[.int .u8 k2, .int .i64 i2, .string s2, .bool b2]] w fun e w' => e = .returned (.bool true) ∧ Below w.heap.size w w' := by
  cases h : rightV k i s b with
  | false => exact apart_w0 k i s b k2 i2 s2 b2 w he (Lib.hid h)
  | true =>
  cases h2 : rightV k2 i2 s2 b2 with
  | false => exact apart_w1 k i s b k2 i2 s2 b2 w he (Lib.hid h) (Lib.hid h2)
  | true =>
    have hs : k = 2 → s.size ≤ 100 := fun hk => by
      rcases right_cases h with ⟨h', _⟩ | ⟨h', _⟩ | ⟨_, _, h', _⟩ | ⟨h', _⟩ <;> omega
    have hs2 : k2 = 2 → s2.size ≤ 100 := fun hk => by
      rcases right_cases h2 with ⟨h', _⟩ | ⟨h', _⟩ | ⟨_, _, h', _⟩ | ⟨h', _⟩ <;> omega
    by_cases hk : k = k2
    · subst hk
      cases hx : (orderV k i s b k i2 s2 b2 == 0) with
      | true => exact apart_st k i s b i2 s2 b2 _ _ w he (Lib.hid h) (Lib.hid h2) (Lib.hid (fun w he => literal_any k i s b w hi hs he)) (Lib.hid (fun w he => literal_any k i2 s2 b2 w hi2 hs2 he)) (rsame_is (four_of h) (four_of h) hx) (Lib.hid ((lit_same (four_of h)).trans hx))
      | false => exact apart_sf k i s b i2 s2 b2 _ _ w he (Lib.hid h) (Lib.hid h2) (Lib.hid (fun w he => literal_any k i s b w hi hs he)) (Lib.hid (fun w he => literal_any k i2 s2 b2 w hi2 hs2 he)) (rsame_is (four_of h) (four_of h) hx) (Lib.hid ((lit_same (four_of h)).trans hx))
    · exact apart_d k i s b k2 i2 s2 b2 _ _ w he (Lib.hid h) (Lib.hid h2) (Lib.hid (fun w he => literal_any k i s b w hi hs he)) (Lib.hid (fun w he => literal_any k2 i2 s2 b2 w hi2 hs2 he)) (beq_eq_false_iff_ne.2 hk) (Lib.hid (lit_apart (four_of h) (four_of h2) hk))
end Go.Proofs.YtpkohkhgimmkhaaDoor
