/-
  Plain law: the statement of LexNumbers in its printed form. Conditions: the number is int64, the noughts a byte.
-/
import Derived.Test.YtfbikpddpdkllaaDoorLexLaws4
import Derived.Test.YtfbikpddpdkllaaDoorLxF8
namespace Go.Proofs.YtfbikpddpdkllaaDoor
open Go.RowKit Go.Proofs.YtfbikpddpdkllaaDoor.Lx Go.Proofs.YtfbikpddpdkllaaDoorW.PrintWords
set_option linter.unusedVariables false
set_option linter.unusedSimpArgs false

theorem app_mk (a : List UInt8) (b : ByteArray) : ((⟨a.toArray⟩ : ByteArray) ++ b).data.toList = a ++ b.data.toList := by simp
theorem numbers_j2 (more : ByteArray) (y : List UInt8) (hy : y.length ≤ 100) : Ev (fun k => lapidarylaw14_LexNumbers.j2 k more ⟨y.toArray⟩ false) true := by
  have hc := cut_ok more 30
  have hs := cut_size more 30
  obtain ⟨m, em⟩ : ∃ m, m = more.extract 0 (mn (more.size : Int) 30).toNat := ⟨_, rfl⟩
  have hs : m.size ≤ 30 := by rw [em]; exact hs
  have hl := splitV_len ((⟨y.toArray⟩ : ByteArray) ++ m)
  have hE : Ev (fun k => (lex_Split.f k ((⟨y.toArray⟩ : ByteArray) ++ m)).bind fun b => (lapidaryref14_Split.f k ((⟨y.toArray⟩ : ByteArray) ++ m)).bind fun d => if b.2 = d.2 then (lapidarylaw14_back.f k b.1).bind fun t => (lapidaryref14_Same.f k t d.1).bind fun u => some u else some false) true :=
    Ev.bind (split_ev _) (Ev.bind (rsplit_ev _) (Ev.congr (fun k => if_pos rfl) (Ev.bind (back_f _ (by omega)) (Ev.bind (same_f _ (by omega)) (Ev.now _)))))
  refine Ev.step (fun k => ?_) hE
  rw [lapidarylaw14_LexNumbers.j2, if_neg (by decide)]
  refine (if_pos hc.1).trans ((if_pos hc.2).trans ?_)
  rw [← em, if_pos (by rw [mk_size]; omega)]
theorem numbers_l0 (more : ByteArray) (n : Int) (h0 : 0 ≤ n) (h1 : n ≤ 9223372036854775807) (m : Nat) (hm : m ≤ 29) : ∀ (q j : Nat), m ≤ j + q → j ≤ m →
    Ev (fun k => lapidarylaw14_LexNumbers.l0 k n more ⟨(List.replicate j (48 : UInt8)).toArray⟩ (m : Int) (j : Int)) true
  | q, j, hq, hj => by
    by_cases hlt : j < m
    · obtain ⟨p, rfl⟩ : ∃ p, q = p + 1 := ⟨q - 1, by omega⟩
      refine Ev.step (fun k => ?_) (numbers_l0 more n h0 h1 m hm p (j + 1) (by omega) (by omega))
      rw [lapidarylaw14_LexNumbers.l0, if_pos (by omega), if_pos (by rw [mk_size]; simp; omega), show (⟨#[48]⟩ : ByteArray) = ⟨[(48 : UInt8)].toArray⟩ from rfl, str_app, show ((j : Int) + 1) % 256 = ((j + 1 : Nat) : Int) by omega, ← List.replicate_succ']
    · obtain rfl : j = m := by omega
      have hg : Good ⟨2, [], n⟩ := good_num h0 h1
      have hf : Fine [⟨2, [], n⟩] := fun t ht => by
        obtain rfl := List.mem_singleton.1 ht
        exact ⟨hg, by simp⟩
      have hj1 : joinL [⟨2, [], n⟩] = Lib.itoa n := by show Lib.itoa n ++ tailJ [] = _; rw [show tailJ [] = [] from rfl, List.append_nil]
      have hlen := Lib.itoa_length_le n (by omega) (by omega)
      have hjn := rjoin_f [⟨2, [], n⟩] hf (by simp)
      rw [hj1] at hjn
      have hv : splitV ⟨(List.replicate j 48 ++ Lib.itoa n).toArray⟩ = ([⟨2, [], n⟩], 0) := by
        rw [splitV_le (by rw [mk_size]; simp; omega)]
        exact toks_noughts j n h0 h1
      have hsp := split_ev ⟨(List.replicate j 48 ++ Lib.itoa n).toArray⟩
      rw [hv] at hsp
      have hE : Ev (fun k => (lapidaryref14_Join.f k [(⟨2, (⟨#[]⟩ : ByteArray), n⟩ : S35)]).bind fun t => (lex_Split.f k ((⟨(List.replicate j (48 : UInt8)).toArray⟩ : ByteArray) ++ t)).bind fun b => lapidarylaw14_LexNumbers.j2 k more ((⟨(List.replicate j (48 : UInt8)).toArray⟩ : ByteArray) ++ t) false) true := by
        refine Ev.bind hjn ?_
        rw [str_app]
        exact Ev.bind hsp (numbers_j2 more _ (by simp; omega))
      refine Ev.step (f := fun k => (lapidaryref14_Join.f k [(⟨2, (⟨#[]⟩ : ByteArray), n⟩ : S35)]).bind fun t => (if (⟨(List.replicate j (48 : UInt8)).toArray⟩ : ByteArray).size + t.size ≤ 9223372036854775807 then ((lex_Split.f k ((⟨(List.replicate j (48 : UInt8)).toArray⟩ : ByteArray) ++ t)).bind fun b => (if b.2 = 0 then (if (b.1.length : Int) = 1 then (if 0 < (b.1.length : Int) then (if ((rd_T36 b.1 0).f0) = 2 then (lapidarylaw14_LexNumbers.j2 k more ((⟨(List.replicate j (48 : UInt8)).toArray⟩ : ByteArray) ++ t) (((rd_T36 b.1 0).f2) != n)) else (lapidarylaw14_LexNumbers.j2 k more ((⟨(List.replicate j (48 : UInt8)).toArray⟩ : ByteArray) ++ t) true)) else (none)) else (lapidarylaw14_LexNumbers.j2 k more ((⟨(List.replicate j (48 : UInt8)).toArray⟩ : ByteArray) ++ t) true)) else (lapidarylaw14_LexNumbers.j2 k more ((⟨(List.replicate j (48 : UInt8)).toArray⟩ : ByteArray) ++ t) true))) else (none))) (fun k => by rw [lapidarylaw14_LexNumbers.l0, if_neg (by omega)]) ?_
      refine Ev.bind hjn (Ev.congr (fun k => if_pos (by rw [mk_size, mk_size]; simp; omega)) ?_)
      rw [str_app]
      refine Ev.bind hsp ?_
      refine Ev.congr (fun k => (if_pos rfl).trans ((if_pos rfl).trans ((if_pos (by simp)).trans (if_pos rfl)))) ?_
      have hb : ((rd_T36 (([⟨2, [], n⟩] : List Tok).map c36) 0).f2 != n) = false := by
        show (n != n) = false
        simp
      rw [hb]
      exact numbers_j2 more _ (by simp; omega)
theorem numbers_j0 (more : ByteArray) (n : Int) (h0 : 0 ≤ n) (h1 : n ≤ 9223372036854775807) (z : Int) (hz : 0 ≤ z) (hz1 : z ≤ 255) : Ev (fun k => lapidarylaw14_LexNumbers.j0 k n z more) true := by
  obtain ⟨y, rfl⟩ := Int.eq_ofNat_of_zero_le hz
  have ht : Int.tmod ((y : Nat) : Int) 30 = ((y % 30 : Nat) : Int) := by
    rw [Int.tmod_eq_emod_of_nonneg (by omega)]
    omega
  refine Ev.step (fun k => ?_) (numbers_l0 more n h0 h1 (y % 30) (by omega) (y % 30) 0 (by omega) (by omega))
  rw [lapidarylaw14_LexNumbers.j0, ht]
  rfl
theorem lexNumbers_ev (n z : Int) (more : ByteArray) (hn : -9223372036854775808 ≤ n) (hn1 : n ≤ 9223372036854775807) (hz : 0 ≤ z) (hz1 : z ≤ 255) : Ev (fun k => lapidarylaw14_LexNumbers.f k n z more) true := by
  unfold lapidarylaw14_LexNumbers.f
  refine Ev.bind awake_f (Ev.congr (fun k => if_pos rfl) ?_)
  by_cases h : n < 0
  · refine Ev.congr (fun k => if_pos h) ?_
    have e : wrap64 (-(wrap64 (n + 1))) = -(n + 1) := by rw [w64' (n := n + 1) (by omega) (by omega), w64' (by omega) (by omega)]
    rw [e]
    exact numbers_j0 more _ (by omega) (by omega) z hz hz1
  · exact Ev.congr (fun k => if_neg h) (numbers_j0 more n (by omega) hn1 z hz hz1)
theorem lexNumbers_walk (n z : Int) (more : ByteArray) (w : World) (hn : -9223372036854775808 ≤ n ∧ n ≤ 9223372036854775807) (hz : 0 ≤ z ∧ z ≤ 255) (hE : UEnv w) :
    Calls Tryd.prog 8 #[.int .i64 n, .int .u8 z, .string more] w fun e w' => e = .returned (.bool true) ∧ Below w.heap.size w w' := by
  obtain ⟨k, h⟩ := (lexNumbers_ev n z more hn.1 hn.2 hz.1 hz.2).rounds
  exact lapidarylaw14_LexNumbers.calls k n z more true w hE h
end Go.Proofs.YtfbikpddpdkllaaDoor
