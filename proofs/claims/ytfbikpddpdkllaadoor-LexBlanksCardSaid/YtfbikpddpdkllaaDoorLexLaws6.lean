/-
  Plain law: the statement of LexBlanks in its printed form. Conditions: the blanks are bytes.
-/
import Derived.Test.YtfbikpddpdkllaaDoorLexLaws4
import Derived.Test.YtfbikpddpdkllaaDoorLxF6
import Derived.OpenShut
namespace Go.Proofs.YtfbikpddpdkllaaDoor
open Go.RowKit Go.Proofs.YtfbikpddpdkllaaDoor.Lx Go.Proofs.YtfbikpddpdkllaaDoorW.PrintWords Go.Proofs.YtfbikpddpdkllaaDoorW.PrintLast
set_option linter.unusedVariables false
set_option linter.unusedSimpArgs false

/-- the text so far is read as those tokens, whatever stands behind a blank -/
def Reads (T : List UInt8) (ts : List Tok) : Prop := ∀ (d : UInt8) (r : List UInt8), isBl d = true → (toks r).2 = 0 → toks (T ++ d :: r) = (ts ++ (toks r).1, 0)
/-- and it ends in a blank -/
def Opens (T : List UInt8) (ts : List Tok) : Prop := ∀ r : List UInt8, (toks r).2 = 0 → toks (T ++ r) = (ts ++ (toks r).1, 0)
theorem toks_pair {r : List UInt8} (h : (toks r).2 = 0) : toks r = ((toks r).1, 0) := by rw [← h]
theorem reads_nil : Reads [] [] := fun d r hd h => by rw [List.nil_append, toks_blank hd, List.nil_append]; exact toks_pair h
theorem Reads.blank {T : List UInt8} {ts : List Tok} (h : Reads T ts) {d : UInt8} (hd : isBl d = true) : Opens (T ++ [d]) ts := fun r hr => by
  rw [List.append_assoc]
  exact h d r hd hr
theorem Opens.blank {T : List UInt8} {ts : List Tok} (h : Opens T ts) {d : UInt8} (hd : isBl d = true) : Opens (T ++ [d]) ts := fun r hr => by
  rw [List.append_assoc]
  have := h (d :: r) (by rw [toks_blank hd]; exact hr)
  rwa [toks_blank hd] at this
theorem Opens.put {T : List UInt8} {ts : List Tok} (h : Opens T ts) {t : Tok} (ht : Good t) : Reads (T ++ txt t) (ts ++ [t]) := fun d r hd hr => by
  have h1 := toks_txt_blank ht hd r hr
  rw [List.append_assoc, h _ (by rw [h1]), h1]
  simp
def At (j : Nat) (T : List UInt8) (ts : List Tok) : Prop := if j = 0 then Reads T ts else Opens T ts
theorem at_blank {j : Nat} {T : List UInt8} {ts : List Tok} (h : At j T ts) {d : UInt8} (hd : isBl d = true) : At (j + 1) (T ++ [d]) ts := by
  unfold At at h ⊢
  rw [if_neg (by omega)]
  by_cases hj : j = 0
  · rw [if_pos hj] at h; exact h.blank hd
  · rw [if_neg hj] at h; exact h.blank hd
theorem blank_piece (q : Nat) (h : q < 4) : ∃ d : UInt8, isBl d = true ∧ (⟨#[32, 9, 10, 13]⟩ : ByteArray).extract q (q + 1) = ⟨[d].toArray⟩ := by
  have hq : q = 0 ∨ q = 1 ∨ q = 2 ∨ q = 3 := by omega
  rcases hq with rfl | rfl | rfl | rfl
  · exact ⟨32, by decide, rfl⟩
  · exact ⟨9, by decide, rfl⟩
  · exact ⟨10, by decide, rfl⟩
  · exact ⟨13, by decide, rfl⟩
theorem tmod4 (a : Nat) : Int.tmod (a : Int) 4 = ((a % 4 : Nat) : Int) := by
  rw [Int.tmod_eq_emod_of_nonneg (by omega)]
  omega
theorem tmod3 (a : Nat) : Int.tmod (a : Int) 3 = ((a % 3 : Nat) : Int) := by
  rw [Int.tmod_eq_emod_of_nonneg (by omega)]
  omega
theorem wrapn (n : Nat) (h : n ≤ 1000000) : wrap64 ((n : Int) + 1) = ((n + 1 : Nat) : Int) := by rw [w64' (by omega) (by omega)]; simp
theorem blank_arith (b j : Nat) (hb : b ≤ 255) (hj : j ≤ 3) : wrap64 ((b : Int) + j) = ((b + j : Nat) : Int) ∧ Int.tmod ((b + j : Nat) : Int) 4 = (((b + j) % 4 : Nat) : Int) ∧ wrap64 ((((b + j) % 4 : Nat) : Int) + 1) = (((b + j) % 4 + 1 : Nat) : Int) ∧
    (0 : Int) ≤ (((b + j) % 4 : Nat) : Int) ∧ (((b + j) % 4 : Nat) : Int) ≤ (((b + j) % 4 + 1 : Nat) : Int) ∧ (((b + j) % 4 + 1 : Nat) : Int) ≤ 4 := by
  have h4 : (b + j) % 4 < 4 := Nat.mod_lt _ (by decide)
  have h5 := wrapn ((b + j) % 4) (by omega)
  refine ⟨?_, tmod4 _, h5, ?_, ?_, ?_⟩
  · clear h5; rw [w64' (by omega) (by omega)]; simp
  all_goals (clear h5; omega)
theorem blanks_l1 (x1 : List Int) (x5 x27 : List S35) (len : Int) (i : Nat) (hi : i ≤ 100000) (b : Nat) (hb : b ≤ 255) (t : Tok) (ht : Good t) (hts : t.s.length ≤ 2000) (ts : List Tok) (n : Nat) (hn : 1 ≤ n) (hn3 : n ≤ 3)
    (B : Nat) (hB : B ≤ 1000000000) (hk : ∀ T : List UInt8, Reads T (ts ++ [t]) → T.length ≤ B + 2003 → Ev (fun k => lapidarylaw14_LexBlanks.l0 k x1 x5 ⟨T.toArray⟩ x27 len ((i + 1 : Nat) : Int)) true) :
    ∀ (q j : Nat) (T : List UInt8), n ≤ j + q → j ≤ n → At j T ts → T.length ≤ B + j → Ev (fun k => lapidarylaw14_LexBlanks.l1 k x1 x5 ⟨T.toArray⟩ (b : Int) x27 len (i : Int) (n : Int) (j : Int) t.k ⟨t.s.toArray⟩ t.n) true
  | q, j, T, hq, hj, hT, hl => by
    by_cases hlt : j < n
    · obtain ⟨p, rfl⟩ : ∃ p, q = p + 1 := ⟨q - 1, by omega⟩
      obtain ⟨d, hd, he⟩ := blank_piece ((b + j) % 4) (by omega)
      have ih := blanks_l1 x1 x5 x27 len i hi b hb t ht hts ts n hn hn3 B hB hk p (j + 1) (T ++ [d]) (by omega) (by omega) (at_blank hT hd) (by simp; omega)
      refine Ev.step (fun k => ?_) ih
      have c1 : (j : Int) < (n : Int) := Int.ofNat_lt.2 hlt
      have c5 : (⟨T.toArray⟩ : ByteArray).size + (⟨[d].toArray⟩ : ByteArray).size ≤ 9223372036854775807 := by rw [mk_size, mk_size, List.length_singleton]; omega
      obtain ⟨e1, e2, e3, c2, c3, c4⟩ := blank_arith b j hb (by omega)
      rw [lapidarylaw14_LexBlanks.l1, if_pos c1, e1, e2, e3, wrapn j (by omega), if_pos c2, if_pos c3, if_pos c4, Int.toNat_natCast, Int.toNat_natCast, he, if_pos c5, str_app]
    · obtain rfl : j = n := by omega
      have hs := txt_size ht hts
      have hop : Opens T ts := by unfold At at hT; rw [if_neg (by omega)] at hT; exact hT
      have hf : Fine [t] := fun u hu => by
        obtain rfl := List.mem_singleton.1 hu
        exact ⟨ht, hts⟩
      have hjn := rjoin_f [t] hf (by simp)
      have hj1 : joinL [t] = txt t := by show txt t ++ tailJ [] = _; rw [show tailJ [] = [] from rfl, List.append_nil]
      rw [hj1] at hjn
      have hw : wrap64 ((i : Int) + 1) = ((i + 1 : Nat) : Int) := by rw [w64' (by omega) (by omega)]; simp
      have hE : Ev (fun k => (lapidaryref14_Join.f k [(⟨t.k, ⟨t.s.toArray⟩, t.n⟩ : S35)]).bind fun u => if (⟨T.toArray⟩ : ByteArray).size + u.size ≤ 9223372036854775807 then lapidarylaw14_LexBlanks.l0 k x1 x5 ((⟨T.toArray⟩ : ByteArray) ++ u) x27 len ((i + 1 : Nat) : Int) else none) true := by
        refine Ev.bind hjn (Ev.congr (fun k => if_pos (by rw [mk_size, mk_size]; omega)) ?_)
        rw [str_app]
        exact hk _ (hop.put ht) (by simp; omega)
      refine Ev.step (fun k => ?_) hE
      rw [lapidarylaw14_LexBlanks.l1, if_neg (by omega), hw]
theorem blanks_j1 (x1 : List Int) (x5 x27 : List S35) (len : Int) (i : Nat) (hi : i ≤ 100000) (b : Nat) (hb : b ≤ 255) (t : Tok) (ht : Good t) (hts : t.s.length ≤ 2000) (ts : List Tok)
    (B : Nat) (hB : B ≤ 1000000000) (hk : ∀ T : List UInt8, Reads T (ts ++ [t]) → T.length ≤ B + 2003 → Ev (fun k => lapidarylaw14_LexBlanks.l0 k x1 x5 ⟨T.toArray⟩ x27 len ((i + 1 : Nat) : Int)) true)
    (T : List UInt8) (hT : Reads T ts) (hl : T.length ≤ B) : Ev (fun k => lapidarylaw14_LexBlanks.j1 k x1 x5 ⟨T.toArray⟩ (b : Int) x27 len (i : Int) t.k ⟨t.s.toArray⟩ t.n) true := by
  have e1 : Int.tmod (b : Int) 3 = ((b % 3 : Nat) : Int) := tmod3 b
  have e2 : wrap64 (1 + ((b % 3 : Nat) : Int)) = ((1 + b % 3 : Nat) : Int) := by rw [w64' (by omega) (by omega)]; simp
  refine Ev.step (fun k => ?_) (blanks_l1 x1 x5 x27 len i hi b hb t ht hts ts (1 + b % 3) (by omega) (by omega) B hB hk (1 + b % 3) 0 T (by omega) (by omega) (by unfold At; rw [if_pos rfl]; exact hT) (by omega))
  rw [lapidarylaw14_LexBlanks.j1, e1, e2]
  rfl
theorem blanks_l0 (x1 : List Int) (hx : ∀ x ∈ x1, 0 ≤ x ∧ x ≤ 255) (m : List Tok) (hm : Fine m) (hml : m.length ≤ 300) : ∀ (q i : Nat) (T : List UInt8), m.length ≤ i + q → i ≤ m.length → Reads T (m.take i) → T.length ≤ 2003 * i →
    Ev (fun k => lapidarylaw14_LexBlanks.l0 k x1 (m.map c35) ⟨T.toArray⟩ (m.map c35) ((m.map c35).length : Int) (i : Int)) true
  | q, i, T, hq, hi, hT, hl => by
    have hlm : (m.map c35).length = m.length := by simp
    by_cases hlt : i < m.length
    · obtain ⟨p, rfl⟩ : ∃ p, q = p + 1 := ⟨q - 1, by omega⟩
      have ht : m[i]? = some m[i] := List.getElem?_eq_getElem hlt
      have hg := hm m[i] (List.getElem_mem hlt)
      have hk : ∀ T2 : List UInt8, Reads T2 (m.take i ++ [m[i]]) → T2.length ≤ 2003 * i + 2003 → Ev (fun k => lapidarylaw14_LexBlanks.l0 k x1 (m.map c35) ⟨T2.toArray⟩ (m.map c35) ((m.map c35).length : Int) ((i + 1 : Nat) : Int)) true := fun T2 h2 h3 =>
        blanks_l0 x1 hx m hm hml p (i + 1) T2 (by omega) (by omega) (by rw [List.take_succ_eq_append_getElem hlt]; exact h2) (by omega)
      by_cases hb : i < x1.length
      · have hr : rd x1 (i : Int) = x1[i] := by unfold rd; rw [Int.toNat_natCast, List.getD_eq_getElem?_getD, List.getElem?_eq_getElem hb]; rfl
        have hxi := hx x1[i] (List.getElem_mem hb)
        obtain ⟨b, hbb⟩ := Int.eq_ofNat_of_zero_le hxi.1
        refine Ev.step (fun k => ?_) (blanks_j1 x1 (m.map c35) (m.map c35) ((m.map c35).length : Int) i (by omega) b (by omega) m[i] hg.1 hg.2 (m.take i) (2003 * i) (by omega) hk T hT hl)
        rw [lapidarylaw14_LexBlanks.l0, if_pos (by omega), if_pos (by omega), if_pos (by omega), if_pos (by omega), rd35 m i _ ht, hr, hbb, w64' (by omega) (by omega)]
        rfl
      · refine Ev.step (fun k => ?_) (blanks_j1 x1 (m.map c35) (m.map c35) ((m.map c35).length : Int) i (by omega) 0 (by omega) m[i] hg.1 hg.2 (m.take i) (2003 * i) (by omega) hk T hT hl)
        rw [lapidarylaw14_LexBlanks.l0, if_pos (by omega), if_pos (by omega), if_pos (by omega), if_neg (by omega), rd35 m i _ ht]
        rfl
    · rw [List.take_of_length_le (by omega)] at hT
      have hsp := split_ev ((⟨T.toArray⟩ : ByteArray) ++ (⟨#[32]⟩ : ByteArray))
      have e5 : (⟨T.toArray⟩ : ByteArray) ++ (⟨#[32]⟩ : ByteArray) = ⟨(T ++ [32]).toArray⟩ := by rw [show (⟨#[32]⟩ : ByteArray) = ⟨[(32 : UInt8)].toArray⟩ from rfl, str_app]
      by_cases hbig : 2000 ≤ T.length
      · have hE : Ev (fun k => (lex_Split.f k ((⟨T.toArray⟩ : ByteArray) ++ (⟨#[32]⟩ : ByteArray))).bind fun b => if ((⟨T.toArray⟩ : ByteArray).size : Int) ≥ 2000 then some true else (if b.2 = 0 then ((lapidarylaw14_back.f k b.1).bind fun t => ((lapidaryref14_Same.f k t (m.map c35)).bind fun u => (some u))) else (some false))) true :=
          Ev.bind hsp (Ev.congr (fun k => if_pos (by rw [mk_size]; omega)) (Ev.now _))
        refine Ev.step (fun k => ?_) hE
        rw [lapidarylaw14_LexBlanks.l0, if_neg (by omega), if_pos (by rw [mk_size]; omega)]
      · have hv : splitV ((⟨T.toArray⟩ : ByteArray) ++ (⟨#[32]⟩ : ByteArray)) = (m, 0) := by
          rw [e5, splitV_le (by rw [mk_size]; simp; omega)]
          have := hT 32 [] (by decide) rfl
          rw [toks_nil, List.append_nil] at this
          exact this
        rw [hv] at hsp
        have hE : Ev (fun k => (lex_Split.f k ((⟨T.toArray⟩ : ByteArray) ++ (⟨#[32]⟩ : ByteArray))).bind fun b => if ((⟨T.toArray⟩ : ByteArray).size : Int) ≥ 2000 then some true else (if b.2 = 0 then ((lapidarylaw14_back.f k b.1).bind fun t => ((lapidaryref14_Same.f k t (m.map c35)).bind fun u => (some u))) else (some false))) true :=
          Ev.bind hsp (Ev.congr (fun k => (if_neg (by rw [mk_size]; omega)).trans (if_pos rfl)) (Ev.bind (back_f m (by omega)) (Ev.bind (same_f m (by omega)) (Ev.now _))))
        refine Ev.step (fun k => ?_) hE
        rw [lapidarylaw14_LexBlanks.l0, if_neg (by omega), if_pos (by rw [mk_size]; omega)]
theorem lexBlanks_ev (s : ByteArray) (x1 : List Int) (hx : ∀ x ∈ x1, 0 ≤ x ∧ x ≤ 255) : Ev (fun k => lapidarylaw14_LexBlanks.f k s x1) true := by
  unfold lapidarylaw14_LexBlanks.f
  have hc := cut_ok s 300
  have hs := cut_size s 300
  refine Ev.bind awake_f (Ev.congr (fun k => (if_pos rfl).trans ((if_pos hc.1).trans (if_pos hc.2))) ?_)
  obtain ⟨t, et⟩ : ∃ t, t = s.extract 0 (mn (s.size : Int) 300).toNat := ⟨_, rfl⟩
  have hs : t.size ≤ 300 := by rw [et]; exact hs
  rw [← et]
  refine Ev.bind (rsplit_ev t) ?_
  rw [splitV_le (by omega)]
  have hl := toks_len _ t.data.toList (Nat.le_refl _)
  have hl2 : t.data.toList.length = t.size := by simp
  by_cases h0 : (toks t.data.toList).2 = 0
  · refine Ev.congr (fun k => if_pos h0) ?_
    exact blanks_l0 x1 hx (toks t.data.toList).1 (fine_toks _ (by omega)) (by omega) (toks t.data.toList).1.length 0 [] (by omega) (by omega) reads_nil (by simp)
  · exact Ev.congr (fun k => if_neg h0) (Ev.now _)
theorem lexBlanks_walk (s : ByteArray) (a1 : Option Addr) (len1 cap1 : Nat) (z1 : List Int) (w : World) (hE : UEnv w)
    (w1 : (a1 = none ∧ len1 = 0 ∧ cap1 = 0 ∧ z1 = []) ∨ ∃ x, a1 = some x ∧ len1 ≤ cap1 ∧ cap1 ≤ maxLen ∧ z1.length = cap1 ∧ (∀ i, i < z1.length → w.cell? (x.add i) = some (.int .u8 (z1.getD i 0))) ∧ ∀ n ∈ z1, (Lit.int .u8 n).wf = true) :
    Calls Tryd.prog 6 #[.string s, .slice a1 len1 cap1] w fun e w' => e = .returned (.bool true) ∧ Below w.heap.size w w' := by
  obtain ⟨l1, rfl, hr1, hm1, hw1, hc1⟩ := ReadsInt.ofRowC w1
  obtain ⟨k, h⟩ := (lexBlanks_ev s l1 (fun x hx => bounds_u8 (hw1 x hx))).rounds
  exact lapidarylaw14_LexBlanks.calls k s _ _ l1 true w (Kd.C_of_reads (d := (0 : Int)) (h1 := fun _ => rfl) hr1) hc1 hE h
end Go.Proofs.YtfbikpddpdkllaaDoor
