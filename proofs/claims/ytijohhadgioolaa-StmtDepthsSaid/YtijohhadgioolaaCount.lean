/-
  The reference's expressions in the heap; its Count by the tree. Conditions: the count is a small number.
-/
import Derived.Test.YtijohhadgioolaaClos
namespace Go.Proofs.Ytijohhadgioolaa
open Go.RowKit
set_option linter.unusedVariables false
set_option linter.unusedSimpArgs false
set_option maxRecDepth 4000

/-- the reference's expression, by its eight cells -/
structure RV where
  k : Int
  a : Int
  b : Int
  c : ByteArray
  e : Bool
  t : ByteArray
  s : ByteArray
  A : Option Addr
  n : Nat
  cp : Nat
def RV.vals (r : RV) : List Value := [.int .u8 r.k, .int .u8 r.a, .int .i64 r.b, .string r.c, .bool r.e, .string r.t, .string r.s, .slice r.A r.n r.cp]
def Ex.count : Ex → Nat
  | .un x => x.count + 1
  | .bin x y => x.count + y.count + 1
  | .is x => x.count + 1
  | .agg x => x.count + 1
  | _ => 1
/-- it has the tree's parts -/
def RL (w : World) : RV → Ex → Prop
  | r, .un x => r.n = 1 ∧ ∃ b f r1, r.A = some ⟨b, 0, none⟩ ∧ w.heap[b]? = some (.cells r1.vals.toArray 33 f) ∧ RL w r1 x
  | r, .is x => r.n = 1 ∧ ∃ b f r1, r.A = some ⟨b, 0, none⟩ ∧ w.heap[b]? = some (.cells r1.vals.toArray 33 f) ∧ RL w r1 x
  | r, .agg x => r.n = 1 ∧ ∃ b f r1, r.A = some ⟨b, 0, none⟩ ∧ w.heap[b]? = some (.cells r1.vals.toArray 33 f) ∧ RL w r1 x
  | r, .bin x y => r.n = 2 ∧ ∃ b f r1 r2, r.A = some ⟨b, 0, none⟩ ∧ w.heap[b]? = some (.cells (r1.vals ++ r2.vals).toArray 33 f) ∧ RL w r1 x ∧ RL w r2 y
  | r, .lit => r.n = 0
  | r, .col => r.n = 0
  | r, .agg0 => r.n = 0
theorem RL.keep {w w' : World} (h : Keep w w') : ∀ {t : Ex} {r : RV}, RL w r t → RL w' r t
  | .lit, r, e => e
  | .col, r, e => e
  | .agg0, r, e => e
  | .un x, r, ⟨e, b, f, r1, e1, hb, hx⟩ => ⟨e, b, f, r1, e1, h _ _ _ _ rfl hb, RL.keep h hx⟩
  | .is x, r, ⟨e, b, f, r1, e1, hb, hx⟩ => ⟨e, b, f, r1, e1, h _ _ _ _ rfl hb, RL.keep h hx⟩
  | .agg x, r, ⟨e, b, f, r1, e1, hb, hx⟩ => ⟨e, b, f, r1, e1, h _ _ _ _ rfl hb, RL.keep h hx⟩
  | .bin x y, r, ⟨e, b, f, r1, r2, e1, hb, hx, hy⟩ => ⟨e, b, f, r1, r2, e1, h _ _ _ _ rfl hb, RL.keep h hx, RL.keep h hy⟩
/-- a row of the reference's expressions -/
def KidsR (w : World) (A : Option Addr) (l : List Ex) : Prop := ∀ (i : Nat) (t : Ex), l[i]? = some t → ∃ b f cs r, A = some ⟨b, 0, none⟩ ∧ w.heap[b]? = some (.cells cs 33 f) ∧ (∀ m v, r.vals[m]? = some v → cs[i * 8 + m]? = some v) ∧ RL w r t
theorem KidsR.keep {w w' : World} {A : Option Addr} {l : List Ex} (h : KidsR w A l) (hk : Keep w w') : KidsR w' A l := fun i t ht => by
  obtain ⟨b, f, cs, r, e, h1, h2, h3⟩ := h i t ht
  exact ⟨b, f, cs, r, e, hk _ _ _ _ rfl h1, h2, h3.keep hk⟩
theorem RL.kids {w : World} : ∀ {t : Ex} {r : RV}, RL w r t → r.n = t.kids.length ∧ KidsR w r.A t.kids
  | .lit, r, e => ⟨e, fun i t h => by simp [Ex.kids] at h⟩
  | .col, r, e => ⟨e, fun i t h => by simp [Ex.kids] at h⟩
  | .agg0, r, e => ⟨e, fun i t h => by simp [Ex.kids] at h⟩
  | .un x, r, ⟨e, b, f, r1, e1, hb, hx⟩ => ⟨e, fun i t h => by
      match i, h with
      | 0, h =>
        obtain rfl : x = t := by simpa [Ex.kids] using h
        exact ⟨b, f, _, r1, e1, hb, fun m v hm => by simpa using hm, hx⟩
      | i + 1, h => simp [Ex.kids] at h⟩
  | .is x, r, ⟨e, b, f, r1, e1, hb, hx⟩ => ⟨e, fun i t h => by
      match i, h with
      | 0, h =>
        obtain rfl : x = t := by simpa [Ex.kids] using h
        exact ⟨b, f, _, r1, e1, hb, fun m v hm => by simpa using hm, hx⟩
      | i + 1, h => simp [Ex.kids] at h⟩
  | .agg x, r, ⟨e, b, f, r1, e1, hb, hx⟩ => ⟨e, fun i t h => by
      match i, h with
      | 0, h =>
        obtain rfl : x = t := by simpa [Ex.kids] using h
        exact ⟨b, f, _, r1, e1, hb, fun m v hm => by simpa using hm, hx⟩
      | i + 1, h => simp [Ex.kids] at h⟩
  | .bin x y, r, ⟨e, b, f, r1, r2, e1, hb, hx, hy⟩ => ⟨e, fun i t h => by
      match i, h with
      | 0, h =>
        obtain rfl : x = t := by simpa [Ex.kids] using h
        exact ⟨b, f, _, r1, e1, hb, fun m v hm => by
          rw [List.getElem?_toArray, Nat.zero_mul, Nat.zero_add, List.getElem?_append_left (List.getElem?_eq_some_iff.1 hm).1]
          exact hm, hx⟩
      | 1, h =>
        obtain rfl : y = t := by simpa [Ex.kids] using h
        exact ⟨b, f, _, r2, e1, hb, fun m v hm => by
          rw [List.getElem?_toArray, List.getElem?_append_right (by simp [RV.vals])]
          have : 1 * 8 + m - r1.vals.length = m := by simp [RV.vals]
          rw [this]
          exact hm, hy⟩
      | i + 2, h => simp [Ex.kids] at h⟩
theorem KidsR.at {w : World} {A : Option Addr} {l : List Ex} (h : KidsR w A l) {i : Nat} {t : Ex} (ht : l[i]? = some t) : ∃ b r, A = some ⟨b, 0, none⟩ ∧ RL w r t ∧ w.cell? ⟨b, i * 8, none⟩ = some (.int .u8 r.k) ∧ w.cell? ⟨b, i * 8 + 1, none⟩ = some (.int .u8 r.a) ∧ w.cell? ⟨b, i * 8 + 2, none⟩ = some (.int .i64 r.b) ∧ w.cell? ⟨b, i * 8 + 3, none⟩ = some (.string r.c) ∧ w.cell? ⟨b, i * 8 + 4, none⟩ = some (.bool r.e) ∧ w.cell? ⟨b, i * 8 + 5, none⟩ = some (.string r.t) ∧ w.cell? ⟨b, i * 8 + 6, none⟩ = some (.string r.s) ∧ w.cell? ⟨b, i * 8 + 7, none⟩ = some (.slice r.A r.n r.cp) := by
  obtain ⟨b, f, cs, r, e, h1, h2, h3⟩ := h i t ht
  exact ⟨b, r, e, h3, hat0 h1 _ _ (h2 0 _ rfl), hat0 h1 _ _ (h2 1 _ rfl), hat0 h1 _ _ (h2 2 _ rfl), hat0 h1 _ _ (h2 3 _ rfl), hat0 h1 _ _ (h2 4 _ rfl), hat0 h1 _ _ (h2 5 _ rfl), hat0 h1 _ _ (h2 6 _ rfl), hat0 h1 _ _ (h2 7 _ rfl)⟩
def cn (l : List Ex) : Nat := l.foldl (fun n k => n + k.count) 1
theorem count_kids (t : Ex) : t.count = cn t.kids := by
  cases t <;> simp only [Ex.count, Ex.kids, cn, List.foldl_cons, List.foldl_nil] <;> omega
theorem cn_snoc (l : List Ex) (i : Nat) (k : Ex) (h : l[i]? = some k) : cn (l.take (i + 1)) = cn (l.take i) + k.count := by
  rw [List.take_add_one, h]
  unfold cn
  rw [List.foldl_append]
  rfl
theorem cn_from (l : List Ex) : ∀ n, l.foldl (fun n k => n + k.count) n = n + l.foldl (fun n k => n + k.count) 0 := by
  induction l with
  | nil => intro n; rfl
  | cons k l ih =>
    intro n
    rw [List.foldl_cons, List.foldl_cons, ih (n + k.count), ih (0 + k.count)]
    omega
theorem cn_take (l : List Ex) (i : Nat) : cn (l.take i) ≤ cn l := by
  have h : cn l = cn (l.take i) + (l.drop i).foldl (fun n k => n + k.count) 0 := by
    unfold cn
    rw [← cn_from, ← List.foldl_append, List.take_append_drop]
  omega
theorem count_step (t : Ex) (r : RV) (w : World) (h : RL w r t) (hd : t.count ≤ 1000000)
    (ih : ∀ k ∈ t.kids, ∀ (r : RV) (w : World), RL w r k → Calls Try.prog 13 #[.agg #[.int .u8 r.k, .int .u8 r.a, .int .i64 r.b, .string r.c, .bool r.e, .string r.t, .string r.s, .slice r.A r.n r.cp]] w fun e w' => e = .returned (.int .i64 k.count) ∧ Below w.heap.size w w') :
    Calls Try.prog 13 #[.agg #[.int .u8 r.k, .int .u8 r.a, .int .i64 r.b, .string r.c, .bool r.e, .string r.t, .string r.s, .slice r.A r.n r.cp]] w fun e w' => e = .returned (.int .i64 t.count) ∧ Below w.heap.size w w' := by
  obtain ⟨hn, hk⟩ := h.kids
  rw [count_kids] at hd ⊢
  have hlen : t.kids.length ≤ 2 := by cases t <;> simp [Ex.kids]
  generalize t.kids = ks at hn hk ih hd hlen ⊢
  clear h
  obtain ⟨rk, ra, rb, rc, re, rt, rs, A, n, cp⟩ := r
  dsimp only at hn hk ⊢
  subst hn
  have hB0 : ∀ o, Below w.heap.size w (w.alloc o) := fun o => (Below.refl _ w).alloc (Nat.le_refl _) o
  have hk0 : ∀ o, KidsR (w.alloc o) A ks := fun o => hk.keep (keep_below (hB0 o))
  clear hk
  go_enter Try.func13, Try.ntmps13
  go_wp2_with fail
  go_loopw [3, 9] (fun n i wr => ∃ j : Nat, i = .int .i64 j ∧ n = .int .i64 (cn (ks.take j) : Nat) ∧ j ≤ ks.length ∧ Hid (KidsR wr A ks) ∧ Below w.heap.size w wr) (fun _ i _ => ks.length - (intOf i).toNat)
  case atStart => exact ⟨0, rfl, rfl, by omega, Lib.hid (hk0 _), hB0 _⟩
  case round =>
    obtain ⟨j, rfl, rfl, hj, hkr, hbw⟩ := hrel
    by_cases hlt : j < ks.length
    · have hg : ks[j]? = some ks[j] := List.getElem?_eq_getElem hlt
      obtain ⟨b, r, rfl, hrep, f0, f1, f2, f3, f4, f5, f6, f7⟩ := hkr.out.at hg
      have hc := Lib.hid (fun o => ih ks[j] (List.getElem_mem hlt) r (wr.alloc o) (hrep.keep (keep_below ((Below.refl _ wr).alloc (Nat.le_refl _) o))))
      have hm := cn_snoc ks j ks[j] hg
      have hle := cn_take ks (j + 1)
      have HM := Lib.hid hm
      generalize ks[j] = k at hc HM hm
      clear hg hrep ih
      have hli : (j : Int) < (ks.length : Int) := Int.ofNat_lt.2 hlt
      obtain ⟨c0, hc0⟩ : ∃ c0, c0 = cn (ks.take j) := ⟨_, rfl⟩
      obtain ⟨c1, hc1⟩ : ∃ c1, c1 = cn (ks.take (j + 1)) := ⟨_, rfl⟩
      rw [← hc0, ← hc1] at hm
      rw [← hc1] at hle HM
      rw [← hc0] at HM ⊢
      have HC1 := Lib.hid hc1
      clear hc0 hc1
      go_wp2_with fail
      refine (hc.out _).mono ?_
      rintro e w2 ⟨rfl, hb2⟩
      have hbb : Below wr.heap.size wr w2 := ((Below.refl _ wr).alloc (Nat.le_refl _) _).trans (hb2.mono (by simp))
      go_wp2_with fail
      go_round
      case rel => exact ⟨j + 1, by go_num, by rw [← HC1.out]; go_num, by omega, Lib.hid (hkr.out.keep (keep_below hbb)), hbw.trans (hbb.mono hbw.size)⟩
      case measure => simp [intOf]; omega
    · have hli : ¬ (j : Int) < (ks.length : Int) := by omega
      have e : ks.take j = ks := List.take_of_length_le (by omega)
      rw [e]
      clear e ih hk0
      go_wp2_with fail
      go_ret
      exact ⟨rfl, hbw⟩
theorem count_calls : ∀ (t : Ex) (r : RV) (w : World), RL w r t → t.count ≤ 1000000 → Calls Try.prog 13 #[.agg #[.int .u8 r.k, .int .u8 r.a, .int .i64 r.b, .string r.c, .bool r.e, .string r.t, .string r.s, .slice r.A r.n r.cp]] w fun e w' => e = .returned (.int .i64 t.count) ∧ Below w.heap.size w w'
  | .lit, r, w, h, hd => count_step _ r w h hd (fun k hk => by simp [Ex.kids] at hk)
  | .col, r, w, h, hd => count_step _ r w h hd (fun k hk => by simp [Ex.kids] at hk)
  | .agg0, r, w, h, hd => count_step _ r w h hd (fun k hk => by simp [Ex.kids] at hk)
  | .un x, r, w, h, hd => count_step _ r w h hd (fun k hk r w hr => by
      have e : k = x := by simpa [Ex.kids] using hk
      rw [e] at hr ⊢; exact count_calls x r w hr (by simp only [Ex.count] at hd; omega))
  | .is x, r, w, h, hd => count_step _ r w h hd (fun k hk r w hr => by
      have e : k = x := by simpa [Ex.kids] using hk
      rw [e] at hr ⊢; exact count_calls x r w hr (by simp only [Ex.count] at hd; omega))
  | .agg x, r, w, h, hd => count_step _ r w h hd (fun k hk r w hr => by
      have e : k = x := by simpa [Ex.kids] using hk
      rw [e] at hr ⊢; exact count_calls x r w hr (by simp only [Ex.count] at hd; omega))
  | .bin x y, r, w, h, hd => count_step _ r w h hd (fun k hk r w hr => by
      have hk2 : k = x ∨ k = y := by simpa [Ex.kids] using hk
      rcases hk2 with e | e
      · rw [e] at hr ⊢; exact count_calls x r w hr (by simp only [Ex.count] at hd; omega)
      · rw [e] at hr ⊢; exact count_calls y r w hr (by simp only [Ex.count] at hd; omega))
end Go.Proofs.Ytijohhadgioolaa
