/-
  stmt.Walk by the tree, for a closure that counts in one box: the state goes by a function, told by the closure's own contract. Conditions: the depth is a small number.
-/
import Derived.Test.YtijohhadgioolaaDepth
namespace Go.Proofs.Ytijohhadgioolaa
open Go.RowKit
set_option linter.unusedVariables false
set_option linter.unusedSimpArgs false
set_option maxRecDepth 4000

/-- all blocks but one stay -/
structure Step (d : Nat) (w w' : World) : Prop where
  os : w'.os = w.os
  tape : w'.tape = w.tape
  output : w'.output = w.output
  size : w.heap.size ≤ w'.heap.size
  block : ∀ k, k < w.heap.size → k ≠ d → w'.heap[k]? = w.heap[k]?
theorem Step.refl (d : Nat) (w : World) : Step d w w := ⟨rfl, rfl, rfl, Nat.le_refl _, fun _ _ _ => rfl⟩
theorem Step.trans {d : Nat} {a b c : World} (h : Step d a b) (k : Step d b c) : Step d a c :=
  ⟨k.os.trans h.os, k.tape.trans h.tape, k.output.trans h.output, Nat.le_trans h.size k.size, fun i hi hd => (k.block i (Nat.lt_of_lt_of_le hi h.size) hd).trans (h.block i hi hd)⟩
theorem Step.of_below {d : Nat} {w w' : World} (h : Below w.heap.size w w') : Step d w w' := ⟨h.os, h.tape, h.output, h.size, fun k hk _ => h.block k hk⟩
theorem Step.below {B d : Nat} {a w w' : World} (h : Below B a w) (hs : Step d w w') (hB : B ≤ w.heap.size) (hd : B ≤ d) : Below B a w' :=
  h.trans ⟨hs.os, hs.tape, hs.output, hs.size, fun k hk => hs.block k (Nat.lt_of_lt_of_le hk hB) (by omega)⟩
theorem Step.keep {d : Nat} {w w' : World} (h : Step d w w') (hd : ∃ c t f, w.heap[d]? = some (.cells c t f) ∧ nodeTy t = false) : Keep w w' := fun b c t f hn he => by
  refine (h.block b (Array.getElem?_eq_some_iff.1 he).1 ?_).trans he
  rintro rfl
  obtain ⟨c2, t2, f2, h2, h3⟩ := hd
  rw [he] at h2
  cases h2
  rw [hn] at h3
  cases h3

/-- what a walk does to the state, and whether it goes on -/
def wk (f : Int → Ex → Int × Bool) : Ex → Int → Int × Bool
  | .un x, s => if (f s (.un x)).2 then wk f x (f s (.un x)).1 else ((f s (.un x)).1, false)
  | .is x, s => if (f s (.is x)).2 then wk f x (f s (.is x)).1 else ((f s (.is x)).1, false)
  | .agg x, s => if (f s (.agg x)).2 then wk f x (f s (.agg x)).1 else ((f s (.agg x)).1, false)
  | .bin x y, s => if (f s (.bin x y)).2 then (if (wk f x (f s (.bin x y)).1).2 then wk f y (wk f x (f s (.bin x y)).1).1 else ((wk f x (f s (.bin x y)).1).1, false)) else ((f s (.bin x y)).1, false)
  | .lit, s => if (f s .lit).2 then ((f s .lit).1, true) else ((f s .lit).1, false)
  | .col, s => if (f s .col).2 then ((f s .col).1, true) else ((f s .col).1, false)
  | .agg0, s => if (f s .agg0).2 then ((f s .agg0).1, true) else ((f s .agg0).1, false)
def wks (f : Int → Ex → Int × Bool) (l : List Ex) (s : Int) : Int × Bool := l.foldl (fun r k => if r.2 then wk f k r.1 else (r.1, false)) (s, true)
theorem pair_eta {b : Bool} (r : Int × Bool) (h : r.2 = b) : r = (r.1, b) := by rw [← h]
theorem if_eta (r : Int × Bool) : (if r.2 then r else (r.1, false)) = r := by
  cases h : r.2 with
  | true => rfl
  | false => rw [if_neg (by simp)]; exact (pair_eta r h).symm
theorem wk_kids (f : Int → Ex → Int × Bool) (t : Ex) (s : Int) : wk f t s = if (f s t).2 then wks f t.kids (f s t).1 else ((f s t).1, false) := by
  cases t <;> simp [wk, wks, Ex.kids]
theorem wks_snoc (f : Int → Ex → Int × Bool) (l : List Ex) (s : Int) (i : Nat) (k : Ex) (h : l[i]? = some k) :
    wks f (l.take (i + 1)) s = if (wks f (l.take i) s).2 then wk f k (wks f (l.take i) s).1 else ((wks f (l.take i) s).1, false) := by
  rw [List.take_add_one, h]
  unfold wks
  rw [List.foldl_append]
  rfl
theorem wks_stop (f : Int → Ex → Int × Bool) (r : Int × Bool) (hr : r.2 = false) : ∀ l : List Ex, l.foldl (fun r k => if r.2 then wk f k r.1 else (r.1, false)) r = (r.1, false)
  | [] => pair_eta r hr
  | k :: l => by
    rw [List.foldl_cons, if_neg (by rw [hr]; decide), wks_stop f (r.1, false) rfl l]
theorem wks_short (f : Int → Ex → Int × Bool) (l : List Ex) (s : Int) (i : Nat) (h : (wks f (l.take i) s).2 = false) : wks f l s = ((wks f (l.take i) s).1, false) := by
  have e : wks f l s = (l.drop i).foldl (fun r k => if r.2 then wk f k r.1 else (r.1, false)) (wks f (l.take i) s) := by
    unfold wks
    rw [← List.foldl_append, List.take_append_drop]
  rw [e, wks_stop f _ h]
theorem walk_nil (v : Value) (w : World) : Calls Try.prog 8 #[.nilIface, v] w fun e w' => e = .returned (.bool true) ∧ Below w.heap.size w w' := by
  go_enter Try.func8, Try.ntmps8
  go_wp2_with fail
  go_ret
  exact ⟨rfl, Below.refl _ _⟩

theorem walk_step1 (c0 : Value) (d : Nat) (f : Int → Ex → Int × Bool) (I : Int → World → Prop)
    (hcl : ∀ (s : Int) (v : Value) (t : Ex) (w : World), I s w → Rep w v t → t.depth ≤ 1000000 → Calls Try.prog 9 #[v, c0] w fun e w' => e = .returned (.bool (f s t).2) ∧ I (f s t).1 w' ∧ Step d w w')
    (hI : ∀ s w, I s w → ∃ c t f, w.heap[d]? = some (.cells c t f) ∧ nodeTy t = false)
    (hB : ∀ s w w', I s w → Below w.heap.size w w' → I s w')
    (t : Ex) (v : Value) (s : Int) (w : World) (h : Rep w v t) (hd : t.depth ≤ 1000000) (hi : I s w)
    (ih : ∀ k ∈ t.kids, ∀ (v : Value) (s : Int) (w : World), Rep w v k → I s w → Calls Try.prog 8 #[v, .func (.func 9) #[] #[c0]] w fun e w' => e = .returned (.bool (wk f k s).2) ∧ I (wk f k s).1 w' ∧ Step d w w') :
    Calls Try.prog 8 #[v, .func (.func 9) #[] #[c0]] w fun e w' => e = .returned (.bool (wk f t s).2) ∧ I (wk f t s).1 w' ∧ Step d w w' := by
  have hc0 := hcl s v t w hi h hd
  have HP : Hid (∀ w', Rep w' v t → Calls Try.prog 21 #[v] w' fun e w2 => ∃ A c, e = .returned (.slice A t.kids.length c) ∧ Kids w2 A t.kids ∧ Below w'.heap.size w' w2) := Lib.hid fun w' hr => parts_calls t v w' hr
  have hlen : t.kids.length ≤ 2 := by cases t <;> simp [Ex.kids]
  have HW := wk_kids f t s
  generalize wk f t s = R at HW ⊢
  replace HW := Lib.hid HW
  have HK := Lib.hid (hI s w hi)
  clear hcl
  obtain ⟨ty, x, rfl⟩ := h.iface
  obtain ⟨r, hr⟩ : ∃ r, r = f s t := ⟨_, rfl⟩
  rw [← hr] at hc0 HW
  clear hr
  obtain ⟨s1, b⟩ := r
  go_enter Try.func8, Try.ntmps8
  go_wp2_with fail
  refine hc0.mono ?_
  rintro e w1 ⟨rfl, hi1, hs1⟩
  have hrep := Lib.hid (h.keep (hs1.keep HK.out))
  have HI1 := Lib.hid hi1
  clear h hc0 HK hi hi1
  cases b with
  | false =>
    have hw := Lib.hid (show R = (s1, false) from HW.out)
    clear HW ih
    go_wp2_with fail
    go_ret
    rw [hw.out]
    exact ⟨rfl, HI1.out, hs1⟩
  | true =>
    have hw := Lib.hid (show R = wks f t.kids s1 from HW.out)
    clear HW
    have hp := HP.out w1 hrep.out
    clear HP hrep
    generalize t.kids = ks at hp ih hlen hw
    go_wp2_with fail
    refine hp.mono ?_
    rintro e w2 ⟨A, c, rfl, hk, hb⟩
    have hi2 := hB _ _ _ HI1.out hb
    have hs2 := hs1.trans (Step.of_below hb)
    clear hp HI1
    go_wp2_with fail
    go_loopw [16] (fun i wr => ∃ j : Nat, i = .int .i64 j ∧ j ≤ ks.length ∧ Hid (Kids wr A ks) ∧ Hid (I (wks f (ks.take j) s1).1 wr) ∧ Hid ((wks f (ks.take j) s1).2 = true) ∧ Step d w wr) (fun i _ => ks.length - (intOf i).toNat)
    case atStart => exact ⟨0, rfl, by omega, Lib.hid hk, Lib.hid hi2, Lib.hid rfl, hs2⟩
    case round =>
      obtain ⟨j, rfl, hj, hkr, hir, htr, hsw⟩ := hrel
      by_cases hlt : j < ks.length
      · have hk0 : ks[j]? = some ks[j] := List.getElem?_eq_getElem hlt
        obtain ⟨b, u, rfl, hcell, hrep⟩ := hkr.out.at hk0
        have hc := ih ks[j] (List.getElem_mem hlt) u _ wr hrep hir.out
        have hm := wks_snoc f ks s1 j ks[j] hk0
        rw [if_pos htr.out] at hm
        have HM := Lib.hid hm
        have HKK := Lib.hid (hI _ _ hir.out)
        obtain ⟨d2, x2, rfl⟩ := hrep.iface
        generalize ks[j] = k at hc HM
        generalize wk f k (wks f (ks.take j) s1).1 = r2 at hc HM
        obtain ⟨s2, b2⟩ := r2
        dsimp only at hc
        clear hk0 hm hrep ih hk hi2
        have hli : (j : Int) < (ks.length : Int) := Int.ofNat_lt.2 hlt
        go_wp2_with fail
        refine hc.mono ?_
        rintro e w3 ⟨rfl, hi3, hs3⟩
        have hk3 := Lib.hid (hkr.out.keep (hs3.keep HKK.out))
        have hi3 := Lib.hid hi3
        clear hc HKK hir hkr
        cases b2 with
        | false =>
          go_wp2_with fail
          go_ret
          rw [hw.out, wks_short f ks s1 (j + 1) (by rw [HM.out]), HM.out]
          exact ⟨rfl, hi3.out, hsw.trans hs3⟩
        | true =>
          go_wp2_with fail
          go_round
          case rel => exact ⟨j + 1, by go_num, by omega, hk3, Lib.hid (by rw [HM.out]; exact hi3.out), Lib.hid (by rw [HM.out]), hsw.trans hs3⟩
          case measure => simp [intOf]; omega
      · have hli : ¬ (j : Int) < (ks.length : Int) := by omega
        have e : ks.take j = ks := List.take_of_length_le (by omega)
        rw [e] at hir htr
        clear e ih hk
        go_wp2_with fail
        go_ret
        rw [hw.out]
        exact ⟨by rw [htr.out]; rfl, hir.out, hsw⟩

theorem walk_step2 (c0 c1 : Value) (d : Nat) (f : Int → Ex → Int × Bool) (I : Int → World → Prop)
    (hcl : ∀ (s : Int) (v : Value) (t : Ex) (w : World), I s w → Rep w v t → t.depth ≤ 1000000 → Calls Try.prog 14 #[v, c0, c1] w fun e w' => e = .returned (.bool (f s t).2) ∧ I (f s t).1 w' ∧ Step d w w')
    (hI : ∀ s w, I s w → ∃ c t f, w.heap[d]? = some (.cells c t f) ∧ nodeTy t = false)
    (hB : ∀ s w w', I s w → Below w.heap.size w w' → I s w')
    (t : Ex) (v : Value) (s : Int) (w : World) (h : Rep w v t) (hd : t.depth ≤ 1000000) (hi : I s w)
    (ih : ∀ k ∈ t.kids, ∀ (v : Value) (s : Int) (w : World), Rep w v k → I s w → Calls Try.prog 8 #[v, .func (.func 14) #[] #[c0, c1]] w fun e w' => e = .returned (.bool (wk f k s).2) ∧ I (wk f k s).1 w' ∧ Step d w w') :
    Calls Try.prog 8 #[v, .func (.func 14) #[] #[c0, c1]] w fun e w' => e = .returned (.bool (wk f t s).2) ∧ I (wk f t s).1 w' ∧ Step d w w' := by
  have hc0 := hcl s v t w hi h hd
  have HP : Hid (∀ w', Rep w' v t → Calls Try.prog 21 #[v] w' fun e w2 => ∃ A c, e = .returned (.slice A t.kids.length c) ∧ Kids w2 A t.kids ∧ Below w'.heap.size w' w2) := Lib.hid fun w' hr => parts_calls t v w' hr
  have hlen : t.kids.length ≤ 2 := by cases t <;> simp [Ex.kids]
  have HW := wk_kids f t s
  generalize wk f t s = R at HW ⊢
  replace HW := Lib.hid HW
  have HK := Lib.hid (hI s w hi)
  clear hcl
  obtain ⟨ty, x, rfl⟩ := h.iface
  obtain ⟨r, hr⟩ : ∃ r, r = f s t := ⟨_, rfl⟩
  rw [← hr] at hc0 HW
  clear hr
  obtain ⟨s1, b⟩ := r
  go_enter Try.func8, Try.ntmps8
  go_wp2_with fail
  refine hc0.mono ?_
  rintro e w1 ⟨rfl, hi1, hs1⟩
  have hrep := Lib.hid (h.keep (hs1.keep HK.out))
  have HI1 := Lib.hid hi1
  clear h hc0 HK hi hi1
  cases b with
  | false =>
    have hw := Lib.hid (show R = (s1, false) from HW.out)
    clear HW ih
    go_wp2_with fail
    go_ret
    rw [hw.out]
    exact ⟨rfl, HI1.out, hs1⟩
  | true =>
    have hw := Lib.hid (show R = wks f t.kids s1 from HW.out)
    clear HW
    have hp := HP.out w1 hrep.out
    clear HP hrep
    generalize t.kids = ks at hp ih hlen hw
    go_wp2_with fail
    refine hp.mono ?_
    rintro e w2 ⟨A, c, rfl, hk, hb⟩
    have hi2 := hB _ _ _ HI1.out hb
    have hs2 := hs1.trans (Step.of_below hb)
    clear hp HI1
    go_wp2_with fail
    go_loopw [16] (fun i wr => ∃ j : Nat, i = .int .i64 j ∧ j ≤ ks.length ∧ Hid (Kids wr A ks) ∧ Hid (I (wks f (ks.take j) s1).1 wr) ∧ Hid ((wks f (ks.take j) s1).2 = true) ∧ Step d w wr) (fun i _ => ks.length - (intOf i).toNat)
    case atStart => exact ⟨0, rfl, by omega, Lib.hid hk, Lib.hid hi2, Lib.hid rfl, hs2⟩
    case round =>
      obtain ⟨j, rfl, hj, hkr, hir, htr, hsw⟩ := hrel
      by_cases hlt : j < ks.length
      · have hk0 : ks[j]? = some ks[j] := List.getElem?_eq_getElem hlt
        obtain ⟨b, u, rfl, hcell, hrep⟩ := hkr.out.at hk0
        have hc := ih ks[j] (List.getElem_mem hlt) u _ wr hrep hir.out
        have hm := wks_snoc f ks s1 j ks[j] hk0
        rw [if_pos htr.out] at hm
        have HM := Lib.hid hm
        have HKK := Lib.hid (hI _ _ hir.out)
        obtain ⟨d2, x2, rfl⟩ := hrep.iface
        generalize ks[j] = k at hc HM
        generalize wk f k (wks f (ks.take j) s1).1 = r2 at hc HM
        obtain ⟨s2, b2⟩ := r2
        dsimp only at hc
        clear hk0 hm hrep ih hk hi2
        have hli : (j : Int) < (ks.length : Int) := Int.ofNat_lt.2 hlt
        go_wp2_with fail
        refine hc.mono ?_
        rintro e w3 ⟨rfl, hi3, hs3⟩
        have hk3 := Lib.hid (hkr.out.keep (hs3.keep HKK.out))
        have hi3 := Lib.hid hi3
        clear hc HKK hir hkr
        cases b2 with
        | false =>
          go_wp2_with fail
          go_ret
          rw [hw.out, wks_short f ks s1 (j + 1) (by rw [HM.out]), HM.out]
          exact ⟨rfl, hi3.out, hsw.trans hs3⟩
        | true =>
          go_wp2_with fail
          go_round
          case rel => exact ⟨j + 1, by go_num, by omega, hk3, Lib.hid (by rw [HM.out]; exact hi3.out), Lib.hid (by rw [HM.out]), hsw.trans hs3⟩
          case measure => simp [intOf]; omega
      · have hli : ¬ (j : Int) < (ks.length : Int) := by omega
        have e : ks.take j = ks := List.take_of_length_le (by omega)
        rw [e] at hir htr
        clear e ih hk
        go_wp2_with fail
        go_ret
        rw [hw.out]
        exact ⟨by rw [htr.out]; rfl, hir.out, hsw⟩

theorem walk_calls1 (c0 : Value) (d : Nat) (f : Int → Ex → Int × Bool) (I : Int → World → Prop)
    (hcl : ∀ (s : Int) (v : Value) (t : Ex) (w : World), I s w → Rep w v t → t.depth ≤ 1000000 → Calls Try.prog 9 #[v, c0] w fun e w' => e = .returned (.bool (f s t).2) ∧ I (f s t).1 w' ∧ Step d w w')
    (hI : ∀ s w, I s w → ∃ c t f, w.heap[d]? = some (.cells c t f) ∧ nodeTy t = false)
    (hB : ∀ s w w', I s w → Below w.heap.size w w' → I s w') :
    ∀ (t : Ex) (v : Value) (s : Int) (w : World), Rep w v t → t.depth ≤ 1000000 → I s w → Calls Try.prog 8 #[v, .func (.func 9) #[] #[c0]] w fun e w' => e = .returned (.bool (wk f t s).2) ∧ I (wk f t s).1 w' ∧ Step d w w'
  | .lit, v, s, w, h, hd, hi => walk_step1 c0 d f I hcl hI hB _ v s w h hd hi (fun k hk => by simp [Ex.kids] at hk)
  | .col, v, s, w, h, hd, hi => walk_step1 c0 d f I hcl hI hB _ v s w h hd hi (fun k hk => by simp [Ex.kids] at hk)
  | .agg0, v, s, w, h, hd, hi => walk_step1 c0 d f I hcl hI hB _ v s w h hd hi (fun k hk => by simp [Ex.kids] at hk)
  | .un x, v, s, w, h, hd, hi => walk_step1 c0 d f I hcl hI hB _ v s w h hd hi (fun k hk v s w hr hi => by
      have e : k = x := by simpa [Ex.kids] using hk
      rw [e] at hr ⊢; exact walk_calls1 c0 d f I hcl hI hB x v s w hr (by simp only [Ex.depth] at hd; omega) hi)
  | .is x, v, s, w, h, hd, hi => walk_step1 c0 d f I hcl hI hB _ v s w h hd hi (fun k hk v s w hr hi => by
      have e : k = x := by simpa [Ex.kids] using hk
      rw [e] at hr ⊢; exact walk_calls1 c0 d f I hcl hI hB x v s w hr (by simp only [Ex.depth] at hd; omega) hi)
  | .agg x, v, s, w, h, hd, hi => walk_step1 c0 d f I hcl hI hB _ v s w h hd hi (fun k hk v s w hr hi => by
      have e : k = x := by simpa [Ex.kids] using hk
      rw [e] at hr ⊢; exact walk_calls1 c0 d f I hcl hI hB x v s w hr (by simp only [Ex.depth] at hd; omega) hi)
  | .bin x y, v, s, w, h, hd, hi => walk_step1 c0 d f I hcl hI hB _ v s w h hd hi (fun k hk v s w hr hi => by
      have hk2 : k = x ∨ k = y := by simpa [Ex.kids] using hk
      rcases hk2 with e | e
      · rw [e] at hr ⊢; exact walk_calls1 c0 d f I hcl hI hB x v s w hr (by simp only [Ex.depth] at hd; omega) hi
      · rw [e] at hr ⊢; exact walk_calls1 c0 d f I hcl hI hB y v s w hr (by simp only [Ex.depth] at hd; omega) hi)

theorem walk_calls2 (c0 c1 : Value) (d : Nat) (f : Int → Ex → Int × Bool) (I : Int → World → Prop)
    (hcl : ∀ (s : Int) (v : Value) (t : Ex) (w : World), I s w → Rep w v t → t.depth ≤ 1000000 → Calls Try.prog 14 #[v, c0, c1] w fun e w' => e = .returned (.bool (f s t).2) ∧ I (f s t).1 w' ∧ Step d w w')
    (hI : ∀ s w, I s w → ∃ c t f, w.heap[d]? = some (.cells c t f) ∧ nodeTy t = false)
    (hB : ∀ s w w', I s w → Below w.heap.size w w' → I s w') :
    ∀ (t : Ex) (v : Value) (s : Int) (w : World), Rep w v t → t.depth ≤ 1000000 → I s w → Calls Try.prog 8 #[v, .func (.func 14) #[] #[c0, c1]] w fun e w' => e = .returned (.bool (wk f t s).2) ∧ I (wk f t s).1 w' ∧ Step d w w'
  | .lit, v, s, w, h, hd, hi => walk_step2 c0 c1 d f I hcl hI hB _ v s w h hd hi (fun k hk => by simp [Ex.kids] at hk)
  | .col, v, s, w, h, hd, hi => walk_step2 c0 c1 d f I hcl hI hB _ v s w h hd hi (fun k hk => by simp [Ex.kids] at hk)
  | .agg0, v, s, w, h, hd, hi => walk_step2 c0 c1 d f I hcl hI hB _ v s w h hd hi (fun k hk => by simp [Ex.kids] at hk)
  | .un x, v, s, w, h, hd, hi => walk_step2 c0 c1 d f I hcl hI hB _ v s w h hd hi (fun k hk v s w hr hi => by
      have e : k = x := by simpa [Ex.kids] using hk
      rw [e] at hr ⊢; exact walk_calls2 c0 c1 d f I hcl hI hB x v s w hr (by simp only [Ex.depth] at hd; omega) hi)
  | .is x, v, s, w, h, hd, hi => walk_step2 c0 c1 d f I hcl hI hB _ v s w h hd hi (fun k hk v s w hr hi => by
      have e : k = x := by simpa [Ex.kids] using hk
      rw [e] at hr ⊢; exact walk_calls2 c0 c1 d f I hcl hI hB x v s w hr (by simp only [Ex.depth] at hd; omega) hi)
  | .agg x, v, s, w, h, hd, hi => walk_step2 c0 c1 d f I hcl hI hB _ v s w h hd hi (fun k hk v s w hr hi => by
      have e : k = x := by simpa [Ex.kids] using hk
      rw [e] at hr ⊢; exact walk_calls2 c0 c1 d f I hcl hI hB x v s w hr (by simp only [Ex.depth] at hd; omega) hi)
  | .bin x y, v, s, w, h, hd, hi => walk_step2 c0 c1 d f I hcl hI hB _ v s w h hd hi (fun k hk v s w hr hi => by
      have hk2 : k = x ∨ k = y := by simpa [Ex.kids] using hk
      rcases hk2 with e | e
      · rw [e] at hr ⊢; exact walk_calls2 c0 c1 d f I hcl hI hB x v s w hr (by simp only [Ex.depth] at hd; omega) hi
      · rw [e] at hr ⊢; exact walk_calls2 c0 c1 d f I hcl hI hB y v s w hr (by simp only [Ex.depth] at hd; omega) hi)
end Go.Proofs.Ytijohhadgioolaa
