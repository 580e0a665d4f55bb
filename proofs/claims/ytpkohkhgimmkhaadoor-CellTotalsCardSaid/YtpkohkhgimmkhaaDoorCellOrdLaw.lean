/-
  Plain law: the order of values is one: strict, total; two that are the same stand alike to a third. No program in sight.
-/
import Derived.Test.YtpkohkhgimmkhaaDoorCellOrder
namespace Go.Proofs.YtpkohkhgimmkhaaDoor
open Go.RowKit Go.Sort
set_option linter.unusedVariables false
set_option linter.unusedSimpArgs false

theorem bl_irr : ∀ x : List UInt8, Op.bytesLess x x = false
  | [] => rfl
  | a :: x => by
    have := bl_irr x
    simp [Op.bytesLess, this]
theorem bl_trans : ∀ x y z : List UInt8, Op.bytesLess x y = true → Op.bytesLess y z = true → Op.bytesLess x z = true
  | _, _, [], _, h => by cases h2 : (‹List UInt8› : List UInt8) <;> simp_all [Op.bytesLess]
  | [], _, _ :: _, _, _ => rfl
  | _ :: _, [], _ :: _, h, _ => by simp [Op.bytesLess] at h
  | a :: x, b :: y, c :: z, h, h2 => by
    simp only [Op.bytesLess, Bool.or_eq_true, Bool.and_eq_true, decide_eq_true_eq, beq_iff_eq] at h h2 ⊢
    rcases h with h | ⟨rfl, h⟩ <;> rcases h2 with h2 | ⟨rfl, h2⟩
    · exact .inl (UInt8.lt_trans h h2)
    · exact .inl h
    · exact .inl h2
    · exact .inr ⟨rfl, bl_trans x y z h h2⟩
theorem bl_total : ∀ x y : List UInt8, Op.bytesLess x y = false → Op.bytesLess y x = false → x = y
  | [], [], _, _ => rfl
  | [], _ :: _, h, _ => by simp [Op.bytesLess] at h
  | _ :: _, [], _, h => by simp [Op.bytesLess] at h
  | a :: x, b :: y, h, h2 => by
    simp only [Op.bytesLess, Bool.or_eq_false_iff, Bool.and_eq_false_iff, decide_eq_false_iff_not, beq_eq_false_iff_ne] at h h2
    have hab : a = b := by
      have h1 := h.1
      have h3 := h2.1
      rw [UInt8.lt_iff_toNat_lt] at h1 h3
      exact UInt8.toNat_inj.1 (by omega)
    subst hab
    have e1 : Op.bytesLess x y = false := by
      rcases h.2 with h | h
      · exact absurd rfl h
      · exact h
    have e2 : Op.bytesLess y x = false := by
      rcases h2.2 with h | h
      · exact absurd rfl h
      · exact h
    rw [bl_total x y e1 e2]
theorem bl_asym (x y : List UInt8) (h : Op.bytesLess x y = true) : Op.bytesLess y x = false := by
  cases h2 : Op.bytesLess y x with
  | false => rfl
  | true => rw [← bl_irr x]; exact (bl_trans x y x h h2).symm ▸ rfl

theorem cmpI_lt {x y : Int} : cmpI x y < 0 ↔ x < y := by unfold cmpI; split <;> (try split) <;> omega
theorem cmpI_eq {x y : Int} : cmpI x y = 0 ↔ x = y := by unfold cmpI; split <;> (try split) <;> omega
theorem cmpS_lt {x y : ByteArray} : cmpS x y < 0 ↔ Op.bytesLess x.toList y.toList = true := by
  unfold cmpS
  split
  · rename_i h; simp [h]
  · rename_i h; split <;> simp [h]
theorem cmpS_eq {x y : ByteArray} : cmpS x y = 0 ↔ x.toList = y.toList := by
  unfold cmpS
  split
  · rename_i h
    refine ⟨fun h2 => by omega, fun h2 => ?_⟩
    rw [h2, bl_irr] at h; cases h
  · rename_i h
    have h' : Op.bytesLess x.toList y.toList = false := by simpa using h
    rw [h']
    by_cases h2 : x.toList = y.toList
    · simp [h2]
    · simp [h2]
theorem rank_cases (k : Int) : (k = 3 ∧ rankV k = 1) ∨ (k = 1 ∧ rankV k = 2) ∨ (k = 2 ∧ rankV k = 3) ∨ (k ≠ 1 ∧ k ≠ 2 ∧ k ≠ 3 ∧ rankV k = 0) := by
  unfold rankV
  by_cases h3 : k = 3
  · exact .inl ⟨h3, by simp [h3]⟩
  by_cases h1 : k = 1
  · exact .inr (.inl ⟨h1, by simp [h1]⟩)
  by_cases h2 : k = 2
  · exact .inr (.inr (.inl ⟨h2, by simp [h2]⟩))
  · exact .inr (.inr (.inr ⟨h1, h2, h3, by simp [h1, h2, h3]⟩))
theorem lt_iff (k i : Int) (s : ByteArray) (b : Bool) (k2 i2 : Int) (s2 : ByteArray) (b2 : Bool) :
    orderV k i s b k2 i2 s2 b2 < 0 ↔ rankV k < rankV k2 ∨ (rankV k = rankV k2 ∧ ((k = 1 ∧ i < i2) ∨ (k = 2 ∧ Op.bytesLess s.toList s2.toList = true) ∨ (k = 3 ∧ b = false ∧ b2 = true))) := by
  unfold orderV
  by_cases hr : cmpI (rankV k) (rankV k2) = 0
  · have hr' := cmpI_eq.1 hr
    rw [if_pos hr]
    by_cases h1 : k = 1
    · rw [if_pos h1, cmpI_lt]
      refine ⟨fun h => .inr ⟨hr', .inl ⟨h1, h⟩⟩, ?_⟩
      rintro (h | ⟨_, ⟨_, h⟩ | ⟨e, _⟩ | ⟨e, _⟩⟩)
      · omega
      · exact h
      · omega
      · omega
    rw [if_neg h1]
    by_cases h2 : k = 2
    · rw [if_pos h2, cmpS_lt]
      refine ⟨fun h => .inr ⟨hr', .inr (.inl ⟨h2, h⟩)⟩, ?_⟩
      rintro (h | ⟨_, ⟨e, _⟩ | ⟨_, h⟩ | ⟨e, _⟩⟩)
      · omega
      · omega
      · exact h
      · omega
    rw [if_neg h2]
    by_cases h3 : k = 3
    · rw [if_pos h3, cmpI_lt]
      subst h3
      cases b <;> cases b2 <;> simp [bitV] <;> omega
    · rw [if_neg h3]; simp [h1, h2, h3]; omega
  · rw [if_neg hr, cmpI_lt]
    rw [cmpI_eq] at hr
    simp [hr]
theorem eq_iff (k i : Int) (s : ByteArray) (b : Bool) (k2 i2 : Int) (s2 : ByteArray) (b2 : Bool) :
    orderV k i s b k2 i2 s2 b2 = 0 ↔ rankV k = rankV k2 ∧ (k = 1 → i = i2) ∧ (k = 2 → s.toList = s2.toList) ∧ (k = 3 → b = b2) := by
  unfold orderV
  by_cases hr : cmpI (rankV k) (rankV k2) = 0
  · have hr' := cmpI_eq.1 hr
    rw [if_pos hr]
    by_cases h1 : k = 1
    · rw [if_pos h1, cmpI_eq]; subst h1; simp [hr']
    rw [if_neg h1]
    by_cases h2 : k = 2
    · rw [if_pos h2, cmpS_eq]; subst h2; simp [hr']
    rw [if_neg h2]
    by_cases h3 : k = 3
    · rw [if_pos h3, cmpI_eq]
      subst h3
      cases b <;> cases b2 <;> simp [bitV, hr']
    · rw [if_neg h3]; simp [h1, h2, h3, hr']
  · rw [if_neg hr]
    have hr' := fun h => hr (cmpI_eq.2 h)
    exact ⟨fun h => absurd h hr, fun h => absurd h.1 hr'⟩
theorem kinds_of {k k2 : Int} (h : rankV k = rankV k2) : (k = 1 ↔ k2 = 1) ∧ (k = 2 ↔ k2 = 2) ∧ (k = 3 ↔ k2 = 3) := by
  rcases rank_cases k with ⟨h1, e1⟩ | ⟨h1, e1⟩ | ⟨h1, e1⟩ | ⟨h1, h1b, h1c, e1⟩ <;> rcases rank_cases k2 with ⟨h2, e2⟩ | ⟨h2, e2⟩ | ⟨h2, e2⟩ | ⟨h2, h2b, h2c, e2⟩ <;> omega
theorem ord_trans {k i : Int} {s : ByteArray} {b : Bool} {k2 i2 : Int} {s2 : ByteArray} {b2 : Bool} {k3 i3 : Int} {s3 : ByteArray} {b3 : Bool}
    (h : orderV k i s b k2 i2 s2 b2 < 0) (h2 : orderV k2 i2 s2 b2 k3 i3 s3 b3 < 0) : orderV k i s b k3 i3 s3 b3 < 0 := by
  rw [lt_iff] at h h2 ⊢
  rcases h with h | ⟨h, hx⟩
  · rcases h2 with h2 | ⟨h2, _⟩ <;> exact .inl (by omega)
  · rcases h2 with h2 | ⟨h2, hy⟩
    · exact .inl (by omega)
    · obtain ⟨q1, q2, q3⟩ := kinds_of h
      refine .inr ⟨h.trans h2, ?_⟩
      rcases hx with ⟨rfl, hx⟩ | ⟨rfl, hx⟩ | ⟨rfl, hx, hx2⟩
      · obtain rfl := q1.1 rfl
        rcases hy with ⟨_, hy⟩ | ⟨hk, _⟩ | ⟨hk, _⟩
        · exact .inl ⟨rfl, Int.lt_trans hx hy⟩
        · exact absurd hk (by decide)
        · exact absurd hk (by decide)
      · obtain rfl := q2.1 rfl
        rcases hy with ⟨hk, _⟩ | ⟨_, hy⟩ | ⟨hk, _⟩
        · exact absurd hk (by decide)
        · exact .inr (.inl ⟨rfl, bl_trans _ _ _ hx hy⟩)
        · exact absurd hk (by decide)
      · obtain rfl := q3.1 rfl
        rcases hy with ⟨hk, _⟩ | ⟨hk, _⟩ | ⟨_, hy, _⟩
        · exact absurd hk (by decide)
        · exact absurd hk (by decide)
        · rw [hx2] at hy; cases hy
theorem ord_irr (k i : Int) (s : ByteArray) (b : Bool) : orderV k i s b k i s b = 0 := (eq_iff ..).2 ⟨rfl, fun _ => rfl, fun _ => rfl, fun _ => rfl⟩
theorem ord_asym {k i : Int} {s : ByteArray} {b : Bool} {k2 i2 : Int} {s2 : ByteArray} {b2 : Bool} (h : orderV k i s b k2 i2 s2 b2 < 0) : ¬ orderV k2 i2 s2 b2 k i s b < 0 := fun h2 => by
  have := ord_trans h h2
  rw [ord_irr] at this
  omega
theorem ord_sym {k i : Int} {s : ByteArray} {b : Bool} {k2 i2 : Int} {s2 : ByteArray} {b2 : Bool} (h : orderV k i s b k2 i2 s2 b2 = 0) : orderV k2 i2 s2 b2 k i s b = 0 := by
  rw [eq_iff] at h ⊢
  obtain ⟨h, h1, h2, h3⟩ := h
  obtain ⟨q1, q2, q3⟩ := kinds_of h
  exact ⟨h.symm, fun e => (h1 (q1.2 e)).symm, fun e => (h2 (q2.2 e)).symm, fun e => (h3 (q3.2 e)).symm⟩
theorem ord_total {k i : Int} {s : ByteArray} {b : Bool} {k2 i2 : Int} {s2 : ByteArray} {b2 : Bool} (h : ¬ orderV k i s b k2 i2 s2 b2 < 0) (h2 : ¬ orderV k2 i2 s2 b2 k i s b < 0) : orderV k i s b k2 i2 s2 b2 = 0 := by
  rw [lt_iff] at h h2
  rw [eq_iff]
  have hr : rankV k = rankV k2 := by
    rcases Int.lt_trichotomy (rankV k) (rankV k2) with h' | h' | h'
    · exact absurd (.inl h') h
    · exact h'
    · exact absurd (.inl h') h2
  obtain ⟨q1, q2, q3⟩ := kinds_of hr
  refine ⟨hr, fun e => ?_, fun e => ?_, fun e => ?_⟩
  · rcases Int.lt_trichotomy i i2 with h' | h' | h'
    · exact absurd (.inr ⟨hr, .inl ⟨e, h'⟩⟩) h
    · exact h'
    · exact absurd (.inr ⟨hr.symm, .inl ⟨q1.1 e, h'⟩⟩) h2
  · refine bl_total _ _ ?_ ?_
    · cases h' : Op.bytesLess s.toList s2.toList with
      | false => rfl
      | true => exact absurd (.inr ⟨hr, .inr (.inl ⟨e, h'⟩)⟩) h
    · cases h' : Op.bytesLess s2.toList s.toList with
      | false => rfl
      | true => exact absurd (.inr ⟨hr.symm, .inr (.inl ⟨q2.1 e, h'⟩)⟩) h2
  · cases hb : b <;> cases hb2 : b2
    · rfl
    · exact absurd (.inr ⟨hr, .inr (.inr ⟨e, hb, hb2⟩)⟩) h
    · exact absurd (.inr ⟨hr.symm, .inr (.inr ⟨q3.1 e, hb2, hb⟩)⟩) h2
    · rfl
/-- two that are the same stand alike to a third -/
theorem ord_alike {k i : Int} {s : ByteArray} {b : Bool} {k2 i2 : Int} {s2 : ByteArray} {b2 : Bool} {k3 i3 : Int} {s3 : ByteArray} {b3 : Bool} (h : orderV k i s b k2 i2 s2 b2 = 0) :
    (orderV k i s b k3 i3 s3 b3 < 0 ↔ orderV k2 i2 s2 b2 k3 i3 s3 b3 < 0) ∧ (orderV k3 i3 s3 b3 k i s b < 0 ↔ orderV k3 i3 s3 b3 k2 i2 s2 b2 < 0) := by
  rw [eq_iff] at h
  obtain ⟨h, h1, h2, h3⟩ := h
  obtain ⟨q1, q2, q3⟩ := kinds_of h
  simp only [lt_iff]
  rcases rank_cases k with ⟨rfl, _⟩ | ⟨rfl, _⟩ | ⟨rfl, _⟩ | ⟨n1, n2, n3, _⟩
  · obtain rfl := q3.1 rfl
    obtain rfl := h3 rfl
    refine ⟨by simp, or_congr Iff.rfl (and_congr_right fun hr => ?_)⟩
    obtain rfl : k3 = 3 := by have := kinds_of hr; omega
    simp
  · obtain rfl := q1.1 rfl
    obtain rfl := h1 rfl
    refine ⟨by simp, or_congr Iff.rfl (and_congr_right fun hr => ?_)⟩
    obtain rfl : k3 = 1 := by have := kinds_of hr; omega
    simp
  · obtain rfl := q2.1 rfl
    have h2 := h2 rfl
    refine ⟨by simp [h2], or_congr Iff.rfl (and_congr_right fun hr => ?_)⟩
    obtain rfl : k3 = 2 := by have := kinds_of hr; omega
    simp [h2]
  · have m1 : k2 ≠ 1 := fun e => n1 (q1.2 e)
    have m2 : k2 ≠ 2 := fun e => n2 (q2.2 e)
    have m3 : k2 ≠ 3 := fun e => n3 (q3.2 e)
    rw [h]
    constructor
    · simp [n1, n2, n3, m1, m2, m3]
    · constructor
      · rintro (h' | ⟨h', hx⟩)
        · exact .inl h'
        · have := kinds_of h'
          rcases hx with ⟨e, _⟩ | ⟨e, _⟩ | ⟨e, _⟩ <;> omega
      · rintro (h' | ⟨h', hx⟩)
        · exact .inl h'
        · have := kinds_of h'
          rcases hx with ⟨e, _⟩ | ⟨e, _⟩ | ⟨e, _⟩ <;> omega
end Go.Proofs.YtpkohkhgimmkhaaDoor
