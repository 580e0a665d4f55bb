/-
  What the law's build keeps: a row of pairs, each of them one tree twice. No conditions.
-/
import Derived.Test.YtijohhadgioolaaCount
import Derived.Test.YtijohhadgioolaaSmall
import Derived.OwnWalk
namespace Go.Proofs.Ytijohhadgioolaa
open Go.RowKit
set_option linter.unusedVariables false
set_option linter.unusedSimpArgs false
set_option maxRecDepth 4000

structure Item where
  d : TypeId
  x : Value
  r : RV
def Item.vals (m : Item) : List Value := .iface m.d m.x :: m.r.vals
theorem Item.len (m : Item) : m.vals.length = 9 := rfl
def Item.Is (m : Item) (w : World) (t : Ex) : Prop := Rep w (.iface m.d m.x) t ∧ RL w m.r t
theorem Item.Is.keep {m : Item} {w w' : World} {t : Ex} (h : m.Is w t) (hk : Keep w w') : m.Is w' t := ⟨h.1.keep hk, h.2.keep hk⟩
def flat (L : List (Item × Ex)) : List Value := L.flatMap fun p => p.1.vals
theorem flat_len : ∀ L : List (Item × Ex), (flat L).length = L.length * 9
  | [] => rfl
  | p :: L => by
    have h := flat_len L
    unfold flat at h ⊢
    rw [List.flatMap_cons, List.length_append, h, Item.len, List.length_cons]
    omega
theorem flat_snoc (L : List (Item × Ex)) (p : Item × Ex) : flat (L ++ [p]) = flat L ++ p.1.vals := by simp [flat]
structure Out (B : Nat) (w : World) (v : Value) (L : List (Item × Ex)) : Prop where
  own : w.ownsRow B 35 9 v L.length (flat L)
  is : ∀ p ∈ L, p.1.Is w p.2
theorem Out.nil (B : Nat) (w : World) : Out B w (.slice none 0 0) [] := ⟨World.ownsRow_nil w B 35 9, fun p hp => by simp at hp⟩
/-- what changes only the row keeps the trees -/
theorem keep_grown {B : Nat} {w w' : World} {v : Value} {n : Nat} {xs : List Value} (h : w.ownsRow B 35 9 v n xs) (hg : w.grownBy w' v.ownBlock) : Keep w w' := fun b c t f hn he => by
  refine (hg.block b (Array.getElem?_eq_some_iff.1 he).1 ?_).trans he
  intro e
  rcases h.2 with ⟨rfl, _⟩ | ⟨g, cap, cur, rfl, _, hh, _⟩
  · simp [Value.ownBlock] at e
  · simp only [Value.ownBlock, Option.some.injEq] at e
    subst e
    rw [he] at hh
    cases hh
    exact absurd hn (by decide)
theorem Out.alloc {B : Nat} {w : World} {v : Value} {L : List (Item × Ex)} (h : Out B w v L) (o : Obj) : Out B (w.alloc o) v L :=
  ⟨h.own.alloc o, fun p hp => (h.is p hp).keep (keep_below ((Below.refl _ w).alloc (Nat.le_refl _) o))⟩
theorem Out.push {B : Nat} {w w' : World} {v v' : Value} {L : List (Item × Ex)} (h : Out B w v L) (m : Item) (t : Ex) (hm : m.Is w t) (hown : w'.ownsRow B 35 9 v' (L.length + 1) (flat L ++ m.vals)) (hg : w.grownBy w' v.ownBlock) : Out B w' v' (L ++ [(m, t)]) where
  own := by rw [List.length_append, flat_snoc]; exact hown
  is := fun p hp => by
    rcases List.mem_append.1 hp with hp | hp
    · exact (h.is p hp).keep (keep_grown h.own hg)
    · obtain rfl := List.mem_singleton.1 hp
      exact hm.keep (keep_grown h.own hg)
def total (L : List (Item × Ex)) : Nat := L.foldr (fun p n => p.2.count + n) 0
theorem total_snoc : ∀ (L : List (Item × Ex)) (p : Item × Ex), total (L ++ [p]) = total L + p.2.count
  | [], p => by simp [total]
  | q :: L, p => by
    have h := total_snoc L p
    unfold total at h ⊢
    rw [List.cons_append, List.foldr_cons, List.foldr_cons, h]
    omega
theorem count_pos (t : Ex) : 1 ≤ t.count := by cases t <;> simp [Ex.count] <;> omega
theorem depth_count : ∀ t : Ex, t.depth ≤ t.count
  | .lit => Nat.le_refl _
  | .col => Nat.le_refl _
  | .agg0 => Nat.le_refl _
  | .un x => by have := depth_count x; simp only [Ex.depth, Ex.count]; omega
  | .is x => by have := depth_count x; simp only [Ex.depth, Ex.count]; omega
  | .agg x => by have := depth_count x; simp only [Ex.depth, Ex.count]; omega
  | .bin x y => by have := depth_count x; have := depth_count y; simp only [Ex.depth, Ex.count]; omega
theorem len_total : ∀ L : List (Item × Ex), L.length ≤ total L
  | [] => Nat.le_refl _
  | p :: L => by
    have h := len_total L
    have h2 := count_pos p.2
    unfold total at h ⊢
    rw [List.foldr_cons, List.length_cons]
    omega
theorem mem_total : ∀ (L : List (Item × Ex)) (p : Item × Ex), p ∈ L → p.2.count ≤ total L
  | q :: L, p, hp => by
    unfold total
    rw [List.foldr_cons]
    rcases List.mem_cons.1 hp with rfl | hp
    · omega
    · have h := mem_total L p hp
      unfold total at h
      omega
end Go.Proofs.Ytijohhadgioolaa
