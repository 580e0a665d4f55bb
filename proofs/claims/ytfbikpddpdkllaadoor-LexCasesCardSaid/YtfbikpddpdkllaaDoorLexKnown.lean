/-
  Contracts of strings.IndexByte and strings.Join in the terms of the printed texts. Conditions: the joined text is no longer than 2^47 bytes; the slice's address is plain.
-/
import Derived.Test.YtfbikpddpdkllaaDoorLx0
import Derived.Test.YtfbikpddpdkllaaDoorShelf
import Derived.Test.YtfbikpddpdkllaaDoorLexEnv
namespace Go.Proofs.YtfbikpddpdkllaaDoor.Lx
open Go.RowKit Go.Proofs.YtfbikpddpdkllaaDoorW.PrintWords
set_option linter.unusedVariables false
set_option linter.unusedSimpArgs false

def strings_IndexByte.f (a0 : ByteArray) (a1 : Int) : Option Int := some (Lib.indexByte a0.data.toList a1.toNat.toUInt8)
theorem strings_IndexByte.calls (a0 : ByteArray) (a1 : Int) (r : Int) (w : World) (h : strings_IndexByte.f a0 a1 = some r) :
    Calls Tryd.prog 16 #[.string a0, .int .u8 a1] w fun e w' => e = .returned (.int .i64 r) ∧ Drawn0 w w' := by
  obtain rfl := Option.some.inj h
  exact (Tryd.strings_IndexByte a0 a1 w).mono fun e w' ⟨a, b⟩ => ⟨a, b ▸ Drawn0.refl _⟩

/-- a row of the call's own lies at a plain address -/
def Plain (A : Option Addr) : Prop := ∀ ad, A = some ad → ∃ g, ad = ⟨g, 0, none⟩
theorem R_plain {α : Type} {d : Kd α} {e n c : Nat} {w : World} {base : Nat} {ok : Nat → Prop} {A : Option Addr} {xs : List α} (h : d.R e w base ok (.slice A n c) xs) : Plain A := by
  obtain ⟨inner, ho⟩ := Kd.R_own h
  intro ad hA
  subst hA
  rcases ho.2 with ⟨h1, _⟩ | ⟨g, cap, cur, h1, _⟩
  · cases h1
  · injection h1 with h1 _ _
    exact ⟨g, Option.some.inj h1⟩
def joined (l : List ByteArray) (s : ByteArray) : List UInt8 := Lib.join (l.map (·.data.toList)) s.data.toList
def strings_Join.f (l : List ByteArray) (s : ByteArray) : Option ByteArray := if l.length ≤ 140737488355328 ∧ (joined l s).length ≤ 140737488355328 then some ⟨(joined l s).toArray⟩ else none
theorem strings_Join.calls (A0 : Option Addr) (c0 : Nat) (l0 : List ByteArray) (a1 : ByteArray) (r : ByteArray) (w : World) (hr0 : Kd.C Kd.string w A0 l0.length l0 ∧ Plain A0) (hc0 : l0.length ≤ c0) (h : strings_Join.f l0 a1 = some r) :
    Calls Tryd.prog 27 #[.slice A0 l0.length c0, .string a1] w fun e w' => e = .returned (.string r) ∧ Below w.heap.size w w' := by
  unfold strings_Join.f at h
  by_cases hl : l0.length ≤ 140737488355328 ∧ (joined l0 a1).length ≤ 140737488355328
  · rw [if_pos hl] at h
    obtain rfl := Option.some.inj h
    rcases Nat.eq_zero_or_pos l0.length with h0 | h0
    · obtain rfl := List.eq_nil_of_length_eq_zero h0
      refine (Tryd.strings_Join_none A0 c0 a1 w).mono ?_
      rintro e w' ⟨rfl, rfl⟩
      exact ⟨rfl, Below.refl _ _⟩
    · obtain ⟨ad, hA, hc⟩ := Kd.at_string hr0.1 0 (by omega) (by omega)
      obtain ⟨g, rfl⟩ := hr0.2 ad hA
      subst hA
      have hcell : ∀ (j : Nat) x, l0[j]? = some x → w.cell? ⟨g, 0 + j, none⟩ = some (.string x) := by
        intro j x hj
        obtain ⟨hlt, hx⟩ := List.getElem?_eq_some_iff.1 hj
        obtain ⟨ad, h2, h3⟩ := Kd.at_string hr0.1 (j : Int) (by omega) (by omega)
        obtain rfl := Option.some.inj h2
        rw [add_plain] at h3
        rw [Nat.zero_add]
        refine h3.trans ?_
        simp [rdOf, List.getD_eq_getElem?_getD, hj]
      have hb : g < w.heap.size := World.block_lt_of_cell? w _ (by simpa [add_plain] using hc)
      exact Tryd.strings_Join g 0 c0 l0 a1 w hcell hb hl.1 hc0 hl.2
  · rw [if_neg hl] at h; cases h
end Go.Proofs.YtfbikpddpdkllaaDoor.Lx
