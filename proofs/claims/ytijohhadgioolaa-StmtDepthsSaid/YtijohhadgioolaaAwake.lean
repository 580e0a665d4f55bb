/-
  The law's awake: the example's text and depth. No conditions.
-/
import Derived.Test.YtijohhadgioolaaClos
namespace Go.Proofs.Ytijohhadgioolaa
open Go.RowKit
set_option linter.unusedVariables false
set_option linter.unusedSimpArgs false
set_option maxRecDepth 4000

theorem lit1 (w : World) : Calls Try.prog 44 #[.agg #[.int .u8 1, .int .i64 1, .string ⟨#[]⟩, .bool false]] w fun e w' => e = .returned (.string ⟨#[49]⟩) ∧ Below w.heap.size w w' := by
  have q : ∀ (v : Value) (w : World), (Instr.typeAssert (.iface 2 v) 20 2 true).run Try.prog w = .ok (.tuple #[v, .bool true]) w := fun v w => by kernel_rfl
  go_enter Try.func44, Try.ntmps44
  go_wp2
  go_ret
  exact ⟨rfl, ((Below.refl _ w).alloc (Nat.le_refl _) _).alloc (by simp) _⟩
theorem litText1 (w : World) (b : Nat) (f : Nat × Nat) (hb : w.heap[b]? = some (.cells #[.int .u8 1, .int .i64 1, .string ⟨#[]⟩, .bool false] 48 f)) :
    Calls Try.prog 43 #[.pointer (some ⟨b, 0, none⟩)] w fun e w' => e = .returned (.string ⟨#[49]⟩) ∧ Below w.heap.size w w' := by
  have h0 := hat0 hb 0 (.int .u8 1) rfl
  have h1 := hat0 hb 1 (.int .i64 1) rfl
  have h2 := hat0 hb 2 (.string ⟨#[]⟩) rfl
  have h3 := hat0 hb 3 (.bool false) rfl
  go_enter Try.func43, Try.ntmps43
  go_wp2_with fail
  refine (lit1 w).mono ?_
  rintro e w1 ⟨rfl, hb1⟩
  go_wp2_with fail
  go_ret
  exact ⟨rfl, hb1⟩
theorem lit3 (w : World) : Calls Try.prog 44 #[.agg #[.int .u8 1, .int .i64 3, .string ⟨#[]⟩, .bool false]] w fun e w' => e = .returned (.string ⟨#[51]⟩) ∧ Below w.heap.size w w' := by
  have q : ∀ (v : Value) (w : World), (Instr.typeAssert (.iface 2 v) 20 2 true).run Try.prog w = .ok (.tuple #[v, .bool true]) w := fun v w => by kernel_rfl
  go_enter Try.func44, Try.ntmps44
  go_wp2
  go_ret
  exact ⟨rfl, ((Below.refl _ w).alloc (Nat.le_refl _) _).alloc (by simp) _⟩
theorem litText3 (w : World) (b : Nat) (f : Nat × Nat) (hb : w.heap[b]? = some (.cells #[.int .u8 1, .int .i64 3, .string ⟨#[]⟩, .bool false] 48 f)) :
    Calls Try.prog 43 #[.pointer (some ⟨b, 0, none⟩)] w fun e w' => e = .returned (.string ⟨#[51]⟩) ∧ Below w.heap.size w w' := by
  have h0 := hat0 hb 0 (.int .u8 1) rfl
  have h1 := hat0 hb 1 (.int .i64 3) rfl
  have h2 := hat0 hb 2 (.string ⟨#[]⟩) rfl
  have h3 := hat0 hb 3 (.bool false) rfl
  go_enter Try.func43, Try.ntmps43
  go_wp2_with fail
  refine (lit3 w).mono ?_
  rintro e w1 ⟨rfl, hb1⟩
  go_wp2_with fail
  go_ret
  exact ⟨rfl, hb1⟩
theorem colText (w : World) (b : Nat) (f : Nat × Nat) (hb : w.heap[b]? = some (.cells #[.string ⟨#[]⟩, .string ⟨#[97]⟩] 58 f)) :
    Calls Try.prog 82 #[.pointer (some ⟨b, 0, none⟩)] w fun e w' => e = .returned (.string ⟨#[97]⟩) ∧ Below w.heap.size w w' := by
  have h0 := hat0 hb 0 (.string ⟨#[]⟩) rfl
  have h1 := hat0 hb 1 (.string ⟨#[97]⟩) rfl
  go_enter Try.func82, Try.ntmps82
  go_wp2_with fail
  go_ret
  exact ⟨rfl, Below.refl _ _⟩
set_option maxHeartbeats 4000000 in
theorem innerText (w : World) (b b1 b2 : Nat) (f f1 f2 : Nat × Nat)
    (hb : w.heap[b]? = some (.cells #[.string ⟨#[43]⟩, .iface 56 (.pointer (some ⟨b1, 0, none⟩)), .iface 46 (.pointer (some ⟨b2, 0, none⟩))] 50 f))
    (hb1 : w.heap[b1]? = some (.cells #[.string ⟨#[]⟩, .string ⟨#[97]⟩] 58 f1))
    (hb2 : w.heap[b2]? = some (.cells #[.int .u8 1, .int .i64 1, .string ⟨#[]⟩, .bool false] 48 f2)) :
    Calls Try.prog 16 #[.pointer (some ⟨b, 0, none⟩)] w fun e w' => e = .returned (.string ⟨#[40, 97, 32, 43, 32, 49, 41]⟩) ∧ Below w.heap.size w w' := by
  have h0 := hat0 hb 0 (.string ⟨#[43]⟩) rfl
  have h1 := hat0 hb 1 (.iface 56 (.pointer (some ⟨b1, 0, none⟩))) rfl
  have h2 := hat0 hb 2 (.iface 46 (.pointer (some ⟨b2, 0, none⟩))) rfl
  have hm1 : ∀ (a : Addr) (w : World), (method 234 56 (.pointer (some a)) "Text").run Try.prog w = .ok (82, .pointer (some a)) w := fun a w => by kernel_rfl
  have hm2 : ∀ (a : Addr) (w : World), (method 234 46 (.pointer (some a)) "Text").run Try.prog w = .ok (43, .pointer (some a)) w := fun a w => by kernel_rfl
  have hl : ∀ {b o}, w.heap[b]? = some o → b < w.heap.size := fun h => (Array.getElem?_eq_some_iff.1 h).1
  have HB := Lib.hid (fun (w' : World) (h : Below w.heap.size w w') => (h.block b (hl hb)).trans hb)
  have HB1 := Lib.hid (fun (w' : World) (h : Below w.heap.size w w') => (h.block b1 (hl hb1)).trans hb1)
  have HB2 := Lib.hid (fun (w' : World) (h : Below w.heap.size w w') => (h.block b2 (hl hb2)).trans hb2)
  have HW := Lib.hid ((Below.refl w.heap.size w).drew)
  clear hb hb1 hb2 hl
  go_enter Try.func16, Try.ntmps16
  go_wp2_with fail
  go_region_with (first
    | (go_at_call 82; refine (colText _ b1 f1 (HB1.out _ (by first | exact HW.out | exact Below.refl _ _))).mono ?_; rintro e w2 ⟨rfl, hb2⟩; have HW2 := Lib.hid (HW.out.trans hb2); have g0 := hat0 (HB.out _ HW2.out) 0 (.string ⟨#[43]⟩) rfl; have g2 := hat0 (HB.out _ HW2.out) 2 (.iface 46 (.pointer (some ⟨b2, 0, none⟩))) rfl)
    | (go_at_call 43; refine (litText1 _ b2 f2 (HB2.out _ HW2.out)).mono ?_; rintro e w3 ⟨rfl, hb3⟩; have HW3 := Lib.hid (HW2.out.trans (hb3.mono HW2.out.size)); have g3 := hat0 (HB.out _ HW3.out) 0 (.string ⟨#[43]⟩) rfl; have g4 := hat0 (HB.out _ HW3.out) 2 (.iface 46 (.pointer (some ⟨b2, 0, none⟩))) rfl))
  all_goals
    go_wp2_with fail
    go_ret
    exact ⟨by kernel_rfl, HW3.out⟩
set_option maxHeartbeats 4000000 in
theorem outerText (w : World) (b b1 b2 c1 c2 : Nat) (f f1 f2 g1 g2 : Nat × Nat)
    (hb : w.heap[b]? = some (.cells #[.string ⟨#[60]⟩, .iface 45 (.pointer (some ⟨b1, 0, none⟩)), .iface 46 (.pointer (some ⟨b2, 0, none⟩))] 50 f))
    (hb1 : w.heap[b1]? = some (.cells #[.string ⟨#[43]⟩, .iface 56 (.pointer (some ⟨c1, 0, none⟩)), .iface 46 (.pointer (some ⟨c2, 0, none⟩))] 50 f1))
    (hc1 : w.heap[c1]? = some (.cells #[.string ⟨#[]⟩, .string ⟨#[97]⟩] 58 g1))
    (hc2 : w.heap[c2]? = some (.cells #[.int .u8 1, .int .i64 1, .string ⟨#[]⟩, .bool false] 48 g2))
    (hb2 : w.heap[b2]? = some (.cells #[.int .u8 1, .int .i64 3, .string ⟨#[]⟩, .bool false] 48 f2)) :
    Calls Try.prog 16 #[.pointer (some ⟨b, 0, none⟩)] w fun e w' => e = .returned (.string ⟨#[40, 40, 97, 32, 43, 32, 49, 41, 32, 60, 32, 51, 41]⟩) ∧ Below w.heap.size w w' := by
  have h0 := hat0 hb 0 (.string ⟨#[60]⟩) rfl
  have h1 := hat0 hb 1 (.iface 45 (.pointer (some ⟨b1, 0, none⟩))) rfl
  have h2 := hat0 hb 2 (.iface 46 (.pointer (some ⟨b2, 0, none⟩))) rfl
  have hm1 : ∀ (a : Addr) (w : World), (method 234 45 (.pointer (some a)) "Text").run Try.prog w = .ok (16, .pointer (some a)) w := fun a w => by kernel_rfl
  have hm2 : ∀ (a : Addr) (w : World), (method 234 46 (.pointer (some a)) "Text").run Try.prog w = .ok (43, .pointer (some a)) w := fun a w => by kernel_rfl
  have hl : ∀ {b o}, w.heap[b]? = some o → b < w.heap.size := fun h => (Array.getElem?_eq_some_iff.1 h).1
  have HB := Lib.hid (fun (w' : World) (h : Below w.heap.size w w') => (h.block b (hl hb)).trans hb)
  have HB1 := Lib.hid (fun (w' : World) (h : Below w.heap.size w w') => innerText w' b1 c1 c2 f1 g1 g2 ((h.block b1 (hl hb1)).trans hb1) ((h.block c1 (hl hc1)).trans hc1) ((h.block c2 (hl hc2)).trans hc2))
  have HB2 := Lib.hid (fun (w' : World) (h : Below w.heap.size w w') => (h.block b2 (hl hb2)).trans hb2)
  have HW := Lib.hid ((Below.refl w.heap.size w).drew)
  clear hb hb1 hb2 hl hc1 hc2
  go_enter Try.func16, Try.ntmps16
  go_wp2_with fail
  go_region_with (first
    | (go_at_call 16; refine (HB1.out _ (by first | exact HW.out | exact Below.refl _ _)).mono ?_; rintro e w2 ⟨rfl, hb2⟩; have HW2 := Lib.hid (HW.out.trans hb2); have g0 := hat0 (HB.out _ HW2.out) 0 (.string ⟨#[60]⟩) rfl; have g2 := hat0 (HB.out _ HW2.out) 2 (.iface 46 (.pointer (some ⟨b2, 0, none⟩))) rfl)
    | (go_at_call 43; refine (litText3 _ b2 f2 (HB2.out _ HW2.out)).mono ?_; rintro e w3 ⟨rfl, hb3⟩; have HW3 := Lib.hid (HW2.out.trans (hb3.mono HW2.out.size)); have g3 := hat0 (HB.out _ HW3.out) 0 (.string ⟨#[60]⟩) rfl; have g4 := hat0 (HB.out _ HW3.out) 2 (.iface 46 (.pointer (some ⟨b2, 0, none⟩))) rfl))
  all_goals
    go_wp2_with fail
    go_ret
    exact ⟨by kernel_rfl, HW3.out⟩
end Go.Proofs.Ytijohhadgioolaa
