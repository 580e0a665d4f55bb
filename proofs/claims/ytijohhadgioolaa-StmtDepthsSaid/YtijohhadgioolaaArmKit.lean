/-
  The arms of the switch in the law's build: the code of each, and what each leaves. No conditions.
-/
import Derived.Test.YtijohhadgioolaaOwnNode
import Derived.Test.YtijohhadgioolaaWoken
import Derived.Deep.RegionWith
import Derived.Deep.DeepCutAuto
namespace Go.Proofs.Ytijohhadgioolaa
open Go.RowKit
set_option linter.unusedVariables false
set_option linter.unusedSimpArgs false
set_option maxRecDepth 100000

def armOf (n : Nat) : Code → Option (Code × Code)
  | .cond (.tmp t) a b => if t = n then some (a, b) else match armOf n a with
    | some c => some c
    | none => armOf n b
  | .seq a b => match armOf n a with
    | some c => some c
    | none => armOf n b
  | .loop c => armOf n c
  | .block _ c => armOf n c
  | .scope c => armOf n c
  | _ => none
noncomputable def armT (n : Nat) : Code := (((Try.f7.body.bind (armOf n)).map Prod.fst).getD .skip)
noncomputable def armF (n : Nat) : Code := (((Try.f7.body.bind (armOf n)).map Prod.snd).getD .skip)
/-- what an arm leaves -/
structure ArmPost (B : Nat) (w w' : World) (v : Value) (n : Nat) : Prop where
  out : ∃ L, Out B w' v L ∧ total L ≤ n
  below : Below B w w'
theorem info35 : (Try.prog.info? 35).map (fun i => (i.zero, i.size, i.bytes)) = some (some (.agg #[.nilIface, .int .u8 0, .int .u8 0, .int .i64 0, .string ⟨#[]⟩, .bool false, .string ⟨#[]⟩, .string ⟨#[]⟩, .slice none 0 0]), 9, 120) := by kernel_rfl
theorem below_grown {w w' : World} {row : Option Nat} {B : Nat} (h : w.grownBy w' row) (hr : ∀ k, row = some k → B ≤ k) (hB : B ≤ w.heap.size) : Below B w w' :=
  ⟨h.os, h.tape, h.output, h.size, fun k hk => h.block k (Nat.lt_of_lt_of_le hk hB) fun e => by
    have := hr k e.symm
    omega⟩
theorem Out.base {B : Nat} {w : World} {v : Value} {L : List (Item × Ex)} (h : Out B w v L) : ∀ k, v.ownBlock = some k → B ≤ k := fun k hk => (h.own.lt k hk).1
theorem cells_new (w : World) (l : List Value) (t : TypeId) : ∀ j u, l[j]? = some u → (w.alloc (.cells l.toArray t)).cell? ((⟨w.heap.size, 0, none⟩ : Addr).add j) = some u := by
  intro j u h
  have hn : (w.alloc (.cells l.toArray t)).heap[w.heap.size]? = some (.cells l.toArray t (0, 0)) := by simp [World.alloc, -World.alloc_eq]
  have e : (⟨w.heap.size, 0, none⟩ : Addr).add j = ⟨w.heap.size, j, none⟩ := by
    unfold Addr.add
    split <;> simp_all
  rw [e]
  exact hat0 hn j u (by simpa using h)
/-- the cells of the row's last pair -/
theorem Out.last {B g n cp : Nat} {w : World} {L : List (Item × Ex)} {m : Item} {t : Ex} (h : Out B w (.slice (some ⟨g, 0, none⟩) (n + 1) cp) (L ++ [(m, t)])) (hn : L.length = n) :
    w.cell? ⟨g, n * 9, none⟩ = some (.iface m.d m.x) ∧ w.cell? ⟨g, n * 9 + 1, none⟩ = some (.int .u8 m.r.k) ∧ w.cell? ⟨g, n * 9 + 2, none⟩ = some (.int .u8 m.r.a) ∧ w.cell? ⟨g, n * 9 + 3, none⟩ = some (.int .i64 m.r.b) ∧ w.cell? ⟨g, n * 9 + 4, none⟩ = some (.string m.r.c) ∧ w.cell? ⟨g, n * 9 + 5, none⟩ = some (.bool m.r.e) ∧ w.cell? ⟨g, n * 9 + 6, none⟩ = some (.string m.r.t) ∧ w.cell? ⟨g, n * 9 + 7, none⟩ = some (.string m.r.s) ∧ w.cell? ⟨g, n * 9 + 8, none⟩ = some (.slice m.r.A m.r.n m.r.cp) := by
  have hc := h.own.cells (g := g) rfl
  have hk : ∀ j u, m.vals[j]? = some u → w.cell? ⟨g, n * 9 + j, none⟩ = some u := fun j u hu => by
    have e : (⟨g, 0, none⟩ : Addr).add (n * 9 + j) = ⟨g, n * 9 + j, none⟩ := by
      unfold Addr.add
      split <;> simp_all
    rw [← e]
    refine hc _ _ ?_
    rw [flat_snoc, List.getElem?_append_right (by rw [flat_len, hn]; omega), flat_len, hn]
    have e2 : n * 9 + j - n * 9 = j := by omega
    rw [e2]
    exact hu
  exact ⟨hk 0 _ rfl, hk 1 _ rfl, hk 2 _ rfl, hk 3 _ rfl, hk 4 _ rfl, hk 5 _ rfl, hk 6 _ rfl, hk 7 _ rfl, hk 8 _ rfl⟩
/-- the cells of the row's last pair but one -/
theorem Out.last2 {B g n cp : Nat} {w : World} {L : List (Item × Ex)} {m m2 : Item} {t t2 : Ex} (h : Out B w (.slice (some ⟨g, 0, none⟩) (n + 2) cp) (L ++ [(m, t)] ++ [(m2, t2)])) (hn : L.length = n) :
    w.cell? ⟨g, n * 9, none⟩ = some (.iface m.d m.x) ∧ w.cell? ⟨g, n * 9 + 1, none⟩ = some (.int .u8 m.r.k) ∧ w.cell? ⟨g, n * 9 + 2, none⟩ = some (.int .u8 m.r.a) ∧ w.cell? ⟨g, n * 9 + 3, none⟩ = some (.int .i64 m.r.b) ∧ w.cell? ⟨g, n * 9 + 4, none⟩ = some (.string m.r.c) ∧ w.cell? ⟨g, n * 9 + 5, none⟩ = some (.bool m.r.e) ∧ w.cell? ⟨g, n * 9 + 6, none⟩ = some (.string m.r.t) ∧ w.cell? ⟨g, n * 9 + 7, none⟩ = some (.string m.r.s) ∧ w.cell? ⟨g, n * 9 + 8, none⟩ = some (.slice m.r.A m.r.n m.r.cp) := by
  have h0 := h.own
  rw [List.length_append, List.length_append, hn, flat_snoc] at h0
  have h1 : Out B w (.slice (some ⟨g, 0, none⟩) (n + 1) cp) (L ++ [(m, t)]) := ⟨by
    rw [List.length_append, hn]
    exact ownsRow_pop (by rw [flat_len, List.length_append, hn]; rfl) h0, fun p hp => h.is p (by simp only [List.mem_append] at hp ⊢; exact .inl hp)⟩
  exact h1.last hn
theorem Out.free {B g n cp : Nat} {w : World} {L : List (Item × Ex)} (h : Out B w (.slice (some ⟨g, 0, none⟩) n cp) L) (k : Nat) : w.frozen? ⟨g, k, none⟩ = false := by
  have hl : L.length = n := by
    have := h.own.1
    rw [flat_len] at this
    rcases h.own.2 with ⟨h1, h2⟩ | ⟨g', cap', cur, hv, _, hh, _⟩
    · cases h1
    · simp only [Value.slice.injEq] at hv
      exact hv.2.1.symm
  have := h.own
  rw [hl] at this
  exact this.frozenAt k
theorem Out.own' {B : Nat} {w : World} {v : Value} {L : List (Item × Ex)} (h : Out B w v L) : w.ownsRow B 35 9 v L.length (flat L) := h.own
/-- one pair more, behind an append -/
theorem ArmPost.push {B : Nat} {wc w1 w' : World} {v v' : Value} {L : List (Item × Ex)} {n : Nat} (h : Out B w1 v L) (hB : Below B wc w1) (hs : B ≤ w1.heap.size) (m : Item) (t : Ex) (hm : m.Is w1 t) (hc : total L + t.count ≤ n) (hown : w'.ownsRow B 35 9 v' (L.length + 1) (flat L ++ m.vals)) (hg : w1.grownBy w' v.ownBlock) : ArmPost B wc w' v' n :=
  ⟨⟨L ++ [(m, t)], h.push m t hm hown hg, by rw [total_snoc]; exact hc⟩, hB.trans (below_grown hg h.base hs)⟩
theorem grown_trans {a b c : World} {r : Option Nat} (h : a.grownBy b r) (k : b.grownBy c r) : a.grownBy c r :=
  ⟨k.os.trans h.os, k.tape.trans h.tape, k.output.trans h.output, Nat.le_trans h.size k.size, fun i hi hr => (k.block i (Nat.lt_of_lt_of_le hi h.size) hr).trans (h.block i hi hr)⟩
theorem row_of {B : Nat} {w : World} {v : Value} {L : List (Item × Ex)} (h : Out B w v L) : w.ownsRow B 35 9 v L.length (flat L) := h.own
/-- nine cells are stored -/
def store9 (w : World) (g k : Nat) (m : Item) : World :=
  ((((((((w.setCell ⟨g, k, none⟩ (.iface m.d m.x)).setCell ⟨g, k + 1, none⟩ (.int .u8 m.r.k)).setCell ⟨g, k + 2, none⟩ (.int .u8 m.r.a)).setCell ⟨g, k + 3, none⟩ (.int .i64 m.r.b)).setCell ⟨g, k + 4, none⟩ (.string m.r.c)).setCell ⟨g, k + 5, none⟩ (.bool m.r.e)).setCell ⟨g, k + 6, none⟩ (.string m.r.t)).setCell ⟨g, k + 7, none⟩ (.string m.r.s)).setCell ⟨g, k + 8, none⟩ (.slice m.r.A m.r.n m.r.cp)
theorem store9_size (w : World) (g k : Nat) (m : Item) : (store9 w g k m).heap.size = w.heap.size := by simp [store9]
theorem set_mid : ∀ (A : List Value) (a0 a1 a2 a3 a4 a5 a6 a7 a8 b0 b1 b2 b3 b4 b5 b6 b7 b8 : Value), ((((((((((A ++ [a0, a1, a2, a3, a4, a5, a6, a7, a8]).set A.length b0).set (A.length + 1) b1).set (A.length + 2) b2).set (A.length + 3) b3).set (A.length + 4) b4).set (A.length + 5) b5).set (A.length + 6) b6).set (A.length + 7) b7).set (A.length + 8) b8) = A ++ [b0, b1, b2, b3, b4, b5, b6, b7, b8]
  | [], a0, a1, a2, a3, a4, a5, a6, a7, a8, b0, b1, b2, b3, b4, b5, b6, b7, b8 => rfl
  | x :: A, a0, a1, a2, a3, a4, a5, a6, a7, a8, b0, b1, b2, b3, b4, b5, b6, b7, b8 => congrArg (x :: ·) (set_mid A a0 a1 a2 a3 a4 a5 a6 a7 a8 b0 b1 b2 b3 b4 b5 b6 b7 b8)
theorem Out.store9 {B g n cp : Nat} {w : World} {L : List (Item × Ex)} {m : Item} {t : Ex} (h : Out B w (.slice (some ⟨g, 0, none⟩) (n + 1) cp) (L ++ [(m, t)])) (hn : L.length = n) (m' : Item) :
    (store9 w g (n * 9) m').ownsRow B 35 9 (.slice (some ⟨g, 0, none⟩) (n + 1) cp) (n + 1) (flat L ++ m'.vals) ∧ w.grownBy (store9 w g (n * 9) m') (some g) := by
  have h0 := h.own
  rw [List.length_append, hn, flat_snoc] at h0
  have e : (flat L).length = n * 9 := by rw [flat_len, hn]
  have h1 := h0.stored (n * 9) (.iface m'.d m'.x)
  have h2 := h1.1.stored (n * 9 + 1) (.int .u8 m'.r.k)
  have h3 := h2.1.stored (n * 9 + 2) (.int .u8 m'.r.a)
  have h4 := h3.1.stored (n * 9 + 3) (.int .i64 m'.r.b)
  have h5 := h4.1.stored (n * 9 + 4) (.string m'.r.c)
  have h6 := h5.1.stored (n * 9 + 5) (.bool m'.r.e)
  have h7 := h6.1.stored (n * 9 + 6) (.string m'.r.t)
  have h8 := h7.1.stored (n * 9 + 7) (.string m'.r.s)
  have h9 := h8.1.stored (n * 9 + 8) (.slice m'.r.A m'.r.n m'.r.cp)
  refine ⟨?_, grown_trans (grown_trans (grown_trans (grown_trans (grown_trans (grown_trans (grown_trans (grown_trans h1.2 h2.2) h3.2) h4.2) h5.2) h6.2) h7.2) h8.2) h9.2⟩
  have e2 := set_mid (flat L) (.iface m.d m.x) (.int .u8 m.r.k) (.int .u8 m.r.a) (.int .i64 m.r.b) (.string m.r.c) (.bool m.r.e) (.string m.r.t) (.string m.r.s) (.slice m.r.A m.r.n m.r.cp) (.iface m'.d m'.x) (.int .u8 m'.r.k) (.int .u8 m'.r.a) (.int .i64 m'.r.b) (.string m'.r.c) (.bool m'.r.e) (.string m'.r.t) (.string m'.r.s) (.slice m'.r.A m'.r.n m'.r.cp)
  rw [e] at e2
  have h10 := h9.1
  rw [show flat L ++ m.vals = flat L ++ [.iface m.d m.x, .int .u8 m.r.k, .int .u8 m.r.a, .int .i64 m.r.b, .string m.r.c, .bool m.r.e, .string m.r.t, .string m.r.s, .slice m.r.A m.r.n m.r.cp] from rfl, e2] at h10
  exact h10
/-- the last pair is another one now -/
theorem ArmPost.last {B g n cp k : Nat} {wc W' : World} {L : List (Item × Ex)} {m : Item} {t : Ex} (h : Out B wc (.slice (some ⟨g, 0, none⟩) (n + 1) cp) (L ++ [(m, t)])) (hn : L.length = n) (hB : B ≤ wc.heap.size) (m' : Item) (t' : Ex) (hg : (store9 wc g (n * 9) m').grownBy W' none) (hm : (Keep wc W' → m'.Is W' t')) (hc : total L + t'.count ≤ k) : ArmPost B wc W' (.slice (some ⟨g, 0, none⟩) (n + 1) cp) k := by
  obtain ⟨h1, h2⟩ := h.store9 hn m'
  have hk1 : Keep wc (store9 wc g (n * 9) m') := keep_grown (row_of h) h2
  have hk2 : Keep (store9 wc g (n * 9) m') W' := keep_below (below_grown hg (fun k e => by cases e) (Nat.le_refl _))
  have hk := hk1.trans hk2
  refine ⟨⟨L ++ [(m', t')], ⟨?_, ?_⟩, by rw [total_snoc]; exact hc⟩, ?_⟩
  · rw [List.length_append, hn, flat_snoc]
    exact h1.kept hg (.inr (by simp [Value.ownBlock]))
  · intro p hp
    rcases List.mem_append.1 hp with hp | hp
    · exact (h.is p (List.mem_append.2 (.inl hp))).keep hk
    · obtain rfl := List.mem_singleton.1 hp
      exact hm hk
  · have hb : B ≤ g := h.base g rfl
    exact (below_grown h2 (fun k e => by cases e; exact hb) hB).trans (below_grown hg (fun k e => by cases e) (by rw [store9_size]; exact hB))
theorem two_new (W0 : World) (o1 o2 : Obj) (z : Nat) (hz : W0.heap.size = z) : ((W0.alloc o1).alloc o2).drew.heap[z]? = some o1 ∧ ((W0.alloc o1).alloc o2).drew.heap[z + 1]? = some o2 ∧ W0.grownBy ((W0.alloc o1).alloc o2).drew none := by
  subst hz
  refine ⟨?_, ?_, ?_⟩
  · show ((W0.alloc o1).alloc o2).heap[W0.heap.size]? = _
    rw [alloc_at _ _ _ (by simp), alloc_new]
  · show ((W0.alloc o1).alloc o2).heap[W0.heap.size + 1]? = _
    rw [← alloc_sz W0 o1, alloc_new]
  · exact grown_trans (grown_trans (World.grownBy_alloc W0 o1 none) (World.grownBy_alloc _ o2 none)) ⟨rfl, rfl, rfl, Nat.le_refl _, fun _ _ _ => rfl⟩
theorem last_un {B g n cp k : Nat} {wc W' : World} {L : List (Item × Ex)} {m : Item} {t : Ex} (h : Out B wc (.slice (some ⟨g, 0, none⟩) (n + 1) cp) (L ++ [(m, t)])) (hn : L.length = n) (hB : B ≤ wc.heap.size) (z1 z2 : Nat) (r : RV) (hr : r.n = 1 ∧ r.A = some ⟨z2, 0, none⟩) (c0 : Value)
    (h1 : W'.heap[z1]? = some (.cells #[c0, .iface m.d m.x] 41 (0, 0))) (h2 : W'.heap[z2]? = some (.cells m.r.vals.toArray 33 (0, 0)))
    (hg : (store9 wc g (n * 9) ⟨39, .pointer (some ⟨z1, 0, none⟩), r⟩).grownBy W' none) (hc : total L + t.count + 1 ≤ k) : ArmPost B wc W' (.slice (some ⟨g, 0, none⟩) (n + 1) cp) k :=
  ArmPost.last h hn hB _ (.un t) hg (fun hk => by
    have hm := (h.is (m, t) (by simp)).keep hk
    exact ⟨⟨_, _, _, _, rfl, h1, hm.1⟩, hr.1, _, _, _, hr.2, h2, hm.2⟩) (by simp only [Ex.count]; omega)
theorem last_agg {B g n cp k : Nat} {wc W' : World} {L : List (Item × Ex)} {m : Item} {t : Ex} (h : Out B wc (.slice (some ⟨g, 0, none⟩) (n + 1) cp) (L ++ [(m, t)])) (hn : L.length = n) (hB : B ≤ wc.heap.size) (z1 z2 : Nat) (r : RV) (hr : r.n = 1 ∧ r.A = some ⟨z2, 0, none⟩) (c0 : Value)
    (h1 : W'.heap[z1]? = some (.cells #[c0, .iface m.d m.x] 67 (0, 0))) (h2 : W'.heap[z2]? = some (.cells m.r.vals.toArray 33 (0, 0)))
    (hg : (store9 wc g (n * 9) ⟨65, .pointer (some ⟨z1, 0, none⟩), r⟩).grownBy W' none) (hc : total L + t.count + 1 ≤ k) : ArmPost B wc W' (.slice (some ⟨g, 0, none⟩) (n + 1) cp) k :=
  ArmPost.last h hn hB _ (.agg t) hg (fun hk => by
    have hm := (h.is (m, t) (by simp)).keep hk
    exact ⟨⟨_, _, _, _, rfl, h1, hm.1⟩, hr.1, _, _, _, hr.2, h2, hm.2⟩) (by simp only [Ex.count]; omega)
theorem three_new (W0 : World) (o1 o2 o3 : Obj) (z : Nat) (hz : W0.heap.size = z) : (((W0.alloc o1).alloc o2).alloc o3).drew.heap[z]? = some o1 ∧ (((W0.alloc o1).alloc o2).alloc o3).drew.heap[z + 1 + 1]? = some o3 ∧ W0.grownBy (((W0.alloc o1).alloc o2).alloc o3).drew none := by
  subst hz
  refine ⟨?_, ?_, ?_⟩
  · show (((W0.alloc o1).alloc o2).alloc o3).heap[W0.heap.size]? = _
    rw [alloc_at _ _ _ (by simp; omega), alloc_at _ _ _ (by simp), alloc_new]
  · show (((W0.alloc o1).alloc o2).alloc o3).heap[W0.heap.size + 1 + 1]? = _
    rw [← alloc_sz W0 o1, ← alloc_sz (W0.alloc o1) o2, alloc_new]
  · exact grown_trans (grown_trans (grown_trans (World.grownBy_alloc W0 o1 none) (World.grownBy_alloc _ o2 none)) (World.grownBy_alloc _ o3 none)) ⟨rfl, rfl, rfl, Nat.le_refl _, fun _ _ _ => rfl⟩
theorem Out.pop2 {B g n cp : Nat} {w W : World} {L : List (Item × Ex)} {m m2 : Item} {t t2 : Ex} (h : Out B w (.slice (some ⟨g, 0, none⟩) (n + 2) cp) (L ++ [(m, t)] ++ [(m2, t2)])) (hn : L.length = n) (hg : w.grownBy W none) (hB : B ≤ w.heap.size) :
    Out B W (.slice (some ⟨g, 0, none⟩) (n + 1) cp) (L ++ [(m, t)]) ∧ m.Is W t ∧ m2.Is W t2 ∧ Below B w W ∧ n + 2 ≤ cp ∧ Out B W (.slice (some ⟨g, 0, none⟩) n cp) L := by
  have h0 := h.own
  rw [List.length_append, List.length_append, hn, flat_snoc] at h0
  have hk : Keep w W := keep_below (below_grown hg (fun k e => by cases e) (Nat.le_refl _))
  have h1 := ownsRow_pop (by rw [flat_len, List.length_append, hn]; rfl) h0
  refine ⟨⟨?_, fun p hp => (h.is p (by simp only [List.mem_append] at hp ⊢; exact .inl hp)).keep hk⟩, (h.is (m, t) (by simp)).keep hk, (h.is (m2, t2) (by simp)).keep hk, below_grown hg (fun k e => by cases e) hB, ?_, ?_, fun p hp => (h.is p (by simp only [List.mem_append] at hp ⊢; exact .inl (.inl hp))).keep hk⟩
  · rw [List.length_append, hn]
    exact h1.kept hg (.inr (by simp [Value.ownBlock]))
  · rcases h0.2 with ⟨h', _⟩ | ⟨g', cap', cur, hv, _, _, hc, _⟩
    · cases h'
    · cases hv
      exact hc
  · rw [flat_snoc] at h1
    have h2 := ownsRow_pop (by rw [flat_len, hn]) h1
    rw [hn]
    exact h2.kept hg (.inr (by simp [Value.ownBlock]))
theorem three_mid (W0 : World) (o1 o2 o3 : Obj) (z : Nat) (hz : W0.heap.size = z) : (((W0.alloc o1).alloc o2).alloc o3).drew.heap[z]? = some o1 ∧ (((W0.alloc o1).alloc o2).alloc o3).drew.heap[z + 1]? = some o2 ∧ W0.grownBy (((W0.alloc o1).alloc o2).alloc o3).drew none := by
  obtain ⟨h1, _, h3⟩ := three_new W0 o1 o2 o3 z hz
  refine ⟨h1, ?_, h3⟩
  subst hz
  show (((W0.alloc o1).alloc o2).alloc o3).heap[W0.heap.size + 1]? = _
  rw [alloc_at _ _ _ (by simp), ← alloc_sz W0 o1, alloc_new]
theorem push_bin {B n k z1 z2 : Nat} {wc W W1 w1 : World} {v v' : Value} {L : List (Item × Ex)} {m m2 : Item} {t t2 : Ex} (hO : Out B W v L) (hn : L.length = n) (hk : W.grownBy W1 none) (hs : B ≤ W.heap.size) (hB : Below B wc W) (hm : m.Is W t) (hm2 : m2.Is W t2) (s : ByteArray)
    (h1 : W1.heap[z1]? = some (.cells #[.string s, .iface m.d m.x, .iface m2.d m2.x] 50 (0, 0))) (h2 : W1.heap[z2]? = some (.cells (m.r.vals ++ m2.r.vals).toArray 33 (0, 0))) (hc : total L + t.count + t2.count + 1 ≤ k)
    (hown : w1.ownsRow B 35 9 v' (n + 1) (flat L ++ (Item.mk 45 (.pointer (some ⟨z1, 0, none⟩)) ⟨4, 0, 0, ⟨#[]⟩, false, ⟨#[]⟩, s, some ⟨z2, 0, none⟩, 2, 2⟩).vals)) (hg : W1.grownBy w1 v.ownBlock) : ArmPost B wc w1 v' k := by
  have hkk : Keep W W1 := keep_below (below_grown hk (fun k e => by cases e) (Nat.le_refl _))
  have hO1 : Out B W1 v L := ⟨hO.own.kept hk (by cases hv : v.ownBlock with | none => exact .inl rfl | some k => exact .inr (by simp)), fun p hp => (hO.is p hp).keep hkk⟩
  subst hn
  exact ArmPost.push hO1 (hB.trans (below_grown hk (fun k e => by cases e) hs)) (Nat.le_trans hs hk.size) _ (.bin t t2) ⟨⟨_, _, _, _, _, rfl, h1, (hm.keep hkk).1, (hm2.keep hkk).1⟩, rfl, _, _, _, _, rfl, h2, (hm.keep hkk).2, (hm2.keep hkk).2⟩ (by simp only [Ex.count]; omega) hown hg
theorem three_last (W : World) (o1 o2 o3 : Obj) : (((W.alloc o1).alloc o2).alloc o3).drew.heap[W.heap.size + 1 + 1]? = some o3 := (three_new W o1 o2 o3 _ rfl).2.1
theorem three_size (W : World) (o1 o2 o3 : Obj) : (((W.alloc o1).alloc o2).alloc o3).drew.heap.size = W.heap.size + 1 + 1 + 1 := by
  show (((W.alloc o1).alloc o2).alloc o3).heap.size = _
  simp
theorem cell3 {W : World} (o1 o2 o3 : Obj) {p : Addr} {v : Value} (h : W.cell? p = some v) : (((W.alloc o1).alloc o2).alloc o3).drew.cell? p = some v :=
  cell_keep (((((Below.refl _ W).alloc (Nat.le_refl _) o1).alloc (by simp) o2).alloc (by simp; omega) o3).drew) h
theorem far3 {W w1 : World} {o1 o2 o3 : Obj} {g : Nat} (hg : (((W.alloc o1).alloc o2).alloc o3).drew.grownBy w1 (some g)) {p : Addr} {v : Value} (h : W.cell? p = some v) (hne : p.block ≠ g) : w1.cell? p = some v :=
  hg.cell (cell3 o1 o2 o3 h) (by simpa using hne)
theorem last_is {B g n cp k : Nat} {wc W' : World} {L : List (Item × Ex)} {m : Item} {t : Ex} (h : Out B wc (.slice (some ⟨g, 0, none⟩) (n + 1) cp) (L ++ [(m, t)])) (hn : L.length = n) (hB : B ≤ wc.heap.size) (z1 z2 : Nat) (r : RV) (hr : r.n = 1 ∧ r.A = some ⟨z2, 0, none⟩) (c0 : Value)
    (h1 : W'.heap[z1]? = some (.cells #[.iface m.d m.x, c0] 44 (0, 0))) (h2 : W'.heap[z2]? = some (.cells m.r.vals.toArray 33 (0, 0)))
    (hg : (store9 wc g (n * 9) ⟨42, .pointer (some ⟨z1, 0, none⟩), r⟩).grownBy W' none) (hc : total L + t.count + 1 ≤ k) : ArmPost B wc W' (.slice (some ⟨g, 0, none⟩) (n + 1) cp) k :=
  ArmPost.last h hn hB _ (.is t) hg (fun hk => by
    have hm := (h.is (m, t) (by simp)).keep hk
    exact ⟨⟨_, _, _, _, rfl, h1, hm.1⟩, hr.1, _, _, _, hr.2, h2, hm.2⟩) (by simp only [Ex.count]; omega)
end Go.Proofs.Ytijohhadgioolaa
