/-
  What the rows of package cell share: a value by value opened and shut; from the listed tables to what the walks ask of the world; the start that fits.
-/
import Derived.Test.YtpkohkhgimmkhaaDoorRows
import Derived.Test.YtpkohkhgimmkhaaDoorCards
import Derived.Test.YtpkohkhgimmkhaaDoorTie
import Derived.Test.YtpkohkhgimmkhaaDoorCellAwake
import Derived.ProofKit
import Derived.LaidMore
import Derived.Lay
import Derived.OpenShut
import Derived.Stop.Joined
import Derived.Lib.LaidU8
import Derived.PinnedBridge
import Derived.Lib.SmallJoins
import Derived.SevenTiedAt
import Derived.Handed
import Derived.HandedShaped
namespace Go.Proofs.YtpkohkhgimmkhaaDoor
open Go.ChangeShapes Go.WideShapes Go.ChangeAt Go.RowKit Go.Joins
open Go.ChangeMaps (open_string shut_string)
set_option linter.unusedVariables false
set_option linter.unusedSimpArgs false

theorem own : ownKnob Tryd.prog.godebug = none := by kernel_rfl
theorem rng {a : Int} (h : (Lit.int .i64 a).wf = true) : R a := by
  have := bounds_i64 h
  unfold R
  omega
abbrev laidL : List (String × DataW Unit) := Rows.cellNotsRow.laid
theorem val_cells : Tryd.prog.cellsOf 24 = 4 := by kernel_rfl

section
variable {H : Type} {enc : TypeId × Value → H}
theorem open_value {W : World} {base : Nat} {spare : Nat → Bool} {held : Bool} {v : Value} {d : DataW H} {p : List MemPlace}
    (hv : Value.okWide Tryd.prog W .any base 24 v) (h : DataW.Trod enc Tryd.prog W 0 spare held 24 v d p) :
    ∃ (k i : Int) (s : ByteArray) (b : Bool), v = .agg #[.int .u8 k, .int .i64 i, .string s, .bool b] ∧ d = .agg [.lit (.int .u8 k), .lit (.int .i64 i), .lit (.string s.data.toList), .lit (.bool b)] ∧ p = [] ∧ (Lit.int .u8 k).wf = true ∧ (Lit.int .i64 i).wf = true ∧ s.size ≤ maxLen := by
  obtain ⟨c0, c1, c2, c3, y0, y1, y2, y3, n, rfl, rfl, rfl, h0, h1, h2, h3⟩ := open_agg4 Tryd.underlying24 (by kernel_rfl) val_cells hv h
  obtain ⟨k, e0, rfl, wk⟩ := DataW.trod_int Tryd.underlying22 h0
  obtain ⟨i, e1, rfl, wi⟩ := DataW.trod_int Tryd.underlying2 h1
  obtain ⟨s, e2, rfl, ws⟩ := DataW.trod_string Tryd.underlying9 h2
  obtain ⟨b, e3, rfl⟩ := DataW.trod_bool Tryd.underlying4 h3
  simp only [List.cons.injEq, and_true] at e0 e1 e2 e3
  subst e0 e1 e2 e3
  exact ⟨k, i, s, b, rfl, rfl, rfl, wk, wi, ws⟩
theorem shut_value {W : World} {base : Nat} {spare : Nat → Bool} {held : Bool} {k i : Int} {s : ByteArray} {b : Bool} (wk : (Lit.int .u8 k).wf = true) (wi : (Lit.int .i64 i).wf = true) (ws : s.size ≤ maxLen) :
    DataW.Trod enc Tryd.prog W base spare held 24 (.agg #[.int .u8 k, .int .i64 i, .string s, .bool b]) (.agg [.lit (.int .u8 k), .lit (.int .i64 i), .lit (.string s.data.toList), .lit (.bool b)]) [] :=
  shut_agg4 (y0 := (.lit (.int .u8 k), [])) (y1 := (.lit (.int .i64 i), [])) (y2 := (.lit (.string s.data.toList), [])) (y3 := (.lit (.bool b), [])) Tryd.underlying24 (by kernel_rfl) val_cells
    ⟨1, by simp [DataW.trod, Tryd.underlying22, wk]⟩ ⟨1, by simp [DataW.trod, Tryd.underlying2, wi]⟩ ⟨1, by simp [DataW.trod, Tryd.underlying9, ws]⟩ ⟨1, by simp [DataW.trod, Tryd.underlying4]⟩

/-- 'returnsInHanded_of_change_and' (Derived/Handed.lean) with the world's shape kept for the contract -/
theorem handed {a : Assume} {C : Checked} {os : Os} {f : FuncId} {fn : Func} {s : ChangeSpec} {conds : List PathCond} {apart fresh handsOn again : Bool} {X : World → Array Value → Prop}
    (hX : ∀ (w w' : World) (args : Array Value), w.heap = w'.heap → X w args → X w' args)
    (own : ownKnob C.prog.godebug = none) (started : os.Started) (noInit : C.prog.inits.idxOf? f = none) (hfn : C.prog.funcs[f]? = some fn)
    (witness : ∃ (w : World) (tape : Tape) (i : Input), w.os = os ∧ (w.forCall tape i).Shaped C.prog ∧ i.vars = [] ∧ Input.okWide C.prog (w.forCall tape i) .any w.heap.size f i ∧
      ((s.pre enc C.prog fn conds apart (w.forCall tape i).memory i.args ∧ X (w.forCall tape i).memory i.args) ∧ sizedMet enc C.prog fn (OpenSpec.ofChange s) apart (w.forCall tape i).memory i.args) ∧ a.holds C.prog (lone (Frame.enter C.prog f i.args .normal) [] (w.forCall tape i)))
    (contract : ∀ (W : World) (base : Nat) (args : Array Value) (ds gs : List (DataW H)) (before : List MemPlace),
      (∀ (j : Nat) t v, fn.params[j]? = some t → args[j]? = some v → Value.okWide C.prog W .any base t v) →
      DataW.Whole enc C.prog fn.params.toList s.vars apart W args.toList ds gs before →
      X W args → W.ShapedOpen C.prog →
      Calls C.prog f args W fun e W' => ∃ v, e = .returned v ∧ s.post enc C.prog fn apart fresh handsOn again W args v W') :
    ReturnsInHanded a C os f .any (fun w args => (s.pre enc C.prog fn conds apart w args ∧ X w args) ∧ sizedMet enc C.prog fn (OpenSpec.ofChange s) apart w args) (s.post enc C.prog fn apart fresh handsOn again) := by
  refine returnsInHanded_of_calls own started noInit witness ?_
  intro w tape i _ hsh _ hok hpre hholds
  obtain ⟨_, _, _, fn', hfn', _, _, _, _, hval⟩ := hok
  have e : fn' = fn := Option.some.inj (hfn'.symm.trans hfn)
  subst e
  obtain ⟨⟨⟨ds, gs, before, hw, hc⟩, hx⟩, hz⟩ := hpre
  have hw' := DataW.Whole.of_heap (w' := w.forCall tape i) (by rfl) hw
  refine (contract (w.forCall tape i) w.heap.size i.args ds gs before hval hw' (hX _ _ _ (by rfl) hx) hsh).mono fun e W' ⟨v, he, hp⟩ => ?_
  subst he
  exact ChangeSpec.post_blind hp
end

theorem u8x : U8Extra Tryd.prog Tryd.lays260_ren where
  n3 := by kernel_rfl
  n4 := by kernel_rfl
  y3 := by kernel_rfl
  y4 := by kernel_rfl
  c5 := by kernel_rfl
  c119 := by kernel_rfl
  c138 := by kernel_rfl
theorem env_of {W : World} (h : laidMetH Tryd.prog laidL W) (hsh : W.ShapedOpen Tryd.prog) : Env W := by
  rw [MakeChecks.laidMetH_plain _ _ _ (by kernel_rfl)] at h
  refine ⟨?_, ?_, ?_⟩
  · have hm : ("internal/strconv.uint64pow10", (Lib.tabData .u64 Lib.pow10Tab : DataW Unit)) ∈ laidL := List.mem_cons_of_mem _ (List.mem_cons_of_mem _ (List.mem_cons_self ..))
    obtain ⟨g, t, cs, fuel, p, hg, ht, hv, hd⟩ := Lib.laidMet.reads h hm
    obtain rfl := Option.some.inj (gPow.symm.trans hg)
    obtain rfl := Option.some.inj ((show (Tryd.prog.globals[3]?).map (·.type) = some 94 by kernel_rfl).symm.trans ht)
    have hc := Lib.cells_of_tab Tryd.underlying94 Tryd.underlying56 (by kernel_rfl) (by kernel_rfl) hd
    unfold Pow Lib.TabIs
    rw [hv, ← hc]
  · exact Go.Proofs.cell_of_shapedOpen_int (zero := #[.int .i64 0]) (t := 3) hsh (of_decide_eq_true (by kernel_rfl)) (by kernel_rfl) rfl (by kernel_rfl) (by kernel_rfl) Tryd.underlying3
  · have h3 : ("unicode/utf8.first", Lib.firstData) ∈ laidL := by
      rw [← Pinned.utf8First_eq]
      exact List.mem_cons_of_mem _ (List.mem_cons_of_mem _ (List.mem_cons_of_mem _ (List.mem_cons_of_mem _ (List.mem_cons_self ..))))
    have h4 : ("unicode/utf8.acceptRanges", Lib.acceptData) ∈ laidL := by
      rw [show Lib.acceptData = Rows.laid_unicode_utf8_acceptRanges by kernel_rfl]
      exact List.mem_cons_of_mem _ (List.mem_cons_of_mem _ (List.mem_cons_of_mem _ (List.mem_cons_self ..)))
    exact utf8Tabs_of_reads Tryd.lays260 u8x (Lib.laidMet.reads h h3) (Lib.laidMet.reads h h4)
theorem door_met (os : Os) (args : Array Value) : laidMetH Tryd.prog laidL ((World.laidAll Tryd.prog os laidL).forCall (fun _ _ => 0) ⟨#[], args, []⟩).memory := by
  rw [MakeChecks.laidMetH_plain _ _ _ (by kernel_rfl)]
  exact laidMet_laidAll _ (by kernel_rfl) (by kernel_rfl)
theorem door_shaped (os : Os) (args : Array Value) : ((World.laidAll Tryd.prog os laidL).forCall (fun _ _ => 0) ⟨#[], args, []⟩).Shaped Tryd.prog := World.shaped_of_ZipB (by kernel_rfl) (by kernel_rfl)
end Go.Proofs.YtpkohkhgimmkhaaDoor
