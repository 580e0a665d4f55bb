/-
  The walk of LexCases: great and small letters are turned about in a copy, both texts are lexed, and the tokens are the same. Conditions: the row of bools reads as bools; the library's tables are as laid.
-/
import Derived.Test.YtfbikpddpdkllaaDoorLexCaseLaw
import Derived.Lib.ConvBytes
import Derived.Laws.BytesArg
import Derived.LoopTactic
import Derived.Outline
namespace Go.Proofs.YtfbikpddpdkllaaDoor
open Go.RowKit Go.Proofs.YtfbikpddpdkllaaDoor.Lx Go.Proofs.YtfbikpddpdkllaaDoorW.PrintWords Go.Proofs.YtfbikpddpdkllaaDoorW.PrintMore
set_option linter.unusedVariables false
set_option linter.unusedSimpArgs false
set_option maxRecDepth 4000

/-- a slice of bools that is read -/
def IsBools (w : World) (a : Option Addr) (len : Nat) : Prop := (a = none ∧ len = 0) ∨ ∃ (x : Addr) (B : Nat → Bool), a = some x ∧ ∀ i, i < len → w.cell? (x.add i) = some (.bool (B i))
theorem IsBools.below {w w' : World} {a : Option Addr} {len : Nat} (h : IsBools w a len) (hb : Below w.heap.size w w') : IsBools w' a len := by
  rcases h with h | ⟨x, B, h1, h2⟩
  · exact .inl h
  · exact .inr ⟨x, B, h1, fun i hi => pw_cell_below hb (h2 i hi)⟩
/-- the copy's row: its bytes, and that they may be written -/
structure Row (w : World) (g : Nat) (Q : List UInt8) : Prop where
  z : g < w.heap.size
  c : ∀ j c, Q[j]? = some c → w.cell? ⟨g, j, none⟩ = some (.int .u8 (c.toNat : Int)) ∧ w.frozen? ⟨g, j, none⟩ = false
theorem Row.set {w : World} {g : Nat} {Q : List UInt8} (h : Row w g Q) (j : Nat) (c : UInt8) (hj : j < Q.length) : Row (w.setCell ⟨g, j, none⟩ (.int .u8 (c.toNat : Int))) g (Q.set j c) where
  z := by simpa using h.z
  c := by
    intro i d hi
    obtain ⟨e1, e2⟩ := h.c j Q[j] (List.getElem?_eq_getElem hj)
    by_cases hij : j = i
    · subst hij
      rw [List.getElem?_set_self hj] at hi
      obtain rfl := Option.some.inj hi
      exact ⟨World.cell?_setCell_same _ _ _ e1, by rw [World.frozen?_setCell]; exact e2⟩
    · rw [List.getElem?_set_ne hij] at hi
      obtain ⟨f1, f2⟩ := h.c i d hi
      refine ⟨?_, by rw [World.frozen?_setCell]; exact f2⟩
      rw [World.cell?_setCell_other _ _ _ _ (by intro e; injection e with _ e _; exact hij e)]
      exact f1
theorem Row.below {w w' : World} {g : Nat} {Q : List UInt8} (h : Row w g Q) (hb : Below w.heap.size w w') : Row w' g Q where
  z := Nat.lt_of_lt_of_le h.z hb.size
  c := fun j c hj => ⟨(hb.cell (p := ⟨g, j, none⟩) h.z).trans (h.c j c hj).1, (hb.frozen (p := ⟨g, j, none⟩) h.z).trans (h.c j c hj).2⟩
theorem Row.new (w : World) (e : TypeId) (t : ByteArray) : Row (Lib.bytesWorld w e t) w.heap.size t.data.toList where
  z := by rw [Lib.bytesWorld_size]; omega
  c := by
    intro j c hj
    obtain ⟨h1, h2⟩ := List.getElem?_eq_some_iff.1 hj
    have h3 : j < t.size := by simpa using h1
    constructor
    · rw [Lib.bytesWorld_cell w e t j h3, List.getD_eq_getElem?_getD, hj]
      rfl
    · have hs : t.size ≤ (Lib.bytesCells w e t).size := by unfold Lib.bytesCells; simp
      simp only [World.frozen?, Lib.bytesWorld_at_new]
      simp
      omega
theorem low_put {c : UInt8} (h : 97 ≤ c.toNat ∧ c.toNat ≤ 122) : (c - 32).toNat = c.toNat - 32 ∧ lowB (c - 32) = lowB c := by
  have h1 : (c - 32).toNat = c.toNat - 32 := by
    rw [UInt8.toNat_sub_of_le _ _ (by rw [UInt8.le_iff_toNat_le]; show 32 ≤ c.toNat; omega)]
    rfl
  refine ⟨h1, UInt8.toNat_inj.1 ?_⟩
  rw [low_nat, low_nat, h1, if_pos (by omega), if_neg (by omega)]
  omega
theorem low_raise {c : UInt8} (h : 65 ≤ c.toNat ∧ c.toNat ≤ 90) : (c + 32).toNat = c.toNat + 32 ∧ lowB (c + 32) = lowB c := by
  have h1 : (c + 32).toNat = c.toNat + 32 := by
    rw [UInt8.toNat_add]
    show (c.toNat + 32) % 256 = _
    omega
  refine ⟨h1, UInt8.toNat_inj.1 ?_⟩
  rw [low_nat, low_nat, h1, if_neg (by omega), if_pos (by omega)]
theorem map_set (Q : List UInt8) (j : Nat) (c d : UInt8) (hj : Q[j]? = some d) (h : lowB c = lowB d) : (Q.set j c).map lowB = Q.map lowB := by
  rw [List.map_set, h]
  refine List.ext_getElem? fun i => ?_
  by_cases hij : j = i
  · subst hij
    have hl : j < (Q.map lowB).length := by
      have := (List.getElem?_eq_some_iff.1 hj).1
      simpa using this
    rw [List.getElem?_set_self hl, List.getElem?_map, hj]
    rfl
  · rw [List.getElem?_set_ne hij]
theorem cases_walk (s : ByteArray) (a1 : Option Addr) (len1 cap1 : Nat) (w : World) (hE : UEnv w) (hB : IsBools w a1 len1) (hl1 : len1 ≤ 9223372036854775807) :
    Calls Tryd.prog 7 #[.string s, .slice a1 len1 cap1] w fun e w' => e = .returned (.bool true) ∧ Below w.heap.size w w' := by
  obtain ⟨k0, hk0⟩ := awake_f.rounds
  obtain ⟨m, hm⟩ : ∃ m, m = min s.size 500 := ⟨_, rfl⟩
  have hm1 : m ≤ s.size := by omega
  have hm2 : m ≤ 500 := by omega
  have hmin : ∀ (ats : Array TypeId) (ty : TypeId), Builtin.min_ ats ty #[.int .i64 (s.size : Int), .int .i64 500] = pure (.int .i64 (m : Int)) := by
    intro ats ty
    rw [min_two, min2_int]
    have : (if (500 : Int) < (s.size : Int) then (500 : Int) else (s.size : Int)) = (m : Int) := by split <;> omega
    rw [this]
    rfl
  clear hm
  obtain ⟨t, ht⟩ : ∃ t, t = s.extract 0 m := ⟨_, rfl⟩
  have hts : t.size ≤ 500 := by rw [ht, ByteArray.size_extract]; omega
  go_enter Tryd.func7, Tryd.ntmps7
  go_wp2_with fail
  refine (lapidarylaw14_awake.calls k0 true w hE hk0).mono ?_
  rintro e w1 ⟨rfl, hb⟩
  go_wp2_with fail
  rw [← ht]
  have hmt : m = t.size := by rw [ht, ByteArray.size_extract]; omega
  clear ht hmin hm1 hm2 hk0
  subst hmt
  go_loop [5, 23] (fun _ i => ∃ k : Nat, i = .int .i64 k ∧ k ≤ t.size ∧ Hid (∀ c ∈ t.data.toList.take k, c ≠ 39)) (fun _ i => t.size - (intOf i).toNat)
  case atStart => exact ⟨0, rfl, by omega, Lib.hid (by simp)⟩
  case round =>
    obtain ⟨k, rfl, hk, hno⟩ := hrel
    by_cases hlt : k < t.size
    · have hli : (k : Int) < (t.size : Int) := Int.ofNat_lt.2 hlt
      by_cases h39 : t[k] = 39
      · have hq : (((t[k]).toNat : Int) == 39) = true := by rw [h39]; decide
        clear h39
        go_wp2_with fail
        go_ret
        exact ⟨rfl, hb⟩
      · have hq : (((t[k]).toNat : Int) == 39) = false := by
          rw [beq_eq_false_iff_ne]
          intro e
          exact h39 ((byte_39i _).1 e)
        have hno2 := Lib.hid (show ∀ c ∈ t.data.toList.take (k + 1), c ≠ 39 by
          rw [take_snoc t k hlt]
          intro c hc
          rcases List.mem_append.1 hc with hc | hc
          · exact hno.out c hc
          · obtain rfl := List.mem_singleton.1 hc
            exact h39)
        clear h39 hno
        go_wp2_with fail
        go_round
        case rel => exact ⟨k + 1, by go_num, by omega, hno2⟩
        case measure => simp [intOf]; omega
    · have kb : ∀ W : World, (convert 9 39 (.string t)).run Tryd.prog W = _ := fun W => Lib.run_convert_string_bytes W 9 39 5 t Tryd.underlying9 Tryd.underlying39 Tryd.underlying5
      have hno2 := Lib.hid (show ∀ c ∈ t.data.toList, c ≠ 39 by have := hno.out; rwa [take_all t k (by omega)] at this)
      clear hno
      go_wp2_with fail
      have hR0 := Lib.hid (Row.new w1 5 t)
      have hB0 : Below w.heap.size w (Lib.bytesWorld w1 5 t) := bytes_below hb hb.size _ _
      have hz0 := hb.size
      clear kb
      generalize grownCap w1 t.size 0 5 = G
      generalize Lib.bytesWorld w1 5 t = w2 at hR0 hB0 ⊢
      generalize w1.heap.size = g at hR0 hz0 ⊢
      have hlt0 : t.data.toList.length = t.size := by simp
      go_loopw [35] (fun i wr => ∃ (j : Nat) (Q : List UInt8), i = .int .i64 j ∧ j ≤ t.size ∧ Hid (Row wr g Q) ∧ Hid (Q.map lowB = t.data.toList.map lowB) ∧ Q.length = t.size ∧ Below w.heap.size w wr) (fun i _ => t.size - (intOf i).toNat)
      case atStart => exact ⟨0, t.data.toList, rfl, by omega, hR0, Lib.hid rfl, hlt0, hB0⟩
      case round =>
        obtain ⟨j, Q, rfl, hj, hR, hQ, hql, hbw⟩ := hrel
        by_cases hlj : j < t.size
        · obtain ⟨c, hc⟩ : ∃ c, Q[j]? = some c := ⟨Q[j], List.getElem?_eq_getElem (by omega)⟩
          obtain ⟨hcell, hfr⟩ := hR.out.c j c hc
          have hn1 : (j : Int) < (t.size : Int) := Int.ofNat_lt.2 hlj
          rcases (show (¬ j < len1) ∨ (j < len1 ∧ ∃ x, a1 = some x ∧ wr.cell? (x.add j) = some (.bool true)) ∨ (j < len1 ∧ ∃ x, a1 = some x ∧ wr.cell? (x.add j) = some (.bool false)) by
            by_cases hjl : j < len1
            · rcases hB with ⟨_, h⟩ | ⟨x, B, h1, h2⟩
              · omega
              · have h3 := pw_cell_below hbw (h2 j hjl)
                cases hx : B j with
                | true => rw [hx] at h3; exact .inr (.inl ⟨hjl, x, h1, h3⟩)
                | false => rw [hx] at h3; exact .inr (.inr ⟨hjl, x, h1, h3⟩)
            · exact .inl hjl) with hup | ⟨hup, x, rfl, hbx⟩ | ⟨hup, x, rfl, hbx⟩
          · have hui : ¬ (j : Int) < (len1 : Int) := by omega
            rcases (show c.toNat < 65 ∨ (65 ≤ c.toNat ∧ c.toNat ≤ 90) ∨ 90 < c.toNat by omega) with hcl | hcl | hcl
            · have h1 : ¬ (65 : Int) ≤ (c.toNat : Int) := by omega
              clear hcl
              go_wp2_with fail
              go_round
              case rel => exact ⟨j + 1, Q, by go_num, by omega, hR, hQ, hql, hbw⟩
              case measure => simp [intOf]; omega
            · have h1 : (65 : Int) ≤ (c.toNat : Int) := by omega
              have h2 : (c.toNat : Int) ≤ 90 := by omega
              clear hcl
              go_wp2_with fail
              go_round
              case rel =>
                obtain ⟨p1, p2⟩ := low_raise (c := c) ⟨by omega, by omega⟩
                have hs := hR.out.set j (c + 32) (by omega)
                have e : ((c + 32).toNat : Int) = (c.toNat : Int) + 32 := by omega
                rw [e] at hs
                exact ⟨j + 1, Q.set j (c + 32), by go_num, by omega, Lib.hid hs, Lib.hid ((map_set Q j (c + 32) c hc p2).trans hQ.out), by simpa using hql, hbw.setCell hz0 _⟩
              case measure => simp [intOf]; omega
            · have h1 : (65 : Int) ≤ (c.toNat : Int) := by omega
              have h2 : ¬ (c.toNat : Int) ≤ 90 := by omega
              clear hcl
              go_wp2_with fail
              go_round
              case rel => exact ⟨j + 1, Q, by go_num, by omega, hR, hQ, hql, hbw⟩
              case measure => simp [intOf]; omega
          · have hui : (j : Int) < (len1 : Int) := Int.ofNat_lt.2 hup
            rcases (show c.toNat < 97 ∨ (97 ≤ c.toNat ∧ c.toNat ≤ 122) ∨ 122 < c.toNat by omega) with hcl | hcl | hcl
            · have h1 : ¬ (97 : Int) ≤ (c.toNat : Int) := by omega
              clear hcl
              go_wp2_with fail
              go_round
              case rel => exact ⟨j + 1, Q, by go_num, by omega, hR, hQ, hql, hbw⟩
              case measure => simp [intOf]; omega
            · have h1 : (97 : Int) ≤ (c.toNat : Int) := by omega
              have h2 : (c.toNat : Int) ≤ 122 := by omega
              clear hcl
              go_wp2_with fail
              go_round
              case rel =>
                obtain ⟨p1, p2⟩ := low_put (c := c) ⟨by omega, by omega⟩
                have hs := hR.out.set j (c - 32) (by omega)
                have e : ((c - 32).toNat : Int) = (c.toNat : Int) - 32 := by omega
                rw [e] at hs
                exact ⟨j + 1, Q.set j (c - 32), by go_num, by omega, Lib.hid hs, Lib.hid ((map_set Q j (c - 32) c hc p2).trans hQ.out), by simpa using hql, hbw.setCell hz0 _⟩
              case measure => simp [intOf]; omega
            · have h1 : (97 : Int) ≤ (c.toNat : Int) := by omega
              have h2 : ¬ (c.toNat : Int) ≤ 122 := by omega
              clear hcl
              go_wp2_with fail
              go_round
              case rel => exact ⟨j + 1, Q, by go_num, by omega, hR, hQ, hql, hbw⟩
              case measure => simp [intOf]; omega
          · have hui : (j : Int) < (len1 : Int) := Int.ofNat_lt.2 hup
            rcases (show c.toNat < 65 ∨ (65 ≤ c.toNat ∧ c.toNat ≤ 90) ∨ 90 < c.toNat by omega) with hcl | hcl | hcl
            · have h1 : ¬ (65 : Int) ≤ (c.toNat : Int) := by omega
              clear hcl
              go_wp2_with fail
              go_round
              case rel => exact ⟨j + 1, Q, by go_num, by omega, hR, hQ, hql, hbw⟩
              case measure => simp [intOf]; omega
            · have h1 : (65 : Int) ≤ (c.toNat : Int) := by omega
              have h2 : (c.toNat : Int) ≤ 90 := by omega
              clear hcl
              go_wp2_with fail
              go_round
              case rel =>
                obtain ⟨p1, p2⟩ := low_raise (c := c) ⟨by omega, by omega⟩
                have hs := hR.out.set j (c + 32) (by omega)
                have e : ((c + 32).toNat : Int) = (c.toNat : Int) + 32 := by omega
                rw [e] at hs
                exact ⟨j + 1, Q.set j (c + 32), by go_num, by omega, Lib.hid hs, Lib.hid ((map_set Q j (c + 32) c hc p2).trans hQ.out), by simpa using hql, hbw.setCell hz0 _⟩
              case measure => simp [intOf]; omega
            · have h1 : (65 : Int) ≤ (c.toNat : Int) := by omega
              have h2 : ¬ (c.toNat : Int) ≤ 90 := by omega
              clear hcl
              go_wp2_with fail
              go_round
              case rel => exact ⟨j + 1, Q, by go_num, by omega, hR, hQ, hql, hbw⟩
              case measure => simp [intOf]; omega
        · have hj2 : ¬ (j : Int) < (t.size : Int) := by omega
          obtain ⟨k1, hk1⟩ := (split_ev t).rounds
          have hlow := toks_low _ t.data.toList Q (Nat.le_refl _) hQ.out.symm hno2.out
          have hV : splitV ⟨Q.toArray⟩ = splitV t := by
            rw [splitV_le (by show Q.toArray.size ≤ 2000; simp; omega), splitV_le (by omega), hlow]
          obtain ⟨k2, hk2⟩ := (split_ev ⟨Q.toArray⟩).rounds
          rw [hV] at hk2
          have hlen := splitV_len t
          clear hV hlow
          generalize splitV t = V at hk1 hk2 hlen
          obtain ⟨M, er⟩ := V
          replace hlen : M.length ≤ 2000 := hlen
          obtain ⟨k3, hk3⟩ := (back_f M (by omega)).rounds
          obtain ⟨k4, hk4⟩ := (same_f M (by omega)).rounds
          dsimp only at hk1 hk2
          generalize M.map c36 = L at hk1 hk2 hk3
          generalize M.map c35 = N at hk3 hk4
          clear hlen M
          go_wp2_with fail
          refine (lex_Split.calls k1 t _ _ wr (hE.below hbw) hk1).mono ?_
          rintro e w3 ⟨v0, rfl, ho0, hb3⟩
          have hB3 : Below w.heap.size w w3 := below_step hbw hb3
          have hR3 := hR.out.below hb3
          obtain ⟨A0, C0, rfl⟩ := Kd.R_slice ho0
          have ks : (convert 39 9 (.slice (some ⟨g, 0, none⟩) t.size G)).run Tryd.prog w3 = .ok (.string ⟨Q.toArray⟩) w3 := by
            have := run_convert_bytes_arg (P := Tryd.prog) w3 39 5 Tryd.underlying39 Tryd.underlying5 g 0 t.size G (byteZ Q) (by unfold byteZ; simp [hql]) (fun i hi => by
              have h1 := (hR3.c i Q[i] (List.getElem?_eq_getElem (by omega))).1
              rw [Nat.zero_add, h1, List.getD_eq_getElem?_getD]
              unfold byteZ
              rw [List.getElem?_map, List.getElem?_eq_getElem (by omega)]
              rfl) 9 Tryd.underlying9
            rw [str_byteZ] at this
            exact this
          go_wp2_with fail
          refine (lex_Split.calls k2 _ _ _ w3 (hE.below hB3) hk2).mono ?_
          rintro e w4 ⟨v1, rfl, ho1, hb4⟩
          have hB4 := below_step hB3 hb4
          have ho2 := Kd.R_below ho0 hb4
          obtain ⟨A1, C1, rfl⟩ := Kd.R_slice ho1
          clear ks ho0 hb4 hB3 hb3 hR3
          have hc1 := (Kd.R_reads' ho1).2
          have hc2 := (Kd.R_reads' ho2).2
          go_wp2_with fail
          refine (lapidarylaw14_back.calls k3 _ _ L N w4 hc2.2 hc2.1 hk3).mono ?_
          rintro e w5 ⟨v2, rfl, ho3, hb5⟩
          have hB5 := below_step hB4 hb5
          have hc3 : Kd.C k36 w5 A1 L.length L := Kd.C_below hc1.2 hb5
          obtain ⟨A2, C2, rfl⟩ := Kd.R_slice ho3
          go_wp2_with fail
          refine (lapidarylaw14_back.calls k3 _ _ L N w5 hc3 hc1.1 hk3).mono ?_
          rintro e w6 ⟨v3, rfl, ho4, hb6⟩
          have hB6 := below_step hB5 hb6
          obtain ⟨A3, C3, rfl⟩ := Kd.R_slice ho4
          have hc4 := (Kd.R_reads' (Kd.R_below ho3 hb6)).2
          have hc5 := (Kd.R_reads' ho4).2
          go_wp2_with fail
          refine (lapidaryref14_Same.calls k4 _ _ N _ _ N true w6 hc4.2 hc4.1 hc5.2 hc5.1 hk4).mono ?_
          rintro e w7 ⟨rfl, n7, rfl⟩
          have hB7 := pw_below_drewN hB6 n7
          go_wp2_with fail
          go_ret
          exact ⟨rfl, hB7⟩
end Go.Proofs.YtfbikpddpdkllaaDoor
