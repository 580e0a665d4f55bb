/-
  The law's build: whatever nodes come in, each of what it hands back is one tree twice. Conditions: the row of nodes reads as nodes.
-/
import Derived.Test.YtijohhadgioolaaSwitch
import Derived.Test.YtijohhadgioolaaStmtWhole
import Derived.Deep.RegionWith
import Derived.Deep.DeepCutAuto
namespace Go.Proofs.Ytijohhadgioolaa
open Go.RowKit
set_option linter.unusedVariables false
set_option linter.unusedSimpArgs false
set_option maxRecDepth 100000
set_option maxHeartbeats 40000000 in
theorem build_calls (A : Option Addr) (len cap : Nat) (hlen : len ≤ 9223372036854775807) (w : World) (hN : Nodes w A len) : Calls Try.prog 7 #[.slice A len cap] w fun e w' => ∃ v L, e = .returned v ∧ Out w.heap.size w' v L ∧ total L ≤ 60 ∧ Below w.heap.size w w' := by
  go_enter Try.func7, Try.ntmps7
  go_wp2_with fail
  go_loopw [3, 16] (fun v i wr => ∃ (j : Nat) (L : List (Item × Ex)), i = .int .i64 j ∧ j ≤ len ∧ j ≤ 60 ∧ Hid (Out w.heap.size wr v L) ∧ total L ≤ j ∧ Below w.heap.size w wr) (fun _ i _ => len - (intOf i).toNat)
  case atStart => exact ⟨0, [], rfl, by omega, by omega, Lib.hid (Out.nil _ _), Nat.le_refl _, Below.refl _ _⟩
  case round =>
    obtain ⟨j, L, rfl, hj, hj60, hout, htot, hbw⟩ := hrel
    have HF := Lib.hid hj60
    by_cases hlt : j < len
    · have hli : (j : Int) < (len : Int) := Int.ofNat_lt.2 hlt
      obtain ⟨x, d, a, b, c, e, s, t, rfl, hnode⟩ := (hN.below hbw) j hlt
      obtain ⟨n0, n1, n2, n3, n4, n5, n6, hd0, hd1⟩ := hnode
      by_cases h60 : j < 60
      · have h60i : ¬ (60 : Int) ≤ (j : Int) := by omega
        clear hN
        go_upto_region 6 with fail
        have hO1 := Lib.hid (own_new wr d a b c e s t)
        have hB1 : Below wr.heap.size wr (wr.alloc (.cells #[.int .u8 d, .int .u8 a, .int .i64 b, .string c, .bool e, .string s, .string t] 60)) := (Below.refl _ wr).alloc (Nat.le_refl _) _
        have hOut1 := Lib.hid (hout.out.alloc (.cells #[.int .u8 d, .int .u8 a, .int .i64 b, .string c, .bool e, .string s, .string t] 60))
        generalize wr.alloc (.cells #[.int .u8 d, .int .u8 a, .int .i64 b, .string c, .bool e, .string s, .string t] 60) = w1 at hO1 hB1 hOut1 ⊢
        obtain ⟨g, hg⟩ : ∃ g, g = wr.heap.size := ⟨_, rfl⟩
        rw [← hg] at hO1 ⊢
        replace hg := Lib.hid hg
        clear n0 n1 n2 n3 n4 n5 n6
        have hb6 := hB1
        go_cut [] (fun wc => ∃ s1 t1, Hid (s1.size ≤ 30) ∧ Hid (Own wc g d a b c e s1 t1) ∧ Hid (Out w.heap.size wc u3 L) ∧ Hid (Below wr.heap.size wr wc))
        case first => as_aux_lemma =>
          have o5 := hat0 hO1.out 5 (.string s) rfl
          have o6 := hat0 hO1.out 6 (.string t) rfl
          have f5 : w1.frozen? ⟨g, 5, none⟩ = false := hO1.out.free 5
          have f6 : w1.frozen? ⟨g, 6, none⟩ = false := hO1.out.free 6
          go_region_with (go_at_call 17; refine (few_calls _ _).mono ?_; rintro e w2 ⟨rfl, rfl⟩)
          all_goals
            go_wp2_with fail
            go_meet
            case rel => exact ⟨_, _, Lib.hid (fewS_size s), Lib.hid ((hO1.out.set5 (fewS s)).set6 (fewS t)).drew, Lib.hid ((hOut1.out.set hO1.out 5 _).set (hO1.out.set5 (fewS s)) 6 _).drew, Lib.hid ((hB1.setCell (by rw [← hg.out]; exact Nat.le_refl _) _).setCell (by rw [← hg.out]; exact Nat.le_refl _) _).drew⟩
        case rest =>
          obtain ⟨s1, t1, hs1, hO2, hOut2, hB2⟩ := hcut
          clear hO1 hB1 hOut1 hb6 w1 hout
          go_step
          go_step
          go_cut [] (fun wd => ∃ a1 b1 c1 e1, Hid (Own wd g d a1 b1 c1 e1 s1 t1) ∧ Hid (Out w.heap.size wd u3 L) ∧ Hid (Below wr.heap.size wr wd))
          case first => as_aux_lemma =>
            have q1 := hat0 hO2.out 1 (.int .u8 a) rfl
            have q2 := hat0 hO2.out 2 (.int .i64 b) rfl
            have q3 := hat0 hO2.out 3 (.string c) rfl
            have q4 := hat0 hO2.out 4 (.bool e) rfl
            go_wp2_with fail
            refine (ref_right a b c e wc).mono ?_
            rintro ev w3 ⟨rfl, hb3⟩
            have hO3 := Lib.hid (hO2.out.below hb3)
            have hOut3 := Lib.hid (hOut2.out.below hb3)
            have hB3 := Lib.hid (below_step hB2.out hb3)
            generalize rightV a b c e = rb
            cases rb with
            | true =>
              go_wp2_with fail
              go_meet
              case rel => exact ⟨_, _, _, _, hO3, hOut3, hB3⟩
            | false =>
              have p1 := hat0 hO3.out 1 (.int .u8 a) rfl
              have p2 := hat0 hO3.out 2 (.int .i64 b) rfl
              have p3 := hat0 hO3.out 3 (.string c) rfl
              have p4 := hat0 hO3.out 4 (.bool e) rfl
              have f1 : w3.frozen? ⟨g, 1, none⟩ = false := hO3.out.free 1
              have f2 : w3.frozen? ⟨g, 2, none⟩ = false := hO3.out.free 2
              have f3 : w3.frozen? ⟨g, 3, none⟩ = false := hO3.out.free 3
              have f4 : w3.frozen? ⟨g, 4, none⟩ = false := hO3.out.free 4
              go_wp2_with fail
              go_meet
              case rel =>
                have O1 := hO3.out.set1 0
                have O2 := O1.set2 0
                have O3 := O2.set3 ⟨#[]⟩
                have hgg : wr.heap.size ≤ g := by rw [← hg.out]; exact Nat.le_refl _
                exact ⟨_, _, _, _, Lib.hid (O3.set4 false), Lib.hid ((((hOut3.out.set hO3.out 1 _).set O1 2 _).set O2 3 _).set O3 4 _), Lib.hid ((((hB3.out.setCell hgg _).setCell hgg _).setCell hgg _).setCell hgg _)⟩
          case rest =>
            obtain ⟨a1, b1, c1, e1, hO4, hOut4, hB4⟩ := hcut
            clear hO2 hOut2 hB2
            obtain ⟨q, hq, hq14⟩ : ∃ q : Nat, Int.tmod d 14 = (q : Int) ∧ q < 14 := ⟨(d % 14).toNat, by rw [Int.tmod_eq_emod_of_nonneg hd0]; omega, by omega⟩
            have r0 := hat0 hO4.out 0 (.int .u8 d) rfl
            obtain ⟨A3, cp3, rfl⟩ : ∃ A3 cp3, u3 = .slice A3 L.length cp3 := by
              rcases hOut4.out.slice with ⟨h1, h2⟩ | ⟨g2, cp, h1⟩
              · exact ⟨none, 0, by rw [h1, h2]; rfl⟩
              · exact ⟨_, cp, h1⟩
            have hBw : w.heap.size ≤ wc.heap.size := Nat.le_trans hbw.size hB4.out.size
            have hL60 : L.length ≤ 60 := Nat.le_trans (len_total L) (Nat.le_trans htot hj60)
            go_step
            go_upto_region 12 with fail
            refine arm_mono (test_wp _ q L.length hq14 hL60 _ _ _ _ _ _ _ _ _ _ _ _ _ _ _ _ _ _ _ _ _ _ _ _ _ _ _ _ _ _ _ _ _ _ _ _ _ _ _ _ _ _ _ _ _ _ _ _ _ _ _ _ _ _ _ _ _ _ _ _ _ _ _ _ _ _ _ _ _ _ _ _ _ _ _ _ _ _ _ _ _ _ _ _ _ _ _ _ _ _ _ _ _ _ _ _ _ _ _ _ _ _ _ _ _ _ _ _ _ _ _ _ _ _ _ _ _ _ _ _ _ _ _ _ _ _ _ _ _ _ _ _ _ _ _ _ _ _ _ _ _ _ _ _ _ _ _ _ _ _ _ _ _ _ _ _ _ _ _ _ _ _ _ _ _ _ _ _ _ _ _ _ _ _ _ _ _ _ _ _ _ _ _ _ _ _ _ _ _ _ _ _ _ _ _ _ _ _ _ _ _ _ _ _ _ _ _ _ _ _ _ _ _ _ _ _ _ _ _ _ _ _ _ _ _ _ _ _ _ _ _ _ _ _ _ _ _ _ _ _ _ _ _ _ _ ?_)
            intro v50 z51 z52 z53 z54 z55 z56 z57 z58 z59 z60 z61 z62 z63 z64 z65 z66 z67 z68 z69 z70 z71 z72 z73 z74 z75 z76 hv50
            try dsimp only
            go_upto_if 50 with fail
            refine arm_mono (switch_wp w.heap.size _ g d a1 b1 c1 e1 s1 t1 hO4 A3 cp3 L hOut4 hBw hL60 q hq14 hd0 hd1 hs1 _ _ _ _ _ _ _ _ _ _ _ _ _ _ _ _ _ _ _ _ _ _ _ _ _ _ _ _ _ _ _ _ _ _ _ _ _ _ _ _ _ _ _ _ _ _ _ _ _ _ _ _ _ _ _ _ _ _ _ _ _ _ _ _ _ _ _ _ _ _ _ _ _ _ _ _ _ _ _ _ _ _ _ _ _ _ _ _ _ _ _ _ _ _ _ _ _ _ _ _ _ _ _ _ _ _ _ _ _ _ _ _ _ _ _ _ _ _ _ _ _ _ _ _ _ _ _ _ _ _ _ _ _ _ _ _ _ _ _ _ _ _ _ _ _ _ _ _ _ _ _ _ _ _ _ _ _ _ _ _ _ _ _ _ _ _ _ _ _ _ _ _ _ _ _ _ _ _ _ _ _ _ _ _ _ _ _ _ _ _ _ _ _ _ _ _ _ _ _ _ _ _ _ _ _ _ _ _ _ _ _ _ _ _ _ _ _ _ _ _ _ _ _ _ _ _ _ _ _ _ _ _ _ _ _ _ _ _ _ _ _ _ hv50 _ ?_)
            intro y3 w' y6 y7 y8 y9 y10 y11 y12 y13 y42 y43 y44 y45 y46 y47 y48 y49 y50 y77 y78 y79 y80 y81 y82 y83 y84 y85 y86 y87 y88 y89 y90 y91 y92 y93 y94 y95 y96 y97 y98 y99 y100 y101 y102 y103 y104 y105 y106 y107 y108 y109 y110 y111 y112 y113 y114 y115 y116 y117 y118 y119 y120 y121 y122 y123 y124 y125 y126 y127 y128 y129 y130 y131 y132 y133 y134 y135 y136 y137 y138 y139 y140 y141 y142 y143 y144 y145 y146 y147 y148 y149 y150 y151 y152 y153 y154 y155 y156 y157 y158 y159 y160 y161 y162 y163 y164 y165 y166 y167 y168 y169 y170 y171 y172 y173 y174 y175 y176 y177 y178 y179 y180 y181 y182 y183 y184 y185 y186 y187 y188 y189 y190 y191 y192 y193 y194 y195 y196 y197 y198 y199 y200 y201 y202 y203 y204 y205 y206 y207 y208 y209 y210 y211 y212 y213 y214 y215 y216 y217 y218 y219 y220 y221 y222 y223 y224 y225 y226 y227 y228 y229 y230 y231 y232 y233 y234 y235 y236 y237 y238 y239 y240 y241 y242 y243 hpost
            try dsimp only
            obtain ⟨⟨L', hO', hT'⟩, hBB⟩ := hpost
            have hO' := Lib.hid hO'
            go_wp2_with fail
            go_round
            case rel => exact ⟨j + 1, L', by go_num, by omega, by omega, hO', by omega, (hbw.trans (hB4.out.mono hbw.size)).trans hBB⟩
            case measure => simp [intOf]; omega
      · have h60i : (60 : Int) ≤ (j : Int) := by omega
        clear hN
        go_wp2_with fail
        go_ret
        exact ⟨_, L, rfl, hout.out.alloc _, by omega, hbw.alloc hbw.size _⟩
    · have hli : ¬ (j : Int) < (len : Int) := by omega
      go_wp2_with fail
      go_ret
      first
        | exact ⟨_, L, rfl, hout.out, by omega, hbw⟩
        | exact ⟨_, rfl, L, hout.out, by omega, hbw⟩
        | exact ⟨L, hout.out, by omega, hbw⟩
end Go.Proofs.Ytijohhadgioolaa
