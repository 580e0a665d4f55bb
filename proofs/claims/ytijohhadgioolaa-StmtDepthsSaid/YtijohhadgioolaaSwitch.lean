/-
  The switch in the law's build.
-/
import Derived.Test.YtijohhadgioolaaTest12
import Derived.Test.YtijohhadgioolaaArmLit
import Derived.Test.YtijohhadgioolaaArmCol
import Derived.Test.YtijohhadgioolaaArmUn
import Derived.Test.YtijohhadgioolaaArmBin
import Derived.Test.YtijohhadgioolaaArmIsNull
import Derived.Test.YtijohhadgioolaaArmIsNot
import Derived.Test.YtijohhadgioolaaArmAgg
import Derived.Test.YtijohhadgioolaaArmAgg0
import Derived.Deep.Cut
namespace Go.Proofs.Ytijohhadgioolaa
open Go.RowKit
set_option linter.unusedVariables false
set_option linter.unusedSimpArgs false
set_option maxRecDepth 100000
theorem snoc_of {L : List (Item × Ex)} (h : L.length ≠ 0) : ∃ L0 p, L = L0 ++ [p] := ⟨L.dropLast, L.getLast (by intro e; rw [e] at h; exact h rfl), (List.dropLast_concat_getLast _).symm⟩
theorem Out.addr {B n cp : Nat} {w : World} {A : Option Addr} {L : List (Item × Ex)} (h : Out B w (.slice A n cp) L) (hL : L ≠ []) : ∃ g, A = some ⟨g, 0, none⟩ := by
  rcases h.own.2 with ⟨h1, h2⟩ | ⟨g, cp', cur, h1, _⟩
  · exact absurd (List.length_eq_zero_iff.1 h2) hL
  · cases h1
    exact ⟨g, rfl⟩
def condOf (n : Nat) : Code → Option Code
  | .cond (.tmp t) a b => if t = n then some (.cond (.tmp t) a b) else match condOf n a with
    | some c => some c
    | none => condOf n b
  | .seq a b => match condOf n a with
    | some c => some c
    | none => condOf n b
  | .loop c => condOf n c
  | .block _ c => condOf n c
  | .scope c => condOf n c
  | _ => none
noncomputable def condAt (n : Nat) : Code := ((Try.f7.body.bind (condOf n)).getD .skip)
theorem arm_mono {c : Code} {Q : Exit → Act → World → Prop} {a : Act} {w : World} (h : c.wp Try.prog (Exit.then (fun a w => Q .normal a w) fun _ _ _ => False) a w) : c.wp Try.prog Q a w :=
  wp_mono h fun e a w hq => by
    cases e <;> first | exact hq | exact hq.elim
set_option maxHeartbeats 40000000 in
theorem switch_wp (B : Nat) (wc : World) (g : Nat) (d a1 b1 : Int) (c1 : ByteArray) (e1 : Bool) (s1 t1 : ByteArray) (hO : Hid (Own wc g d a1 b1 c1 e1 s1 t1)) (A3 : Option Addr) (cp3 : Nat) (L : List (Item × Ex)) (hOut : Hid (Out B wc (.slice A3 L.length cp3) L)) (hBw : B ≤ wc.heap.size) (hL : L.length ≤ 60) (q : Nat) (hq : q < 14) (hd0 : 0 ≤ d) (hd1 : d ≤ 255) (hs : Hid (s1.size ≤ 30))
    (x0 x1 x2 x4 x8 x9 x10 x11 x12 x13 x14 x15 x16 x17 x18 x19 x20 x21 x22 x23 x24 x25 x26 x27 x28 x29 x30 x31 x32 x33 x34 x35 x36 x37 x38 x39 x40 x41 x42 x43 x44 x45 x46 x47 x48 x49 x51 x52 x53 x54 x55 x56 x57 x58 x59 x60 x61 x62 x63 x64 x65 x66 x67 x68 x69 x70 x71 x72 x73 x74 x75 x76 x77 x78 x79 x80 x81 x82 x83 x84 x85 x86 x87 x88 x89 x90 x91 x92 x93 x94 x95 x96 x97 x98 x99 x100 x101 x102 x103 x104 x105 x106 x107 x108 x109 x110 x111 x112 x113 x114 x115 x116 x117 x118 x119 x120 x121 x122 x123 x124 x125 x126 x127 x128 x129 x130 x131 x132 x133 x134 x135 x136 x137 x138 x139 x140 x141 x142 x143 x144 x145 x146 x147 x148 x149 x150 x151 x152 x153 x154 x155 x156 x157 x158 x159 x160 x161 x162 x163 x164 x165 x166 x167 x168 x169 x170 x171 x172 x173 x174 x175 x176 x177 x178 x179 x180 x181 x182 x183 x184 x185 x186 x187 x188 x189 x190 x191 x192 x193 x194 x195 x196 x197 x198 x199 x200 x201 x202 x203 x204 x205 x206 x207 x208 x209 x210 x211 x212 x213 x214 x215 x216 x217 x218 x219 x220 x221 x222 x223 x224 x225 x226 x227 x228 x229 x230 x231 x232 x233 x234 x235 x236 x237 x238 x239 x240 x241 x242 x243 x244 x245 : Value) (v50 : Value) (hv : v50 = .bool (goesLit q L.length)) (N : Act → World → Prop)
    (hQ : ∀ (y3 : Value) (w' : World) (y6 y7 y8 y9 y10 y11 y12 y13 y42 y43 y44 y45 y46 y47 y48 y49 y50 y77 y78 y79 y80 y81 y82 y83 y84 y85 y86 y87 y88 y89 y90 y91 y92 y93 y94 y95 y96 y97 y98 y99 y100 y101 y102 y103 y104 y105 y106 y107 y108 y109 y110 y111 y112 y113 y114 y115 y116 y117 y118 y119 y120 y121 y122 y123 y124 y125 y126 y127 y128 y129 y130 y131 y132 y133 y134 y135 y136 y137 y138 y139 y140 y141 y142 y143 y144 y145 y146 y147 y148 y149 y150 y151 y152 y153 y154 y155 y156 y157 y158 y159 y160 y161 y162 y163 y164 y165 y166 y167 y168 y169 y170 y171 y172 y173 y174 y175 y176 y177 y178 y179 y180 y181 y182 y183 y184 y185 y186 y187 y188 y189 y190 y191 y192 y193 y194 y195 y196 y197 y198 y199 y200 y201 y202 y203 y204 y205 y206 y207 y208 y209 y210 y211 y212 y213 y214 y215 y216 y217 y218 y219 y220 y221 y222 y223 y224 y225 y226 y227 y228 y229 y230 y231 y232 y233 y234 y235 y236 y237 y238 y239 y240 y241 y242 y243 : Value), ArmPost B wc w' y3 (total L + 1) → N ⟨#[x0, x1, x2, y3, x4, .pointer (some ⟨g, 0, none⟩), y6, y7, y8, y9, y10, y11, y12, y13, x14, x15, x16, x17, x18, x19, x20, x21, x22, x23, x24, x25, x26, x27, x28, x29, x30, x31, x32, x33, x34, x35, x36, x37, x38, x39, x40, x41, y42, y43, y44, y45, y46, y47, y48, y49, y50, x51, x52, x53, x54, x55, x56, x57, x58, x59, x60, x61, x62, x63, x64, x65, x66, x67, x68, x69, x70, x71, x72, x73, x74, x75, x76, y77, y78, y79, y80, y81, y82, y83, y84, y85, y86, y87, y88, y89, y90, y91, y92, y93, y94, y95, y96, y97, y98, y99, y100, y101, y102, y103, y104, y105, y106, y107, y108, y109, y110, y111, y112, y113, y114, y115, y116, y117, y118, y119, y120, y121, y122, y123, y124, y125, y126, y127, y128, y129, y130, y131, y132, y133, y134, y135, y136, y137, y138, y139, y140, y141, y142, y143, y144, y145, y146, y147, y148, y149, y150, y151, y152, y153, y154, y155, y156, y157, y158, y159, y160, y161, y162, y163, y164, y165, y166, y167, y168, y169, y170, y171, y172, y173, y174, y175, y176, y177, y178, y179, y180, y181, y182, y183, y184, y185, y186, y187, y188, y189, y190, y191, y192, y193, y194, y195, y196, y197, y198, y199, y200, y201, y202, y203, y204, y205, y206, y207, y208, y209, y210, y211, y212, y213, y214, y215, y216, y217, y218, y219, y220, y221, y222, y223, y224, y225, y226, y227, y228, y229, y230, y231, y232, y233, y234, y235, y236, y237, y238, y239, y240, y241, y242, y243, x244, x245], []⟩ w') :
    Code.wp Try.prog (condAt 50) (Exit.then N fun _ _ _ => False) ⟨#[x0, x1, x2, .slice A3 L.length cp3, x4, .pointer (some ⟨g, 0, none⟩), .int .i64 (L.length : Nat), .int .u8 (q : Nat), x8, x9, x10, x11, x12, x13, x14, x15, x16, x17, x18, x19, x20, x21, x22, x23, x24, x25, x26, x27, x28, x29, x30, x31, x32, x33, x34, x35, x36, x37, x38, x39, x40, x41, x42, x43, x44, x45, x46, x47, x48, x49, v50, x51, x52, x53, x54, x55, x56, x57, x58, x59, x60, x61, x62, x63, x64, x65, x66, x67, x68, x69, x70, x71, x72, x73, x74, x75, x76, x77, x78, x79, x80, x81, x82, x83, x84, x85, x86, x87, x88, x89, x90, x91, x92, x93, x94, x95, x96, x97, x98, x99, x100, x101, x102, x103, x104, x105, x106, x107, x108, x109, x110, x111, x112, x113, x114, x115, x116, x117, x118, x119, x120, x121, x122, x123, x124, x125, x126, x127, x128, x129, x130, x131, x132, x133, x134, x135, x136, x137, x138, x139, x140, x141, x142, x143, x144, x145, x146, x147, x148, x149, x150, x151, x152, x153, x154, x155, x156, x157, x158, x159, x160, x161, x162, x163, x164, x165, x166, x167, x168, x169, x170, x171, x172, x173, x174, x175, x176, x177, x178, x179, x180, x181, x182, x183, x184, x185, x186, x187, x188, x189, x190, x191, x192, x193, x194, x195, x196, x197, x198, x199, x200, x201, x202, x203, x204, x205, x206, x207, x208, x209, x210, x211, x212, x213, x214, x215, x216, x217, x218, x219, x220, x221, x222, x223, x224, x225, x226, x227, x228, x229, x230, x231, x232, x233, x234, x235, x236, x237, x238, x239, x240, x241, x242, x243, x244, x245], []⟩ wc := by
  have HQ := Lib.hid hQ
  clear hQ
  conv => arg 2; whnf
  rcases (show (q < 3 ∨ (5 ≤ q ∧ q ≠ 13 ∧ L.length = 0) ∨ (7 ≤ q ∧ q ≤ 9 ∧ L.length < 2)) ∨ (3 ≤ q ∧ q < 5) ∨ (5 ≤ q ∧ q < 7 ∧ L.length ≠ 0) ∨ (7 ≤ q ∧ q ≤ 9 ∧ 2 ≤ L.length) ∨ (q = 10 ∧ L.length ≠ 0) ∨ (q = 11 ∧ L.length ≠ 0) ∨ (q = 12 ∧ L.length ≠ 0) ∨ q = 13 by omega) with hx | hx | hx | hx | hx | hx | hx | hx
  · obtain rfl : v50 = .bool true := by rw [hv]; congr 1; unfold goesLit; exact decide_eq_true hx
    clear hx hv
    refine wp_cond_true rfl ?_
    refine arm_mono (armLit B wc g d a1 b1 c1 e1 s1 t1 hO A3 cp3 L hOut hBw hL q _ _ _ _ _ _ _ _ _ _ _ _ _ _ _ _ _ _ _ _ _ _ _ _ _ _ _ _ _ _ _ _ _ _ _ _ _ _ _ _ _ _ _ _ _ _ _ _ _ _ _ _ _ _ _ _ _ _ _ _ _ _ _ _ _ _ _ _ _ _ _ _ _ _ _ _ _ _ _ _ _ _ _ _ _ _ _ _ _ _ _ _ _ _ _ _ _ _ _ _ _ _ _ _ _ _ _ _ _ _ _ _ _ _ _ _ _ _ _ _ _ _ _ _ _ _ _ _ _ _ _ _ _ _ _ _ _ _ _ _ _ _ _ _ _ _ _ _ _ _ _ _ _ _ _ _ _ _ _ _ _ _ _ _ _ _ _ _ _ _ _ _ _ _ _ _ _ _ _ _ _ _ _ _ _ _ _ _ _ _ _ _ _ _ _ _ _ _ _ _ _ _ _ _ _ _ _ _ _ _ _ _ _ _ _ _ _ _ _ _ _ _ _ _ _ _ _ _ _ _ _ _ _ _ _ _ _ _ _ _ _ _ _ (by
      intro y3 w' z77 z78 z79 z80 z81 z82 z83 z84 z85 z86 z87 z88 h
      try dsimp only
      go_wp2_with fail
      exact HQ.out _ _ _ _ _ _ _ _ _ _ _ _ _ _ _ _ _ _ _ _ _ _ _ _ _ _ _ _ _ _ _ _ _ _ _ _ _ _ _ _ _ _ _ _ _ _ _ _ _ _ _ _ _ _ _ _ _ _ _ _ _ _ _ _ _ _ _ _ _ _ _ _ _ _ _ _ _ _ _ _ _ _ _ _ _ _ _ _ _ _ _ _ _ _ _ _ _ _ _ _ _ _ _ _ _ _ _ _ _ _ _ _ _ _ _ _ _ _ _ _ _ _ _ _ _ _ _ _ _ _ _ _ _ _ _ _ _ _ _ _ _ _ _ _ _ _ _ _ _ _ _ _ _ _ _ _ _ _ _ _ _ _ _ _ _ _ _ _ _ _ _ _ _ _ _ _ _ _ _ _ _ _ _ _ _ _ (h)))
  · obtain rfl : v50 = .bool false := by rw [hv]; congr 1; unfold goesLit; exact decide_eq_false (by omega)
    clear hv
    have k89 : (q : Int) < 5 := by omega
    clear hx hq
    refine wp_cond_false rfl ?_
    go_upto_if 89 with fail
    refine wp_cond_true rfl ?_
    refine arm_mono (armCol B wc g d a1 b1 c1 e1 s1 t1 hO A3 cp3 L hOut hBw hL q _ _ _ _ _ _ _ _ _ _ _ _ _ _ _ _ _ _ _ _ _ _ _ _ _ _ _ _ _ _ _ _ _ _ _ _ _ _ _ _ _ _ _ _ _ _ _ _ _ _ _ _ _ _ _ _ _ _ _ _ _ _ _ _ _ _ _ _ _ _ _ _ _ _ _ _ _ _ _ _ _ _ _ _ _ _ _ _ _ _ _ _ _ _ _ _ _ _ _ _ _ _ _ _ _ _ _ _ _ _ _ _ _ _ _ _ _ _ _ _ _ _ _ _ _ _ _ _ _ _ _ _ _ _ _ _ _ _ _ _ _ _ _ _ _ _ _ _ _ _ _ _ _ _ _ _ _ _ _ _ _ _ _ _ _ _ _ _ _ _ _ _ _ _ _ _ _ _ _ _ _ _ _ _ _ _ _ _ _ _ _ _ _ _ _ _ _ _ _ _ _ _ _ _ _ _ _ _ _ _ _ _ _ _ _ _ _ _ _ _ _ _ _ _ _ _ _ _ _ _ _ _ _ _ _ _ _ _ _ _ _ _ _ (by
      intro y3 w' z92 z93 z94 z95 z96 z97 z98 z99 z100 z101 z102 z103 z104 z105 z106 z107 h
      try dsimp only
      go_wp2_with fail
      exact HQ.out _ _ _ _ _ _ _ _ _ _ _ _ _ _ _ _ _ _ _ _ _ _ _ _ _ _ _ _ _ _ _ _ _ _ _ _ _ _ _ _ _ _ _ _ _ _ _ _ _ _ _ _ _ _ _ _ _ _ _ _ _ _ _ _ _ _ _ _ _ _ _ _ _ _ _ _ _ _ _ _ _ _ _ _ _ _ _ _ _ _ _ _ _ _ _ _ _ _ _ _ _ _ _ _ _ _ _ _ _ _ _ _ _ _ _ _ _ _ _ _ _ _ _ _ _ _ _ _ _ _ _ _ _ _ _ _ _ _ _ _ _ _ _ _ _ _ _ _ _ _ _ _ _ _ _ _ _ _ _ _ _ _ _ _ _ _ _ _ _ _ _ _ _ _ _ _ _ _ _ _ _ _ _ _ _ _ (h)))
  · obtain rfl : v50 = .bool false := by rw [hv]; congr 1; unfold goesLit; exact decide_eq_false (by omega)
    clear hv
    have hl2 := hx.2.2
    obtain ⟨L0, p, rfl⟩ : ∃ L0 p, L = L0 ++ [p] := snoc_of (by omega)
    obtain ⟨m, t⟩ := p
    obtain ⟨g2, rfl⟩ := hOut.out.addr (by simp)
    obtain ⟨n, hn⟩ : ∃ n, L0.length = n := ⟨_, rfl⟩
    have e : (L0 ++ [(m, t)]).length = n + 1 := by simp [hn]
    have hlen : n ≤ 60 := by rw [e] at hL; omega
    rw [e] at hOut ⊢
    replace hn := Lib.hid hn
    clear e hL
    have k89 : ¬ (q : Int) < 5 := by omega
    have k108 : (q : Int) < 7 := by omega
    have hqr := Lib.hid (show 5 ≤ q ∧ q < 7 by omega)
    clear hx hq
    clear hl2
    refine wp_cond_false rfl ?_
    go_upto_if 89 with fail
    refine wp_cond_false rfl ?_
    go_upto_if 108 with fail
    refine wp_cond_true rfl ?_
    obtain ⟨j, rfl, hj⟩ : ∃ j, q = j + 5 ∧ j < 2 := ⟨q - 5, by have := hqr.out; omega, by have := hqr.out; omega⟩
    refine arm_mono (armUn B wc g d a1 b1 c1 e1 s1 t1 hO g2 n cp3 L0 m t hn hOut hBw hlen j hj _ _ _ _ _ _ _ _ _ _ _ _ _ _ _ _ _ _ _ _ _ _ _ _ _ _ _ _ _ _ _ _ _ _ _ _ _ _ _ _ _ _ _ _ _ _ _ _ _ _ _ _ _ _ _ _ _ _ _ _ _ _ _ _ _ _ _ _ _ _ _ _ _ _ _ _ _ _ _ _ _ _ _ _ _ _ _ _ _ _ _ _ _ _ _ _ _ _ _ _ _ _ _ _ _ _ _ _ _ _ _ _ _ _ _ _ _ _ _ _ _ _ _ _ _ _ _ _ _ _ _ _ _ _ _ _ _ _ _ _ _ _ _ _ _ _ _ _ _ _ _ _ _ _ _ _ _ _ _ _ _ _ _ _ _ _ _ _ _ _ _ _ _ _ _ _ _ _ _ _ _ _ _ _ _ _ _ _ _ _ _ _ _ _ _ _ _ _ _ _ _ _ _ _ _ _ _ _ _ _ _ _ _ _ _ _ _ _ _ _ _ _ _ _ _ _ _ _ _ _ _ _ _ _ _ _ _ _ _ _ _ _ _ (by
      intro y3 w' z111 z112 z113 z114 z115 z116 z117 z118 z119 z120 z121 z122 z123 z124 z125 z126 z127 z128 z129 z130 z131 z132 z133 z134 z135 z136 z137 z138 z8 h
      try dsimp only
      go_wp2_with fail
      exact HQ.out _ _ _ _ _ _ _ _ _ _ _ _ _ _ _ _ _ _ _ _ _ _ _ _ _ _ _ _ _ _ _ _ _ _ _ _ _ _ _ _ _ _ _ _ _ _ _ _ _ _ _ _ _ _ _ _ _ _ _ _ _ _ _ _ _ _ _ _ _ _ _ _ _ _ _ _ _ _ _ _ _ _ _ _ _ _ _ _ _ _ _ _ _ _ _ _ _ _ _ _ _ _ _ _ _ _ _ _ _ _ _ _ _ _ _ _ _ _ _ _ _ _ _ _ _ _ _ _ _ _ _ _ _ _ _ _ _ _ _ _ _ _ _ _ _ _ _ _ _ _ _ _ _ _ _ _ _ _ _ _ _ _ _ _ _ _ _ _ _ _ _ _ _ _ _ _ _ _ _ _ _ _ _ _ _ _ (by rw [total_snoc]; exact h)))
  · obtain rfl : v50 = .bool false := by rw [hv]; congr 1; unfold goesLit; exact decide_eq_false (by omega)
    clear hv
    have hl2 := hx.2.2
    obtain ⟨L1, p2, rfl⟩ : ∃ L0 p, L = L0 ++ [p] := snoc_of (by omega)
    obtain ⟨L0, p, rfl⟩ : ∃ L0 p, L1 = L0 ++ [p] := snoc_of (by simp at hl2; omega)
    obtain ⟨m, t⟩ := p
    obtain ⟨m2, t2⟩ := p2
    obtain ⟨g2, rfl⟩ := hOut.out.addr (by simp)
    obtain ⟨n, hn⟩ : ∃ n, L0.length = n := ⟨_, rfl⟩
    have e : (L0 ++ [(m, t)] ++ [(m2, t2)]).length = n + 2 := by simp [hn]
    have hlen : n ≤ 60 := by rw [e] at hL; omega
    rw [e] at hOut ⊢
    replace hn := Lib.hid hn
    clear e hL hl2
    have k89 : ¬ (q : Int) < 5 := by omega
    have k108 : ¬ (q : Int) < 7 := by omega
    have k139 : (q : Int) < 10 := by omega
    clear hx hq
    refine wp_cond_false rfl ?_
    go_upto_if 89 with fail
    refine wp_cond_false rfl ?_
    go_upto_if 108 with fail
    refine wp_cond_false rfl ?_
    go_upto_if 139 with fail
    refine wp_cond_true rfl ?_
    refine arm_mono (armBin B wc g d a1 b1 c1 e1 s1 t1 hO g2 n cp3 L0 m m2 t t2 hn hOut hBw hlen hd0 hd1 hs _ _ _ _ _ _ _ _ _ _ _ _ _ _ _ _ _ _ _ _ _ _ _ _ _ _ _ _ _ _ _ _ _ _ _ _ _ _ _ _ _ _ _ _ _ _ _ _ _ _ _ _ _ _ _ _ _ _ _ _ _ _ _ _ _ _ _ _ _ _ _ _ _ _ _ _ _ _ _ _ _ _ _ _ _ _ _ _ _ _ _ _ _ _ _ _ _ _ _ _ _ _ _ _ _ _ _ _ _ _ _ _ _ _ _ _ _ _ _ _ _ _ _ _ _ _ _ _ _ _ _ _ _ _ _ _ _ _ _ _ _ _ _ _ _ _ _ _ _ _ _ _ _ _ _ _ _ _ _ _ _ _ _ _ _ _ _ _ _ _ _ _ _ _ _ _ _ _ _ _ _ _ _ _ _ _ _ _ _ _ _ _ _ _ _ _ _ _ _ _ _ _ _ _ _ _ _ _ _ _ _ _ _ _ _ _ _ _ _ _ _ _ _ _ _ _ _ _ _ _ _ _ _ _ _ _ _ _ _ _ _ _ _ _ (by
      intro y3 w' z142 z143 z144 z145 z146 z147 z148 z149 z150 z151 z152 z153 z154 z155 z156 z157 z158 z159 z160 z161 z162 z163 z164 z165 z166 z167 z168 z169 z170 z171 z172 z173 z174 z175 z176 z177 z178 z179 z180 z181 z9 z10 z11 h
      try dsimp only
      go_wp2_with fail
      exact HQ.out _ _ _ _ _ _ _ _ _ _ _ _ _ _ _ _ _ _ _ _ _ _ _ _ _ _ _ _ _ _ _ _ _ _ _ _ _ _ _ _ _ _ _ _ _ _ _ _ _ _ _ _ _ _ _ _ _ _ _ _ _ _ _ _ _ _ _ _ _ _ _ _ _ _ _ _ _ _ _ _ _ _ _ _ _ _ _ _ _ _ _ _ _ _ _ _ _ _ _ _ _ _ _ _ _ _ _ _ _ _ _ _ _ _ _ _ _ _ _ _ _ _ _ _ _ _ _ _ _ _ _ _ _ _ _ _ _ _ _ _ _ _ _ _ _ _ _ _ _ _ _ _ _ _ _ _ _ _ _ _ _ _ _ _ _ _ _ _ _ _ _ _ _ _ _ _ _ _ _ _ _ _ _ _ _ _ (by rw [total_snoc, total_snoc]; exact h)))
  · obtain rfl : v50 = .bool false := by rw [hv]; congr 1; unfold goesLit; exact decide_eq_false (by omega)
    clear hv
    have hl2 := hx.2
    obtain ⟨L0, p, rfl⟩ : ∃ L0 p, L = L0 ++ [p] := snoc_of (by omega)
    obtain ⟨m, t⟩ := p
    obtain ⟨g2, rfl⟩ := hOut.out.addr (by simp)
    obtain ⟨n, hn⟩ : ∃ n, L0.length = n := ⟨_, rfl⟩
    have e : (L0 ++ [(m, t)]).length = n + 1 := by simp [hn]
    have hlen : n ≤ 60 := by rw [e] at hL; omega
    rw [e] at hOut ⊢
    replace hn := Lib.hid hn
    clear e hL
    have k89 : ¬ (q : Int) < 5 := by omega
    have k108 : ¬ (q : Int) < 7 := by omega
    have k139 : ¬ (q : Int) < 10 := by omega
    have k182 : (q : Int) < 12 := by omega
    have hqe := Lib.hid (show q = 10 by omega)
    clear hx hq
    clear hl2
    refine wp_cond_false rfl ?_
    go_upto_if 89 with fail
    refine wp_cond_false rfl ?_
    go_upto_if 108 with fail
    refine wp_cond_false rfl ?_
    go_upto_if 139 with fail
    refine wp_cond_false rfl ?_
    go_upto_if 182 with fail
    refine wp_cond_true rfl ?_
    refine arm_mono (armIsNull B wc g d a1 b1 c1 e1 s1 t1 hO g2 n cp3 L0 m t hn hOut hBw hlen q hqe.out _ _ _ _ _ _ _ _ _ _ _ _ _ _ _ _ _ _ _ _ _ _ _ _ _ _ _ _ _ _ _ _ _ _ _ _ _ _ _ _ _ _ _ _ _ _ _ _ _ _ _ _ _ _ _ _ _ _ _ _ _ _ _ _ _ _ _ _ _ _ _ _ _ _ _ _ _ _ _ _ _ _ _ _ _ _ _ _ _ _ _ _ _ _ _ _ _ _ _ _ _ _ _ _ _ _ _ _ _ _ _ _ _ _ _ _ _ _ _ _ _ _ _ _ _ _ _ _ _ _ _ _ _ _ _ _ _ _ _ _ _ _ _ _ _ _ _ _ _ _ _ _ _ _ _ _ _ _ _ _ _ _ _ _ _ _ _ _ _ _ _ _ _ _ _ _ _ _ _ _ _ _ _ _ _ _ _ _ _ _ _ _ _ _ _ _ _ _ _ _ _ _ _ _ _ _ _ _ _ _ _ _ _ _ _ _ _ _ _ _ _ _ _ _ _ _ _ _ _ _ _ _ _ _ _ _ _ _ _ _ _ _ _ (by
      intro y3 w' z185 z186 z187 z188 z189 z190 z191 z192 z193 z194 z195 z196 z197 z198 z199 z200 z201 z202 z203 z204 z205 z206 z207 z208 z209 z210 z211 z212 z12 h
      try dsimp only
      go_wp2_with fail
      exact HQ.out _ _ _ _ _ _ _ _ _ _ _ _ _ _ _ _ _ _ _ _ _ _ _ _ _ _ _ _ _ _ _ _ _ _ _ _ _ _ _ _ _ _ _ _ _ _ _ _ _ _ _ _ _ _ _ _ _ _ _ _ _ _ _ _ _ _ _ _ _ _ _ _ _ _ _ _ _ _ _ _ _ _ _ _ _ _ _ _ _ _ _ _ _ _ _ _ _ _ _ _ _ _ _ _ _ _ _ _ _ _ _ _ _ _ _ _ _ _ _ _ _ _ _ _ _ _ _ _ _ _ _ _ _ _ _ _ _ _ _ _ _ _ _ _ _ _ _ _ _ _ _ _ _ _ _ _ _ _ _ _ _ _ _ _ _ _ _ _ _ _ _ _ _ _ _ _ _ _ _ _ _ _ _ _ _ _ (by rw [total_snoc]; exact h)))
  · obtain rfl : v50 = .bool false := by rw [hv]; congr 1; unfold goesLit; exact decide_eq_false (by omega)
    clear hv
    have hl2 := hx.2
    obtain ⟨L0, p, rfl⟩ : ∃ L0 p, L = L0 ++ [p] := snoc_of (by omega)
    obtain ⟨m, t⟩ := p
    obtain ⟨g2, rfl⟩ := hOut.out.addr (by simp)
    obtain ⟨n, hn⟩ : ∃ n, L0.length = n := ⟨_, rfl⟩
    have e : (L0 ++ [(m, t)]).length = n + 1 := by simp [hn]
    have hlen : n ≤ 60 := by rw [e] at hL; omega
    rw [e] at hOut ⊢
    replace hn := Lib.hid hn
    clear e hL
    have k89 : ¬ (q : Int) < 5 := by omega
    have k108 : ¬ (q : Int) < 7 := by omega
    have k139 : ¬ (q : Int) < 10 := by omega
    have k182 : (q : Int) < 12 := by omega
    have hqe := Lib.hid (show q = 11 by omega)
    clear hx hq
    clear hl2
    refine wp_cond_false rfl ?_
    go_upto_if 89 with fail
    refine wp_cond_false rfl ?_
    go_upto_if 108 with fail
    refine wp_cond_false rfl ?_
    go_upto_if 139 with fail
    refine wp_cond_false rfl ?_
    go_upto_if 182 with fail
    refine wp_cond_true rfl ?_
    refine arm_mono (armIsNot B wc g d a1 b1 c1 e1 s1 t1 hO g2 n cp3 L0 m t hn hOut hBw hlen q hqe.out _ _ _ _ _ _ _ _ _ _ _ _ _ _ _ _ _ _ _ _ _ _ _ _ _ _ _ _ _ _ _ _ _ _ _ _ _ _ _ _ _ _ _ _ _ _ _ _ _ _ _ _ _ _ _ _ _ _ _ _ _ _ _ _ _ _ _ _ _ _ _ _ _ _ _ _ _ _ _ _ _ _ _ _ _ _ _ _ _ _ _ _ _ _ _ _ _ _ _ _ _ _ _ _ _ _ _ _ _ _ _ _ _ _ _ _ _ _ _ _ _ _ _ _ _ _ _ _ _ _ _ _ _ _ _ _ _ _ _ _ _ _ _ _ _ _ _ _ _ _ _ _ _ _ _ _ _ _ _ _ _ _ _ _ _ _ _ _ _ _ _ _ _ _ _ _ _ _ _ _ _ _ _ _ _ _ _ _ _ _ _ _ _ _ _ _ _ _ _ _ _ _ _ _ _ _ _ _ _ _ _ _ _ _ _ _ _ _ _ _ _ _ _ _ _ _ _ _ _ _ _ _ _ _ _ _ _ _ _ _ _ _ _ (by
      intro y3 w' z185 z186 z187 z188 z189 z190 z191 z192 z193 z194 z195 z196 z197 z198 z199 z200 z201 z202 z203 z204 z205 z206 z207 z208 z209 z210 z211 z212 z12 h
      try dsimp only
      go_wp2_with fail
      exact HQ.out _ _ _ _ _ _ _ _ _ _ _ _ _ _ _ _ _ _ _ _ _ _ _ _ _ _ _ _ _ _ _ _ _ _ _ _ _ _ _ _ _ _ _ _ _ _ _ _ _ _ _ _ _ _ _ _ _ _ _ _ _ _ _ _ _ _ _ _ _ _ _ _ _ _ _ _ _ _ _ _ _ _ _ _ _ _ _ _ _ _ _ _ _ _ _ _ _ _ _ _ _ _ _ _ _ _ _ _ _ _ _ _ _ _ _ _ _ _ _ _ _ _ _ _ _ _ _ _ _ _ _ _ _ _ _ _ _ _ _ _ _ _ _ _ _ _ _ _ _ _ _ _ _ _ _ _ _ _ _ _ _ _ _ _ _ _ _ _ _ _ _ _ _ _ _ _ _ _ _ _ _ _ _ _ _ _ (by rw [total_snoc]; exact h)))
  · obtain rfl : v50 = .bool false := by rw [hv]; congr 1; unfold goesLit; exact decide_eq_false (by omega)
    clear hv
    have hl2 := hx.2
    obtain ⟨L0, p, rfl⟩ : ∃ L0 p, L = L0 ++ [p] := snoc_of (by omega)
    obtain ⟨m, t⟩ := p
    obtain ⟨g2, rfl⟩ := hOut.out.addr (by simp)
    obtain ⟨n, hn⟩ : ∃ n, L0.length = n := ⟨_, rfl⟩
    have e : (L0 ++ [(m, t)]).length = n + 1 := by simp [hn]
    have hlen : n ≤ 60 := by rw [e] at hL; omega
    rw [e] at hOut ⊢
    replace hn := Lib.hid hn
    clear e hL
    have k89 : ¬ (q : Int) < 5 := by omega
    have k108 : ¬ (q : Int) < 7 := by omega
    have k139 : ¬ (q : Int) < 10 := by omega
    have k182 : ¬ (q : Int) < 12 := by omega
    have k213 : ((q : Int) == 12) = true := by simp only [beq_iff_eq]; omega
    clear hx hq
    clear hl2
    refine wp_cond_false rfl ?_
    go_upto_if 89 with fail
    refine wp_cond_false rfl ?_
    go_upto_if 108 with fail
    refine wp_cond_false rfl ?_
    go_upto_if 139 with fail
    refine wp_cond_false rfl ?_
    go_upto_if 182 with fail
    refine wp_cond_false rfl ?_
    go_upto_if 213 with fail
    refine wp_cond_true rfl ?_
    refine arm_mono (armAgg B wc g d a1 b1 c1 e1 s1 t1 hO g2 n cp3 L0 m t hn hOut hBw hlen _ _ _ _ _ _ _ _ _ _ _ _ _ _ _ _ _ _ _ _ _ _ _ _ _ _ _ _ _ _ _ _ _ _ _ _ _ _ _ _ _ _ _ _ _ _ _ _ _ _ _ _ _ _ _ _ _ _ _ _ _ _ _ _ _ _ _ _ _ _ _ _ _ _ _ _ _ _ _ _ _ _ _ _ _ _ _ _ _ _ _ _ _ _ _ _ _ _ _ _ _ _ _ _ _ _ _ _ _ _ _ _ _ _ _ _ _ _ _ _ _ _ _ _ _ _ _ _ _ _ _ _ _ _ _ _ _ _ _ _ _ _ _ _ _ _ _ _ _ _ _ _ _ _ _ _ _ _ _ _ _ _ _ _ _ _ _ _ _ _ _ _ _ _ _ _ _ _ _ _ _ _ _ _ _ _ _ _ _ _ _ _ _ _ _ _ _ _ _ _ _ _ _ _ _ _ _ _ _ _ _ _ _ _ _ _ _ _ _ _ _ _ _ _ _ _ _ _ _ _ _ _ _ _ _ _ _ _ _ _ _ _ _ _ (by
      intro y3 w' z216 z217 z218 z219 z220 z221 z222 z223 z224 z225 z226 z227 z228 z229 z230 z231 z232 z233 z234 z235 z236 z237 z238 z239 z240 z241 z242 z243 z13 h
      try dsimp only
      go_wp2_with fail
      exact HQ.out _ _ _ _ _ _ _ _ _ _ _ _ _ _ _ _ _ _ _ _ _ _ _ _ _ _ _ _ _ _ _ _ _ _ _ _ _ _ _ _ _ _ _ _ _ _ _ _ _ _ _ _ _ _ _ _ _ _ _ _ _ _ _ _ _ _ _ _ _ _ _ _ _ _ _ _ _ _ _ _ _ _ _ _ _ _ _ _ _ _ _ _ _ _ _ _ _ _ _ _ _ _ _ _ _ _ _ _ _ _ _ _ _ _ _ _ _ _ _ _ _ _ _ _ _ _ _ _ _ _ _ _ _ _ _ _ _ _ _ _ _ _ _ _ _ _ _ _ _ _ _ _ _ _ _ _ _ _ _ _ _ _ _ _ _ _ _ _ _ _ _ _ _ _ _ _ _ _ _ _ _ _ _ _ _ _ (by rw [total_snoc]; exact h)))
  · obtain rfl : v50 = .bool false := by rw [hv]; congr 1; unfold goesLit; exact decide_eq_false (by omega)
    clear hv
    have k89 : ¬ (q : Int) < 5 := by omega
    have k108 : ¬ (q : Int) < 7 := by omega
    have k139 : ¬ (q : Int) < 10 := by omega
    have k182 : ¬ (q : Int) < 12 := by omega
    have k213 : ((q : Int) == 12) = false := by rw [beq_eq_false_iff_ne]; omega
    clear hx hq
    refine wp_cond_false rfl ?_
    go_upto_if 89 with fail
    refine wp_cond_false rfl ?_
    go_upto_if 108 with fail
    refine wp_cond_false rfl ?_
    go_upto_if 139 with fail
    refine wp_cond_false rfl ?_
    go_upto_if 182 with fail
    refine wp_cond_false rfl ?_
    go_upto_if 213 with fail
    refine wp_cond_false rfl ?_
    refine arm_mono (armAgg0 B wc g d a1 b1 c1 e1 s1 t1 hO A3 cp3 L hOut hBw hL q _ _ _ _ _ _ _ _ _ _ _ _ _ _ _ _ _ _ _ _ _ _ _ _ _ _ _ _ _ _ _ _ _ _ _ _ _ _ _ _ _ _ _ _ _ _ _ _ _ _ _ _ _ _ _ _ _ _ _ _ _ _ _ _ _ _ _ _ _ _ _ _ _ _ _ _ _ _ _ _ _ _ _ _ _ _ _ _ _ _ _ _ _ _ _ _ _ _ _ _ _ _ _ _ _ _ _ _ _ _ _ _ _ _ _ _ _ _ _ _ _ _ _ _ _ _ _ _ _ _ _ _ _ _ _ _ _ _ _ _ _ _ _ _ _ _ _ _ _ _ _ _ _ _ _ _ _ _ _ _ _ _ _ _ _ _ _ _ _ _ _ _ _ _ _ _ _ _ _ _ _ _ _ _ _ _ _ _ _ _ _ _ _ _ _ _ _ _ _ _ _ _ _ _ _ _ _ _ _ _ _ _ _ _ _ _ _ _ _ _ _ _ _ _ _ _ _ _ _ _ _ _ _ _ _ _ _ _ _ _ _ _ _ (by
      intro y3 w' z42 z43 z44 z45 z46 z47 z48 z49 h
      try dsimp only
      go_wp2_with fail
      exact HQ.out _ _ _ _ _ _ _ _ _ _ _ _ _ _ _ _ _ _ _ _ _ _ _ _ _ _ _ _ _ _ _ _ _ _ _ _ _ _ _ _ _ _ _ _ _ _ _ _ _ _ _ _ _ _ _ _ _ _ _ _ _ _ _ _ _ _ _ _ _ _ _ _ _ _ _ _ _ _ _ _ _ _ _ _ _ _ _ _ _ _ _ _ _ _ _ _ _ _ _ _ _ _ _ _ _ _ _ _ _ _ _ _ _ _ _ _ _ _ _ _ _ _ _ _ _ _ _ _ _ _ _ _ _ _ _ _ _ _ _ _ _ _ _ _ _ _ _ _ _ _ _ _ _ _ _ _ _ _ _ _ _ _ _ _ _ _ _ _ _ _ _ _ _ _ _ _ _ _ _ _ _ _ _ _ _ _ (h)))
end Go.Proofs.Ytijohhadgioolaa
