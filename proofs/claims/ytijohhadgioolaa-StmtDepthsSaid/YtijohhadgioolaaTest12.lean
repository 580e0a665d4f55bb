/-
  The first test of the switch in the law's build.
-/
import Derived.Test.YtijohhadgioolaaArmKit
namespace Go.Proofs.Ytijohhadgioolaa
open Go.RowKit
set_option linter.unusedVariables false
set_option linter.unusedSimpArgs false
set_option maxRecDepth 100000
def regOf (n : Nat) : Code → Option Code
  | .region k o d => if k = n then some (.region k o d) else none
  | .cond _ a b => match regOf n a with
    | some c => some c
    | none => regOf n b
  | .seq a b => match regOf n a with
    | some c => some c
    | none => regOf n b
  | .loop c => regOf n c
  | .block _ c => regOf n c
  | .scope c => regOf n c
  | _ => none
noncomputable def regAt (n : Nat) : Code := ((Try.f7.body.bind (regOf n)).getD .skip)
def goesLit (q n : Nat) : Bool := decide (q < 3 ∨ (5 ≤ q ∧ q ≠ 13 ∧ n = 0) ∨ (7 ≤ q ∧ q ≤ 9 ∧ n < 2))
set_option maxHeartbeats 40000000 in
theorem test_wp (wc : World) (q n : Nat) (hq : q < 14) (hn : n ≤ 60)
    (x0 x1 x2 x3 x4 x5 x8 x9 x10 x11 x12 x13 x14 x15 x16 x17 x18 x19 x20 x21 x22 x23 x24 x25 x26 x27 x28 x29 x30 x31 x32 x33 x34 x35 x36 x37 x38 x39 x40 x41 x42 x43 x44 x45 x46 x47 x48 x49 x50 x51 x52 x53 x54 x55 x56 x57 x58 x59 x60 x61 x62 x63 x64 x65 x66 x67 x68 x69 x70 x71 x72 x73 x74 x75 x76 x77 x78 x79 x80 x81 x82 x83 x84 x85 x86 x87 x88 x89 x90 x91 x92 x93 x94 x95 x96 x97 x98 x99 x100 x101 x102 x103 x104 x105 x106 x107 x108 x109 x110 x111 x112 x113 x114 x115 x116 x117 x118 x119 x120 x121 x122 x123 x124 x125 x126 x127 x128 x129 x130 x131 x132 x133 x134 x135 x136 x137 x138 x139 x140 x141 x142 x143 x144 x145 x146 x147 x148 x149 x150 x151 x152 x153 x154 x155 x156 x157 x158 x159 x160 x161 x162 x163 x164 x165 x166 x167 x168 x169 x170 x171 x172 x173 x174 x175 x176 x177 x178 x179 x180 x181 x182 x183 x184 x185 x186 x187 x188 x189 x190 x191 x192 x193 x194 x195 x196 x197 x198 x199 x200 x201 x202 x203 x204 x205 x206 x207 x208 x209 x210 x211 x212 x213 x214 x215 x216 x217 x218 x219 x220 x221 x222 x223 x224 x225 x226 x227 x228 x229 x230 x231 x232 x233 x234 x235 x236 x237 x238 x239 x240 x241 x242 x243 x244 x245 : Value) (N : Act → World → Prop)
    (hQ : ∀ (y50 : Value) (y51 y52 y53 y54 y55 y56 y57 y58 y59 y60 y61 y62 y63 y64 y65 y66 y67 y68 y69 y70 y71 y72 y73 y74 y75 y76 : Value), y50 = .bool (goesLit q n) → N ⟨#[x0, x1, x2, x3, x4, x5, .int .i64 (n : Nat), .int .u8 (q : Nat), x8, x9, x10, x11, x12, x13, x14, x15, x16, x17, x18, x19, x20, x21, x22, x23, x24, x25, x26, x27, x28, x29, x30, x31, x32, x33, x34, x35, x36, x37, x38, x39, x40, x41, x42, x43, x44, x45, x46, x47, x48, x49, y50, y51, y52, y53, y54, y55, y56, y57, y58, y59, y60, y61, y62, y63, y64, y65, y66, y67, y68, y69, y70, y71, y72, y73, y74, y75, y76, x77, x78, x79, x80, x81, x82, x83, x84, x85, x86, x87, x88, x89, x90, x91, x92, x93, x94, x95, x96, x97, x98, x99, x100, x101, x102, x103, x104, x105, x106, x107, x108, x109, x110, x111, x112, x113, x114, x115, x116, x117, x118, x119, x120, x121, x122, x123, x124, x125, x126, x127, x128, x129, x130, x131, x132, x133, x134, x135, x136, x137, x138, x139, x140, x141, x142, x143, x144, x145, x146, x147, x148, x149, x150, x151, x152, x153, x154, x155, x156, x157, x158, x159, x160, x161, x162, x163, x164, x165, x166, x167, x168, x169, x170, x171, x172, x173, x174, x175, x176, x177, x178, x179, x180, x181, x182, x183, x184, x185, x186, x187, x188, x189, x190, x191, x192, x193, x194, x195, x196, x197, x198, x199, x200, x201, x202, x203, x204, x205, x206, x207, x208, x209, x210, x211, x212, x213, x214, x215, x216, x217, x218, x219, x220, x221, x222, x223, x224, x225, x226, x227, x228, x229, x230, x231, x232, x233, x234, x235, x236, x237, x238, x239, x240, x241, x242, x243, x244, x245], []⟩ wc) :
    Code.wp Try.prog (regAt 12) (Exit.then N fun _ _ _ => False) ⟨#[x0, x1, x2, x3, x4, x5, .int .i64 (n : Nat), .int .u8 (q : Nat), x8, x9, x10, x11, x12, x13, x14, x15, x16, x17, x18, x19, x20, x21, x22, x23, x24, x25, x26, x27, x28, x29, x30, x31, x32, x33, x34, x35, x36, x37, x38, x39, x40, x41, x42, x43, x44, x45, x46, x47, x48, x49, x50, x51, x52, x53, x54, x55, x56, x57, x58, x59, x60, x61, x62, x63, x64, x65, x66, x67, x68, x69, x70, x71, x72, x73, x74, x75, x76, x77, x78, x79, x80, x81, x82, x83, x84, x85, x86, x87, x88, x89, x90, x91, x92, x93, x94, x95, x96, x97, x98, x99, x100, x101, x102, x103, x104, x105, x106, x107, x108, x109, x110, x111, x112, x113, x114, x115, x116, x117, x118, x119, x120, x121, x122, x123, x124, x125, x126, x127, x128, x129, x130, x131, x132, x133, x134, x135, x136, x137, x138, x139, x140, x141, x142, x143, x144, x145, x146, x147, x148, x149, x150, x151, x152, x153, x154, x155, x156, x157, x158, x159, x160, x161, x162, x163, x164, x165, x166, x167, x168, x169, x170, x171, x172, x173, x174, x175, x176, x177, x178, x179, x180, x181, x182, x183, x184, x185, x186, x187, x188, x189, x190, x191, x192, x193, x194, x195, x196, x197, x198, x199, x200, x201, x202, x203, x204, x205, x206, x207, x208, x209, x210, x211, x212, x213, x214, x215, x216, x217, x218, x219, x220, x221, x222, x223, x224, x225, x226, x227, x228, x229, x230, x231, x232, x233, x234, x235, x236, x237, x238, x239, x240, x241, x242, x243, x244, x245], []⟩ wc := by
  have HQ := Lib.hid hQ
  clear hQ
  conv => arg 2; whnf
  rcases (show (q < 3) ∨ (3 ≤ q ∧ q < 5) ∨ (q = 13 ∧ n = 0) ∨ (q = 13 ∧ n ≠ 0) ∨ (5 ≤ q ∧ q ≠ 13 ∧ n = 0) ∨ (5 ≤ q ∧ q < 7 ∧ n ≠ 0) ∨ (7 ≤ q ∧ q ≤ 9 ∧ n = 1) ∨ (7 ≤ q ∧ q ≤ 9 ∧ 2 ≤ n) ∨ (10 ≤ q ∧ q ≠ 13 ∧ n ≠ 0) by omega) with hx | hx | hx | hx | hx | hx | hx | hx | hx
  · have HX := Lib.hid (show goesLit q n = true by unfold goesLit; simp only [decide_eq_true_eq, decide_eq_false_iff_not]; omega)
    have za : (q : Int) < 3 := by omega
    clear hx hq hn
    go_wp2_with fail
    exact HQ.out _ _ _ _ _ _ _ _ _ _ _ _ _ _ _ _ _ _ _ _ _ _ _ _ _ _ _ (by rw [HX.out])
  · have HX := Lib.hid (show goesLit q n = false by unfold goesLit; simp only [decide_eq_true_eq, decide_eq_false_iff_not]; omega)
    have za : ¬ (q : Int) < 3 := by omega
    have zb : ¬ (5 : Int) ≤ (q : Int) := by omega
    have ze : ¬ (7 : Int) ≤ (q : Int) := by omega
    clear hx hq hn
    go_wp2_with fail
    exact HQ.out _ _ _ _ _ _ _ _ _ _ _ _ _ _ _ _ _ _ _ _ _ _ _ _ _ _ _ (by rw [HX.out])
  · have HX := Lib.hid (show goesLit q n = false by unfold goesLit; simp only [decide_eq_true_eq, decide_eq_false_iff_not]; omega)
    have za : ¬ (q : Int) < 3 := by omega
    have zb : (5 : Int) ≤ (q : Int) := by omega
    have zc : ((n : Int) == 0) = true := by simp only [beq_iff_eq]; omega
    have zd : ((q : Int) != 13) = false := by simp only [bne_eq_false_iff_eq]; omega
    have ze : (7 : Int) ≤ (q : Int) := by omega
    have zf : ¬ (q : Int) ≤ 9 := by omega
    clear hx hq hn
    go_wp2_with fail
    exact HQ.out _ _ _ _ _ _ _ _ _ _ _ _ _ _ _ _ _ _ _ _ _ _ _ _ _ _ _ (by rw [HX.out])
  · have HX := Lib.hid (show goesLit q n = false by unfold goesLit; simp only [decide_eq_true_eq, decide_eq_false_iff_not]; omega)
    have za : ¬ (q : Int) < 3 := by omega
    have zb : (5 : Int) ≤ (q : Int) := by omega
    have zc : ((n : Int) == 0) = false := by rw [beq_eq_false_iff_ne]; omega
    have ze : (7 : Int) ≤ (q : Int) := by omega
    have zf : ¬ (q : Int) ≤ 9 := by omega
    clear hx hq hn
    go_wp2_with fail
    exact HQ.out _ _ _ _ _ _ _ _ _ _ _ _ _ _ _ _ _ _ _ _ _ _ _ _ _ _ _ (by rw [HX.out])
  · have HX := Lib.hid (show goesLit q n = true by unfold goesLit; simp only [decide_eq_true_eq, decide_eq_false_iff_not]; omega)
    have za : ¬ (q : Int) < 3 := by omega
    have zb : (5 : Int) ≤ (q : Int) := by omega
    have zc : ((n : Int) == 0) = true := by simp only [beq_iff_eq]; omega
    have zd : ((q : Int) != 13) = true := by simp only [bne_iff_ne]; omega
    clear hx hq hn
    go_wp2_with fail
    exact HQ.out _ _ _ _ _ _ _ _ _ _ _ _ _ _ _ _ _ _ _ _ _ _ _ _ _ _ _ (by rw [HX.out])
  · have HX := Lib.hid (show goesLit q n = false by unfold goesLit; simp only [decide_eq_true_eq, decide_eq_false_iff_not]; omega)
    have za : ¬ (q : Int) < 3 := by omega
    have zb : (5 : Int) ≤ (q : Int) := by omega
    have zc : ((n : Int) == 0) = false := by rw [beq_eq_false_iff_ne]; omega
    have ze : ¬ (7 : Int) ≤ (q : Int) := by omega
    clear hx hq hn
    go_wp2_with fail
    exact HQ.out _ _ _ _ _ _ _ _ _ _ _ _ _ _ _ _ _ _ _ _ _ _ _ _ _ _ _ (by rw [HX.out])
  · have HX := Lib.hid (show goesLit q n = true by unfold goesLit; simp only [decide_eq_true_eq, decide_eq_false_iff_not]; omega)
    have za : ¬ (q : Int) < 3 := by omega
    have zb : (5 : Int) ≤ (q : Int) := by omega
    have zc : ((n : Int) == 0) = false := by rw [beq_eq_false_iff_ne]; omega
    have ze : (7 : Int) ≤ (q : Int) := by omega
    have zf : (q : Int) ≤ 9 := by omega
    have zg : (n : Int) < 2 := by omega
    clear hx hq hn
    go_wp2_with fail
    exact HQ.out _ _ _ _ _ _ _ _ _ _ _ _ _ _ _ _ _ _ _ _ _ _ _ _ _ _ _ (by rw [HX.out])
  · have HX := Lib.hid (show goesLit q n = false by unfold goesLit; simp only [decide_eq_true_eq, decide_eq_false_iff_not]; omega)
    have za : ¬ (q : Int) < 3 := by omega
    have zb : (5 : Int) ≤ (q : Int) := by omega
    have zc : ((n : Int) == 0) = false := by rw [beq_eq_false_iff_ne]; omega
    have ze : (7 : Int) ≤ (q : Int) := by omega
    have zf : (q : Int) ≤ 9 := by omega
    have zg : ¬ (n : Int) < 2 := by omega
    clear hx hq hn
    go_wp2_with fail
    exact HQ.out _ _ _ _ _ _ _ _ _ _ _ _ _ _ _ _ _ _ _ _ _ _ _ _ _ _ _ (by rw [HX.out])
  · have HX := Lib.hid (show goesLit q n = false by unfold goesLit; simp only [decide_eq_true_eq, decide_eq_false_iff_not]; omega)
    have za : ¬ (q : Int) < 3 := by omega
    have zb : (5 : Int) ≤ (q : Int) := by omega
    have zc : ((n : Int) == 0) = false := by rw [beq_eq_false_iff_ne]; omega
    have ze : (7 : Int) ≤ (q : Int) := by omega
    have zf : ¬ (q : Int) ≤ 9 := by omega
    clear hx hq hn
    go_wp2_with fail
    exact HQ.out _ _ _ _ _ _ _ _ _ _ _ _ _ _ _ _ _ _ _ _ _ _ _ _ _ _ _ (by rw [HX.out])
end Go.Proofs.Ytijohhadgioolaa
