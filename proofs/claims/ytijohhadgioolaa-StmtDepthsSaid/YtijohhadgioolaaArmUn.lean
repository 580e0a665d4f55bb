/-
  The switch's arm of NOT and of minus.
-/
import Derived.Test.YtijohhadgioolaaArmKit
import Derived.BigRegion
namespace Go.Proofs.Ytijohhadgioolaa
open Go.RowKit
set_option linter.unusedVariables false
set_option linter.unusedSimpArgs false
set_option maxRecDepth 100000
set_option maxHeartbeats 40000000 in
theorem armUn (B : Nat) (wc : World) (g : Nat) (d a1 b1 : Int) (c1 : ByteArray) (e1 : Bool) (s1 t1 : ByteArray) (hO : Hid (Own wc g d a1 b1 c1 e1 s1 t1)) (g2 n cp3 : Nat) (L : List (Item × Ex)) (m : Item) (t : Ex) (hn : Hid (L.length = n)) (hOut : Hid (Out B wc (.slice (some ⟨g2, 0, none⟩) (n + 1) cp3) (L ++ [(m, t)]))) (hBw : B ≤ wc.heap.size) (hL : n ≤ 60) (j : Nat) (hj : j < 2)
    (x0 x1 x2 x4 x8 x9 x10 x11 x12 x13 x14 x15 x16 x17 x18 x19 x20 x21 x22 x23 x24 x25 x26 x27 x28 x29 x30 x31 x32 x33 x34 x35 x36 x37 x38 x39 x40 x41 x42 x43 x44 x45 x46 x47 x48 x49 x50 x51 x52 x53 x54 x55 x56 x57 x58 x59 x60 x61 x62 x63 x64 x65 x66 x67 x68 x69 x70 x71 x72 x73 x74 x75 x76 x77 x78 x79 x80 x81 x82 x83 x84 x85 x86 x87 x88 x89 x90 x91 x92 x93 x94 x95 x96 x97 x98 x99 x100 x101 x102 x103 x104 x105 x106 x107 x108 x109 x110 x111 x112 x113 x114 x115 x116 x117 x118 x119 x120 x121 x122 x123 x124 x125 x126 x127 x128 x129 x130 x131 x132 x133 x134 x135 x136 x137 x138 x139 x140 x141 x142 x143 x144 x145 x146 x147 x148 x149 x150 x151 x152 x153 x154 x155 x156 x157 x158 x159 x160 x161 x162 x163 x164 x165 x166 x167 x168 x169 x170 x171 x172 x173 x174 x175 x176 x177 x178 x179 x180 x181 x182 x183 x184 x185 x186 x187 x188 x189 x190 x191 x192 x193 x194 x195 x196 x197 x198 x199 x200 x201 x202 x203 x204 x205 x206 x207 x208 x209 x210 x211 x212 x213 x214 x215 x216 x217 x218 x219 x220 x221 x222 x223 x224 x225 x226 x227 x228 x229 x230 x231 x232 x233 x234 x235 x236 x237 x238 x239 x240 x241 x242 x243 x244 x245 : Value) (N : Act → World → Prop)
    (hQ : ∀ (y3 : Value) (w' : World) (y111 y112 y113 y114 y115 y116 y117 y118 y119 y120 y121 y122 y123 y124 y125 y126 y127 y128 y129 y130 y131 y132 y133 y134 y135 y136 y137 y138 y8 : Value), ArmPost B wc w' y3 (total L + t.count + 1) → N ⟨#[x0, x1, x2, y3, x4, .pointer (some ⟨g, 0, none⟩), .int .i64 ((n + 1 : Nat) : Int), .int .u8 ((j + 5 : Nat) : Int), y8, x9, x10, x11, x12, x13, x14, x15, x16, x17, x18, x19, x20, x21, x22, x23, x24, x25, x26, x27, x28, x29, x30, x31, x32, x33, x34, x35, x36, x37, x38, x39, x40, x41, x42, x43, x44, x45, x46, x47, x48, x49, x50, x51, x52, x53, x54, x55, x56, x57, x58, x59, x60, x61, x62, x63, x64, x65, x66, x67, x68, x69, x70, x71, x72, x73, x74, x75, x76, x77, x78, x79, x80, x81, x82, x83, x84, x85, x86, x87, x88, x89, x90, x91, x92, x93, x94, x95, x96, x97, x98, x99, x100, x101, x102, x103, x104, x105, x106, x107, x108, x109, x110, y111, y112, y113, y114, y115, y116, y117, y118, y119, y120, y121, y122, y123, y124, y125, y126, y127, y128, y129, y130, y131, y132, y133, y134, y135, y136, y137, y138, x139, x140, x141, x142, x143, x144, x145, x146, x147, x148, x149, x150, x151, x152, x153, x154, x155, x156, x157, x158, x159, x160, x161, x162, x163, x164, x165, x166, x167, x168, x169, x170, x171, x172, x173, x174, x175, x176, x177, x178, x179, x180, x181, x182, x183, x184, x185, x186, x187, x188, x189, x190, x191, x192, x193, x194, x195, x196, x197, x198, x199, x200, x201, x202, x203, x204, x205, x206, x207, x208, x209, x210, x211, x212, x213, x214, x215, x216, x217, x218, x219, x220, x221, x222, x223, x224, x225, x226, x227, x228, x229, x230, x231, x232, x233, x234, x235, x236, x237, x238, x239, x240, x241, x242, x243, x244, x245], []⟩ w') :
    Code.wp Try.prog (armT 108) (Exit.then N fun _ _ _ => False) ⟨#[x0, x1, x2, .slice (some ⟨g2, 0, none⟩) (n + 1) cp3, x4, .pointer (some ⟨g, 0, none⟩), .int .i64 ((n + 1 : Nat) : Int), .int .u8 ((j + 5 : Nat) : Int), x8, x9, x10, x11, x12, x13, x14, x15, x16, x17, x18, x19, x20, x21, x22, x23, x24, x25, x26, x27, x28, x29, x30, x31, x32, x33, x34, x35, x36, x37, x38, x39, x40, x41, x42, x43, x44, x45, x46, x47, x48, x49, x50, x51, x52, x53, x54, x55, x56, x57, x58, x59, x60, x61, x62, x63, x64, x65, x66, x67, x68, x69, x70, x71, x72, x73, x74, x75, x76, x77, x78, x79, x80, x81, x82, x83, x84, x85, x86, x87, x88, x89, x90, x91, x92, x93, x94, x95, x96, x97, x98, x99, x100, x101, x102, x103, x104, x105, x106, x107, x108, x109, x110, x111, x112, x113, x114, x115, x116, x117, x118, x119, x120, x121, x122, x123, x124, x125, x126, x127, x128, x129, x130, x131, x132, x133, x134, x135, x136, x137, x138, x139, x140, x141, x142, x143, x144, x145, x146, x147, x148, x149, x150, x151, x152, x153, x154, x155, x156, x157, x158, x159, x160, x161, x162, x163, x164, x165, x166, x167, x168, x169, x170, x171, x172, x173, x174, x175, x176, x177, x178, x179, x180, x181, x182, x183, x184, x185, x186, x187, x188, x189, x190, x191, x192, x193, x194, x195, x196, x197, x198, x199, x200, x201, x202, x203, x204, x205, x206, x207, x208, x209, x210, x211, x212, x213, x214, x215, x216, x217, x218, x219, x220, x221, x222, x223, x224, x225, x226, x227, x228, x229, x230, x231, x232, x233, x234, x235, x236, x237, x238, x239, x240, x241, x242, x243, x244, x245], []⟩ wc := by
  have HL := Lib.hid hL
  have HB := Lib.hid hBw
  have HQ := Lib.hid hQ
  clear hQ
  obtain ⟨i0, i1, i2, i3, i4, i5, i6, i7, i8⟩ := hOut.out.last hn.out
  have f0 := hOut.out.free (n * 9)
  have f1 := hOut.out.free (n * 9 + 1)
  have f2 := hOut.out.free (n * 9 + 2)
  have f3 := hOut.out.free (n * 9 + 3)
  have f4 := hOut.out.free (n * 9 + 4)
  have f5 := hOut.out.free (n * 9 + 5)
  have f6 := hOut.out.free (n * 9 + 6)
  have f7 := hOut.out.free (n * 9 + 7)
  have f8 := hOut.out.free (n * 9 + 8)
  have hg2 : g2 < wc.heap.size := (hOut.out.own'.lt g2 rfl).2
  obtain ⟨s, hs⟩ := idx63 j hj
  have ej : (j : Int) % 256 = (j : Int) := by omega
  rw [← ej] at hs
  clear hj ej
  conv => arg 2; whnf
  go_wp2_with fail
  go_region
  · go_wp2_with fail
    obtain ⟨h1, h2, hg⟩ := two_new (store9 wc g2 (n * 9) ⟨39, .pointer (some ⟨wc.heap.size, 0, none⟩), ⟨3, 0, 0, ⟨#[]⟩, false, ⟨#[]⟩, s, some ⟨wc.heap.size + 1, 0, none⟩, 1, 1⟩⟩) (.cells #[.string s, .iface m.d m.x] 41) (.cells m.r.vals.toArray 33) wc.heap.size (store9_size _ _ _ _)
    exact HQ.out _ _ _ _ _ _ _ _ _ _ _ _ _ _ _ _ _ _ _ _ _ _ _ _ _ _ _ _ _ _ _ (last_un hOut.out hn.out hBw (wc.heap.size) (wc.heap.size + 1) ⟨3, 0, 0, ⟨#[]⟩, false, ⟨#[]⟩, s, some ⟨wc.heap.size + 1, 0, none⟩, 1, 1⟩ ⟨rfl, rfl⟩ (.string s) h1 h2 hg (Nat.le_refl _))
  · go_wp2_with fail
    obtain ⟨h1, h2, hg⟩ := two_new (store9 wc g2 (n * 9) ⟨39, .pointer (some ⟨wc.heap.size + 1, 0, none⟩), ⟨3, 0, 0, ⟨#[]⟩, false, ⟨#[]⟩, s, some ⟨wc.heap.size, 0, none⟩, 1, 1⟩⟩) (.cells m.r.vals.toArray 33) (.cells #[.string s, .iface m.d m.x] 41) wc.heap.size (store9_size _ _ _ _)
    exact HQ.out _ _ _ _ _ _ _ _ _ _ _ _ _ _ _ _ _ _ _ _ _ _ _ _ _ _ _ _ _ _ _ (last_un hOut.out hn.out hBw (wc.heap.size + 1) (wc.heap.size) ⟨3, 0, 0, ⟨#[]⟩, false, ⟨#[]⟩, s, some ⟨wc.heap.size, 0, none⟩, 1, 1⟩ ⟨rfl, rfl⟩ (.string s) h2 h1 hg (Nat.le_refl _))

end Go.Proofs.Ytijohhadgioolaa
