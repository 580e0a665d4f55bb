/-
  The switch's second arm: a column.
-/
import Derived.Test.YtijohhadgioolaaArmKit
namespace Go.Proofs.Ytijohhadgioolaa
open Go.RowKit
set_option linter.unusedVariables false
set_option linter.unusedSimpArgs false
set_option maxRecDepth 100000
set_option maxHeartbeats 40000000 in
theorem armCol (B : Nat) (wc : World) (g : Nat) (d a1 b1 : Int) (c1 : ByteArray) (e1 : Bool) (s1 t1 : ByteArray) (hO : Hid (Own wc g d a1 b1 c1 e1 s1 t1)) (A3 : Option Addr) (cp3 : Nat) (L : List (Item × Ex)) (hOut : Hid (Out B wc (.slice A3 L.length cp3) L)) (hBw : B ≤ wc.heap.size) (hL : L.length ≤ 60) (q : Nat) 
    (x0 x1 x2 x4 x8 x9 x10 x11 x12 x13 x14 x15 x16 x17 x18 x19 x20 x21 x22 x23 x24 x25 x26 x27 x28 x29 x30 x31 x32 x33 x34 x35 x36 x37 x38 x39 x40 x41 x42 x43 x44 x45 x46 x47 x48 x49 x50 x51 x52 x53 x54 x55 x56 x57 x58 x59 x60 x61 x62 x63 x64 x65 x66 x67 x68 x69 x70 x71 x72 x73 x74 x75 x76 x77 x78 x79 x80 x81 x82 x83 x84 x85 x86 x87 x88 x89 x90 x91 x92 x93 x94 x95 x96 x97 x98 x99 x100 x101 x102 x103 x104 x105 x106 x107 x108 x109 x110 x111 x112 x113 x114 x115 x116 x117 x118 x119 x120 x121 x122 x123 x124 x125 x126 x127 x128 x129 x130 x131 x132 x133 x134 x135 x136 x137 x138 x139 x140 x141 x142 x143 x144 x145 x146 x147 x148 x149 x150 x151 x152 x153 x154 x155 x156 x157 x158 x159 x160 x161 x162 x163 x164 x165 x166 x167 x168 x169 x170 x171 x172 x173 x174 x175 x176 x177 x178 x179 x180 x181 x182 x183 x184 x185 x186 x187 x188 x189 x190 x191 x192 x193 x194 x195 x196 x197 x198 x199 x200 x201 x202 x203 x204 x205 x206 x207 x208 x209 x210 x211 x212 x213 x214 x215 x216 x217 x218 x219 x220 x221 x222 x223 x224 x225 x226 x227 x228 x229 x230 x231 x232 x233 x234 x235 x236 x237 x238 x239 x240 x241 x242 x243 x244 x245 : Value) (N : Act → World → Prop)
    (hQ : ∀ (y3 : Value) (w' : World) (y92 y93 y94 y95 y96 y97 y98 y99 y100 y101 y102 y103 y104 y105 y106 y107 : Value), ArmPost B wc w' y3 (total L + 1) → N ⟨#[x0, x1, x2, y3, x4, .pointer (some ⟨g, 0, none⟩), .int .i64 (L.length : Nat), .int .u8 (q : Nat), x8, x9, x10, x11, x12, x13, x14, x15, x16, x17, x18, x19, x20, x21, x22, x23, x24, x25, x26, x27, x28, x29, x30, x31, x32, x33, x34, x35, x36, x37, x38, x39, x40, x41, x42, x43, x44, x45, x46, x47, x48, x49, x50, x51, x52, x53, x54, x55, x56, x57, x58, x59, x60, x61, x62, x63, x64, x65, x66, x67, x68, x69, x70, x71, x72, x73, x74, x75, x76, x77, x78, x79, x80, x81, x82, x83, x84, x85, x86, x87, x88, x89, x90, x91, y92, y93, y94, y95, y96, y97, y98, y99, y100, y101, y102, y103, y104, y105, y106, y107, x108, x109, x110, x111, x112, x113, x114, x115, x116, x117, x118, x119, x120, x121, x122, x123, x124, x125, x126, x127, x128, x129, x130, x131, x132, x133, x134, x135, x136, x137, x138, x139, x140, x141, x142, x143, x144, x145, x146, x147, x148, x149, x150, x151, x152, x153, x154, x155, x156, x157, x158, x159, x160, x161, x162, x163, x164, x165, x166, x167, x168, x169, x170, x171, x172, x173, x174, x175, x176, x177, x178, x179, x180, x181, x182, x183, x184, x185, x186, x187, x188, x189, x190, x191, x192, x193, x194, x195, x196, x197, x198, x199, x200, x201, x202, x203, x204, x205, x206, x207, x208, x209, x210, x211, x212, x213, x214, x215, x216, x217, x218, x219, x220, x221, x222, x223, x224, x225, x226, x227, x228, x229, x230, x231, x232, x233, x234, x235, x236, x237, x238, x239, x240, x241, x242, x243, x244, x245], []⟩ w') :
    Code.wp Try.prog (armT 89) (Exit.then N fun _ _ _ => False) ⟨#[x0, x1, x2, .slice A3 L.length cp3, x4, .pointer (some ⟨g, 0, none⟩), .int .i64 (L.length : Nat), .int .u8 (q : Nat), x8, x9, x10, x11, x12, x13, x14, x15, x16, x17, x18, x19, x20, x21, x22, x23, x24, x25, x26, x27, x28, x29, x30, x31, x32, x33, x34, x35, x36, x37, x38, x39, x40, x41, x42, x43, x44, x45, x46, x47, x48, x49, x50, x51, x52, x53, x54, x55, x56, x57, x58, x59, x60, x61, x62, x63, x64, x65, x66, x67, x68, x69, x70, x71, x72, x73, x74, x75, x76, x77, x78, x79, x80, x81, x82, x83, x84, x85, x86, x87, x88, x89, x90, x91, x92, x93, x94, x95, x96, x97, x98, x99, x100, x101, x102, x103, x104, x105, x106, x107, x108, x109, x110, x111, x112, x113, x114, x115, x116, x117, x118, x119, x120, x121, x122, x123, x124, x125, x126, x127, x128, x129, x130, x131, x132, x133, x134, x135, x136, x137, x138, x139, x140, x141, x142, x143, x144, x145, x146, x147, x148, x149, x150, x151, x152, x153, x154, x155, x156, x157, x158, x159, x160, x161, x162, x163, x164, x165, x166, x167, x168, x169, x170, x171, x172, x173, x174, x175, x176, x177, x178, x179, x180, x181, x182, x183, x184, x185, x186, x187, x188, x189, x190, x191, x192, x193, x194, x195, x196, x197, x198, x199, x200, x201, x202, x203, x204, x205, x206, x207, x208, x209, x210, x211, x212, x213, x214, x215, x216, x217, x218, x219, x220, x221, x222, x223, x224, x225, x226, x227, x228, x229, x230, x231, x232, x233, x234, x235, x236, x237, x238, x239, x240, x241, x242, x243, x244, x245], []⟩ wc := by
  have HL := Lib.hid hL
  have HB := Lib.hid hBw
  have HQ := Lib.hid hQ
  clear hQ
  have hgl : g < wc.heap.size := hO.out.lt
  have q5 := hat0 hO.out 5 (.string s1) rfl
  have q6 := hat0 hO.out 6 (.string t1) rfl
  obtain ⟨i0, hi, hz0, hz1, hz2⟩ := info_parts info35
  obtain ⟨m, hm⟩ : ∃ m : Item, m = ⟨56, .pointer (some ⟨wc.heap.size, 0, none⟩), ⟨2, 0, 0, ⟨#[]⟩, false, t1, s1, none, 0, 0⟩⟩ := ⟨_, rfl⟩
  have hn1 : (wc.alloc (.cells #[.string t1, .string s1] 58)).heap[wc.heap.size]? = some (.cells #[.string t1, .string s1] 58 (0, 0)) := by simp [World.alloc, -World.alloc_eq]
  have hM : Hid (m.Is (wc.alloc (.cells #[.string t1, .string s1] 58)) .col) := Lib.hid (by subst hm; exact ⟨⟨_, _, _, rfl, hn1⟩, (rfl : (0 : Nat) = 0)⟩)
  have hB1 : Hid (Below B wc (wc.alloc (.cells #[.string t1, .string s1] 58))) := Lib.hid ((Below.refl B wc).alloc hBw _)
  have hO1 : Hid (Out B (wc.alloc (.cells #[.string t1, .string s1] 58)) (.slice A3 L.length cp3) L) := Lib.hid (hOut.out.alloc _)
  have hO2 : Hid (Out B ((wc.alloc (.cells #[.string t1, .string s1] 58)).alloc (.cells m.vals.toArray 35)) (.slice A3 L.length cp3) L) := Lib.hid (hO1.out.alloc _)
  have hB2 : Hid (Below B wc ((wc.alloc (.cells #[.string t1, .string s1] 58)).alloc (.cells m.vals.toArray 35))) := Lib.hid (hB1.out.alloc (by simp; omega) _)
  have hM2 : Hid (m.Is ((wc.alloc (.cells #[.string t1, .string s1] 58)).alloc (.cells m.vals.toArray 35)) .col) := Lib.hid (hM.out.keep (keep_below ((Below.refl _ _).alloc (Nat.le_refl _) _)))
  have hN2 : Hid (∀ j u, m.vals[j]? = some u → ((wc.alloc (.cells #[.string t1, .string s1] 58)).alloc (.cells m.vals.toArray 35)).cell? ((⟨wc.heap.size + 1, 0, none⟩ : Addr).add j) = some u) := Lib.hid (by
    have h := cells_new (wc.alloc (.cells #[.string t1, .string s1] 58)) m.vals 35
    rw [alloc_sz] at h
    exact h)
  clear hn1 hM hB1 hO1 hOut
  subst hm
  conv => arg 2; whnf
  go_wp2_with (at_builtin; refine wpList_append_own _ rfl _ _ 24 rfl B 35 i0 (.agg #[.nilIface, .int .u8 0, .int .u8 0, .int .i64 0, .string ⟨#[]⟩, .bool false, .string ⟨#[]⟩, .string ⟨#[]⟩, .slice none 0 0]) 9 120 Try.underlying24 hi hz0 hz1 hz2 rfl (by decide) _ _ _ rfl hO2.out.own ⟨wc.heap.size + 1, 0, none⟩ 1 1 _ rfl rfl hN2.out (by intro u hu; simp [Item.vals, RV.vals] at hu; rcases hu with rfl | rfl | rfl | rfl | rfl | rfl | rfl | rfl | rfl <;> rfl) (by have := HL.out; unfold maxLen; omega) (by have := HL.out; omega) (by have := HB.out; simp; omega) ?_; intro v' w' hown hgrow _)
  exact HQ.out _ _ _ _ _ _ _ _ _ _ _ _ _ _ _ _ _ _ (ArmPost.push hO2.out hB2.out (by simp; omega) _ _ hM2.out (by simp [Ex.count]) hown hgrow)

end Go.Proofs.Ytijohhadgioolaa
