/-
  The switch's arm of two parts.
-/
import Derived.Test.YtijohhadgioolaaArmKit
import Derived.BigRegion
import Derived.Deep.RegionHeld3
import Derived.Deep.AppendLies
namespace Go.Proofs.Ytijohhadgioolaa
open Go.RowKit
set_option linter.unusedVariables false
set_option linter.unusedSimpArgs false
set_option maxRecDepth 100000
set_option maxHeartbeats 40000000 in
theorem armBin (B : Nat) (wc : World) (g : Nat) (d a1 b1 : Int) (c1 : ByteArray) (e1 : Bool) (s1 t1 : ByteArray) (hO : Hid (Own wc g d a1 b1 c1 e1 s1 t1)) (g2 n cp3 : Nat) (L : List (Item × Ex)) (m m2 : Item) (t t2 : Ex) (hn : Hid (L.length = n)) (hOut : Hid (Out B wc (.slice (some ⟨g2, 0, none⟩) (n + 2) cp3) (L ++ [(m, t)] ++ [(m2, t2)]))) (hBw : B ≤ wc.heap.size) (hL : n ≤ 60) (hd0 : 0 ≤ d) (hd1 : d ≤ 255) (hs : Hid (s1.size ≤ 30))
    (x0 x1 x2 x4 x7 x8 x9 x10 x11 x12 x13 x14 x15 x16 x17 x18 x19 x20 x21 x22 x23 x24 x25 x26 x27 x28 x29 x30 x31 x32 x33 x34 x35 x36 x37 x38 x39 x40 x41 x42 x43 x44 x45 x46 x47 x48 x49 x50 x51 x52 x53 x54 x55 x56 x57 x58 x59 x60 x61 x62 x63 x64 x65 x66 x67 x68 x69 x70 x71 x72 x73 x74 x75 x76 x77 x78 x79 x80 x81 x82 x83 x84 x85 x86 x87 x88 x89 x90 x91 x92 x93 x94 x95 x96 x97 x98 x99 x100 x101 x102 x103 x104 x105 x106 x107 x108 x109 x110 x111 x112 x113 x114 x115 x116 x117 x118 x119 x120 x121 x122 x123 x124 x125 x126 x127 x128 x129 x130 x131 x132 x133 x134 x135 x136 x137 x138 x139 x140 x141 x142 x143 x144 x145 x146 x147 x148 x149 x150 x151 x152 x153 x154 x155 x156 x157 x158 x159 x160 x161 x162 x163 x164 x165 x166 x167 x168 x169 x170 x171 x172 x173 x174 x175 x176 x177 x178 x179 x180 x181 x182 x183 x184 x185 x186 x187 x188 x189 x190 x191 x192 x193 x194 x195 x196 x197 x198 x199 x200 x201 x202 x203 x204 x205 x206 x207 x208 x209 x210 x211 x212 x213 x214 x215 x216 x217 x218 x219 x220 x221 x222 x223 x224 x225 x226 x227 x228 x229 x230 x231 x232 x233 x234 x235 x236 x237 x238 x239 x240 x241 x242 x243 x244 x245 : Value) (N : Act → World → Prop)
    (hQ : ∀ (y3 : Value) (w' : World) (y142 y143 y144 y145 y146 y147 y148 y149 y150 y151 y152 y153 y154 y155 y156 y157 y158 y159 y160 y161 y162 y163 y164 y165 y166 y167 y168 y169 y170 y171 y172 y173 y174 y175 y176 y177 y178 y179 y180 y181 y9 y10 y11 : Value), ArmPost B wc w' y3 (total L + t.count + t2.count + 1) → N ⟨#[x0, x1, x2, y3, x4, .pointer (some ⟨g, 0, none⟩), .int .i64 ((n + 2 : Nat) : Int), x7, x8, y9, y10, y11, x12, x13, x14, x15, x16, x17, x18, x19, x20, x21, x22, x23, x24, x25, x26, x27, x28, x29, x30, x31, x32, x33, x34, x35, x36, x37, x38, x39, x40, x41, x42, x43, x44, x45, x46, x47, x48, x49, x50, x51, x52, x53, x54, x55, x56, x57, x58, x59, x60, x61, x62, x63, x64, x65, x66, x67, x68, x69, x70, x71, x72, x73, x74, x75, x76, x77, x78, x79, x80, x81, x82, x83, x84, x85, x86, x87, x88, x89, x90, x91, x92, x93, x94, x95, x96, x97, x98, x99, x100, x101, x102, x103, x104, x105, x106, x107, x108, x109, x110, x111, x112, x113, x114, x115, x116, x117, x118, x119, x120, x121, x122, x123, x124, x125, x126, x127, x128, x129, x130, x131, x132, x133, x134, x135, x136, x137, x138, x139, x140, x141, y142, y143, y144, y145, y146, y147, y148, y149, y150, y151, y152, y153, y154, y155, y156, y157, y158, y159, y160, y161, y162, y163, y164, y165, y166, y167, y168, y169, y170, y171, y172, y173, y174, y175, y176, y177, y178, y179, y180, y181, x182, x183, x184, x185, x186, x187, x188, x189, x190, x191, x192, x193, x194, x195, x196, x197, x198, x199, x200, x201, x202, x203, x204, x205, x206, x207, x208, x209, x210, x211, x212, x213, x214, x215, x216, x217, x218, x219, x220, x221, x222, x223, x224, x225, x226, x227, x228, x229, x230, x231, x232, x233, x234, x235, x236, x237, x238, x239, x240, x241, x242, x243, x244, x245], []⟩ w') :
    Code.wp Try.prog (armT 139) (Exit.then N fun _ _ _ => False) ⟨#[x0, x1, x2, .slice (some ⟨g2, 0, none⟩) (n + 2) cp3, x4, .pointer (some ⟨g, 0, none⟩), .int .i64 ((n + 2 : Nat) : Int), x7, x8, x9, x10, x11, x12, x13, x14, x15, x16, x17, x18, x19, x20, x21, x22, x23, x24, x25, x26, x27, x28, x29, x30, x31, x32, x33, x34, x35, x36, x37, x38, x39, x40, x41, x42, x43, x44, x45, x46, x47, x48, x49, x50, x51, x52, x53, x54, x55, x56, x57, x58, x59, x60, x61, x62, x63, x64, x65, x66, x67, x68, x69, x70, x71, x72, x73, x74, x75, x76, x77, x78, x79, x80, x81, x82, x83, x84, x85, x86, x87, x88, x89, x90, x91, x92, x93, x94, x95, x96, x97, x98, x99, x100, x101, x102, x103, x104, x105, x106, x107, x108, x109, x110, x111, x112, x113, x114, x115, x116, x117, x118, x119, x120, x121, x122, x123, x124, x125, x126, x127, x128, x129, x130, x131, x132, x133, x134, x135, x136, x137, x138, x139, x140, x141, x142, x143, x144, x145, x146, x147, x148, x149, x150, x151, x152, x153, x154, x155, x156, x157, x158, x159, x160, x161, x162, x163, x164, x165, x166, x167, x168, x169, x170, x171, x172, x173, x174, x175, x176, x177, x178, x179, x180, x181, x182, x183, x184, x185, x186, x187, x188, x189, x190, x191, x192, x193, x194, x195, x196, x197, x198, x199, x200, x201, x202, x203, x204, x205, x206, x207, x208, x209, x210, x211, x212, x213, x214, x215, x216, x217, x218, x219, x220, x221, x222, x223, x224, x225, x226, x227, x228, x229, x230, x231, x232, x233, x234, x235, x236, x237, x238, x239, x240, x241, x242, x243, x244, x245], []⟩ wc := by
  have HL := Lib.hid hL
  have HB := Lib.hid hBw
  have HQ := Lib.hid hQ
  clear hQ
  have hgl : g < wc.heap.size := hO.out.lt
  have q5 := hat0 hO.out 5 (.string s1) rfl
  have q0 := hat0 hO.out 0 (.int .u8 d) rfl
  have HG := Lib.hid (fun i w (h : 0 ≤ i) => signs_calls i h w)
  obtain ⟨te, hte, hz0', hz1', hz2'⟩ := info_parts info35
  have hs0 : (s1.size : Int) ≤ 30 := by
    have := hs.out
    omega
  have hs1 : (0 : Int) ≤ (s1.size : Int) := by omega
  obtain ⟨i0, i1, i2, i3, i4, i5, i6, i7, i8⟩ := hOut.out.last2 hn.out
  obtain ⟨j0, j1, j2, j3, j4, j5, j6, j7, j8⟩ := hOut.out.last (n := n + 1) (by rw [List.length_append, hn.out]; rfl)
  have hg2 : g2 < wc.heap.size := (hOut.out.own'.lt g2 rfl).2
  conv => arg 2; whnf
  go_wp2_with fail
  refine (HG.out _ _ (by omega)).mono ?_
  rintro e w2 ⟨⟨s, rfl⟩, hw⟩
  obtain rfl : wc = w2 := hw.symm
  go_wp2_with fail
  go_region
  · go_wp2_with fail
    obtain ⟨h1, h2, hg⟩ := two_new wc (.cells m.vals.toArray 35) (.cells m2.vals.toArray 35) wc.heap.size rfl
    change Code.wp _ _ _ _ ((wc.alloc (.cells m.vals.toArray 35)).alloc (.cells m2.vals.toArray 35)).drew
    generalize ((wc.alloc (.cells m.vals.toArray 35)).alloc (.cells m2.vals.toArray 35)).drew = W at h1 h2 hg ⊢
    have hOW := Lib.hid (Out.pop2 hOut.out hn.out hg hBw)
    have hzs : wc.heap.size + 1 < W.heap.size := (Array.getElem?_eq_some_iff.1 h2).1
    have H1 := Lib.hid h1
    have H2 := Lib.hid h2
    have HG2 := Lib.hid hg
    clear hO q0 q5 HG i0 i1 i2 i3 i4 i5 i6 i7 i8 j0 j1 j2 j3 j4 j5 j6 j7 j8
    obtain ⟨z, hz⟩ : ∃ z, wc.heap.size = z := ⟨_, rfl⟩
    rw [hz] at h1 h2 hzs H1 H2 ⊢
    have HZ := Lib.hid hz
    have hg3 : g2 < W.heap.size := by omega
    have hza : Hid (z ≠ g2) := Lib.hid (by omega)
    have hzb : Hid (z + 1 ≠ g2) := Lib.hid (by omega)
    clear hg hz hg2 hgl
    obtain ⟨i0, i1, i2, i3, i4, i5, i6, i7, i8⟩ := hOW.out.1.last hn.out
    have f0 := hOW.out.1.free (n * 9)
    have f1 := hOW.out.1.free (n * 9 + 1)
    have f2 := hOW.out.1.free (n * 9 + 2)
    have f3 := hOW.out.1.free (n * 9 + 3)
    have f4 := hOW.out.1.free (n * 9 + 4)
    have f5 := hOW.out.1.free (n * 9 + 5)
    have f6 := hOW.out.1.free (n * 9 + 6)
    have f7 := hOW.out.1.free (n * 9 + 7)
    have f8 := hOW.out.1.free (n * 9 + 8)
    have h10 := hat0 h1 0 (.iface m.d m.x) rfl
    have h11 := hat0 h1 1 (.int .u8 m.r.k) rfl
    have h12 := hat0 h1 2 (.int .u8 m.r.a) rfl
    have h13 := hat0 h1 3 (.int .i64 m.r.b) rfl
    have h14 := hat0 h1 4 (.string m.r.c) rfl
    have h15 := hat0 h1 5 (.bool m.r.e) rfl
    have h16 := hat0 h1 6 (.string m.r.t) rfl
    have h17 := hat0 h1 7 (.string m.r.s) rfl
    have h18 := hat0 h1 8 (.slice m.r.A m.r.n m.r.cp) rfl
    have h20 := hat0 h2 0 (.iface m2.d m2.x) rfl
    have h21 := hat0 h2 1 (.int .u8 m2.r.k) rfl
    have h22 := hat0 h2 2 (.int .u8 m2.r.a) rfl
    have h23 := hat0 h2 3 (.int .i64 m2.r.b) rfl
    have h24 := hat0 h2 4 (.string m2.r.c) rfl
    have h25 := hat0 h2 5 (.bool m2.r.e) rfl
    have h26 := hat0 h2 6 (.string m2.r.t) rfl
    have h27 := hat0 h2 7 (.string m2.r.s) rfl
    have h28 := hat0 h2 8 (.slice m2.r.A m2.r.n m2.r.cp) rfl
    have hcp := hOW.out.2.2.2.2.1
    have hP := Lib.hid hOW.out.2.2.2.2.2
    have hP' : Hid (W.ownsRow B 35 9 (.slice (some ⟨g2, 0, none⟩) n cp3) n (flat L)) := Lib.hid (by have := hP.out.own; rw [hn.out] at this; exact this)
    have hsB : B ≤ W.heap.size := Nat.le_trans hBw HG2.out.size
    have hz0 : z < W.heap.size := by omega
    have hz2 : z < W.heap.size + 1 := by omega
    have hz3 : z + 1 < W.heap.size + 1 := by omega
    have hz4 : z < W.heap.size + 1 + 1 := by omega
    have hz5 : z + 1 < W.heap.size + 1 + 1 := by omega
    have hg4 : g2 < W.heap.size + 1 := by omega
    have hg5 : g2 < W.heap.size + 1 + 1 := by omega
    have hg6 : g2 < W.heap.size + 1 + 1 + 1 := by omega
    clear h1 h2 hd0 hd1 hs0 hs1 i0 i1 i2 i3 i4 i5 i6 i7 i8 f0 f1 f2 f3 f4 f5 f6 f7 f8
    have hb1 : Hid (n + 1 ≤ maxLen) := Lib.hid (by have := HL.out; unfold maxLen; omega)
    have hb2 : Hid ((n + 1) * 120 ≤ 140737488355328) := Lib.hid (by have := HL.out; omega)
    have hb3 : Hid (B ≤ W.heap.size + 1 + 1 + 1) := Lib.hid (by omega)
    have hn0 : (0 : Int) ≤ (n : Int) := by omega
    have hn1 : (n : Int) ≤ (cp3 : Int) := by omega
    have hw : IntKind.i64.wrap (n : Int) = (n : Int) := IntWalk.i64_in _ (by omega)
    go_region_held3 (fun w' => w'.cell? ⟨z, 0, none⟩ = some (.iface m.d m.x) ∧ w'.cell? ⟨z, 1, none⟩ = some (.int .u8 m.r.k) ∧ w'.cell? ⟨z, 2, none⟩ = some (.int .u8 m.r.a) ∧ w'.cell? ⟨z, 3, none⟩ = some (.int .i64 m.r.b) ∧ w'.cell? ⟨z, 4, none⟩ = some (.string m.r.c) ∧ w'.cell? ⟨z, 5, none⟩ = some (.bool m.r.e) ∧ w'.cell? ⟨z, 6, none⟩ = some (.string m.r.t) ∧ w'.cell? ⟨z, 7, none⟩ = some (.string m.r.s) ∧ w'.cell? ⟨z, 8, none⟩ = some (.slice m.r.A m.r.n m.r.cp) ∧ w'.cell? ⟨z + 1, 0, none⟩ = some (.iface m2.d m2.x) ∧ w'.cell? ⟨z + 1, 1, none⟩ = some (.int .u8 m2.r.k) ∧ w'.cell? ⟨z + 1, 2, none⟩ = some (.int .u8 m2.r.a) ∧ w'.cell? ⟨z + 1, 3, none⟩ = some (.int .i64 m2.r.b) ∧ w'.cell? ⟨z + 1, 4, none⟩ = some (.string m2.r.c) ∧ w'.cell? ⟨z + 1, 5, none⟩ = some (.bool m2.r.e) ∧ w'.cell? ⟨z + 1, 6, none⟩ = some (.string m2.r.t) ∧ w'.cell? ⟨z + 1, 7, none⟩ = some (.string m2.r.s) ∧ w'.cell? ⟨z + 1, 8, none⟩ = some (.slice m2.r.A m2.r.n m2.r.cp))
      (first
        | with_reducible exact ⟨cell3 _ _ _ h10, cell3 _ _ _ h11, cell3 _ _ _ h12, cell3 _ _ _ h13, cell3 _ _ _ h14, cell3 _ _ _ h15, cell3 _ _ _ h16, cell3 _ _ _ h17, cell3 _ _ _ h18, cell3 _ _ _ h20, cell3 _ _ _ h21, cell3 _ _ _ h22, cell3 _ _ _ h23, cell3 _ _ _ h24, cell3 _ _ _ h25, cell3 _ _ _ h26, cell3 _ _ _ h27, cell3 _ _ _ h28⟩
        | exact ⟨far3 hgrow h10 hza.out, far3 hgrow h11 hza.out, far3 hgrow h12 hza.out, far3 hgrow h13 hza.out, far3 hgrow h14 hza.out, far3 hgrow h15 hza.out, far3 hgrow h16 hza.out, far3 hgrow h17 hza.out, far3 hgrow h18 hza.out, far3 hgrow h20 hzb.out, far3 hgrow h21 hzb.out, far3 hgrow h22 hzb.out, far3 hgrow h23 hzb.out, far3 hgrow h24 hzb.out, far3 hgrow h25 hzb.out, far3 hgrow h26 hzb.out, far3 hgrow h27 hzb.out, far3 hgrow h28 hzb.out⟩
        | go_keep)
      ((refine step_append_lies _ (by rfl) _ _ _ (by rfl) B 35 te (.agg #[.nilIface, .int .u8 0, .int .u8 0, .int .i64 0, .string ⟨#[]⟩, .bool false, .string ⟨#[]⟩, .string ⟨#[]⟩, .slice none 0 0]) 9 120 Try.underlying24 hte hz0' hz1' hz2' rfl (by decide) (.slice (some ⟨g2, 0, none⟩) n cp3) n (flat L) (by rfl) (((((hP'.out.alloc _).alloc _).alloc _).drew)) ⟨W.heap.size + 1 + 1, 0, none⟩ 1 1 _ (by rfl) (by rfl) (World.news_of_block (three_last _ _ _ _)) (by simp [Value.oneCell']) (by decide) hb1.out hb2.out (by rw [three_size]; exact hb3.out) (W.heap.size + 1 + 1 + 1) (three_size _ _ _ _) ?_; intro gg cap w1 hown1 hgrow hat hlt))
    all_goals
      go_wp2_with fail
      first
        | exact HQ.out _ _ _ _ _ _ _ _ _ _ _ _ _ _ _ _ _ _ _ _ _ _ _ _ _ _ _ _ _ _ _ _ _ _ _ _ _ _ _ _ _ _ _ _ _ (push_bin hP.out hn.out (three_mid W _ _ _ _ rfl).2.2 hsB hOW.out.2.2.2.1 hOW.out.2.1 hOW.out.2.2.1 s (three_mid W _ _ _ _ rfl).1 (three_mid W _ _ _ _ rfl).2.1 (Nat.le_refl _) hown1 hgrow)
        | exact HQ.out _ _ _ _ _ _ _ _ _ _ _ _ _ _ _ _ _ _ _ _ _ _ _ _ _ _ _ _ _ _ _ _ _ _ _ _ _ _ _ _ _ _ _ _ _ (push_bin hP.out hn.out (three_mid W _ _ _ _ rfl).2.2 hsB hOW.out.2.2.2.1 hOW.out.2.1 hOW.out.2.2.1 s (three_mid W _ _ _ _ rfl).2.1 (three_mid W _ _ _ _ rfl).1 (Nat.le_refl _) hown1 hgrow)
  · go_wp2_with fail
    obtain ⟨h1, h2, hg⟩ := two_new wc (.cells m2.vals.toArray 35) (.cells m.vals.toArray 35) wc.heap.size rfl
    change Code.wp _ _ _ _ ((wc.alloc (.cells m2.vals.toArray 35)).alloc (.cells m.vals.toArray 35)).drew
    generalize ((wc.alloc (.cells m2.vals.toArray 35)).alloc (.cells m.vals.toArray 35)).drew = W at h1 h2 hg ⊢
    have hOW := Lib.hid (Out.pop2 hOut.out hn.out hg hBw)
    have hzs : wc.heap.size + 1 < W.heap.size := (Array.getElem?_eq_some_iff.1 h2).1
    have H1 := Lib.hid h1
    have H2 := Lib.hid h2
    have HG2 := Lib.hid hg
    clear hO q0 q5 HG i0 i1 i2 i3 i4 i5 i6 i7 i8 j0 j1 j2 j3 j4 j5 j6 j7 j8
    obtain ⟨z, hz⟩ : ∃ z, wc.heap.size = z := ⟨_, rfl⟩
    rw [hz] at h1 h2 hzs H1 H2 ⊢
    have HZ := Lib.hid hz
    have hg3 : g2 < W.heap.size := by omega
    have hza : Hid (z ≠ g2) := Lib.hid (by omega)
    have hzb : Hid (z + 1 ≠ g2) := Lib.hid (by omega)
    clear hg hz hg2 hgl
    obtain ⟨i0, i1, i2, i3, i4, i5, i6, i7, i8⟩ := hOW.out.1.last hn.out
    have f0 := hOW.out.1.free (n * 9)
    have f1 := hOW.out.1.free (n * 9 + 1)
    have f2 := hOW.out.1.free (n * 9 + 2)
    have f3 := hOW.out.1.free (n * 9 + 3)
    have f4 := hOW.out.1.free (n * 9 + 4)
    have f5 := hOW.out.1.free (n * 9 + 5)
    have f6 := hOW.out.1.free (n * 9 + 6)
    have f7 := hOW.out.1.free (n * 9 + 7)
    have f8 := hOW.out.1.free (n * 9 + 8)
    have h10 := hat0 h1 0 (.iface m2.d m2.x) rfl
    have h11 := hat0 h1 1 (.int .u8 m2.r.k) rfl
    have h12 := hat0 h1 2 (.int .u8 m2.r.a) rfl
    have h13 := hat0 h1 3 (.int .i64 m2.r.b) rfl
    have h14 := hat0 h1 4 (.string m2.r.c) rfl
    have h15 := hat0 h1 5 (.bool m2.r.e) rfl
    have h16 := hat0 h1 6 (.string m2.r.t) rfl
    have h17 := hat0 h1 7 (.string m2.r.s) rfl
    have h18 := hat0 h1 8 (.slice m2.r.A m2.r.n m2.r.cp) rfl
    have h20 := hat0 h2 0 (.iface m.d m.x) rfl
    have h21 := hat0 h2 1 (.int .u8 m.r.k) rfl
    have h22 := hat0 h2 2 (.int .u8 m.r.a) rfl
    have h23 := hat0 h2 3 (.int .i64 m.r.b) rfl
    have h24 := hat0 h2 4 (.string m.r.c) rfl
    have h25 := hat0 h2 5 (.bool m.r.e) rfl
    have h26 := hat0 h2 6 (.string m.r.t) rfl
    have h27 := hat0 h2 7 (.string m.r.s) rfl
    have h28 := hat0 h2 8 (.slice m.r.A m.r.n m.r.cp) rfl
    have hcp := hOW.out.2.2.2.2.1
    have hP := Lib.hid hOW.out.2.2.2.2.2
    have hP' : Hid (W.ownsRow B 35 9 (.slice (some ⟨g2, 0, none⟩) n cp3) n (flat L)) := Lib.hid (by have := hP.out.own; rw [hn.out] at this; exact this)
    have hsB : B ≤ W.heap.size := Nat.le_trans hBw HG2.out.size
    have hz0 : z < W.heap.size := by omega
    have hz2 : z < W.heap.size + 1 := by omega
    have hz3 : z + 1 < W.heap.size + 1 := by omega
    have hz4 : z < W.heap.size + 1 + 1 := by omega
    have hz5 : z + 1 < W.heap.size + 1 + 1 := by omega
    have hg4 : g2 < W.heap.size + 1 := by omega
    have hg5 : g2 < W.heap.size + 1 + 1 := by omega
    have hg6 : g2 < W.heap.size + 1 + 1 + 1 := by omega
    clear h1 h2 hd0 hd1 hs0 hs1 i0 i1 i2 i3 i4 i5 i6 i7 i8 f0 f1 f2 f3 f4 f5 f6 f7 f8
    have hb1 : Hid (n + 1 ≤ maxLen) := Lib.hid (by have := HL.out; unfold maxLen; omega)
    have hb2 : Hid ((n + 1) * 120 ≤ 140737488355328) := Lib.hid (by have := HL.out; omega)
    have hb3 : Hid (B ≤ W.heap.size + 1 + 1 + 1) := Lib.hid (by omega)
    have hn0 : (0 : Int) ≤ (n : Int) := by omega
    have hn1 : (n : Int) ≤ (cp3 : Int) := by omega
    have hw : IntKind.i64.wrap (n : Int) = (n : Int) := IntWalk.i64_in _ (by omega)
    go_region_held3 (fun w' => w'.cell? ⟨z + 1, 0, none⟩ = some (.iface m.d m.x) ∧ w'.cell? ⟨z + 1, 1, none⟩ = some (.int .u8 m.r.k) ∧ w'.cell? ⟨z + 1, 2, none⟩ = some (.int .u8 m.r.a) ∧ w'.cell? ⟨z + 1, 3, none⟩ = some (.int .i64 m.r.b) ∧ w'.cell? ⟨z + 1, 4, none⟩ = some (.string m.r.c) ∧ w'.cell? ⟨z + 1, 5, none⟩ = some (.bool m.r.e) ∧ w'.cell? ⟨z + 1, 6, none⟩ = some (.string m.r.t) ∧ w'.cell? ⟨z + 1, 7, none⟩ = some (.string m.r.s) ∧ w'.cell? ⟨z + 1, 8, none⟩ = some (.slice m.r.A m.r.n m.r.cp) ∧ w'.cell? ⟨z, 0, none⟩ = some (.iface m2.d m2.x) ∧ w'.cell? ⟨z, 1, none⟩ = some (.int .u8 m2.r.k) ∧ w'.cell? ⟨z, 2, none⟩ = some (.int .u8 m2.r.a) ∧ w'.cell? ⟨z, 3, none⟩ = some (.int .i64 m2.r.b) ∧ w'.cell? ⟨z, 4, none⟩ = some (.string m2.r.c) ∧ w'.cell? ⟨z, 5, none⟩ = some (.bool m2.r.e) ∧ w'.cell? ⟨z, 6, none⟩ = some (.string m2.r.t) ∧ w'.cell? ⟨z, 7, none⟩ = some (.string m2.r.s) ∧ w'.cell? ⟨z, 8, none⟩ = some (.slice m2.r.A m2.r.n m2.r.cp))
      (first
        | with_reducible exact ⟨cell3 _ _ _ h20, cell3 _ _ _ h21, cell3 _ _ _ h22, cell3 _ _ _ h23, cell3 _ _ _ h24, cell3 _ _ _ h25, cell3 _ _ _ h26, cell3 _ _ _ h27, cell3 _ _ _ h28, cell3 _ _ _ h10, cell3 _ _ _ h11, cell3 _ _ _ h12, cell3 _ _ _ h13, cell3 _ _ _ h14, cell3 _ _ _ h15, cell3 _ _ _ h16, cell3 _ _ _ h17, cell3 _ _ _ h18⟩
        | exact ⟨far3 hgrow h20 hzb.out, far3 hgrow h21 hzb.out, far3 hgrow h22 hzb.out, far3 hgrow h23 hzb.out, far3 hgrow h24 hzb.out, far3 hgrow h25 hzb.out, far3 hgrow h26 hzb.out, far3 hgrow h27 hzb.out, far3 hgrow h28 hzb.out, far3 hgrow h10 hza.out, far3 hgrow h11 hza.out, far3 hgrow h12 hza.out, far3 hgrow h13 hza.out, far3 hgrow h14 hza.out, far3 hgrow h15 hza.out, far3 hgrow h16 hza.out, far3 hgrow h17 hza.out, far3 hgrow h18 hza.out⟩
        | go_keep)
      ((refine step_append_lies _ (by rfl) _ _ _ (by rfl) B 35 te (.agg #[.nilIface, .int .u8 0, .int .u8 0, .int .i64 0, .string ⟨#[]⟩, .bool false, .string ⟨#[]⟩, .string ⟨#[]⟩, .slice none 0 0]) 9 120 Try.underlying24 hte hz0' hz1' hz2' rfl (by decide) (.slice (some ⟨g2, 0, none⟩) n cp3) n (flat L) (by rfl) (((((hP'.out.alloc _).alloc _).alloc _).drew)) ⟨W.heap.size + 1 + 1, 0, none⟩ 1 1 _ (by rfl) (by rfl) (World.news_of_block (three_last _ _ _ _)) (by simp [Value.oneCell']) (by decide) hb1.out hb2.out (by rw [three_size]; exact hb3.out) (W.heap.size + 1 + 1 + 1) (three_size _ _ _ _) ?_; intro gg cap w1 hown1 hgrow hat hlt))
    all_goals
      go_wp2_with fail
      first
        | exact HQ.out _ _ _ _ _ _ _ _ _ _ _ _ _ _ _ _ _ _ _ _ _ _ _ _ _ _ _ _ _ _ _ _ _ _ _ _ _ _ _ _ _ _ _ _ _ (push_bin hP.out hn.out (three_mid W _ _ _ _ rfl).2.2 hsB hOW.out.2.2.2.1 hOW.out.2.1 hOW.out.2.2.1 s (three_mid W _ _ _ _ rfl).1 (three_mid W _ _ _ _ rfl).2.1 (Nat.le_refl _) hown1 hgrow)
        | exact HQ.out _ _ _ _ _ _ _ _ _ _ _ _ _ _ _ _ _ _ _ _ _ _ _ _ _ _ _ _ _ _ _ _ _ _ _ _ _ _ _ _ _ _ _ _ _ (push_bin hP.out hn.out (three_mid W _ _ _ _ rfl).2.2 hsB hOW.out.2.2.2.1 hOW.out.2.1 hOW.out.2.2.1 s (three_mid W _ _ _ _ rfl).2.1 (three_mid W _ _ _ _ rfl).1 (Nat.le_refl _) hown1 hgrow)


end Go.Proofs.Ytijohhadgioolaa
