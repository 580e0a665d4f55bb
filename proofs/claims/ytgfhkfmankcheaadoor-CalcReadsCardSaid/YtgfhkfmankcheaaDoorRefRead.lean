/-
  The contract of the reference's Read: the same answer as calc.Read's contract gives. Conditions: the text is no longer than 2^63 - 1.
-/
import Derived.Test.YtgfhkfmankcheaaDoorDec
import Derived.Test.YtgfhkfmankcheaaDoorNumLaw
import Derived.Lib.IndexBytes
namespace Go.Proofs.YtgfhkfmankcheaaDoor
open Go.RowKit
set_option linter.unusedVariables false
set_option linter.unusedSimpArgs false

theorem isEmpty_size (s : ByteArray) (h : s.size = 0) : s.data.toList = [] := List.eq_nil_of_length_eq_zero (by simpa using h)
/-- what is left of the text when the noughts ahead are struck -/
def Cut (s t : ByteArray) : Prop := num t.data.toList = num s.data.toList ∧ t.data.toList.all isDig = true ∧ 1 ≤ t.size ∧ t.size ≤ s.size
theorem Cut.next {s t : ByteArray} (h : Cut s t) (h1 : 1 < t.size) (h0 : (t[0]'(by omega)).toNat = 48) : Cut s (t.extract 1 t.size) := by
  obtain ⟨a, b, c, d⟩ := h
  have e : t.data.toList = (t[0]'(by omega)) :: (t.extract 1 t.size).data.toList := by
    rw [Lib.extract_to_end]
    have hl : t.data.toList.length = t.size := by simp
    cases hh : t.data.toList with
    | nil => rw [hh] at hl; simp at hl; omega
    | cons x r =>
      have : t[0]'(by omega) = x := by
        have : (t.data.toList)[0]? = some x := by rw [hh]; rfl
        rw [List.getElem?_eq_getElem (by rw [hl]; omega)] at this
        exact Option.some.inj this
      rw [this]; rfl
  have e0 : t[0]'(by omega) = 48 := UInt8.toNat_inj.1 h0
  rw [e0] at e
  refine ⟨?_, ?_, ?_, ?_⟩
  · rw [← a, e, num_nought]
  · rw [e] at b
    simp only [List.all_cons, Bool.and_eq_true] at b
    exact b.2
  · rw [ByteArray.size_extract]; omega
  · rw [ByteArray.size_extract]; omega

set_option maxHeartbeats 1000000 in
theorem ref_read (s : ByteArray) (w : World) (hs : s.size ≤ 9223372036854775807) :
    Calls Tryd.prog 6 #[.string s] w fun e w' => e = .returned (.tuple #[.int .i64 (readV s.data.toList), .int .i64 (readE s.data.toList)]) ∧ w = w' := by
  by_cases h0 : s.size = 0
  · have hd : digits s.data.toList = false := by rw [isEmpty_size s h0]; rfl
    have H := Lib.hid (read_not hd)
    have hz : ((s.size : Int) == 0) = true := by simp [h0]
    clear hd
    go_enter Tryd.func6, Tryd.ntmps6
    go_wp2_with fail
    go_ret2
    exact ⟨ret_ii H.out.1.symm H.out.2.symm, rfl⟩
  · have hz : ((s.size : Int) == 0) = false := beq_eq_false_iff_ne.2 (by omega)
    go_enter Tryd.func6, Tryd.ntmps6
    go_wp2_with fail
    go_loop [4] (fun i => ∃ k : Nat, k ≤ s.size ∧ i = .int .i64 k ∧ (s.data.toList.take k).all isDig = true) (fun i => s.size - (intOf i).toNat)
    case atStart => exact ⟨0, by omega, rfl, by simp⟩
    case round =>
      obtain ⟨k, hk, rfl, hall⟩ := hrel
      by_cases hlt : k < s.size
      · by_cases hd : 48 ≤ (s[k]).toNat ∧ (s[k]).toNat ≤ 57
        · have d1 : 48 ≤ ((s[k]).toNat : Int) := by omega
          have d2 : ((s[k]).toNat : Int) ≤ 57 := by omega
          have hall2 : (s.data.toList.take (k + 1)).all isDig = true := by
            rw [take_snoc s k hlt, List.all_append, hall]
            simpa [isDig_iff] using hd
          clear hd hall
          go_wp2_with fail
          go_round
          case rel => exact ⟨k + 1, by omega, by go_num, hall2⟩
          case measure => simp [intOf]; omega
        · have H := Lib.hid (read_not (digits_not s k hlt hd))
          have hd2 : ((s[k]).toNat : Int) < 48 ∨ (48 ≤ ((s[k]).toNat : Int) ∧ 57 < ((s[k]).toNat : Int)) := by omega
          clear hd hall
          rcases hd2 with h1 | ⟨h1, h2⟩
          · go_wp2_with fail
            go_ret2
            exact ⟨ret_ii H.out.1.symm H.out.2.symm, rfl⟩
          · go_wp2_with fail
            go_ret2
            exact ⟨ret_ii H.out.1.symm H.out.2.symm, rfl⟩
      · rw [take_all s k (by omega)] at hall
        have hd := digits_yes hall (by omega)
        have hr := read_yes hd
        have HR := Lib.hid hr
        have HA := Lib.hid hall
        have hc : Cut s s := ⟨rfl, hall, by omega, by omega⟩
        have HC := Lib.hid hc
        clear hall hd hr hc
        go_wp2_with fail
        clear hlt hk
        go_loop [0] (fun v => ∃ t : ByteArray, v = .string t ∧ Hid (Cut s t)) (fun v => match v with | .string t => t.size | _ => 0)
        case atStart => exact ⟨s, rfl, HC⟩
        case round =>
          obtain ⟨t, rfl, HCut⟩ := hrel
          have hts : 1 ≤ t.size ∧ t.size ≤ s.size := ⟨HCut.out.2.2.1, HCut.out.2.2.2⟩
          obtain ⟨t1, t2⟩ := hts
          have hover : ∀ h : 9223372036854775807 < num t.data.toList, readV s.data.toList = 0 ∧ readE s.data.toList = 9 := fun h => by
            have hf : fits (num t.data.toList : Nat) = false := by
              cases hf : fits (num t.data.toList : Nat) with
              | false => rfl
              | true => exact absurd ((fits_iff _).1 hf).2 (by omega)
            rw [HCut.out.1] at hf
            exact ⟨by rw [HR.out.1]; simp [val, hf], by rw [HR.out.2]; simp [err, hf]⟩
          have HO := Lib.hid hover
          clear hover
          by_cases h1 : 1 < t.size
          · have hc0 : (t[0]'(by omega)).toNat = 48 ∨ 49 ≤ (t[0]'(by omega)).toNat := by
              have := all_at t HCut.out.2.1 0 (by omega)
              omega
            rcases hc0 with hc0 | hc0
            · have hn := Lib.hid (HCut.out.next h1 hc0)
              have hb : (((t[0]'(by omega)).toNat : Int) == 48) = true := by simp [hc0]
              have hsz : (t.extract 1 t.size).size = t.size - 1 := by rw [ByteArray.size_extract]; omega
              have HS := Lib.hid hsz
              clear hc0 hsz
              go_wp2_with fail
              go_round
              case rel => exact ⟨_, rfl, hn⟩
              case measure => show (t.extract 1 t.size).size < t.size; rw [HS.out]; omega
            · have hb : (((t[0]'(by omega)).toNat : Int) == 48) = false := beq_eq_false_iff_ne.2 (by omega)
              by_cases h19 : 19 < t.size
              · have ho : 9223372036854775807 < num t.data.toList := by
                  have hl : t.data.toList.length = t.size := by simp
                  cases hh : t.data.toList with
                  | nil => rw [hh] at hl; simp at hl; omega
                  | cons x r =>
                    have : t[0]'(by omega) = x := by
                      have : (t.data.toList)[0]? = some x := by rw [hh]; rfl
                      rw [List.getElem?_eq_getElem (by rw [hl]; omega)] at this
                      exact Option.some.inj this
                    rw [this] at hc0
                    rw [hh] at hl
                    exact over_len x r hc0 (by simp at hl; omega)
                have H := Lib.hid (HO.out ho)
                have g19 : ((19 : Int) < t.size) := by omega
                clear ho hc0
                go_wp2_with fail
                go_ret2
                exact ⟨ret_ii H.out.1.symm H.out.2.symm, rfl⟩
              · clear hc0
                by_cases e19 : t.size = 19
                · have hov := over_most t.data.toList HCut.out.2.1 (by simpa using e19)
                  have e20 : ((t.size : Int) == 19) = true := by simp [e19]
                  have hls := less_num t.data.toList most HCut.out.2.1 most_dig (by rw [show most.length = 19 from rfl]; simpa using e19)
                  have heq := eq_num t.data.toList most HCut.out.2.1 most_dig (by rw [show most.length = 19 from rfl]; simpa using e19)
                  rw [most_num] at hls heq
                  by_cases ho : 9223372036854775807 < num t.data.toList
                  · have b1 : Op.bytesLess t.toList [57, 50, 50, 51, 51, 55, 50, 48, 51, 54, 56, 53, 52, 55, 55, 53, 56, 48, 55] = false := by rw [Lib.toList_data]; exact hls.trans (decide_eq_false (by omega))
                    have b2 : (t.toList == [57, 50, 50, 51, 51, 55, 50, 48, 51, 54, 56, 53, 52, 55, 55, 53, 56, 48, 55]) = false := by rw [Lib.toList_data]; exact beq_eq_false_iff_ne.2 (fun e => by have := heq.1 e; omega)
                    have H := Lib.hid (HO.out ho)
                    clear ho hov hls heq e19
                    go_wp2_with fail
                    go_ret2
                    exact ⟨ret_ii H.out.1.symm H.out.2.symm, rfl⟩
                  · have HB := Lib.hid (show num t.data.toList ≤ 9223372036854775807 from by omega)
                    by_cases hl : num t.data.toList < 9223372036854775807
                    · have b1 : Op.bytesLess t.toList [57, 50, 50, 51, 51, 55, 50, 48, 51, 54, 56, 53, 52, 55, 55, 53, 56, 48, 55] = true := by rw [Lib.toList_data]; exact hls.trans (decide_eq_true hl)
                      clear ho hov hls heq e19 hl
                      go_wp2_with fail
                      go_loop [5, 6] (fun n i => ∃ k : Nat, k ≤ t.size ∧ i = .int .i64 k ∧ n = .int .i64 (num (t.data.toList.take k) : Nat)) (fun _ i => t.size - (intOf i).toNat)
                      case atStart => exact ⟨0, by omega, rfl, rfl⟩
                      case round =>
                        obtain ⟨k, hk, rfl, rfl⟩ := hrel
                        by_cases hlt : k < t.size
                        · have hd := all_at t HCut.out.2.1 k hlt
                          have d1 : 48 ≤ ((t[k]).toNat : Int) := by omega
                          have d2 : ((t[k]).toNat : Int) ≤ 57 := by omega
                          have hs1 : num (t.data.toList.take (k + 1)) = num (t.data.toList.take k) * 10 + ((t[k]).toNat - 48) := by rw [take_snoc t k hlt, num_snoc]
                          have hle := num_take_le t.data.toList (k + 1)
                          have hb := HB.out
                          have Hs := Lib.hid hs1
                          clear hd hs1
                          rw [Hs.out] at hle
                          generalize hn : num (t.data.toList.take k) = m at *
                          have hm : (m : Int) * 10 + ((t[k]).toNat - 48) ≤ 9223372036854775807 := by omega
                          have hm2 : 10 * (m : Int) + ((t[k]).toNat - 48) ≤ 9223372036854775807 := by omega
                          have hm3 : 10 * (m : Int) ≤ 9223372036854775807 := by omega
                          clear hn hle hb
                          go_wp2_with fail
                          go_round
                          case rel => exact ⟨k + 1, by omega, by go_num, by rw [Hs.out]; go_num⟩
                          case measure => simp [intOf]; omega
                        · rw [take_all t k (by omega)]
                          have hf : fits (num t.data.toList : Nat) = true := (fits_iff _).2 ⟨by omega, by have := HB.out; omega⟩
                          have hr : readV s.data.toList = (num t.data.toList : Nat) ∧ readE s.data.toList = 0 := by
                            rw [HCut.out.1] at hf ⊢
                            exact ⟨by rw [HR.out.1]; simp [val, hf], by rw [HR.out.2]; simp [err, hf]⟩
                          have HF := Lib.hid hr
                          clear hf hr
                          go_wp2_with fail
                          go_ret2
                          exact ⟨ret_ii HF.out.1.symm HF.out.2.symm, rfl⟩
                    · have b1 : Op.bytesLess t.toList [57, 50, 50, 51, 51, 55, 50, 48, 51, 54, 56, 53, 52, 55, 55, 53, 56, 48, 55] = false := by rw [Lib.toList_data]; exact hls.trans (decide_eq_false hl)
                      have b2 : (t.toList == [57, 50, 50, 51, 51, 55, 50, 48, 51, 54, 56, 53, 52, 55, 55, 53, 56, 48, 55]) = true := by rw [Lib.toList_data]; exact beq_iff_eq.2 (heq.2 (by omega))
                      clear ho hov hls heq e19 hl
                      go_wp2_with fail
                      go_loop [5, 6] (fun n i => ∃ k : Nat, k ≤ t.size ∧ i = .int .i64 k ∧ n = .int .i64 (num (t.data.toList.take k) : Nat)) (fun _ i => t.size - (intOf i).toNat)
                      case atStart => exact ⟨0, by omega, rfl, rfl⟩
                      case round =>
                        obtain ⟨k, hk, rfl, rfl⟩ := hrel
                        by_cases hlt : k < t.size
                        · have hd := all_at t HCut.out.2.1 k hlt
                          have d1 : 48 ≤ ((t[k]).toNat : Int) := by omega
                          have d2 : ((t[k]).toNat : Int) ≤ 57 := by omega
                          have hs1 : num (t.data.toList.take (k + 1)) = num (t.data.toList.take k) * 10 + ((t[k]).toNat - 48) := by rw [take_snoc t k hlt, num_snoc]
                          have hle := num_take_le t.data.toList (k + 1)
                          have hb := HB.out
                          have Hs := Lib.hid hs1
                          clear hd hs1
                          rw [Hs.out] at hle
                          generalize hn : num (t.data.toList.take k) = m at *
                          have hm : (m : Int) * 10 + ((t[k]).toNat - 48) ≤ 9223372036854775807 := by omega
                          have hm2 : 10 * (m : Int) + ((t[k]).toNat - 48) ≤ 9223372036854775807 := by omega
                          have hm3 : 10 * (m : Int) ≤ 9223372036854775807 := by omega
                          clear hn hle hb
                          go_wp2_with fail
                          go_round
                          case rel => exact ⟨k + 1, by omega, by go_num, by rw [Hs.out]; go_num⟩
                          case measure => simp [intOf]; omega
                        · rw [take_all t k (by omega)]
                          have hf : fits (num t.data.toList : Nat) = true := (fits_iff _).2 ⟨by omega, by have := HB.out; omega⟩
                          have hr : readV s.data.toList = (num t.data.toList : Nat) ∧ readE s.data.toList = 0 := by
                            rw [HCut.out.1] at hf ⊢
                            exact ⟨by rw [HR.out.1]; simp [val, hf], by rw [HR.out.2]; simp [err, hf]⟩
                          have HF := Lib.hid hr
                          clear hf hr
                          go_wp2_with fail
                          go_ret2
                          exact ⟨ret_ii HF.out.1.symm HF.out.2.symm, rfl⟩
                · have HB := Lib.hid (under_len t.data.toList HCut.out.2.1 (by have h9 : t.data.toList.length = t.size := (by simp); omega))
                  have e20 : ((t.size : Int) == 19) = false := beq_eq_false_iff_ne.2 (by omega)
                  have e21 : ((t.size : Int) < 19) := by omega
                  clear e19
                  go_wp2_with fail
                  go_loop [5, 6] (fun n i => ∃ k : Nat, k ≤ t.size ∧ i = .int .i64 k ∧ n = .int .i64 (num (t.data.toList.take k) : Nat)) (fun _ i => t.size - (intOf i).toNat)
                  case atStart => exact ⟨0, by omega, rfl, rfl⟩
                  case round =>
                    obtain ⟨k, hk, rfl, rfl⟩ := hrel
                    by_cases hlt : k < t.size
                    · have hd := all_at t HCut.out.2.1 k hlt
                      have d1 : 48 ≤ ((t[k]).toNat : Int) := by omega
                      have d2 : ((t[k]).toNat : Int) ≤ 57 := by omega
                      have hs1 : num (t.data.toList.take (k + 1)) = num (t.data.toList.take k) * 10 + ((t[k]).toNat - 48) := by rw [take_snoc t k hlt, num_snoc]
                      have hle := num_take_le t.data.toList (k + 1)
                      have hb := HB.out
                      have Hs := Lib.hid hs1
                      clear hd hs1
                      rw [Hs.out] at hle
                      generalize hn : num (t.data.toList.take k) = m at *
                      have hm : (m : Int) * 10 + ((t[k]).toNat - 48) ≤ 9223372036854775807 := by omega
                      have hm2 : 10 * (m : Int) + ((t[k]).toNat - 48) ≤ 9223372036854775807 := by omega
                      have hm3 : 10 * (m : Int) ≤ 9223372036854775807 := by omega
                      clear hn hle hb
                      go_wp2_with fail
                      go_round
                      case rel => exact ⟨k + 1, by omega, by go_num, by rw [Hs.out]; go_num⟩
                      case measure => simp [intOf]; omega
                    · rw [take_all t k (by omega)]
                      have hf : fits (num t.data.toList : Nat) = true := (fits_iff _).2 ⟨by omega, by have := HB.out; omega⟩
                      have hr : readV s.data.toList = (num t.data.toList : Nat) ∧ readE s.data.toList = 0 := by
                        rw [HCut.out.1] at hf ⊢
                        exact ⟨by rw [HR.out.1]; simp [val, hf], by rw [HR.out.2]; simp [err, hf]⟩
                      have HF := Lib.hid hr
                      clear hf hr
                      go_wp2_with fail
                      go_ret2
                      exact ⟨ret_ii HF.out.1.symm HF.out.2.symm, rfl⟩
          · have HB := Lib.hid (under_len t.data.toList HCut.out.2.1 (by have h9 : t.data.toList.length = t.size := (by simp); omega))
            have e20 : ((t.size : Int) == 19) = false := beq_eq_false_iff_ne.2 (by omega)
            have e22 : ¬ ((19 : Int) < t.size) := by omega
            go_wp2_with fail
            go_loop [5, 6] (fun n i => ∃ k : Nat, k ≤ t.size ∧ i = .int .i64 k ∧ n = .int .i64 (num (t.data.toList.take k) : Nat)) (fun _ i => t.size - (intOf i).toNat)
            case atStart => exact ⟨0, by omega, rfl, rfl⟩
            case round =>
              obtain ⟨k, hk, rfl, rfl⟩ := hrel
              by_cases hlt : k < t.size
              · have hd := all_at t HCut.out.2.1 k hlt
                have d1 : 48 ≤ ((t[k]).toNat : Int) := by omega
                have d2 : ((t[k]).toNat : Int) ≤ 57 := by omega
                have hs1 : num (t.data.toList.take (k + 1)) = num (t.data.toList.take k) * 10 + ((t[k]).toNat - 48) := by rw [take_snoc t k hlt, num_snoc]
                have hle := num_take_le t.data.toList (k + 1)
                have hb := HB.out
                have Hs := Lib.hid hs1
                clear hd hs1
                rw [Hs.out] at hle
                generalize hn : num (t.data.toList.take k) = m at *
                have hm : (m : Int) * 10 + ((t[k]).toNat - 48) ≤ 9223372036854775807 := by omega
                have hm2 : 10 * (m : Int) + ((t[k]).toNat - 48) ≤ 9223372036854775807 := by omega
                have hm3 : 10 * (m : Int) ≤ 9223372036854775807 := by omega
                clear hn hle hb
                go_wp2_with fail
                go_round
                case rel => exact ⟨k + 1, by omega, by go_num, by rw [Hs.out]; go_num⟩
                case measure => simp [intOf]; omega
              · rw [take_all t k (by omega)]
                have hf : fits (num t.data.toList : Nat) = true := (fits_iff _).2 ⟨by omega, by have := HB.out; omega⟩
                have hr : readV s.data.toList = (num t.data.toList : Nat) ∧ readE s.data.toList = 0 := by
                  rw [HCut.out.1] at hf ⊢
                  exact ⟨by rw [HR.out.1]; simp [val, hf], by rw [HR.out.2]; simp [err, hf]⟩
                have HF := Lib.hid hr
                clear hf hr
                go_wp2_with fail
                go_ret2
                exact ⟨ret_ii HF.out.1.symm HF.out.2.symm, rfl⟩
end Go.Proofs.YtgfhkfmankcheaaDoor
