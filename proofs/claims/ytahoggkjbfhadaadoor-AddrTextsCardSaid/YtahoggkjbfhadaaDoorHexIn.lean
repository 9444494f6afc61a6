/- strconv.ParseUint at base 16 and 16 bits: the walks, after the shelf's own walk at base 10. -/
import Derived.Test.YtahoggkjbfhadaaDoorRows
import Derived.Test.YtahoggkjbfhadaaDoorPure
import Derived.Lib.Strings
import Derived.Lib.Walk
import Derived.Lib.ConvBytes
import Derived.Lib.AtoiAllMem
import Derived.Lib.AtoiErrMem
import Derived.Lib.Hide
import Derived.Laws.Strings3
import Derived.Laws.Closers25
import Derived.Laws.Closers25b
import Derived.WalkKit
import Derived.BigCall
import Derived.BigGuard
namespace Go.Proofs.YtahoggkjbfhadaaDoor
open Go.RowKit

set_option maxRecDepth 100000 in
set_option maxHeartbeats 400000 in
theorem lower_at (c l : Int) (hl : Hid (bits .or .u8 c 32 = l)) (w : World) :
    Calls Tryd.prog 53 #[.int .u8 c] w fun e w' => e = .returned (.int .u8 l) ∧ w = w' := by
  rw [← hl.out]
  clear hl
  go_enter Tryd.func53, Tryd.ntmps53
  go_wp2
  go_ret
  exact ⟨rfl, rfl⟩

set_option maxHeartbeats 4000000 in
set_option maxRecDepth 100000 in
theorem pu16_in (t : ByteArray) (hne : t.size ≠ 0) (hmax : t.size ≤ 9223372036854775806) (w : World) :
    Calls Tryd.prog 38 #[.string t, .int .i64 16, .int .i64 16] w fun e w' => e = .returned (Lib.uintTupleM 86 65535 (hexM 0 t.data.toList)) ∧ w' = Lib.bytesWorld w 5 t := by
  have hemp : t.toList.isEmpty = false := by
    rw [← decide_eq_emptyBytes]
    exact decide_eq_false (fun h => hne (by rw [h]; rfl))
  have hcv := Lib.run_convert_string_bytes (P := Tryd.prog) w 9 32 5 t (u := .string) Tryd.underlying9 Tryd.underlying32 Tryd.underlying5
  have hB : ∀ j, j < t.size → (Lib.bytesWorld w 5 t).cell? ⟨w.heap.size, j, none⟩ = some (.int .u8 (t.data.toList.getD j 0).toNat) := fun j hj => Lib.bytesWorld_cell w 5 t j hj
  obtain ⟨W1, hW1⟩ : ∃ W1, W1 = Lib.bytesWorld w 5 t := ⟨_, rfl⟩
  rw [← hW1] at hcv hB ⊢
  clear hW1
  obtain ⟨bs, hL⟩ : ∃ bs, bs = t.data.toList := ⟨_, rfl⟩
  have hLn : bs.length = t.size := by rw [hL, Lib.size_eq]
  rw [← hL] at hB ⊢
  clear hL
  have hmv : IntKind.u64.wrap (IntKind.u64.wrap 65536 - 1) = 65535 := by
    rw [IntKind.wrap_u64, IntKind.wrap_u64]
    decide
  go_enter Tryd.func38, Tryd.ntmps38
  go_wp2
  go_loop [12, 13, 101] (fun vu vn vi => ∃ (k acc : Nat) (a : Int), vu = .bool false ∧ vn = .int .u64 a ∧ vi = .int .i64 k ∧ k ≤ t.size ∧ Hid (a = (acc : Int) ∧ acc ≤ 65535 ∧ hexM 0 bs = hexM acc (bs.drop k)))
    (fun _ _ vi => t.size - (intOf vi).toNat)
  case atStart => exact ⟨0, 0, 0, rfl, rfl, rfl, by omega, rfl, by omega, rfl⟩
  case round =>
    obtain ⟨k, acc, a, rfl, rfl, rfl, hk, hh⟩ := hrel
    obtain ⟨ha, hacc, hdec⟩ := hh.out
    clear hh
    have a0 : 0 ≤ a := by omega
    have a1 : a ≤ 65535 := by omega
    by_cases hkn : k < t.size
    · have hc := hB k hkn
      have hdrop : bs.drop k = bs[k]'(by omega) :: bs.drop (k + 1) := List.drop_eq_getElem_cons (by omega)
      have hget : bs.getD k 0 = bs[k]'(by omega) := by simp [List.getD, List.getElem?_eq_getElem (show k < bs.length by omega)]
      rw [hdrop] at hdec
      rw [hget] at hc
      generalize bs[k]'(by omega) = c at hc hdec
      have hc256 : c.toNat < 256 := c.toNat_lt
      clear hB hdrop hget
      by_cases hdig : 48 ≤ c.toNat ∧ c.toNat ≤ 57
      · obtain ⟨hd0, hd1⟩ := hdig
        by_cases hov : 65535 < acc * 16 + (c.toNat - 48)
        · have hF : hexM acc (c :: bs.drop (k + 1)) = .range := by simp [hexM, hd0, hd1, hov]
          rw [hF] at hdec
          have iov : 65535 < a * 16 + ((c.toNat : Int) - 48) := by omega
          clear hacc hF hov ha
          go_wp2
          go_ret2
          exact ⟨rfl, rfl⟩
        · have hF : hexM acc (c :: bs.drop (k + 1)) = hexM (acc * 16 + (c.toNat - 48)) (bs.drop (k + 1)) := by simp [hexM, hd0, hd1, hov]
          have HN : Hid (a * 16 + ((c.toNat : Int) - 48) = ((acc * 16 + (c.toNat - 48) : Nat) : Int) ∧ acc * 16 + (c.toNat - 48) ≤ 65535 ∧ hexM 0 bs = hexM (acc * 16 + (c.toNat - 48)) (bs.drop (k + 1))) := Lib.hid ⟨by omega, by omega, hdec.trans hF⟩
          have iov : a * 16 + ((c.toNat : Int) - 48) ≤ 65535 := by omega
          clear hacc hF hov hdec ha
          go_wp2
          refine ⟨⟨k + 1, acc * 16 + (c.toNat - 48), a * 16 + ((c.toNat : Int) - 48), rfl, (by first | rfl | (congr 1; omega)), (by first | rfl | (congr 1; omega)), by omega, HN⟩, by simp [intOf]; omega⟩
      · by_cases hus : c.toNat = 95
        · have hF : hexM acc (c :: bs.drop (k + 1)) = Lib.NumEnd.syntax := by
            have hc95 : c = 95 := UInt8.toNat_inj.1 hus
            subst hc95
            rw [hexM, if_neg hdig, if_neg (by decide +kernel)]
          rw [hF] at hdec
          have HL : Hid (bits .or .u8 95 32 = 127) := Lib.hid (by decide +kernel)
          rw [hus] at hc
          have hc' : W1.cell? ⟨w.heap.size, k, none⟩ = some (.int .u8 95) := hc
          clear hacc hF ha hc hus hdig
          go_wp2_with (go_at_call 53; refine (lower_at _ 127 HL _).mono ?_; rintro e w' ⟨rfl, rfl⟩)
          all_goals go_ret2
          all_goals first | exact ⟨rfl, rfl⟩ | exact ⟨by rw [hdec]; rfl, rfl⟩
        have hus' : ((c.toNat : Int) == 95) = false := beq_eq_false_iff_ne.2 (by omega)
        obtain ⟨l, hl⟩ : ∃ l, lowV c = l := ⟨_, rfl⟩
        have HL : Hid (bits .or .u8 (c.toNat : Int) 32 = l) := Lib.hid hl
        have hl0 : 0 ≤ l := by rw [← hl]; exact bits_lo_u8 .or _ _
        have hl1 : l ≤ 255 := by rw [← hl]; have := bits_hi_u8 .or (c.toNat : Int) 32; unfold lowV; omega
        by_cases hlet : 97 ≤ l ∧ l ≤ 102
        · obtain ⟨he0, he1⟩ := hlet
          by_cases hov : 65535 < acc * 16 + (l.toNat - 87)
          · have hF : hexM acc (c :: bs.drop (k + 1)) = .range := by simp [hexM, hdig, hl, he0, he1, hov]
            rw [hF] at hdec
            have iov : 65535 < a * 16 + (l - 97 + 10) := by omega
            clear hacc hF hov ha hl
            go_wp2_with (go_at_call 53; refine (lower_at _ l HL _).mono ?_; rintro e w' ⟨rfl, rfl⟩)
            all_goals go_ret2
            all_goals first | exact ⟨rfl, rfl⟩ | exact ⟨by rw [hdec]; rfl, rfl⟩
          · have hF : hexM acc (c :: bs.drop (k + 1)) = hexM (acc * 16 + (l.toNat - 87)) (bs.drop (k + 1)) := by simp [hexM, hdig, hl, he0, he1, hov]
            have HN : Hid (a * 16 + (l - 97 + 10) = ((acc * 16 + (l.toNat - 87) : Nat) : Int) ∧ acc * 16 + (l.toNat - 87) ≤ 65535 ∧ hexM 0 bs = hexM (acc * 16 + (l.toNat - 87)) (bs.drop (k + 1))) := Lib.hid ⟨by omega, by omega, hdec.trans hF⟩
            have iov : a * 16 + (l - 97 + 10) ≤ 65535 := by omega
            clear hacc hF hov hdec ha hl
            go_wp2_with (go_at_call 53; refine (lower_at _ l HL _).mono ?_; rintro e w' ⟨rfl, rfl⟩)
            all_goals refine ⟨⟨k + 1, acc * 16 + (l.toNat - 87), a * 16 + (l - 97 + 10), rfl, (by first | rfl | (congr 1; omega)), (by first | rfl | (congr 1; omega)), by omega, HN⟩, by simp [intOf]; omega⟩
        · have hF : hexM acc (c :: bs.drop (k + 1)) = Lib.NumEnd.syntax := by simp [hexM, hdig, hl, hlet]
          rw [hF] at hdec
          clear hacc hF ha hl
          go_wp2_with (go_at_call 53; refine (lower_at _ l HL _).mono ?_; rintro e w' ⟨rfl, rfl⟩)
          all_goals go_ret2
          all_goals first | exact ⟨rfl, rfl⟩ | exact ⟨by rw [hdec]; rfl, rfl⟩
    · have hkk : k = t.size := by omega
      subst hkk
      have hF : hexM acc (bs.drop t.size) = .ok acc := by rw [List.drop_eq_nil_of_le (by omega)]; rfl
      rw [hF] at hdec
      subst ha
      clear hacc hF a0 a1
      go_wp2
      go_ret2
      exact ⟨rfl, rfl⟩

set_option maxHeartbeats 400000 in
set_option maxRecDepth 100000 in
theorem pu16_empty (w : World) :
    Calls Tryd.prog 38 #[.string ⟨#[]⟩, .int .i64 16, .int .i64 16] w fun e w' => e = .returned (Lib.uintTupleM 86 65535 Lib.NumEnd.syntax) ∧ w' = w := by
  go_enter Tryd.func38, Tryd.ntmps38
  go_wp2
  go_ret2
  exact ⟨rfl, rfl⟩

end Go.Proofs.YtahoggkjbfhadaaDoor
