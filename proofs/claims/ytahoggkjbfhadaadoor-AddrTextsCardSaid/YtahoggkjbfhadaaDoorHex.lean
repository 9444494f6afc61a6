/- strconv.FormatInt at base 16, of numbers below 65536: the walks. -/
import Derived.Test.YtahoggkjbfhadaaDoorRows
import Derived.Test.YtahoggkjbfhadaaDoorPure
import Derived.WalkKit
import Derived.WalkSpells
import Derived.WalkLawsBesides
import Derived.Handy
namespace Go.Proofs.YtahoggkjbfhadaaDoor
open Go.RowKit

set_option maxRecDepth 100000 in
set_option maxHeartbeats 400000 in
theorem pow2_16 (w : World) : Calls Tryd.prog 64 #[.int .i64 16] w fun e w' => e = .returned (.bool true) ∧ w = w' := by
  go_enter Tryd.func64, Tryd.ntmps64
  go_wp2
  go_returns
  exact ⟨rfl, rfl⟩

set_option maxRecDepth 100000 in
set_option maxHeartbeats 400000 in
theorem tz64_16 (w : World) (h : w.cell? ⟨7, 15, none⟩ = some (.int .u8 4)) : Calls Tryd.prog 74 #[.int .u64 16] w fun e w' => e = .returned (.int .i64 4) ∧ w = w' := by
  go_enter Tryd.func74, Tryd.ntmps74
  have e15 : IntKind.u64.wrap (bits .and .u64 16 (IntKind.u64.wrap (-16)) * 285870213051353865) / 288230376151711744 = 15 := by decide +kernel
  go_wp2
  go_returns
  exact ⟨rfl, rfl⟩

set_option maxRecDepth 100000 in
set_option maxHeartbeats 400000 in
theorem tz_16 (w : World) (h : w.cell? ⟨7, 15, none⟩ = some (.int .u8 4)) : Calls Tryd.prog 65 #[.int .u64 16] w fun e w' => e = .returned (.int .i64 4) ∧ w = w' := by
  go_enter Tryd.func65, Tryd.ntmps65
  go_wp2_with (go_at_call 74; refine (tz64_16 _ h).mono ?_; rintro e w' ⟨rfl, rfl⟩)
  go_returns
  exact ⟨rfl, rfl⟩

theorem nc (w : World) (C : Array Value) (T : TypeId) (j : Nat) : (w.alloc (.cells C T)).cell? ⟨w.heap.size, j, none⟩ = C[j]? := by
  simp only [World.cell?, heap_alloc_new]; rfl
theorem size98 : Tryd.zeroCells98.size = 65 := by kernel_rfl
theorem and15 (E : Int) (h0 : 0 ≤ E) (h1 : E ≤ 65535) : bits BinOp.and IntKind.u64 E 15 = E % 16 := by
  have h := bits_and_u64_nat E.toNat 15 (by omega) (by omega)
  rw [show (15 : Nat) = 2 ^ 4 - 1 from rfl, Nat.and_two_pow_sub_one_eq_mod, Int.toNat_of_nonneg h0] at h
  exact h.trans (by omega)
theorem dg_val (v : Int) (h0 : 0 ≤ v) (h1 : v < 16) (h : v.toNat < dgs.size) : Value.int .u8 ↑(dgs[v.toNat].toNat) = .int .u8 ↑(hexB v.toNat).toNat := by
  rw [dgs_at v.toNat (by omega) h]

set_option maxRecDepth 100000 in
set_option maxHeartbeats 400000 in
theorem fb_1 (n : Int) (w : World) (h : w.cell? ⟨7, 15, none⟩ = some (.int .u8 4)) (h0 : 0 ≤ n) (h1 : n < 16) : Calls Tryd.prog 45 #[.slice none 0 0, .int .u64 n, .int .i64 16, .bool false, .bool false] w fun e w' => e = .returned (.tuple #[.slice none 0 0, .string (strOfNums [((hexB n.toNat).toNat : Int)])]) ∧ Below w.heap.size w w' := by
  go_enter Tryd.func45, Tryd.ntmps45
  go_wp2_with (first | (go_at_call 64; refine (pow2_16 _).mono ?_; rintro e w' ⟨rfl, rfl⟩) | (go_at_call 65; refine (tz_16 _ (cell_later ((Below.refl _ w).alloc (Nat.le_refl _) _) h)).mono ?_; rintro e w' ⟨rfl, rfl⟩))
  refine wp_loop_rounds 1 ?_; rw [rounds_succ]
  go_wp2
  rw [run_convert_bytes_arg _ 32 5 Tryd.underlying32 Tryd.underlying5 _ _ 1 1 [((hexB n.toNat).toNat : Int)] rfl (by
    intro i hi
    obtain rfl : i = 0 := by omega
    rw [nc]
    refine (Array.getElem?_setIfInBounds_self_of_lt (by rw [size98]; omega)).trans (congrArg some ?_)
    exact dg_val (n) (by omega) (by omega) _) 9 Tryd.underlying9]
  go_wp2
  go_ret2
  exact ⟨rfl, by go_grown⟩

set_option maxRecDepth 100000 in
set_option maxHeartbeats 400000 in
theorem fb_2 (n : Int) (w : World) (h : w.cell? ⟨7, 15, none⟩ = some (.int .u8 4)) (h0 : 16 ≤ n) (h1 : n < 256) : Calls Tryd.prog 45 #[.slice none 0 0, .int .u64 n, .int .i64 16, .bool false, .bool false] w fun e w' => e = .returned (.tuple #[.slice none 0 0, .string (strOfNums [((hexB (n / 16).toNat).toNat : Int), ((hexB (n % 16).toNat).toNat : Int)])]) ∧ Below w.heap.size w w' := by
  go_enter Tryd.func45, Tryd.ntmps45
  have a0 := and15 (n) (by omega) (by omega)
  go_wp2_with (first | (go_at_call 64; refine (pow2_16 _).mono ?_; rintro e w' ⟨rfl, rfl⟩) | (go_at_call 65; refine (tz_16 _ (cell_later ((Below.refl _ w).alloc (Nat.le_refl _) _) h)).mono ?_; rintro e w' ⟨rfl, rfl⟩))
  refine wp_loop_rounds 2 ?_; rw [rounds_succ]
  go_wp2
  rw [rounds_succ]
  go_wp2
  rw [run_convert_bytes_arg _ 32 5 Tryd.underlying32 Tryd.underlying5 _ _ 2 2 [((hexB (n / 16).toNat).toNat : Int), ((hexB (n % 16).toNat).toNat : Int)] rfl (by
    intro i hi
    obtain rfl | rfl : i = 0 ∨ i = 1 := by omega
    · rw [nc]
      refine (Array.getElem?_setIfInBounds_self_of_lt (by simp only [Array.size_setIfInBounds, size98]; omega)).trans (congrArg some ?_)
      exact dg_val (n / 16) (by omega) (by omega) _
    · rw [nc]
      rw [Array.getElem?_setIfInBounds_ne (by decide)]
      refine (Array.getElem?_setIfInBounds_self_of_lt (by rw [size98]; omega)).trans (congrArg some ?_)
      exact dg_val (n % 16) (by omega) (by omega) _) 9 Tryd.underlying9]
  go_wp2
  go_ret2
  exact ⟨rfl, by go_grown⟩

set_option maxRecDepth 100000 in
set_option maxHeartbeats 400000 in
theorem fb_3 (n : Int) (w : World) (h : w.cell? ⟨7, 15, none⟩ = some (.int .u8 4)) (h0 : 256 ≤ n) (h1 : n < 4096) : Calls Tryd.prog 45 #[.slice none 0 0, .int .u64 n, .int .i64 16, .bool false, .bool false] w fun e w' => e = .returned (.tuple #[.slice none 0 0, .string (strOfNums [((hexB (n / 16 / 16).toNat).toNat : Int), ((hexB (n / 16 % 16).toNat).toNat : Int), ((hexB (n % 16).toNat).toNat : Int)])]) ∧ Below w.heap.size w w' := by
  go_enter Tryd.func45, Tryd.ntmps45
  have a0 := and15 (n) (by omega) (by omega)
  have a1 := and15 (n / 16) (by omega) (by omega)
  go_wp2_with (first | (go_at_call 64; refine (pow2_16 _).mono ?_; rintro e w' ⟨rfl, rfl⟩) | (go_at_call 65; refine (tz_16 _ (cell_later ((Below.refl _ w).alloc (Nat.le_refl _) _) h)).mono ?_; rintro e w' ⟨rfl, rfl⟩))
  refine wp_loop_rounds 3 ?_; rw [rounds_succ]
  go_wp2
  rw [rounds_succ]
  go_wp2
  rw [rounds_succ]
  go_wp2
  rw [run_convert_bytes_arg _ 32 5 Tryd.underlying32 Tryd.underlying5 _ _ 3 3 [((hexB (n / 16 / 16).toNat).toNat : Int), ((hexB (n / 16 % 16).toNat).toNat : Int), ((hexB (n % 16).toNat).toNat : Int)] rfl (by
    intro i hi
    obtain rfl | rfl | rfl : i = 0 ∨ i = 1 ∨ i = 2 := by omega
    · rw [nc]
      refine (Array.getElem?_setIfInBounds_self_of_lt (by simp only [Array.size_setIfInBounds, size98]; omega)).trans (congrArg some ?_)
      exact dg_val (n / 16 / 16) (by omega) (by omega) _
    · rw [nc]
      rw [Array.getElem?_setIfInBounds_ne (by decide)]
      refine (Array.getElem?_setIfInBounds_self_of_lt (by simp only [Array.size_setIfInBounds, size98]; omega)).trans (congrArg some ?_)
      exact dg_val (n / 16 % 16) (by omega) (by omega) _
    · rw [nc]
      rw [Array.getElem?_setIfInBounds_ne (by decide)]
      rw [Array.getElem?_setIfInBounds_ne (by decide)]
      refine (Array.getElem?_setIfInBounds_self_of_lt (by rw [size98]; omega)).trans (congrArg some ?_)
      exact dg_val (n % 16) (by omega) (by omega) _) 9 Tryd.underlying9]
  go_wp2
  go_ret2
  exact ⟨rfl, by go_grown⟩

set_option maxRecDepth 100000 in
set_option maxHeartbeats 400000 in
theorem fb_4 (n : Int) (w : World) (h : w.cell? ⟨7, 15, none⟩ = some (.int .u8 4)) (h0 : 4096 ≤ n) (h1 : n < 65536) : Calls Tryd.prog 45 #[.slice none 0 0, .int .u64 n, .int .i64 16, .bool false, .bool false] w fun e w' => e = .returned (.tuple #[.slice none 0 0, .string (strOfNums [((hexB (n / 16 / 16 / 16).toNat).toNat : Int), ((hexB (n / 16 / 16 % 16).toNat).toNat : Int), ((hexB (n / 16 % 16).toNat).toNat : Int), ((hexB (n % 16).toNat).toNat : Int)])]) ∧ Below w.heap.size w w' := by
  go_enter Tryd.func45, Tryd.ntmps45
  have a0 := and15 (n) (by omega) (by omega)
  have a1 := and15 (n / 16) (by omega) (by omega)
  have a2 := and15 (n / 16 / 16) (by omega) (by omega)
  go_wp2_with (first | (go_at_call 64; refine (pow2_16 _).mono ?_; rintro e w' ⟨rfl, rfl⟩) | (go_at_call 65; refine (tz_16 _ (cell_later ((Below.refl _ w).alloc (Nat.le_refl _) _) h)).mono ?_; rintro e w' ⟨rfl, rfl⟩))
  refine wp_loop_rounds 4 ?_; rw [rounds_succ]
  go_wp2
  rw [rounds_succ]
  go_wp2
  rw [rounds_succ]
  go_wp2
  rw [rounds_succ]
  go_wp2
  rw [run_convert_bytes_arg _ 32 5 Tryd.underlying32 Tryd.underlying5 _ _ 4 4 [((hexB (n / 16 / 16 / 16).toNat).toNat : Int), ((hexB (n / 16 / 16 % 16).toNat).toNat : Int), ((hexB (n / 16 % 16).toNat).toNat : Int), ((hexB (n % 16).toNat).toNat : Int)] rfl (by
    intro i hi
    obtain rfl | rfl | rfl | rfl : i = 0 ∨ i = 1 ∨ i = 2 ∨ i = 3 := by omega
    · rw [nc]
      refine (Array.getElem?_setIfInBounds_self_of_lt (by simp only [Array.size_setIfInBounds, size98]; omega)).trans (congrArg some ?_)
      exact dg_val (n / 16 / 16 / 16) (by omega) (by omega) _
    · rw [nc]
      rw [Array.getElem?_setIfInBounds_ne (by decide)]
      refine (Array.getElem?_setIfInBounds_self_of_lt (by simp only [Array.size_setIfInBounds, size98]; omega)).trans (congrArg some ?_)
      exact dg_val (n / 16 / 16 % 16) (by omega) (by omega) _
    · rw [nc]
      rw [Array.getElem?_setIfInBounds_ne (by decide)]
      rw [Array.getElem?_setIfInBounds_ne (by decide)]
      refine (Array.getElem?_setIfInBounds_self_of_lt (by simp only [Array.size_setIfInBounds, size98]; omega)).trans (congrArg some ?_)
      exact dg_val (n / 16 % 16) (by omega) (by omega) _
    · rw [nc]
      rw [Array.getElem?_setIfInBounds_ne (by decide)]
      rw [Array.getElem?_setIfInBounds_ne (by decide)]
      rw [Array.getElem?_setIfInBounds_ne (by decide)]
      refine (Array.getElem?_setIfInBounds_self_of_lt (by rw [size98]; omega)).trans (congrArg some ?_)
      exact dg_val (n % 16) (by omega) (by omega) _) 9 Tryd.underlying9]
  go_wp2
  go_ret2
  exact ⟨rfl, by go_grown⟩

theorem strOfNums_bytes (l : List UInt8) : strOfNums (l.map fun b => (b.toNat : Int)) = ⟨l.toArray⟩ := by
  simp [strOfNums, List.map_map, Function.comp_def]

theorem fb_any (n : Nat) (w : World) (h : w.cell? ⟨7, 15, none⟩ = some (.int .u8 4)) (h1 : n < 65536) : Calls Tryd.prog 45 #[.slice none 0 0, .int .u64 n, .int .i64 16, .bool false, .bool false] w fun e w' => e = .returned (.tuple #[.slice none 0 0, .string ⟨(hexL n).toArray⟩]) ∧ Below w.heap.size w w' := by
  rw [← strOfNums_bytes]
  unfold hexL
  have e1 : ∀ m : Nat, ((m : Int)).toNat = m := fun m => by omega
  have d1 : ((n : Int) / 16).toNat = n / 16 := by omega
  have d2 : ((n : Int) / 16 / 16).toNat = n / 16 / 16 := by omega
  have d3 : ((n : Int) / 16 / 16 / 16).toNat = n / 16 / 16 / 16 := by omega
  have m0 : ((n : Int) % 16).toNat = n % 16 := by omega
  have m1 : ((n : Int) / 16 % 16).toNat = n / 16 % 16 := by omega
  have m2 : ((n : Int) / 16 / 16 % 16).toNat = n / 16 / 16 % 16 := by omega
  by_cases c1 : n < 16
  · have := fb_1 n w h (by omega) (by omega)
    rw [e1] at this
    rw [if_pos c1]; exact this
  · rw [if_neg c1]
    by_cases c2 : n < 256
    · have := fb_2 n w h (by omega) (by omega)
      rw [d1, m0] at this
      rw [if_pos c2]; exact this
    · rw [if_neg c2]
      by_cases c3 : n < 4096
      · have := fb_3 n w h (by omega) (by omega)
        rw [d2, m1, m0] at this
        rw [if_pos c3]; exact this
      · have := fb_4 n w h (by omega) (by omega)
        rw [d3, m2, m1, m0] at this
        rw [if_neg c3]; exact this

set_option maxRecDepth 100000 in
set_option maxHeartbeats 400000 in
theorem fint16 (n : Nat) (w : World) (h : w.cell? ⟨7, 15, none⟩ = some (.int .u8 4)) (h1 : n < 65536) : Calls Tryd.prog 30 #[.int .i64 n, .int .i64 16] w fun e w' => e = .returned (.string ⟨(hexL n).toArray⟩) ∧ Below w.heap.size w w' := by
  go_enter Tryd.func30, Tryd.ntmps30
  go_wp2_with (go_at_call 45; refine (fb_any n _ h h1).mono ?_; rintro e w' ⟨rfl, hb⟩)
  go_ret
  exact ⟨rfl, hb⟩

set_option maxRecDepth 100000 in
set_option maxHeartbeats 400000 in
theorem fmtInt16 (n : Nat) (w : World) (h : w.cell? ⟨7, 15, none⟩ = some (.int .u8 4)) (h1 : n < 65536) : Calls Tryd.prog 20 #[.int .i64 n, .int .i64 16] w fun e w' => e = .returned (.string ⟨(hexL n).toArray⟩) ∧ Below w.heap.size w w' := by
  go_enter Tryd.func20, Tryd.ntmps20
  go_wp2_with (go_at_call 30; refine (fint16 n _ h h1).mono ?_; rintro e w' ⟨rfl, hb⟩)
  go_ret
  exact ⟨rfl, hb⟩

end Go.Proofs.YtahoggkjbfhadaaDoor
