/- The walks of addr's From at four bytes, of Cmp at two kinds, of the reference's Valid, and of Round. -/
import Derived.Test.YtahoggkjbfhadaaDoorAddrB
namespace Go.Proofs.YtahoggkjbfhadaaDoor
open Go.RowKit

set_option maxRecDepth 100000 in
set_option maxHeartbeats 1000000 in
theorem from_four (b o c : Nat) (xs : List Int) (hx : xs.length = 4) (w : World)
    (hc : ∀ j u, (xs.map (Value.int .u8))[j]? = some u → w.cell? ⟨b, o + j, none⟩ = some u) :
    Calls Tryd.prog 10 #[.slice (some ⟨b, o, none⟩) 4 c] w fun e w' => e = .returned (.tuple #[.agg (adA false (xs ++ z16.drop 4)), .int .i64 0]) ∧ Below w.heap.size w w' := by
  have A : Aside (∀ j u, (xs.map (Value.int .u8))[j]? = some u → w.cell? ⟨b, o + j, none⟩ = some u) := hc
  clear hc
  obtain ⟨ys, hys⟩ : ∃ ys, xs ++ z16.drop 4 = ys := ⟨_, rfl⟩
  rw [hys]
  have HYS := Lib.hid hys
  clear hys
  go_enter Tryd.func10, Tryd.ntmps10
  go_wp2_with (with_reducible refine wpList_copy_splice rfl (.tmp 18) (.tmp 19) 32 32 rfl 5 Tryd.underlying32 ?c0 (some ⟨w.heap.size, 1, none⟩) (some ⟨b, o, none⟩) 16 16 4 c rfl rfl w.heap.size 1 (Value.bool false :: z16.map (Value.int .u8)) 24 (heap_alloc_new _ _) (xs.map (Value.int .u8)) ?c1 (fun _ => ⟨rfl, _, rfl, fun j u hj => (congrArg _ (Addr.add_lit ..)).trans (Lib.cell?_alloc_some _ (A.out j u hj))⟩) ?c3 ?c4 w.heap.size w ?c5 ?c6 ?_)
  case c0 => kernel_rfl
  case c1 => simp [hx]
  case c3 => simp [hx, z16]
  case c4 =>
    intro u hu
    obtain ⟨y, _, rfl⟩ := List.mem_map.1 hu
    rfl
  case c5 => exact (Below.refl _ w).alloc (Nat.le_refl _) _
  case c6 => exact Nat.le_refl _
  intro w1 hg hb
  have ha : Ad w1 w.heap.size false ys := ⟨by rw [← HYS.out]; simp [hx, z16], by rw [hg.out, splice_adA, hx, HYS.out]⟩
  have HA := Lib.hid ha
  clear hg ha A HYS
  go_wp2_with (first | (with_reducible refine ld24 (.tmp 2) w.heap.size false ys rfl rfl rfl HA.out ?_) | (with_reducible refine st24_same (.tmp 2) (.tmp 21) w.heap.size false ys rfl rfl rfl rfl rfl HA.out ?_))
  refine bodyPost_ret (res24_2 rfl _ _ w.heap.size _ _ rfl HA.out) rfl ⟨rfl, hb⟩

set_option maxRecDepth 100000 in
set_option maxHeartbeats 1000000 in
theorem cmp_46 (xs ys : List Int) (hx : xs.length = 16) (hy : ys.length = 16) (w : World) :
    Calls Tryd.prog 15 #[.agg (adA false xs), .agg (adA true ys)] w fun e w' => e = .returned (.int .i64 (-1)) ∧ Below w.heap.size w w' := by
  have f1 := ((Ad.new w false hx).alloc (.cells (adA true ys) 24)).flag
  have f2 := (Ad.new (w.alloc (.cells (adA false xs) 24)) true hy).flag
  rw [World.size_alloc] at f2
  clear hx hy
  go_enter Tryd.func15, Tryd.ntmps15
  go_wp2
  go_ret
  exact ⟨rfl, by go_grown⟩

/-- May an address be? -/
def vld (v : Bool) (ys : List Int) : Bool := v || (ys.drop 4).all (· == 0)

theorem vld_no {ys : List Int} (k : Nat) (h4 : 4 ≤ k) (hk : k < ys.length) (h : ys.getD k 0 ≠ 0) : vld false ys = false := by
  unfold vld
  rw [Bool.false_or, List.all_eq_false]
  refine ⟨ys[k], ?_, by simpa [List.getD, List.getElem?_eq_getElem hk] using h⟩
  have : (ys.drop 4)[k - 4]? = some ys[k] := by
    rw [List.getElem?_drop, show 4 + (k - 4) = k by omega, List.getElem?_eq_getElem hk]
  exact List.mem_of_getElem? this

theorem vld_yes {ys : List Int} (h : ∀ j, 4 ≤ j → j < ys.length → ys.getD j 0 = 0) : vld false ys = true := by
  unfold vld
  rw [Bool.false_or, List.all_eq_true]
  intro y hy
  obtain ⟨j, hj⟩ := List.mem_iff_getElem?.1 hy
  rw [List.getElem?_drop] at hj
  have hl : 4 + j < ys.length := (List.getElem?_eq_some_iff.1 hj).1
  have := h (4 + j) (by omega) hl
  simp [List.getD, hj] at this
  simp [this]

set_option maxRecDepth 100000 in
set_option maxHeartbeats 1000000 in
theorem refValid_six (ys : List Int) (hy : ys.length = 16) (w : World) :
    Calls Tryd.prog 6 #[.agg (adA true ys)] w fun e w' => e = .returned (.bool true) ∧ Below w.heap.size w w' := by
  have f1 := (Ad.new w true hy).flag
  have hb : Below w.heap.size w (w.alloc (.cells (adA true ys) 24)) := (Below.refl _ w).alloc (Nat.le_refl _) _
  clear hy
  go_enter Tryd.func6, Tryd.ntmps6
  go_wp2
  go_loop [3] (fun vi => ∃ k : Nat, 4 ≤ k ∧ k ≤ 16 ∧ vi = .int .i64 k) (fun vi => 16 - (intOf vi).toNat)
  case atStart => exact ⟨4, by omega, by omega, rfl⟩
  case round =>
    obtain ⟨k, h4, h16, rfl⟩ := hrel
    by_cases hlt : k < 16
    · go_wp2
      go_round
      case rel => exact ⟨k + 1, by omega, by omega, by go_num⟩
      case measure => simp [intOf]; omega
    · go_wp2
      go_ret
      exact ⟨rfl, hb⟩

set_option maxRecDepth 100000 in
set_option maxHeartbeats 1000000 in
theorem refValid_four (ys : List Int) (hy : ys.length = 16) (w : World) :
    Calls Tryd.prog 6 #[.agg (adA false ys)] w fun e w' => e = .returned (.bool (vld false ys)) ∧ Below w.heap.size w w' := by
  have f1 := (Ad.new w false hy).flag
  have fb := (Ad.new w false hy).byte
  have hb : Below w.heap.size w (w.alloc (.cells (adA false ys) 24)) := (Below.refl _ w).alloc (Nat.le_refl _) _
  have FB := Lib.hid fb
  have HY := Lib.hid hy
  clear fb hy
  obtain ⟨r, hr⟩ : ∃ r, vld false ys = r := ⟨_, rfl⟩
  rw [hr]
  have HR := Lib.hid hr
  clear hr
  go_enter Tryd.func6, Tryd.ntmps6
  go_wp2
  go_loop [3] (fun vi => ∃ k : Nat, 4 ≤ k ∧ k ≤ 16 ∧ vi = .int .i64 k ∧ Hid (∀ j, 4 ≤ j → j < k → ys.getD j 0 = 0)) (fun vi => 16 - (intOf vi).toNat)
  case atStart => exact ⟨4, by omega, by omega, rfl, fun j h1 h2 => by omega⟩
  case round =>
    obtain ⟨k, h4, h16, rfl, hz⟩ := hrel
    by_cases hlt : k < 16
    · have hc := FB.out k hlt
      obtain ⟨y, hy⟩ : ∃ y, ys.getD k 0 = y := ⟨_, rfl⟩
      rw [hy] at hc
      have HYk := Lib.hid hy
      clear hy
      by_cases hy0 : y = 0
      · subst hy0
        have HZ : Hid (∀ j, 4 ≤ j → j < k + 1 → ys.getD j 0 = 0) := Lib.hid (fun j h1 h2 => by
          by_cases e : j = k
          · rw [e]; exact HYk.out
          · exact hz.out j h1 (by omega))
        go_wp2
        go_round
        case rel => exact ⟨k + 1, by omega, by omega, by go_num, HZ⟩
        case measure => simp [intOf]; omega
      · have hb0 : (y != 0) = true := by rw [bne_iff_ne]; exact hy0
        have hf : r = false := by
          rw [← HR.out]
          exact vld_no k h4 (by rw [HY.out]; exact hlt) (by rw [HYk.out]; exact hy0)
        subst hf
        clear hy0
        go_wp2
        go_ret
        exact ⟨rfl, hb⟩
    · have hf : r = true := by
        rw [← HR.out]
        exact vld_yes fun j h1 h2 => hz.out j h1 (by rw [HY.out] at h2; omega)
      subst hf
      go_wp2
      go_ret
      exact ⟨rfl, hb⟩

set_option maxRecDepth 100000 in
set_option maxHeartbeats 1000000 in
theorem round_any (k : Int) (n : Nat) (hn : 0 < n) (hn2 : n ≤ 100) (w : World) :
    Calls Tryd.prog 12 #[.int .i64 k, .int .i64 n] w fun e w' => (∃ j : Nat, j < n ∧ e = .returned (.int .i64 j)) ∧ w = w' := by
  go_enter Tryd.func12, Tryd.ntmps12
  go_wp2
  have t1 : -(n : Int) < k.tmod n ∧ k.tmod n < n := by
    have a := Int.tmod_lt_of_pos k (show (0 : Int) < n by omega)
    have b := Int.lt_tmod_of_pos k (show (0 : Int) < n by omega)
    exact ⟨b, a⟩
  have t2 : wrap64 (k.tmod n + n) = k.tmod n + n := by unfold wrap64; omega
  have t3 := Int.tmod_nonneg (n : Int) (show (0 : Int) ≤ k.tmod n + n by omega)
  have t4 := Int.tmod_lt_of_pos (k.tmod n + n) (show (0 : Int) < n by omega)
  go_ret
  refine ⟨⟨((k.tmod n + n).tmod n).toNat, by omega, ?_⟩, rfl⟩
  rw [Int.toNat_of_nonneg t3]
  show Ending.returned (.int .i64 ((wrap64 (k.tmod n + n)).tmod n)) = _
  rw [t2]

end Go.Proofs.YtahoggkjbfhadaaDoor
