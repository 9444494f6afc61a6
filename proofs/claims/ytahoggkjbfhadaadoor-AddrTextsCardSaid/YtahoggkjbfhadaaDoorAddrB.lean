/- The walks of addr's Bytes and From. -/
import Derived.Test.YtahoggkjbfhadaaDoorAddr
namespace Go.Proofs.YtahoggkjbfhadaaDoor
open Go.RowKit

set_option maxRecDepth 100000 in
set_option maxHeartbeats 1000000 in
theorem bytes_six (ys : List Int) (h : ys.length = 16) (w : World) :
    Calls Tryd.prog 11 #[.agg (adA true ys)] w fun e w' => (∃ v, e = .returned v ∧ RowB w' w.heap.size v ys) ∧ Below w.heap.size w w' := by
  have hcl := Lib.hid (clone_bytes w.heap.size 1 16 16 ys (w.alloc (.cells (adA true ys) 24)) h (by omega) (by omega) (fun j u hj => by
    rw [World.cell?, heap_alloc_new]
    show (adA true ys)[1 + j]? = some u
    rw [Nat.add_comm 1 j]
    simpa [adA] using hj))
  obtain ⟨x0, x1, x2, x3, x4, x5, x6, x7, x8, x9, x10, x11, x12, x13, x14, x15, rfl⟩ := len16 h
  clear h
  show Calls Tryd.prog 11 #[.agg #[.bool true, .int .u8 x0, .int .u8 x1, .int .u8 x2, .int .u8 x3, .int .u8 x4, .int .u8 x5, .int .u8 x6, .int .u8 x7, .int .u8 x8, .int .u8 x9, .int .u8 x10, .int .u8 x11, .int .u8 x12, .int .u8 x13, .int .u8 x14, .int .u8 x15]] w _
  go_enter Tryd.func11, Tryd.ntmps11
  go_wp2_with fail
  refine hcl.out.mono ?_
  rintro e w1 ⟨⟨v, rfl, hr⟩, hb⟩
  obtain ⟨g, cap, rfl, hg, hr⟩ := hr
  have HR := Lib.hid hr
  clear hr hcl
  go_wp2
  go_ret
  exact ⟨⟨_, rfl, g, cap, rfl, by simp at hg; omega, HR.out⟩, (((Below.refl _ w).alloc (Nat.le_refl _) _).trans (hb.mono (by simp)))⟩

set_option maxRecDepth 100000 in
set_option maxHeartbeats 1000000 in
theorem bytes_four (ys zs : List Int) (h : (ys ++ zs).length = 16) (h4 : ys.length = 4) (w : World) :
    Calls Tryd.prog 11 #[.agg (adA false (ys ++ zs))] w fun e w' => (∃ v, e = .returned v ∧ RowB w' w.heap.size v ys) ∧ Below w.heap.size w w' := by
  have hcl := Lib.hid (clone_bytes w.heap.size 1 4 16 ys (w.alloc (.cells (adA false (ys ++ zs)) 24)) h4 (by omega) (by omega) (fun j u hj => by
    rw [World.cell?, heap_alloc_new]
    show (adA false (ys ++ zs))[1 + j]? = some u
    rw [Nat.add_comm 1 j]
    have hj' : j < ys.length := by
      rcases Nat.lt_or_ge j ys.length with h | h
      · exact h
      · rw [List.getElem?_eq_none (by simpa using h)] at hj; cases hj
    rw [adA, List.getElem?_toArray, List.getElem?_cons_succ, List.map_append, List.getElem?_append_left (by simpa using hj')]
    exact hj))
  obtain ⟨x0, x1, x2, x3, x4, x5, x6, x7, x8, x9, x10, x11, x12, x13, x14, x15, hx⟩ := len16 h
  rw [hx] at hcl ⊢
  clear h hx
  show Calls Tryd.prog 11 #[.agg #[.bool false, .int .u8 x0, .int .u8 x1, .int .u8 x2, .int .u8 x3, .int .u8 x4, .int .u8 x5, .int .u8 x6, .int .u8 x7, .int .u8 x8, .int .u8 x9, .int .u8 x10, .int .u8 x11, .int .u8 x12, .int .u8 x13, .int .u8 x14, .int .u8 x15]] w _
  go_enter Tryd.func11, Tryd.ntmps11
  go_wp2_with fail
  refine hcl.out.mono ?_
  rintro e w1 ⟨⟨v, rfl, hr⟩, hb⟩
  obtain ⟨g, cap, rfl, hg, hr⟩ := hr
  have HR := Lib.hid hr
  clear hr hcl h4
  go_wp2
  go_ret
  exact ⟨⟨_, rfl, g, cap, rfl, by simp at hg; omega, HR.out⟩, (((Below.refl _ w).alloc (Nat.le_refl _) _).trans (hb.mono (by simp)))⟩

set_option maxRecDepth 100000 in
set_option maxHeartbeats 1000000 in
theorem from_bad (p : Option Addr) (n c : Nat) (w : World) (h4 : ¬ n = 4) (h16 : ¬ n = 16) :
    Calls Tryd.prog 10 #[.slice p n c] w fun e w' => e = .returned (.tuple #[.agg (adA false z16), .int .i64 2]) ∧ Below w.heap.size w w' := by
  have e4 : ((n : Int) != 4) = true := by rw [bne_iff_ne]; omega
  have e16 : ((n : Int) != 16) = true := by rw [bne_iff_ne]; omega
  clear h4 h16
  have hz := zeroA
  go_enter Tryd.func10, Tryd.ntmps10
  go_wp2_with (first | (with_reducible refine ld24 (.tmp 2) w.heap.size false z16 rfl rfl rfl (Ad.new w false (ys := z16) rfl) ?_) | (with_reducible refine st24_same (.tmp 2) (.tmp 12) w.heap.size false z16 rfl rfl rfl rfl rfl (Ad.new w false (ys := z16) rfl) ?_))
  refine bodyPost_ret (res24_2 rfl _ _ w.heap.size _ _ rfl (Ad.new w false (ys := z16) rfl)) rfl ⟨rfl, by go_grown⟩

theorem splice_adA (v : Bool) (xs zs : List Int) : (splice (Value.bool v :: (zs.map (Value.int .u8))) 1 (xs.map (Value.int .u8))).toArray = adA v (xs ++ zs.drop xs.length) := by
  simp [splice, adA, Nat.add_comm 1]

set_option maxRecDepth 100000 in
set_option maxHeartbeats 1000000 in
theorem from_six (b o c : Nat) (xs : List Int) (hx : xs.length = 16) (w : World)
    (hc : ∀ j u, (xs.map (Value.int .u8))[j]? = some u → w.cell? ⟨b, o + j, none⟩ = some u) :
    Calls Tryd.prog 10 #[.slice (some ⟨b, o, none⟩) 16 c] w fun e w' => e = .returned (.tuple #[.agg (adA true xs), .int .i64 0]) ∧ Below w.heap.size w w' := by
  have A : Aside (∀ j u, (xs.map (Value.int .u8))[j]? = some u → w.cell? ⟨b, o + j, none⟩ = some u) := hc
  clear hc
  go_enter Tryd.func10, Tryd.ntmps10
  go_wp2_with (with_reducible refine wpList_copy_splice rfl (.tmp 18) (.tmp 19) 32 32 rfl 5 Tryd.underlying32 ?c0 (some ⟨w.heap.size, 1, none⟩) (some ⟨b, o, none⟩) 16 16 16 c rfl rfl w.heap.size 1 (Value.bool true :: z16.map (Value.int .u8)) 24 (heap_alloc_new _ _) (xs.map (Value.int .u8)) ?c1 (fun _ => ⟨rfl, _, rfl, fun j u hj => (congrArg _ (Addr.add_lit ..)).trans (Lib.cell?_alloc_some _ (A.out j u hj))⟩) ?c3 ?c4 w.heap.size w ?c5 ?c6 ?_)
  case c0 => kernel_rfl
  case c1 => simp [hx]
  case c3 => simp [hx, z16]
  case c4 =>
    intro u hu
    obtain ⟨y, _, rfl⟩ := List.mem_map.1 hu
    rfl
  case c5 => exact (Below.refl _ w).alloc (Nat.le_refl _) _
  case c6 => exact Nat.le_refl _
  intro w1 hg hb
  have ha : Ad w1 w.heap.size true xs := ⟨hx, by rw [hg.out, splice_adA, hx]; simp [z16]⟩
  have HA := Lib.hid ha
  clear hg ha A
  go_wp2_with (first | (with_reducible refine ld24 (.tmp 2) w.heap.size true xs rfl rfl rfl HA.out ?_) | (with_reducible refine st24_same (.tmp 2) (.tmp 21) w.heap.size true xs rfl rfl rfl rfl rfl HA.out ?_))
  refine bodyPost_ret (res24_2 rfl _ _ w.heap.size _ _ rfl HA.out) rfl ⟨rfl, hb⟩

end Go.Proofs.YtahoggkjbfhadaaDoor
