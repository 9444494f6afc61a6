/- The walks of addr's parts. -/
import Derived.Test.YtahoggkjbfhadaaDoorNums
import Derived.Test.YtahoggkjbfhadaaDoorLaws
import Derived.RegionTactic
import Derived.ChangeAlike
import Derived.IntWalk
namespace Go.Proofs.YtahoggkjbfhadaaDoor
open Go.RowKit

theorem Ad.drew {w : World} {g : Nat} {v : Bool} {ys : List Int} (h : Ad w g v ys) : Ad w.drew g v ys := h
theorem Ad.set {w : World} {g : Nat} {v : Bool} {ys : List Int} (h : Ad w g v ys) (i : Nat) (x : Int) : Ad (w.setCell ⟨g, 1 + i, none⟩ (.int .u8 x)) g v (ys.set i x) := by
  refine ⟨by simp [h.1], ?_⟩
  rw [heap_setCell_same w g _ _ _ _ h.2]
  congr 2
  rw [Nat.add_comm 1 i]
  simp [adA]

/-- Strings in a block. -/
def Strs (w : World) (g : Nat) (l : List ByteArray) : Prop := w.heap[g]? = some (.cells (l.map Value.string).toArray 9 (0, 0))
theorem Strs.at {w : World} {g : Nat} {l : List ByteArray} (h : Strs w g l) (i : Nat) (hi : i < l.length) : w.cell? ⟨g, i, none⟩ = some (.string (l[i]'hi)) := by
  rw [cell_of_row w g i _ _ _ h]
  simp [hi]
theorem Strs.next {w w' : World} {g : Nat} {l : List ByteArray} (h : Strs w g l) (hb : Below w.heap.size w w') : Strs w' g l := (hb.block g (Array.getElem?_eq_some_iff.1 h).1).trans h
theorem Strs.drew {w : World} {g : Nat} {l : List ByteArray} (h : Strs w g l) : Strs w.drew g l := h
theorem Strs.set {w : World} {g : Nat} {l : List ByteArray} (h : Strs w g l) (a : Addr) (v : Value) (hne : g ≠ a.block) : Strs (w.setCell a v) g l := (heap_setCell_other w a g v hne).trans h

theorem Below.set' {B : Nat} {a w : World} (h : Below B a w) (g o : Nat) (hg : B ≤ g) (v : Value) : Below B a (w.setCell ⟨g, o, none⟩ v) := h.setCell (p := ⟨g, o, none⟩) hg v

/-- A text's bytes, part by part. -/
abbrev lb (l : List ByteArray) : List (List UInt8) := l.map (·.data.toList)
theorem lb_at (l : List ByteArray) (k : Nat) (hk : k < l.length) : (lb l).getD k [] = (l[k]'hk).data.toList := by
  simp [lb, List.getD, hk]

set_option maxRecDepth 100000 in
set_option maxHeartbeats 4000000 in
theorem parts_10 (l : List ByteArray) (hl : l.length = 4) (hs : ∀ s ∈ l, s.size ≤ 1000) (b g c : Nat) (hbg : b ≠ g) (hb8 : 8 ≤ b) (v : Bool) (ys : List Int) (w : World) (hg : Gl w) (hA : Ad w b v ys) (hS : Strs w g l) :
    Calls Tryd.prog 17 #[.pointer (some ⟨b, 0, none⟩), .slice (some ⟨g, 0, none⟩) 4 c, .int .i64 10, .int .i64 1] w fun e w' => e = .returned (.tuple #[]) ∧ Ad w' b v (aft put1 (lb l) ys 4) ∧ Below b w w' := by
  have HG := Lib.hid hg
  have HA := Lib.hid hA
  have HS := Lib.hid hS
  have HLn := Lib.hid hl
  have HSz := Lib.hid hs
  clear hg hA hS hl hs
  go_enter Tryd.func17, Tryd.ntmps17
  go_wp2
  go_loopw [15] (fun v15 wr => ∃ k : Nat, k ≤ 4 ∧ v15 = .int .i64 k ∧ Hid (Ad wr b v (aft put1 (lb l) ys k)) ∧ Hid (Strs wr g l) ∧ Hid (Below b w wr))
    (fun v15 _ => 4 - (intOf v15).toNat)
  case atStart => exact ⟨0, by omega, rfl, HA, HS, Below.refl _ _⟩
  case round =>
    obtain ⟨k, hk, rfl, ha, hS, hbel⟩ := hrel
    by_cases hlt : k < 4
    · have hkl : k < l.length := by rw [HLn.out]; exact hlt
      have hc := hS.out.at k hkl
      have hsz := HSz.out (l[k]'hkl) (List.getElem_mem hkl)
      obtain ⟨s, hs⟩ : ∃ s, l[k]'hkl = s := ⟨_, rfl⟩
      rw [hs] at hc hsz
      have HSK := Lib.hid hs
      clear hs
      have hgr := Lib.hid (HG.out.below hbel.out hb8)
      cases hp : pDec s.data.toList with
      | none =>
        have HP := Lib.hid hp
        clear hp
        go_wp2_with (go_at_call 25; refine (pu10_no s hsz HP.out _ hgr.out).mono ?_; rintro e w1 ⟨⟨v1, x1, rfl⟩, hb1⟩)
        have e1 : aft put1 (lb l) ys (k + 1) = aft put1 (lb l) ys k := by
          rw [aft_succ, lb_at l k hkl, HSK.out]
          unfold put1
          rw [HP.out]
        exact ⟨⟨k + 1, by omega, by go_num, by rw [e1]; exact ha.out.next hb1, hS.out.next hb1, hbel.out.trans (hb1.mono (by have := ha.out.lt; omega))⟩, by simp [intOf]; omega⟩
      | some n =>
        have HP := Lib.hid hp
        clear hp
        go_wp2_with (go_at_call 25; refine (pu10_ok s n hsz HP.out _).mono ?_; rintro e w1 ⟨rfl, hb1⟩)
        have e1 := Lib.hid (show aft put1 (lb l) ys (k + 1) = (aft put1 (lb l) ys k).set k ((n : Int) % 256) by
          rw [aft_succ, lb_at l k hkl, HSK.out]
          unfold put1
          rw [HP.out])
        have ha1 := Lib.hid (ha.out.next hb1)
        have hS1 := Lib.hid (hS.out.next hb1)
        have hbel1 := Lib.hid (hbel.out.trans (hb1.mono (by have := ha.out.lt; omega)))
        obtain ⟨z, hz⟩ : ∃ z, w1.cell? ⟨b, 1 + k, none⟩ = some (.int .u8 z) := ⟨_, ha1.out.byte k (by omega)⟩
        have hf := frozen_of_row w1 b (1 + k) _ _ ha1.out.2
        clear ha hS hbel hb1 hgr hc
        refine wp_loop_rounds 2 ?_
        rw [rounds_succ]
        go_wp2
        go_region
        go_wp2
        rw [rounds_succ]
        go_wp2
        exact ⟨⟨k + 1, by omega, by go_num, by rw [e1.out]; exact (ha1.out.set k _).drew, (hS1.out.set _ _ (Ne.symm hbg)).drew, (Below.set' hbel1.out b _ (Nat.le_refl _) _).drew⟩, by simp [intOf]; omega⟩
    · have hk4 : k = 4 := by omega
      subst hk4
      go_wp2
      go_end0
      exact ⟨rfl, ha.out, hbel.out⟩

set_option maxRecDepth 100000 in
set_option maxHeartbeats 4000000 in
theorem parts_16 (l : List ByteArray) (hl : l.length = 8) (hs : ∀ s ∈ l, s.size ≤ 1000) (b g c : Nat) (hbg : b ≠ g) (hb8 : 8 ≤ b) (v : Bool) (ys : List Int) (w : World) (hg : Gl w) (hA : Ad w b v ys) (hS : Strs w g l) :
    Calls Tryd.prog 17 #[.pointer (some ⟨b, 0, none⟩), .slice (some ⟨g, 0, none⟩) 8 c, .int .i64 16, .int .i64 2] w fun e w' => e = .returned (.tuple #[]) ∧ Ad w' b v (aft put2 (lb l) ys 8) ∧ Below b w w' := by
  have HG := Lib.hid hg
  have HA := Lib.hid hA
  have HS := Lib.hid hS
  have HLn := Lib.hid hl
  have HSz := Lib.hid hs
  clear hg hA hS hl hs
  go_enter Tryd.func17, Tryd.ntmps17
  go_wp2
  go_loopw [15] (fun v15 wr => ∃ k : Nat, k ≤ 8 ∧ v15 = .int .i64 k ∧ Hid (Ad wr b v (aft put2 (lb l) ys k)) ∧ Hid (Strs wr g l) ∧ Hid (Below b w wr))
    (fun v15 _ => 8 - (intOf v15).toNat)
  case atStart => exact ⟨0, by omega, rfl, HA, HS, Below.refl _ _⟩
  case round =>
    obtain ⟨k, hk, rfl, ha, hS, hbel⟩ := hrel
    by_cases hlt : k < 8
    · have hkl : k < l.length := by rw [HLn.out]; exact hlt
      have hc := hS.out.at k hkl
      have hsz := HSz.out (l[k]'hkl) (List.getElem_mem hkl)
      obtain ⟨s, hs⟩ : ∃ s, l[k]'hkl = s := ⟨_, rfl⟩
      rw [hs] at hc hsz
      have HSK := Lib.hid hs
      clear hs
      have hgr := Lib.hid (HG.out.below hbel.out hb8)
      cases hp : pHex s.data.toList with
      | none =>
        have HP := Lib.hid hp
        clear hp
        go_wp2_with (go_at_call 25; refine (pu16_no s hsz HP.out _ hgr.out).mono ?_; rintro e w1 ⟨⟨v1, x1, rfl⟩, hb1⟩)
        have e1 : aft put2 (lb l) ys (k + 1) = aft put2 (lb l) ys k := by
          rw [aft_succ, lb_at l k hkl, HSK.out]
          unfold put2
          rw [HP.out]
        exact ⟨⟨k + 1, by omega, by go_num, by rw [e1]; exact ha.out.next hb1, hS.out.next hb1, hbel.out.trans (hb1.mono (by have := ha.out.lt; omega))⟩, by simp [intOf]; omega⟩
      | some n =>
        have HP := Lib.hid hp
        clear hp
        go_wp2_with (go_at_call 25; refine (pu16_ok s n hsz HP.out _).mono ?_; rintro e w1 ⟨rfl, hb1⟩)
        have e1 := Lib.hid (show aft put2 (lb l) ys (k + 1) = ((aft put2 (lb l) ys k).set (2 * k) ((n : Int) / 256 % 256)).set (2 * k + 1) ((n : Int) % 256) by
          rw [aft_succ, lb_at l k hkl, HSK.out]
          unfold put2
          rw [HP.out])
        have ha1 := Lib.hid (ha.out.next hb1)
        have hS1 := Lib.hid (hS.out.next hb1)
        have hbel1 := Lib.hid (hbel.out.trans (hb1.mono (by have := ha.out.lt; omega)))
        obtain ⟨z, hz⟩ : ∃ z, w1.cell? ⟨b, 1 + 2 * k, none⟩ = some (.int .u8 z) := ⟨_, ha1.out.byte (2 * k) (by omega)⟩
        have hf := frozen_of_row w1 b (1 + 2 * k) _ _ ha1.out.2
        clear ha hS hbel hb1 hgr hc
        have s1 : (0 : Int) ≤ 2 * (k : Int) := by omega
        have s2 : (2 * (k : Int)) < 16 := by omega
        have s3 : (2 * (k : Int) + 1) < 16 := by omega
        have s4 : (0 : Int) ≤ 2 * (k : Int) + 1 := by omega
        have n1 : (2 * (k : Int)).toNat = 2 * k := by omega
        have n2 : (2 * (k : Int) + 1).toNat = 2 * k + 1 := by omega
        have q1 : IntKind.i64.wrap (2 * (k : Int)) = 2 * (k : Int) := IntWalk.i64_in _ (by omega)
        have q2 : IntKind.i64.wrap (2 * (k : Int) + 1) = 2 * (k : Int) + 1 := IntWalk.i64_in _ (by omega)
        refine wp_loop_rounds 3 ?_
        rw [rounds_succ]
        go_wp2
        go_region
        go_wp2
        rw [rounds_succ]
        obtain ⟨W2, hW2⟩ : ∃ W2, (w1.setCell ⟨b, 1 + 2 * k, none⟩ (.int .u8 ((n : Int) / 256 % 256))).drew = W2 := ⟨_, rfl⟩
        have ha2 : Ad W2 b v ((aft put2 (lb l) ys k).set (2 * k) ((n : Int) / 256 % 256)) := by rw [← hW2]; exact (ha1.out.set (2 * k) _).drew
        have hS2 : Strs W2 g l := by rw [← hW2]; exact (hS1.out.set _ _ (Ne.symm hbg)).drew
        have hb2 : Below b w W2 := by rw [← hW2]; exact (Below.set' hbel1.out b _ (Nat.le_refl _) _).drew
        rw [hW2]
        clear hW2 ha1 hS1 hbel1 hz hf
        have HA2 := Lib.hid ha2
        have HS2 := Lib.hid hS2
        have HB2 := Lib.hid hb2
        clear ha2 hS2 hb2
        obtain ⟨z2, hz2⟩ : ∃ z, W2.cell? ⟨b, 1 + (2 * k + 1), none⟩ = some (.int .u8 z) := ⟨_, HA2.out.byte (2 * k + 1) (by omega)⟩
        have hf2 := frozen_of_row W2 b (1 + (2 * k + 1)) _ _ HA2.out.2
        go_wp2
        go_region
        go_wp2
        rw [rounds_succ]
        go_wp2
        exact ⟨⟨k + 1, by omega, by go_num, by rw [e1.out]; exact (HA2.out.set (2 * k + 1) _).drew, (HS2.out.set _ _ (Ne.symm hbg)).drew, (Below.set' HB2.out b _ (Nat.le_refl _) _).drew⟩, by simp [intOf]; omega⟩
    · have hk4 : k = 8 := by omega
      subst hk4
      go_wp2
      go_end0
      exact ⟨rfl, ha.out, hbel.out⟩

end Go.Proofs.YtahoggkjbfhadaaDoor
