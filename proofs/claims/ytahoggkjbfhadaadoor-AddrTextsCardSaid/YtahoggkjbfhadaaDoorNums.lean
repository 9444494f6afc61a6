/- What the world holds in the library's variables, and strconv's contracts as addr's walks use them: Itoa, FormatInt, ParseUint. -/
import Derived.Test.YtahoggkjbfhadaaDoorHex
import Derived.Test.YtahoggkjbfhadaaDoorHexIn
import Derived.Test.YtahoggkjbfhadaaDoorShelf
import Derived.WalkSmall
namespace Go.Proofs.YtahoggkjbfhadaaDoor
open Go.RowKit

/-- What the walks need of the library's package-level variables. -/
structure Gl (w : World) : Prop where
  max : ∃ m, w.cell? ⟨0, 0, none⟩ = some (.int .i64 m)
  pow : Lib.TabIs Tryd.prog w "internal/strconv.uint64pow10" .u64 Lib.pow10Tab
  syn : ∃ t p, w.cell? ⟨2, 0, none⟩ = some (.iface t p)
  rng : ∃ t p, w.cell? ⟨3, 0, none⟩ = some (.iface t p)
  tz : w.cell? ⟨7, 15, none⟩ = some (.int .u8 4)
  sz : 8 ≤ w.heap.size

theorem Gl.below {w w' : World} {B : Nat} (h : Gl w) (hb : Below B w w') (hB : 8 ≤ B) : Gl w' := by
  obtain ⟨m, hm⟩ := h.max
  obtain ⟨t, p, hs⟩ := h.syn
  obtain ⟨t', p', hr⟩ := h.rng
  exact ⟨⟨m, (hb.cell (p := ⟨0, 0, none⟩) (by show 0 < B; omega)).trans hm⟩, var?_below hb (g := 1) (by kernel_rfl) (by omega) h.pow,
    ⟨t, p, (hb.cell (p := ⟨2, 0, none⟩) (by show 2 < B; omega)).trans hs⟩, ⟨t', p', (hb.cell (p := ⟨3, 0, none⟩) (by show 3 < B; omega)).trans hr⟩,
    (hb.cell (p := ⟨7, 15, none⟩) (by show 7 < B; omega)).trans h.tz, Nat.le_trans h.sz hb.size⟩

theorem Gl.next {w w' : World} (h : Gl w) (hb : Below w.heap.size w w') : Gl w' := h.below hb h.sz

theorem below_grow (w : World) (k : Nat) (os : Array Obj) : Below w.heap.size w (Sort.grow (w.drewN k) os) :=
  (below_drewN (Below.refl _ w) k).trans ⟨rfl, rfl, rfl, by simp [Sort.grow], fun i hi => by
    have h' : i < (w.drewN k).heap.size := hi
    show ((w.drewN k).heap ++ os)[i]? = _
    rw [Array.getElem?_append, if_pos h']⟩

theorem itoa_any (n : Nat) (hn : n < 256) (w : World) (hg : Gl w) :
    Calls Tryd.prog 18 #[.int .i64 n] w fun e w' => e = .returned (.string ⟨(Lib.itoa n).toArray⟩) ∧ Below w.heap.size w w' :=
  (Tryd.strconv_Itoa n (by omega) (by omega) w hg.pow).mono fun e w' ⟨he, k, os, hw⟩ => ⟨he, hw ▸ below_grow w k os⟩

theorem pu10_ok (s : ByteArray) (n : Nat) (hs : s.size ≤ 1000) (h : pDec s.data.toList = some n) (w : World) :
    Calls Tryd.prog 25 #[.string s, .int .i64 10, .int .i64 8] w fun e w' => e = .returned (.tuple #[.int .u64 n, .nilIface]) ∧ Below w.heap.size w w' := by
  have hk : Lib.parseUintB 8 s.data.toList = .ok n := by
    unfold pDec at h
    rcases hp : Lib.parseUintB 8 s.data.toList with v | _ | _
    · rw [hp] at h; exact congrArg _ (Option.some.inj h)
    · rw [hp] at h; cases h
    · rw [hp] at h; cases h
  refine (Tryd.strconv_ParseUint_10_at8_ok s (by omega) n hk w).mono fun e w' ⟨he, hw⟩ => ⟨he, ?_⟩
  rcases hw with rfl | rfl
  · exact Below.refl _ _
  · exact Lib.bytesWorld_below _ _ _

theorem pu10_no (s : ByteArray) (hs : s.size ≤ 1000) (h : pDec s.data.toList = none) (w : World) (hg : Gl w) :
    Calls Tryd.prog 25 #[.string s, .int .i64 10, .int .i64 8] w fun e w' => (∃ v x, e = .returned (.tuple #[.int .u64 v, .iface 89 x])) ∧ Below w.heap.size w w' := by
  obtain ⟨t, p, hsy⟩ := hg.syn
  obtain ⟨t', p', hrg⟩ := hg.rng
  unfold pDec at h
  rcases hp : Lib.parseUintB 8 s.data.toList with v | _ | _
  · rw [hp] at h; cases h
  · exact (Tryd.strconv_ParseUint_10_at8_syntax s (by omega) hp _ w hsy (.inr ⟨_, _, rfl⟩)).mono fun e w' ⟨N, he, _, _, hb⟩ => ⟨⟨_, _, he⟩, hb⟩
  · exact (Tryd.strconv_ParseUint_10_at8_range s (by omega) hp _ w hrg (.inr ⟨_, _, rfl⟩)).mono fun e w' ⟨N, he, _, _, hb⟩ => ⟨⟨_, _, he⟩, hb⟩

/-- The inner ParseUint at base 16. -/
theorem pu16_inner (s : ByteArray) (hs : s.size ≤ 1000) (w : World) :
    Calls Tryd.prog 38 #[.string s, .int .i64 16, .int .i64 16] w fun e w' => e = .returned (Lib.uintTupleM 86 65535 (if s.data.toList = [] then Lib.NumEnd.syntax else hexM 0 s.data.toList)) ∧ Below w.heap.size w w' := by
  by_cases h0 : s.size = 0
  · have ht : s = ⟨#[]⟩ := by
      obtain ⟨⟨l⟩⟩ := s
      cases l with
      | nil => rfl
      | cons _ _ => simp [ByteArray.size] at h0
    subst ht
    exact (pu16_empty w).mono fun e w' ⟨he, hw⟩ => ⟨he, hw ▸ Below.refl _ _⟩
  · have hne : s.data.toList ≠ [] := fun h => h0 (by rw [Lib.size_eq, h]; rfl)
    refine (pu16_in s h0 (by omega) w).mono fun e w' ⟨he, hw⟩ => ⟨?_, hw ▸ Lib.bytesWorld_below _ _ _⟩
    rw [he, if_neg hne]

set_option maxRecDepth 100000 in
set_option maxHeartbeats 400000 in
theorem pu16_ok (s : ByteArray) (n : Nat) (hs : s.size ≤ 1000) (h : pHex s.data.toList = some n) (w : World) :
    Calls Tryd.prog 25 #[.string s, .int .i64 16, .int .i64 16] w fun e w' => e = .returned (.tuple #[.int .u64 n, .nilIface]) ∧ Below w.heap.size w w' := by
  have hk : (if s.data.toList = [] then Lib.NumEnd.syntax else hexM 0 s.data.toList) = Lib.NumEnd.ok n := by
    unfold pHex at h
    split at h
    · cases h
    · rename_i hne
      rw [if_neg hne]
      rcases hp : hexM 0 s.data.toList with v | _ | _
      · rw [hp] at h; exact congrArg _ (Option.some.inj h)
      · rw [hp] at h; cases h
      · rw [hp] at h; cases h
  have hc := pu16_inner s hs w
  rw [hk] at hc
  have hc' : Calls Tryd.prog 38 #[.string s, .int .i64 16, .int .i64 16] w fun e w' => e = .returned (.tuple #[.int .u64 n, .nilIface]) ∧ Below w.heap.size w w' := hc
  clear hc hk h
  go_enter Tryd.func25, Tryd.ntmps25
  go_wp2_with (go_at_call 38; refine hc'.mono ?_; rintro e w' ⟨rfl, hb⟩)
  go_ret2
  exact ⟨rfl, hb⟩

set_option maxRecDepth 100000 in
set_option maxHeartbeats 400000 in
theorem pu16_no (s : ByteArray) (hs : s.size ≤ 1000) (h : pHex s.data.toList = none) (w : World) (hg : Gl w) :
    Calls Tryd.prog 25 #[.string s, .int .i64 16, .int .i64 16] w fun e w' => (∃ v x, e = .returned (.tuple #[.int .u64 v, .iface 89 x])) ∧ Below w.heap.size w w' := by
  have hc := pu16_inner s hs w
  generalize hq : (if s.data.toList = [] then Lib.NumEnd.syntax else hexM 0 s.data.toList) = q at hc
  have hd : q = Lib.NumEnd.syntax ∨ q = .range := by
    subst hq
    unfold pHex at h
    split
    · exact .inl rfl
    · rename_i hne
      rw [if_neg hne] at h
      rcases hp : hexM 0 s.data.toList with v | _ | _
      · rw [hp] at h; cases h
      · exact .inl rfl
      · exact .inr rfl
  clear hq h
  rcases hd with rfl | rfl
  · have hc' : Calls Tryd.prog 38 #[.string s, .int .i64 16, .int .i64 16] w fun e w' => e = .returned (.tuple #[.int .u64 0, .iface 86 (.int .i64 2)]) ∧ Below w.heap.size w w' := hc
    clear hc
    go_enter Tryd.func25, Tryd.ntmps25
    go_wp2_with (go_at_call 38; refine hc'.mono ?_; rintro e w1 ⟨rfl, hb⟩)
    obtain ⟨t, p, hsy⟩ := (hg.next hb).syn
    refine (Tryd.strconv_toError_syntax _ s 16 16 _ _ (by omega) hsy (.inr ⟨_, _, rfl⟩)).mono ?_
    rintro e w2 ⟨N, rfl, _, _, hb2⟩
    go_wp2
    go_ret2
    exact ⟨⟨_, _, rfl⟩, hb.trans (hb2.mono hb.size)⟩
  · have hc' : Calls Tryd.prog 38 #[.string s, .int .i64 16, .int .i64 16] w fun e w' => e = .returned (.tuple #[.int .u64 65535, .iface 86 (.int .i64 1)]) ∧ Below w.heap.size w w' := hc
    clear hc
    go_enter Tryd.func25, Tryd.ntmps25
    go_wp2_with (go_at_call 38; refine hc'.mono ?_; rintro e w1 ⟨rfl, hb⟩)
    obtain ⟨t, p, hrg⟩ := (hg.next hb).rng
    refine (Tryd.strconv_toError_range _ s 16 16 _ _ (by omega) hrg (.inr ⟨_, _, rfl⟩)).mono ?_
    rintro e w2 ⟨N, rfl, _, _, hb2⟩
    go_wp2
    go_ret2
    exact ⟨⟨_, _, rfl⟩, hb.trans (hb2.mono hb.size)⟩

end Go.Proofs.YtahoggkjbfhadaaDoor
