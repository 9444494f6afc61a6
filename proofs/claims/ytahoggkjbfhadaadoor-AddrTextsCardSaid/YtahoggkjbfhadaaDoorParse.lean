/- The walk of addr's Parse, and what it computes. -/
import Derived.Test.YtahoggkjbfhadaaDoorParts
import Derived.Test.YtahoggkjbfhadaaDoorTextB
import Derived.Lib.SplitLaws
namespace Go.Proofs.YtahoggkjbfhadaaDoor
open Go.RowKit

/-- strings.Split at one sign. -/
def spl (c : UInt8) (s : ByteArray) : List ByteArray := Lib.splitB ⟨#[c]⟩ 0 (Lib.countB s ⟨#[c]⟩) s
theorem spl_len (c : UInt8) (s : ByteArray) : (spl c s).length = Lib.countB s ⟨#[c]⟩ + 1 := Lib.splitB_all ⟨#[c]⟩ (Nat.le_refl 1) 0 _ s rfl
theorem splitB_small (sep : ByteArray) : ∀ (k : Nat) (s x : ByteArray), x ∈ Lib.splitB sep 0 k s → x.size ≤ s.size
  | 0, s, x, h => by
    rw [Lib.splitB_zero] at h
    simp at h
    rw [h]
    exact Nat.le_refl _
  | k + 1, s, x, h => by
    unfold Lib.splitB at h
    split at h
    · simp at h
      rw [h]
      exact Nat.le_refl _
    · rcases List.mem_cons.1 h with rfl | h
      · rw [ByteArray.size_extract]
        omega
      · have := splitB_small sep k _ x h
        rw [ByteArray.size_extract] at this
        omega
theorem spl_small (c : UInt8) (s x : ByteArray) (h : x ∈ spl c s) : x.size ≤ s.size := splitB_small _ _ s x h

/-- The split's call. -/
theorem split_any (c : UInt8) (s : ByteArray) (hs : s.size ≤ 1000) (w : World) (hg : Gl w) :
    Calls Tryd.prog 16 #[.string s, .string ⟨#[c]⟩] w fun e w' => e = .returned (.slice (some ⟨w.heap.size, 0, none⟩) (spl c s).length (spl c s).length) ∧ Strs w' w.heap.size (spl c s) ∧ Below w.heap.size w w' := by
  obtain ⟨m, hm⟩ := hg.max
  rw [spl_len]
  refine (Tryd.strings_Split s ⟨#[c]⟩ m w (by omega) hm (Nat.le_refl 1)).mono fun e w' ⟨he, hw⟩ => ⟨he, ?_, ?_⟩
  · rw [hw]
    exact heap_alloc_new _ _
  · rw [hw]
    exact (Below.refl _ _).alloc (Nat.le_refl _) _

/-- All bytes are bytes. -/
def Oct (ys : List Int) : Prop := ∀ y ∈ ys, 0 ≤ y ∧ y ≤ 255
theorem oct_set {ys : List Int} (h : Oct ys) (i : Nat) (x : Int) (h0 : 0 ≤ x) (h1 : x ≤ 255) : Oct (ys.set i x) := by
  intro y hy
  rcases List.mem_or_eq_of_mem_set hy with h2 | h2
  · exact h y h2
  · omega
theorem put1_ok (ys : List Int) (i : Nat) (s : List UInt8) (h : Oct ys ∧ ys.length = 16) : Oct (put1 ys i s) ∧ (put1 ys i s).length = 16 := by
  unfold put1
  split
  · exact ⟨oct_set h.1 _ _ (by omega) (by omega), by simp [h.2]⟩
  · exact h
theorem put2_ok (ys : List Int) (i : Nat) (s : List UInt8) (h : Oct ys ∧ ys.length = 16) : Oct (put2 ys i s) ∧ (put2 ys i s).length = 16 := by
  unfold put2
  split
  · exact ⟨oct_set (oct_set h.1 _ _ (by omega) (by omega)) _ _ (by omega) (by omega), by simp [h.2]⟩
  · exact h
theorem aft_ok (f : List Int → Nat → List UInt8 → List Int) (hf : ∀ ys i s, Oct ys ∧ ys.length = 16 → Oct (f ys i s) ∧ (f ys i s).length = 16) (l : List (List UInt8)) (ys : List Int) (h : Oct ys ∧ ys.length = 16) : ∀ k, Oct (aft f l ys k) ∧ (aft f l ys k).length = 16
  | 0 => h
  | k + 1 => by
    rw [aft_succ]
    exact hf _ _ _ (aft_ok f hf l ys h k)
theorem oct_z16 : Oct z16 ∧ z16.length = 16 := ⟨by intro y hy; simp [z16] at hy; omega, rfl⟩

/-- What Parse reads, ahead of its test. -/
def prs (s : ByteArray) : Bool × List Int :=
  if (spl 46 s).length = 4 then (false, aft put1 (lb (spl 46 s)) z16 4)
  else if (spl 58 s).length = 8 then (true, aft put2 (lb (spl 58 s)) z16 8) else (false, z16)
theorem prs_ok (s : ByteArray) : Oct (prs s).2 ∧ (prs s).2.length = 16 := by
  unfold prs
  split
  · exact aft_ok _ put1_ok _ _ oct_z16 _
  · split
    · exact aft_ok _ put2_ok _ _ oct_z16 _
    · exact oct_z16

theorem text_any (v : Bool) (ys : List Int) (h16 : ys.length = 16) (hb : Oct ys) (w : World) (hg : Gl w) :
    Calls Tryd.prog 9 #[.agg (adA v ys)] w fun e w' => e = .returned (.string (bs (txt v ys))) ∧ Below w.heap.size w w' := by
  cases v
  · exact text_four ys h16 hb w hg
  · exact text_six ys h16 hb w hg

theorem Ad.setFlag {w : World} {g : Nat} {v : Bool} {ys : List Int} (h : Ad w g v ys) (v' : Bool) : Ad (w.setCell ⟨g, 0, none⟩ (.bool v')) g v' ys := by
  refine ⟨h.1, ?_⟩
  rw [heap_setCell_same w g _ _ _ _ h.2]
  rfl

/-- What Parse hands back. -/
def PrsEnd (v : Bool) (ys : List Int) (s : ByteArray) : Ending :=
  if txt v ys = s.data.toList then .returned (.tuple #[.agg (adA v ys), .int .i64 0]) else .returned (.tuple #[.agg (adA false z16), .int .i64 2])
def PrsPost (s : ByteArray) (w : World) (e : Ending) (w' : World) : Prop := e = PrsEnd (prs s).1 (prs s).2 s ∧ Below w.heap.size w w'

theorem toList_is (s : ByteArray) : s.toList = s.data.toList := Lib.toList_data s

set_option maxRecDepth 100000 in
set_option maxHeartbeats 4000000 in
/-- Where the text has four parts. -/
theorem parse_dots (s : ByteArray) (hs : s.size ≤ 1000) (h4 : (spl 46 s).length = 4) (w : World) (hg : Gl w) :
    Calls Tryd.prog 8 #[.string s] w (PrsPost s w) := by
  have hz := zeroA
  have hP : prs s = (false, aft put1 (lb (spl 46 s)) z16 4) := by unfold prs; rw [if_pos h4]
  have hO := prs_ok s
  unfold PrsPost
  rw [hP] at hO ⊢
  obtain ⟨ys, hys⟩ : ∃ ys, aft put1 (lb (spl 46 s)) z16 4 = ys := ⟨_, rfl⟩
  simp only [hys] at hO ⊢
  have HYS := Lib.hid hys
  have HO := Lib.hid hO
  have HG := Lib.hid hg
  clear hP hO hys hg
  have H4 := Lib.hid h4
  clear h4
  have hA := Lib.hid (Ad.new w false (ys := z16) rfl)
  have hG1 := Lib.hid (HG.out.next ((Below.refl _ w).alloc (Nat.le_refl _) (.cells (adA false z16) 24)))
  go_enter Tryd.func8, Tryd.ntmps8
  go_wp2_with fail
  refine (split_any 46 s hs _ hG1.out).mono ?_
  rintro e w1 ⟨rfl, hS, hb1⟩
  have hlt : w.heap.size < w1.heap.size := by have := hb1.size; simp at this; omega
  rw [H4.out]
  have HS := Lib.hid hS
  have HB1 := Lib.hid hb1
  have hA1 := Lib.hid (hA.out.next hb1)
  clear hS hb1 hA
  have hg2 : Gl w1 := hG1.out.next HB1.out
  have hS' : Strs w1 (w.heap.size + 1) (spl 46 s) := by have := HS.out; rwa [World.size_alloc] at this
  have HC := Lib.hid (parts_10 (spl 46 s) H4.out (fun x hx => Nat.le_trans (spl_small 46 s x hx) hs) w.heap.size (w.heap.size + 1) 4 (by omega) HG.out.sz false z16 w1 hg2 hA1.out hS')
  rw [HYS.out] at HC
  clear hS' hg2 HS hA1
  go_wp2_with fail
  refine HC.out.mono ?_
  rintro e w2 ⟨rfl, hA2, hb2⟩
  clear HC
  have hB2 : Below w.heap.size w w2 := ((Below.refl _ w).alloc (Nat.le_refl _) (.cells (adA false z16) 24)).trans ((HB1.out.mono (by simp)).trans hb2)
  have HB2 := Lib.hid hB2
  have HA2 := Lib.hid hA2
  have HG2 := Lib.hid (HG.out.next hB2)
  clear hB2 hA2 hb2 HB1 hG1
  go_wp2_with (with_reducible refine ld24 (.tmp 2) w.heap.size false ys rfl rfl rfl HA2.out ?_)
  refine (text_any false ys HO.out.2 HO.out.1 w2 HG2.out).mono ?_
  rintro e w3 ⟨rfl, hb3⟩
  have HA3 := Lib.hid (HA2.out.next hb3)
  have HB3 := Lib.hid (HB2.out.trans (hb3.mono HB2.out.size))
  clear hb3 HA2 HB2 HG2
  by_cases hE : txt false ys = s.data.toList
  · have hT : (txt false ys == s.toList) = true := beq_iff_eq.2 (hE.trans (toList_is s).symm)
    have hF : PrsEnd false ys s = .returned (.tuple #[.agg (adA false ys), .int .i64 0]) := if_pos hE
    have HF := Lib.hid hF
    clear hE hF
    go_wp2_with (first | (with_reducible refine ld24 (.tmp 2) w.heap.size false ys rfl rfl rfl HA3.out ?_) | (with_reducible refine st24_same (.tmp 2) (.tmp 25) w.heap.size false ys rfl rfl rfl rfl rfl HA3.out ?_))
    refine bodyPost_ret (res24_2 rfl _ _ w.heap.size _ _ rfl HA3.out) rfl ⟨?_, HB3.out⟩
    rw [HF.out]
    rfl
  · have hT : (txt false ys == s.toList) = false := beq_eq_false_iff_ne.2 fun h => hE (h.trans (toList_is s))
    have hF : PrsEnd false ys s = .returned (.tuple #[.agg (adA false z16), .int .i64 2]) := if_neg hE
    have HF := Lib.hid hF
    have b24 := build24_zero
    clear hE hF
    go_wp2_with (first | (with_reducible refine ld24 (.tmp 2) w.heap.size false ys rfl rfl rfl HA3.out ?_) | (with_reducible refine st24_over (.tmp 2) (.tmp 24) w.heap.size false false ys z16 w.heap.size w rfl rfl rfl rfl rfl HA3.out rfl HB3.out (Nat.le_refl _) ?_; intro w4 hA4 hB4))
    refine bodyPost_ret (res24_2 rfl _ _ w.heap.size _ _ rfl hA4) rfl ⟨?_, hB4⟩
    rw [HF.out]
    rfl

set_option maxRecDepth 100000 in
set_option maxHeartbeats 4000000 in
/-- Where the text has eight parts. -/
theorem parse_colons (s : ByteArray) (hs : s.size ≤ 1000) (h4 : ¬ (spl 46 s).length = 4) (h8 : (spl 58 s).length = 8) (w : World) (hg : Gl w) :
    Calls Tryd.prog 8 #[.string s] w (PrsPost s w) := by
  have hz := zeroA
  have hP : prs s = (true, aft put2 (lb (spl 58 s)) z16 8) := by unfold prs; rw [if_neg h4, if_pos h8]
  have hO := prs_ok s
  unfold PrsPost
  rw [hP] at hO ⊢
  obtain ⟨ys, hys⟩ : ∃ ys, aft put2 (lb (spl 58 s)) z16 8 = ys := ⟨_, rfl⟩
  simp only [hys] at hO ⊢
  have HYS := Lib.hid hys
  have HO := Lib.hid hO
  have HG := Lib.hid hg
  clear hP hO hys hg
  have H8 := Lib.hid h8
  clear h8
  have hA := Lib.hid (Ad.new w false (ys := z16) rfl)
  have hG1 := Lib.hid (HG.out.next ((Below.refl _ w).alloc (Nat.le_refl _) (.cells (adA false z16) 24)))
  go_enter Tryd.func8, Tryd.ntmps8
  go_wp2_with fail
  refine (split_any 46 s hs _ hG1.out).mono ?_
  rintro e w1 ⟨rfl, hS, hb1⟩
  have hlt : w.heap.size < w1.heap.size := by have := hb1.size; simp at this; omega
  have HN4 := Lib.hid h4
  have hn : (((spl 46 s).length : Int) == 4) = false := beq_eq_false_iff_ne.2 (by omega)
  clear h4
  have HB1 := Lib.hid hb1
  have hA1 := Lib.hid (hA.out.next hb1)
  have hG2 := Lib.hid (hG1.out.next hb1)
  clear hS hb1 hA
  go_wp2_with fail
  refine (split_any 58 s hs _ hG2.out).mono ?_
  rintro e w1' ⟨rfl, hS, hb1⟩
  rw [H8.out]
  have HS := Lib.hid hS
  have hA2 := hA1.out.next hb1
  have hGa := hG2.out.next hb1
  have HBa := Lib.hid (HB1.out.trans (hb1.mono HB1.out.size))
  clear hb1 hS hA1 HB1
  have hcf := hA2.flag
  have hff := frozen_of_row w1' w.heap.size 0 _ _ hA2.2
  have hBx := Lib.hid (((Below.refl _ w).alloc (Nat.le_refl _) (.cells (adA false z16) 24)).trans (HBa.out.mono (by simp)))
  go_wp2_with fail
  have hA3 := hA2.setFlag true
  have hS3 : Strs (w1'.setCell ⟨w.heap.size, 0, none⟩ (.bool true)) w1.heap.size (spl 58 s) := HS.out.set _ _ (by show w1.heap.size ≠ w.heap.size; omega)
  have hB3 : Below w.heap.size w (w1'.setCell ⟨w.heap.size, 0, none⟩ (.bool true)) := Below.set' hBx.out w.heap.size 0 (Nat.le_refl _) _
  have HC := Lib.hid (parts_16 (spl 58 s) H8.out (fun x hx => Nat.le_trans (spl_small 58 s x hx) hs) w.heap.size w1.heap.size 8 (by omega) HG.out.sz true z16 _ (HG.out.next hB3) hA3 hS3)
  rw [HYS.out] at HC
  have HB3 := Lib.hid hB3
  clear hA3 hS3 hB3 HS hA2 hGa hcf hff hBx HBa
  refine HC.out.mono ?_
  rintro e w2 ⟨rfl, hA2, hb2⟩
  clear HC
  have hB2 : Below w.heap.size w w2 := HB3.out.trans hb2
  have HB2 := Lib.hid hB2
  have HA2 := Lib.hid hA2
  have HG2 := Lib.hid (HG.out.next hB2)
  clear hB2 hA2 hb2 HB3 hG1 hG2
  go_wp2_with (with_reducible refine ld24 (.tmp 2) w.heap.size true ys rfl rfl rfl HA2.out ?_)
  refine (text_any true ys HO.out.2 HO.out.1 w2 HG2.out).mono ?_
  rintro e w3 ⟨rfl, hb3⟩
  have HA3 := Lib.hid (HA2.out.next hb3)
  have HB3 := Lib.hid (HB2.out.trans (hb3.mono HB2.out.size))
  clear hb3 HA2 HB2 HG2
  by_cases hE : txt true ys = s.data.toList
  · have hT : (txt true ys == s.toList) = true := beq_iff_eq.2 (hE.trans (toList_is s).symm)
    have hF : PrsEnd true ys s = .returned (.tuple #[.agg (adA true ys), .int .i64 0]) := if_pos hE
    have HF := Lib.hid hF
    clear hE hF
    go_wp2_with (first | (with_reducible refine ld24 (.tmp 2) w.heap.size true ys rfl rfl rfl HA3.out ?_) | (with_reducible refine st24_same (.tmp 2) (.tmp 25) w.heap.size true ys rfl rfl rfl rfl rfl HA3.out ?_))
    refine bodyPost_ret (res24_2 rfl _ _ w.heap.size _ _ rfl HA3.out) rfl ⟨?_, HB3.out⟩
    rw [HF.out]
    rfl
  · have hT : (txt true ys == s.toList) = false := beq_eq_false_iff_ne.2 fun h => hE (h.trans (toList_is s))
    have hF : PrsEnd true ys s = .returned (.tuple #[.agg (adA false z16), .int .i64 2]) := if_neg hE
    have HF := Lib.hid hF
    have b24 := build24_zero
    clear hE hF
    go_wp2_with (first | (with_reducible refine ld24 (.tmp 2) w.heap.size true ys rfl rfl rfl HA3.out ?_) | (with_reducible refine st24_over (.tmp 2) (.tmp 24) w.heap.size true false ys z16 w.heap.size w rfl rfl rfl rfl rfl HA3.out rfl HB3.out (Nat.le_refl _) ?_; intro w4 hA4 hB4))
    refine bodyPost_ret (res24_2 rfl _ _ w.heap.size _ _ rfl hA4) rfl ⟨?_, hB4⟩
    rw [HF.out]
    rfl

set_option maxRecDepth 100000 in
set_option maxHeartbeats 4000000 in
/-- Where the text has neither. -/
theorem parse_none (s : ByteArray) (hs : s.size ≤ 1000) (h4 : ¬ (spl 46 s).length = 4) (h8 : ¬ (spl 58 s).length = 8) (w : World) (hg : Gl w) :
    Calls Tryd.prog 8 #[.string s] w (PrsPost s w) := by
  have hz := zeroA
  have hP : prs s = (false, z16) := by unfold prs; rw [if_neg h4, if_neg h8]
  have hO := prs_ok s
  unfold PrsPost
  rw [hP] at hO ⊢
  obtain ⟨ys, hys⟩ : ∃ ys, z16 = ys := ⟨_, rfl⟩
  simp only [hys] at hO ⊢
  have HYS := Lib.hid hys
  have HO := Lib.hid hO
  have HG := Lib.hid hg
  clear hP hO hys hg
  have h8' : (((spl 58 s).length : Int) == 8) = false := beq_eq_false_iff_ne.2 (by omega)
  clear h8
  have hA := Lib.hid (Ad.new w false (ys := z16) rfl)
  have hG1 := Lib.hid (HG.out.next ((Below.refl _ w).alloc (Nat.le_refl _) (.cells (adA false z16) 24)))
  go_enter Tryd.func8, Tryd.ntmps8
  go_wp2_with fail
  refine (split_any 46 s hs _ hG1.out).mono ?_
  rintro e w1 ⟨rfl, hS, hb1⟩
  have hlt : w.heap.size < w1.heap.size := by have := hb1.size; simp at this; omega
  have HN4 := Lib.hid h4
  have hn : (((spl 46 s).length : Int) == 4) = false := beq_eq_false_iff_ne.2 (by omega)
  clear h4
  have HB1 := Lib.hid hb1
  have hA1 := Lib.hid (hA.out.next hb1)
  have hG2 := Lib.hid (hG1.out.next hb1)
  clear hS hb1 hA
  go_wp2_with fail
  refine (split_any 58 s hs _ hG2.out).mono ?_
  rintro e w2 ⟨rfl, hS, hb1⟩
  have HB2 := Lib.hid (((Below.refl _ w).alloc (Nat.le_refl _) (.cells (adA false z16) 24)).trans ((HB1.out.trans (hb1.mono HB1.out.size)).mono (by simp)))
  have HA2 := hA1.out.next hb1
  rw [HYS.out] at HA2
  have HA2 := Lib.hid HA2
  have HG2 := Lib.hid (HG.out.next HB2.out)
  clear hb1 hS HB1 hG1 hG2 hA1
  go_wp2_with (with_reducible refine ld24 (.tmp 2) w.heap.size false ys rfl rfl rfl HA2.out ?_)
  refine (text_any false ys HO.out.2 HO.out.1 w2 HG2.out).mono ?_
  rintro e w3 ⟨rfl, hb3⟩
  have HA3 := Lib.hid (HA2.out.next hb3)
  have HB3 := Lib.hid (HB2.out.trans (hb3.mono HB2.out.size))
  clear hb3 HA2 HB2 HG2
  by_cases hE : txt false ys = s.data.toList
  · have hT : (txt false ys == s.toList) = true := beq_iff_eq.2 (hE.trans (toList_is s).symm)
    have hF : PrsEnd false ys s = .returned (.tuple #[.agg (adA false ys), .int .i64 0]) := if_pos hE
    have HF := Lib.hid hF
    clear hE hF
    go_wp2_with (first | (with_reducible refine ld24 (.tmp 2) w.heap.size false ys rfl rfl rfl HA3.out ?_) | (with_reducible refine st24_same (.tmp 2) (.tmp 25) w.heap.size false ys rfl rfl rfl rfl rfl HA3.out ?_))
    refine bodyPost_ret (res24_2 rfl _ _ w.heap.size _ _ rfl HA3.out) rfl ⟨?_, HB3.out⟩
    rw [HF.out]
    rfl
  · have hT : (txt false ys == s.toList) = false := beq_eq_false_iff_ne.2 fun h => hE (h.trans (toList_is s))
    have hF : PrsEnd false ys s = .returned (.tuple #[.agg (adA false z16), .int .i64 2]) := if_neg hE
    have HF := Lib.hid hF
    have b24 := build24_zero
    clear hE hF
    go_wp2_with (first | (with_reducible refine ld24 (.tmp 2) w.heap.size false ys rfl rfl rfl HA3.out ?_) | (with_reducible refine st24_over (.tmp 2) (.tmp 24) w.heap.size false false ys z16 w.heap.size w rfl rfl rfl rfl rfl HA3.out rfl HB3.out (Nat.le_refl _) ?_; intro w4 hA4 hB4))
    refine bodyPost_ret (res24_2 rfl _ _ w.heap.size _ _ rfl hA4) rfl ⟨?_, hB4⟩
    rw [HF.out]
    rfl

theorem parse_any (s : ByteArray) (hs : s.size ≤ 1000) (w : World) (hg : Gl w) : Calls Tryd.prog 8 #[.string s] w (PrsPost s w) := by
  by_cases h4 : (spl 46 s).length = 4
  · exact parse_dots s hs h4 w hg
  · by_cases h8 : (spl 58 s).length = 8
    · exact parse_colons s hs h4 h8 w hg
    · exact parse_none s hs h4 h8 w hg

end Go.Proofs.YtahoggkjbfhadaaDoor
