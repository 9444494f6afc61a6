/- The walk of addr's Text at sixteen bytes. -/
import Derived.Test.YtahoggkjbfhadaaDoorText
import Derived.Deep.QuietTactic
import Derived.BigQuiet
import Derived.IntWalk
namespace Go.Proofs.YtahoggkjbfhadaaDoor
open Go.RowKit

theorem or_bytes (m q : Nat) (hm : m < 256) (hq : q < 256) : bits .or .i64 ((m : Int) * 256) (q : Int) = ((m * 256 + q : Nat) : Int) := by
  have e1 : ((m : Int) * 256) = ((m * 256 : Nat) : Int) := by omega
  have h := Nat.two_pow_add_eq_or_of_lt (i := 8) (b := q) (by omega) m
  rw [e1]
  show IntKind.i64.wrap (((BitVec.ofInt 64 ((m * 256 : Nat) : Int) ||| BitVec.ofInt 64 (q : Int) : BitVec 64).toNat : Nat) : Int) = _
  rw [BitVec.ofInt_natCast, BitVec.ofInt_natCast, BitVec.toNat_or, BitVec.toNat_ofNat, BitVec.toNat_ofNat, Nat.mod_eq_of_lt (show m * 256 < 2 ^ 64 by omega), Nat.mod_eq_of_lt (show q < 2 ^ 64 by omega), show m * 256 ||| q = m * 256 + q by rw [Nat.mul_comm m 256]; exact h.symm]
  exact IntWalk.i64_in _ (by omega)

set_option maxRecDepth 100000 in
set_option maxHeartbeats 2000000 in
theorem text_six (ys : List Int) (h16 : ys.length = 16) (hb : ∀ y ∈ ys, 0 ≤ y ∧ y ≤ 255) (w : World) (hg : Gl w) :
    Calls Tryd.prog 9 #[.agg (adA true ys)] w fun e w' => e = .returned (.string (bs (txt true ys))) ∧ Below w.heap.size w w' := by
  have hA := Ad.new w true h16
  have f1 := hA.flag
  have HA := Lib.hid hA
  have HB := Lib.hid hb
  have H16 := Lib.hid h16
  clear hA hb h16
  obtain ⟨i0, hi, hz0, hz1, hz2⟩ := info_parts Tryd.info9
  have HG := Lib.hid hg
  clear hg
  go_enter Tryd.func9, Tryd.ntmps9
  go_wp2
  go_loopw [3, 28] (fun v3 v28 wr => ∃ k : Nat, k ≤ 8 ∧ v28 = .int .i64 k ∧ Hid (wr.ownsRow (w.heap.size + 1) 9 1 v3 k (rows (part6 ys) k)) ∧ Hid (Below (w.heap.size + 1) (w.alloc (.cells (adA true ys) 24)) wr))
    (fun _ v28 _ => 8 - (intOf v28).toNat)
  case atStart => exact ⟨0, by omega, rfl, World.ownsRow_nil .., Below.refl _ _⟩
  case round =>
    obtain ⟨k, hk, rfl, hown, hbel⟩ := hrel
    have HAr := Lib.hid (HA.out.below hbel.out (by omega))
    by_cases hlt : k < 8
    · have hca := HAr.out.byte (2 * k) (by omega)
      have hcb := HAr.out.byte (2 * k + 1) (by omega)
      have hl := H16.out
      have hya := HB.out (ys.getD (2 * k) 0) (by
        rw [List.getD_eq_getElem?_getD, List.getElem?_eq_getElem (by omega)]
        simp)
      have hyb := HB.out (ys.getD (2 * k + 1) 0) (by
        rw [List.getD_eq_getElem?_getD, List.getElem?_eq_getElem (by omega)]
        simp)
      clear hl
      obtain ⟨m, hm⟩ : ∃ m : Nat, ys.getD (2 * k) 0 = (m : Int) := ⟨(ys.getD (2 * k) 0).toNat, by omega⟩
      obtain ⟨q, hq⟩ : ∃ m : Nat, ys.getD (2 * k + 1) 0 = (m : Int) := ⟨(ys.getD (2 * k + 1) 0).toNat, by omega⟩
      rw [hm] at hca hya
      rw [hq] at hcb hyb
      have HM := Lib.hid hm
      have HQ := Lib.hid hq
      clear hm hq
      have hm2 : m < 256 := by omega
      have hq2 : q < 256 := by omega
      have s1 : (0 : Int) ≤ 2 * (k : Int) := by omega
      have s2 : (2 * (k : Int)) < 16 := by omega
      have s3 : (2 * (k : Int) + 1) < 16 := by omega
      have s4 : (0 : Int) ≤ 2 * (k : Int) + 1 := by omega
      have n1 : (2 * (k : Int)).toNat = 2 * k := by omega
      have n2 : (2 * (k : Int) + 1).toNat = 2 * k + 1 := by omega
      have w1 : IntKind.i64.wrap (2 * (k : Int)) = 2 * (k : Int) := IntWalk.i64_in _ (by omega)
      have w2 : IntKind.i64.wrap (2 * (k : Int) + 1) = 2 * (k : Int) + 1 := IntWalk.i64_in _ (by omega)
      go_wp2_with fail
      go_quiet (fail)
      go_wp2_with fail
      rw [or_bytes m q hm2 hq2]
      have hn : m * 256 + q < 65536 := by omega
      obtain ⟨N, hN⟩ : ∃ N, m * 256 + q = N := ⟨_, rfl⟩
      rw [hN] at hn ⊢
      have HN := Lib.hid hN
      have hln := hexL_len N
      have HBd := Lib.hid (below_drewN (Below.refl wr.heap.size wr) nq)
      have hgd := Lib.hid ((HG.out.below (((Below.refl _ w).alloc (Nat.le_refl _) _).trans (hbel.out.mono (by omega))) HG.out.sz))
      clear hN hya hyb hca hcb s1 s2 s3 s4 n1 n2 w1 w2 hm2 hq2
      refine (fmtInt16 N _ ((hgd.out.next HBd.out).tz) hn).mono ?_
      rintro e w1 ⟨rfl, hb1⟩
      have HB1 := Lib.hid hb1
      clear hb1 hn
      go_wp2_with fail
      obtain ⟨c, hcl⟩ : ∃ c, 4 - (hexL N).length = c := ⟨_, rfl⟩
      rw [show (4 : Int) - ((hexL N).length : Int) = (c : Int) by omega]
      have HC := Lib.hid hcl
      have hc4 : c ≤ 3 := by omega
      clear hcl hln
      refine (Tryd.strings_Repeat _ c _ (by omega) (by show 1 * c ≤ _; omega)).mono ?_
      rintro e w2 ⟨rfl, hb2⟩
      have HB2 := Lib.hid hb2
      clear hb2 hc4
      have hr1 : Below wr.heap.size wr w2 := (HBd.out.trans (HB1.out.mono (by simp))).trans (HB2.out.mono (by have := HB1.out.size; simpa using this))
      have HR := Lib.hid hr1
      have hown2 := Lib.hid (own_next hown.out hr1)
      clear hr1 HBd HB1 HB2
      have hx1 : (Lib.repeatL [48] c).length ≤ 4 := by rw [Lib.repeatL_length]; have := HC.out; simp; omega
      have hx2 := (hexL_len N).2
      go_wp2_with (at_builtin; refine wpList_append_own _ rfl _ _ 39 rfl (w.heap.size + 1) 9 i0 (.string ⟨#[]⟩) 1 16 Tryd.underlying39 hi hz0 hz1 hz2 rfl (by decide) _ k _ rfl (hown2.out.alloc _) ⟨w2.heap.size, 0, none⟩ 1 1 [.string (bs (Lib.repeatL [48] c) ++ bs (hexL N))] rfl rfl (cell_one_new _ _ _) ?c2 ?c3 ?c4 ?c5 ?_)
      case c2 =>
        intro u hu
        simp at hu
        subst hu
        rfl
      case c3 => unfold maxLen; omega
      case c4 => omega
      case c5 =>
        have h1 := hbel.out.size
        have h2 := HR.out.size
        simp at h1 ⊢
        omega
      intro v' w3 hown3 hgrow _
      have HO : Hid (w3.ownsRow (w.heap.size + 1) 9 1 v' (k + 1) (rows (part6 ys) (k + 1))) := Lib.hid (by
        rw [rows_succ]
        have e : bs (part6 ys k) = bs (Lib.repeatL [48] c) ++ bs (hexL N) := by
          unfold part6 grp
          rw [HM.out, HQ.out, Int.toNat_natCast, Int.toNat_natCast, HN.out, HC.out]
          exact ByteArray.ext (by simp)
        rw [e]
        exact hown3)
      have HB3 : Hid (Below (w.heap.size + 1) (w.alloc (.cells (adA true ys) 24)) w3) := Lib.hid (row_step hbel.out HR.out (by simp) hown2.out hgrow)
      clear hown3 hgrow hown2 HR hown hbel hx1 hx2
      go_wp2
      go_roundw
      case rel => exact ⟨k + 1, by omega, by go_num, HO, HB3⟩
      case measure => simp [intOf]; omega
    · have hk8 : k = 8 := by omega
      subst hk8
      have HJ := Lib.hid (join_rows (part6 ys) 8 [58] _ _ wr (by omega) (by omega) hown.out (by
        have := txt6_len ys
        exact Nat.le_trans (Nat.le_of_eq this) (by omega)))
      have HB2 := Lib.hid (((Below.refl _ w).alloc (Nat.le_refl _) (.cells (adA true ys) 24)).trans (hbel.out.mono (by omega)))
      clear hown hbel
      go_wp2_with (go_at_call 19; refine HJ.out.mono ?_; rintro e w3 ⟨rfl, hb3⟩)
      go_ret
      exact ⟨rfl, HB2.out.trans (hb3.mono HB2.out.size)⟩

end Go.Proofs.YtahoggkjbfhadaaDoor
