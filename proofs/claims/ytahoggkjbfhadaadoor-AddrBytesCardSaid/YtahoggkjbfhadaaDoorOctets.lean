/- The walk of AddrBytes. -/
import Derived.Test.YtahoggkjbfhadaaDoorReg
namespace Go.Proofs.YtahoggkjbfhadaaDoor
open Go.RowKit

set_option maxRecDepth 100000 in
set_option maxHeartbeats 1000000 in
theorem octets_long (p : Option Addr) (n c : Nat) (hn : 100 < n) (w : World) (hg : Gl w) : Calls Tryd.prog 5 #[.slice p n c] w fun e w' => e = .returned (.bool true) ∧ Below w.heap.size w w' := by
  have HG := Lib.hid (Grew.self hg)
  have h1 : (100 : Int) < n := by omega
  clear hg hn
  go_enter Tryd.func5, Tryd.ntmps5
  go_wp2_with fail
  refine (awake_any w HG.out.gl).mono ?_
  rintro e w1 ⟨rfl, hb⟩
  have HB := Lib.hid hb
  clear hb
  go_wp2
  go_ret
  exact ⟨rfl, HB.out⟩

set_option maxRecDepth 100000 in
set_option maxHeartbeats 1000000 in
theorem octets_odd (p : Option Addr) (n c : Nat) (hn : ¬ 100 < n) (h4 : ¬ n = 4) (h16 : ¬ n = 16) (w : World) (hg : Gl w) : Calls Tryd.prog 5 #[.slice p n c] w fun e w' => e = .returned (.bool true) ∧ Below w.heap.size w w' := by
  have hz := zeroA
  have HG := Lib.hid (Grew.self hg)
  have h1 : ¬ (100 : Int) < n := by omega
  have e4 : ((n : Int) != 4) = true := by rw [bne_iff_ne]; omega
  have e16 : ((n : Int) != 16) = true := by rw [bne_iff_ne]; omega
  have H4 := Lib.hid h4
  have H16 := Lib.hid h16
  clear hg hn h4 h16
  go_enter Tryd.func5, Tryd.ntmps5
  go_wp2_with fail
  refine (from_bad p n c w H4.out H16.out).mono ?_
  rintro e w1 ⟨rfl, hb⟩
  replace HG := Lib.hid ((HG.out.call hb).alloc (.cells (adA false z16) 24))
  have HA := Lib.hid (Ad.new w1 false (ys := z16) rfl)
  have hs := same24 false z16 rfl
  have b24 := build24_zero
  clear hb
  go_wp2_with (first | (with_reducible refine st24_new (.tmp 3) (.tmp 12) w1 _ false z16 rfl rfl rfl rfl rfl rfl rfl rfl ?_) | (with_reducible refine ld24 (.tmp 3) w1.heap.size false z16 rfl rfl rfl HA.out ?_) | (with_reducible refine ld24w (.tmp 3) w1.heap.size false z16 rfl rfl rfl HA.out ?_))
  refine (awake_any _ HG.out.gl).mono ?_
  rintro e w2 ⟨rfl, hb⟩
  replace HG := Lib.hid (HG.out.call hb)
  clear hb
  go_wp2
  go_ret
  exact ⟨rfl, HG.out.below⟩

set_option maxRecDepth 100000 in
set_option maxHeartbeats 1000000 in
theorem octets_four (b o c : Nat) (a0 a1 a2 a3 : Int) (w : World) (hg : Gl w) (hb : b < w.heap.size)
    (hc : ∀ j u, ([a0, a1, a2, a3].map (Value.int .u8))[j]? = some u → w.cell? ⟨b, o + j, none⟩ = some u) : Calls Tryd.prog 5 #[.slice (some ⟨b, o, none⟩) 4 c] w fun e w' => e = .returned (.bool true) ∧ Below w.heap.size w w' := by
  have hz := zeroA
  have HG := Lib.hid (Grew.self hg)
  have HC := Lib.hid hc
  have Hb := Lib.hid hb
  clear hg hc hb
  go_enter Tryd.func5, Tryd.ntmps5
  go_wp2_with fail
  refine (from_four b o c [a0, a1, a2, a3] rfl w HC.out).mono ?_
  rintro e w1 ⟨rfl, hb⟩
  rw [show adA false ([a0, a1, a2, a3] ++ z16.drop 4) = adA false [a0, a1, a2, a3, 0, 0, 0, 0, 0, 0, 0, 0, 0, 0, 0, 0] from rfl]
  obtain ⟨ys, hys⟩ : ∃ ys, [a0, a1, a2, a3, 0, 0, 0, 0, 0, 0, 0, 0, 0, 0, 0, 0] = ys := ⟨_, rfl⟩
  rw [hys]
  have HYS := Lib.hid hys
  have h16 : ys.length = 16 := by rw [← hys]; rfl
  have H16 := Lib.hid h16
  replace HG := Lib.hid ((HG.out.call hb).alloc (.cells (adA false ys) 24))
  have HA := Lib.hid (Ad.new w1 false (ys := ys) h16)
  have hO : b < (w1.alloc (.cells (adA false ys) 24)).heap.size := Nat.lt_of_lt_of_le Hb.out HG.out.below.size
  have hC2 : ∀ j u, ([a0, a1, a2, a3].map (Value.int .u8))[j]? = some u → (w1.alloc (.cells (adA false ys) 24)).cell? ⟨b, o + j, none⟩ = some u := fun j u hj => (HG.out.below.cell Hb.out).trans (HC.out j u hj)
  have HO := Lib.hid hO
  have HC2 := Lib.hid hC2
  clear hb hys h16 hO hC2
  have hv : ∀ w, Calls Tryd.prog 13 #[.int .u8 a0, .int .u8 a1, .int .u8 a2, .int .u8 a3] w fun e w' => e = .returned (.agg (adA false ys)) ∧ Below w.heap.size w w' := fun w => HYS.out ▸ v4_any a0 a1 a2 a3 w
  have HV := Lib.hid hv
  clear hv
  go_wp2_with (first | (with_reducible refine st24_new (.tmp 3) (.tmp 12) w1 _ false ys rfl rfl rfl rfl rfl rfl rfl H16.out ?_))
  have c0 : ∀ p : Wd (w1.alloc (.cells (adA false ys) 24)), p.x.cell? ⟨b, o, none⟩ = some (.int .u8 a0) := fun p => (p.h.cell HO.out).trans (HC2.out 0 _ rfl)
  have c1 : ∀ p : Wd (w1.alloc (.cells (adA false ys) 24)), p.x.cell? ⟨b, o + 1, none⟩ = some (.int .u8 a1) := fun p => (p.h.cell HO.out).trans (HC2.out 1 _ rfl)
  have c2 : ∀ p : Wd (w1.alloc (.cells (adA false ys) 24)), p.x.cell? ⟨b, o + 2, none⟩ = some (.int .u8 a2) := fun p => (p.h.cell HO.out).trans (HC2.out 2 _ rfl)
  have c3 : ∀ p : Wd (w1.alloc (.cells (adA false ys) 24)), p.x.cell? ⟨b, o + 3, none⟩ = some (.int .u8 a3) := fun p => (p.h.cell HO.out).trans (HC2.out 3 _ rfl)
  have hs := same24 false ys H16.out
  refine wp_region_wd (by kernel_rfl) (by kernel_rfl) ?_
  repeat (first | go_big_quiet_skip | (go_big_quiet_want; first | ((with_reducible refine quiet_ld24 (.tmp 3) w1.heap.size false ys rfl rfl HA.out ?_); go_big_quiet_on; simp only [Act.put, List.setIfInBounds_toArray, List.set_cons_succ, List.set_cons_zero]) | (go_big_quiet_op; first | go_big_quiet_on | go_big_quiet_call ((go_at_call 13; exact Calls.wd (HV.out _))))))
  refine wpQuiet_nil ?_
  intro _ hw'
  obtain ⟨⟨w2, hb⟩, rfl⟩ := hw'
  obtain ⟨xs, hxs⟩ : ∃ xs, [a0, a1, a2, a3] = xs := ⟨_, rfl⟩
  have HS := Lib.hid ((⟨HG.out.gl, HG.out.below, HA.out, HO.out, hxs ▸ HC2.out⟩ : Held w w1.heap.size false ys b o xs _).next hb)
  have HX := Lib.hid hxs
  have HXL : Hid (xs.length = 4) := Lib.hid (by rw [← hxs]; rfl)
  have HL := Lib.hid (fun w => HYS.out ▸ valid_four a0 a1 a2 a3 w : ∀ w, Calls Tryd.prog 14 #[.agg (adA false ys)] w fun e w' => e = .returned (.bool true) ∧ Below w.heap.size w w')
  have HT := Lib.hid (fun w => HYS.out ▸ HX.out ▸ bytes_four [a0, a1, a2, a3] (z16.drop 4) rfl rfl w : ∀ w, Calls Tryd.prog 11 #[.agg (adA false ys)] w fun e w' => (∃ v, e = .returned v ∧ RowB w' w.heap.size v xs) ∧ Below w.heap.size w w')
  clear c0 c1 c2 c3 hb hs hxs HC HC2 HA HG HO HV
  go_wp2_with fail
  have HS := Lib.hid HS.out.drew
  refine wp_region_held_drew (S := Held w w1.heap.size false ys b o xs) (by kernel_rfl) HS.out (fun _ => ?_)
  refine wpAnyH_take (i := 0) (oi := ⟨some 52, .move (.tmp 4), 27, "law.go:86", _, none⟩) (v := .int .i64 0) rfl (by kernel_rfl) (by kernel_rfl) (by kernel_rfl) (fun _ _ _ h => h) (Or.inl ⟨by rfl, ?_⟩) HS.out ?_
  · intro w hw
    clear hw
    go_simp
  simp only [Act.put, List.setIfInBounds_toArray, List.set_cons_succ, List.set_cons_zero]
  refine wpAnyH_take (i := 1) (oi := ⟨some 53, .binOp .eql 27 (.tmp 52) (.const (.int .i64 0)) 27, 4, "law.go:86", _, none⟩) (v := .bool true) rfl (by kernel_rfl) (by kernel_rfl) (by kernel_rfl) (fun _ _ _ h => h) (Or.inl ⟨by rfl, ?_⟩) HS.out ?_
  · intro w hw
    clear hw
    go_simp
  simp only [Act.put, List.setIfInBounds_toArray, List.set_cons_succ, List.set_cons_zero]
  refine wpAnyH_take (i := 2) (oi := ⟨some 54, .move (.tmp 53), 4, "law.go:86", _, none⟩) (v := .bool true) rfl (by kernel_rfl) (by kernel_rfl) (by kernel_rfl) (fun _ _ _ h => h) (Or.inl ⟨by rfl, ?_⟩) HS.out ?_
  · intro w hw
    clear hw
    go_simp
  simp only [Act.put, List.setIfInBounds_toArray, List.set_cons_succ, List.set_cons_zero]
  refine wpAnyH_take (i := 3) (oi := ⟨some 55, .load 24 (.tmp 3), 24, "law.go:86", _, some (2, true)⟩) (v := .agg (adA false ys)) rfl (by kernel_rfl) (by kernel_rfl) (by kernel_rfl) (fun _ _ _ h => h) (Or.inl ⟨by rfl, (fun w hw => run_ld24 rfl rfl hw.ad)⟩) HS.out ?_
  simp only [Act.put, List.setIfInBounds_toArray, List.set_cons_succ, List.set_cons_zero]
  refine wpAnyH_ready (rs := [4]) (by kernel_rfl) (by simp) (AllReadyH.cons (o := ⟨some 56, .call ⟨.value (.func 14), #[.tmp 55], #[24]⟩, 4, "law.go:86", _, some (2, true)⟩) rfl (fun K hK => ?_) AllReadyH.nil)
  rw [if_pos (by rfl)]
  go_simp
  refine (HL.out _).mono ?_
  rintro e w4 ⟨rfl, hb⟩
  replace HS := Lib.hid (HS.out.next hb)
  clear hb
  refine hK.out _ _ HS.out (fun _ => ?_)
  clear hK K
  refine wpAnyH_take (i := 5) (oi := ⟨some 57, .pick (.tmp 54) (.tmp 56) (.const (.bool false)), 4, "law.go:86", _, none⟩) (v := .bool true) rfl (by kernel_rfl) (by kernel_rfl) (by kernel_rfl) (fun _ _ _ h => h) (Or.inl ⟨by rfl, ?_⟩) HS.out ?_
  · intro w hw
    clear hw
    go_simp
  simp only [Act.put, List.setIfInBounds_toArray, List.set_cons_succ, List.set_cons_zero]
  refine wpAnyH_take (i := 6) (oi := ⟨some 58, .move (.tmp 57), 4, "law.go:86", _, none⟩) (v := .bool true) rfl (by kernel_rfl) (by kernel_rfl) (by kernel_rfl) (fun _ _ _ h => h) (Or.inl ⟨by rfl, ?_⟩) HS.out ?_
  · intro w hw
    clear hw
    go_simp
  simp only [Act.put, List.setIfInBounds_toArray, List.set_cons_succ, List.set_cons_zero]
  refine wpAnyH_take (i := 7) (oi := ⟨some 59, .fieldAddr 24 (.tmp 3) 0, 0, "law.go:86", _, some (6, true)⟩) (v := .pointer (some ⟨w1.heap.size, 0, none⟩)) rfl (by kernel_rfl) (by kernel_rfl) (by kernel_rfl) (fun _ _ _ h => h) (Or.inl ⟨by rfl, ?_⟩) HS.out ?_
  · intro w hw
    clear hw
    go_simp
  simp only [Act.put, List.setIfInBounds_toArray, List.set_cons_succ, List.set_cons_zero]
  refine wpAnyH_take (i := 8) (oi := ⟨some 60, .load 4 (.tmp 59), 4, "law.go:86", _, some (6, true)⟩) (v := .bool false) rfl (by kernel_rfl) (by kernel_rfl) (by kernel_rfl) (fun _ _ _ h => h) (Or.inl ⟨by rfl, ?_⟩) HS.out ?_
  · intro w hw
    have h0 := hw.ad.flag
    clear hw
    go_simp
  simp only [Act.put, List.setIfInBounds_toArray, List.set_cons_succ, List.set_cons_zero]
  refine wpAnyH_take (i := 9) (oi := ⟨some 61, .move (.tmp 0), 32, "law.go:86", _, some (6, true)⟩) (v := .slice (some ⟨b, o, none⟩) 4 c) rfl (by kernel_rfl) (by kernel_rfl) (by kernel_rfl) (fun _ _ _ h => h) (Or.inl ⟨by rfl, ?_⟩) HS.out ?_
  · intro w hw
    clear hw
    go_simp
  simp only [Act.put, List.setIfInBounds_toArray, List.set_cons_succ, List.set_cons_zero]
  refine wpAnyH_take (i := 10) (oi := ⟨some 62, .call ⟨.builtin .len, #[.tmp 61], #[32]⟩, 3, "law.go:86", _, some (6, true)⟩) (v := .int .i64 4) rfl (by kernel_rfl) (by kernel_rfl) (by kernel_rfl) (fun _ _ _ h => h) (Or.inl ⟨by rfl, ?_⟩) HS.out ?_
  · intro w hw
    clear hw
    go_simp
  simp only [Act.put, List.setIfInBounds_toArray, List.set_cons_succ, List.set_cons_zero]
  refine wpAnyH_take (i := 11) (oi := ⟨some 63, .binOp .eql 3 (.tmp 62) (.const (.int .i64 16)) 3, 4, "law.go:86", _, some (6, true)⟩) (v := .bool false) rfl (by kernel_rfl) (by kernel_rfl) (by kernel_rfl) (fun _ _ _ h => h) (Or.inl ⟨by rfl, ?_⟩) HS.out ?_
  · intro w hw
    clear hw
    go_simp
  simp only [Act.put, List.setIfInBounds_toArray, List.set_cons_succ, List.set_cons_zero]
  refine wpAnyH_take (i := 12) (oi := ⟨some 64, .binOp .eql 4 (.tmp 60) (.tmp 63) 4, 4, "law.go:86", _, some (6, true)⟩) (v := .bool true) rfl (by kernel_rfl) (by kernel_rfl) (by kernel_rfl) (fun _ _ _ h => h) (Or.inl ⟨by rfl, ?_⟩) HS.out ?_
  · intro w hw
    clear hw
    go_simp
  simp only [Act.put, List.setIfInBounds_toArray, List.set_cons_succ, List.set_cons_zero]
  refine wpAnyH_take (i := 13) (oi := ⟨some 65, .pick (.tmp 58) (.tmp 64) (.const (.bool false)), 4, "law.go:86", _, none⟩) (v := .bool true) rfl (by kernel_rfl) (by kernel_rfl) (by kernel_rfl) (fun _ _ _ h => h) (Or.inl ⟨by rfl, ?_⟩) HS.out ?_
  · intro w hw
    clear hw
    go_simp
  simp only [Act.put, List.setIfInBounds_toArray, List.set_cons_succ, List.set_cons_zero]
  refine wpAnyH_take (i := 14) (oi := ⟨some 66, .move (.tmp 65), 4, "law.go:86", _, none⟩) (v := .bool true) rfl (by kernel_rfl) (by kernel_rfl) (by kernel_rfl) (fun _ _ _ h => h) (Or.inl ⟨by rfl, ?_⟩) HS.out ?_
  · intro w hw
    clear hw
    go_simp
  simp only [Act.put, List.setIfInBounds_toArray, List.set_cons_succ, List.set_cons_zero]
  refine wpAnyH_take (i := 15) (oi := ⟨some 67, .load 24 (.tmp 3), 24, "law.go:86", _, some (14, true)⟩) (v := .agg (adA false ys)) rfl (by kernel_rfl) (by kernel_rfl) (by kernel_rfl) (fun _ _ _ h => h) (Or.inl ⟨by rfl, (fun w hw => run_ld24 rfl rfl hw.ad)⟩) HS.out ?_
  simp only [Act.put, List.setIfInBounds_toArray, List.set_cons_succ, List.set_cons_zero]
  refine wpAnyH_take (i := 18) (oi := ⟨some 70, .move (.tmp 0), 32, "law.go:86", _, some (14, true)⟩) (v := .slice (some ⟨b, o, none⟩) 4 c) rfl (by kernel_rfl) (by kernel_rfl) (by kernel_rfl) (fun _ _ _ h => h) (Or.inl ⟨by rfl, ?_⟩) HS.out ?_
  · intro w hw
    clear hw
    go_simp
  simp only [Act.put, List.setIfInBounds_toArray, List.set_cons_succ, List.set_cons_zero]
  refine wpAnyH_take (i := 19) (oi := ⟨some 71, .convert 32 9 (.tmp 70), 9, "law.go:86", _, some (14, true)⟩) (v := .string (strOfNums xs)) rfl (by kernel_rfl) (by kernel_rfl) (by kernel_rfl) (fun _ _ _ h => h) (Or.inl ⟨by rfl, (fun w hw => run_cv rfl rfl hw.row HXL.out)⟩) HS.out ?_
  simp only [Act.put, List.setIfInBounds_toArray, List.set_cons_succ, List.set_cons_zero]
  refine wpAnyH_ready (rs := [16]) (by kernel_rfl) (by simp) (AllReadyH.cons (o := ⟨some 68, .call ⟨.value (.func 11), #[.tmp 67], #[24]⟩, 32, "law.go:86", _, some (14, true)⟩) rfl (fun K hK => ?_) AllReadyH.nil)
  rw [if_pos (by rfl)]
  go_simp
  refine (HT.out _).mono ?_
  rintro e w5 ⟨⟨u, rfl, gq, cq, rfl, _, hr⟩, hb⟩
  replace HS := Lib.hid (HS.out.next hb)
  have HR := Lib.hid hr
  clear hr
  clear hb
  refine hK.out _ _ HS.out (fun _ => ?_)
  clear hK K
  refine wpAnyH_ready (rs := [17]) (by kernel_rfl) (by simp) (AllReadyH.cons (o := ⟨some 69, .convert 32 9 (.tmp 68), 9, "law.go:86", _, some (14, true)⟩) rfl (fun K hK => ?_) AllReadyH.nil)
  rw [if_pos (by rfl)]
  refine wp_value (run_cv_new rfl rfl HR.out rfl) ?_
  refine hK.out _ _ HS.out (fun _ => ?_)
  clear hK K HR
  simp only [Act.put, List.setIfInBounds_toArray, List.set_cons_succ, List.set_cons_zero]
  refine wpAnyH_take (i := 20) (oi := ⟨some 72, .binOp .eql 9 (.tmp 69) (.tmp 71) 9, 4, "law.go:86", _, some (14, true)⟩) (v := .bool true) rfl (by kernel_rfl) (by kernel_rfl) (by kernel_rfl) (fun _ _ _ h => h) (Or.inl ⟨by rfl, ?_⟩) HS.out ?_
  · intro w hw
    clear hw
    go_simp
  simp only [Act.put, List.setIfInBounds_toArray, List.set_cons_succ, List.set_cons_zero]
  refine wpAnyH_take (i := 21) (oi := ⟨some 73, .pick (.tmp 66) (.tmp 72) (.const (.bool false)), 4, "law.go:86", _, none⟩) (v := .bool true) rfl (by kernel_rfl) (by kernel_rfl) (by kernel_rfl) (fun _ _ _ h => h) (Or.inl ⟨by rfl, ?_⟩) HS.out ?_
  · intro w hw
    clear hw
    go_simp
  simp only [Act.put, List.setIfInBounds_toArray, List.set_cons_succ, List.set_cons_zero]
  refine wpAnyH_take (i := 22) (oi := ⟨some 74, .move (.tmp 73), 4, "law.go:86", _, none⟩) (v := .bool true) rfl (by kernel_rfl) (by kernel_rfl) (by kernel_rfl) (fun _ _ _ h => h) (Or.inl ⟨by rfl, ?_⟩) HS.out ?_
  · intro w hw
    clear hw
    go_simp
  simp only [Act.put, List.setIfInBounds_toArray, List.set_cons_succ, List.set_cons_zero]
  refine wpAnyH_ready (rs := [23]) (by kernel_rfl) (by simp) (AllReadyH.cons (o := ⟨some 75, .call ⟨.value (.func 7), #[], #[]⟩, 4, "law.go:86", _, some (22, true)⟩) rfl (fun K hK => ?_) AllReadyH.nil)
  rw [if_pos (by rfl)]
  go_simp
  refine (awake_any _ HS.out.gl).mono ?_
  rintro e w6 ⟨rfl, hb⟩
  replace HS := Lib.hid (HS.out.next hb)
  clear hb
  refine hK.out _ _ HS.out (fun _ => ?_)
  clear hK K
  refine wpAnyH_take (i := 24) (oi := ⟨some 76, .pick (.tmp 74) (.tmp 75) (.const (.bool false)), 4, "law.go:86", _, none⟩) (v := .bool true) rfl (by kernel_rfl) (by kernel_rfl) (by kernel_rfl) (fun _ _ _ h => h) (Or.inl ⟨by rfl, ?_⟩) HS.out ?_
  · intro w hw
    clear hw
    go_simp
  simp only [Act.put, List.setIfInBounds_toArray, List.set_cons_succ, List.set_cons_zero]
  refine wpAnyH_take (i := 25) (oi := ⟨some 2, .assign (.tmp 76), 4, "law.go:86", _, none⟩) (v := .bool true) rfl (by kernel_rfl) (by kernel_rfl) (by kernel_rfl) (fun _ _ _ h => h) (Or.inl ⟨by rfl, ?_⟩) HS.out ?_
  · intro w hw
    clear hw
    go_simp
  simp only [Act.put, List.setIfInBounds_toArray, List.set_cons_succ, List.set_cons_zero]
  refine wpAnyH_done (by kernel_rfl) ?_ _
  go_wp2
  go_ret
  exact ⟨rfl, HS.out.below⟩

set_option maxRecDepth 100000 in
set_option maxHeartbeats 4000000 in
theorem octets_six (b o c : Nat) (xs : List Int) (hx : xs.length = 16) (w : World) (hg : Gl w) (hb : b < w.heap.size)
    (hc : ∀ j u, (xs.map (Value.int .u8))[j]? = some u → w.cell? ⟨b, o + j, none⟩ = some u) : Calls Tryd.prog 5 #[.slice (some ⟨b, o, none⟩) 16 c] w fun e w' => e = .returned (.bool true) ∧ Below w.heap.size w w' := by
  have hz := zeroA
  have HG := Lib.hid (Grew.self hg)
  have HC := Lib.hid hc
  have Hb := Lib.hid hb
  have HXL := Lib.hid hx
  clear hg hc hb hx
  go_enter Tryd.func5, Tryd.ntmps5
  go_wp2_with fail
  refine (from_six b o c xs HXL.out w HC.out).mono ?_
  rintro e w1 ⟨rfl, hb⟩
  replace HG := Lib.hid ((HG.out.call hb).alloc (.cells (adA true xs) 24))
  have HA := Lib.hid (Ad.new w1 true (ys := xs) HXL.out)
  have hO : b < (w1.alloc (.cells (adA true xs) 24)).heap.size := Nat.lt_of_lt_of_le Hb.out HG.out.below.size
  have HS := Lib.hid (⟨HG.out.gl, HG.out.below, HA.out, hO, fun j u hj => (HG.out.below.cell Hb.out).trans (HC.out j u hj)⟩ : Held w w1.heap.size true xs b o xs _)
  have HL := Lib.hid (fun w => valid_six xs HXL.out w : ∀ w, Calls Tryd.prog 14 #[.agg (adA true xs)] w fun e w' => e = .returned (.bool true) ∧ Below w.heap.size w w')
  have HT := Lib.hid (fun w => bytes_six xs HXL.out w : ∀ w, Calls Tryd.prog 11 #[.agg (adA true xs)] w fun e w' => (∃ v, e = .returned v ∧ RowB w' w.heap.size v xs) ∧ Below w.heap.size w w')
  clear hb hO HC HA HG
  go_wp2_with (first | (with_reducible refine st24_new (.tmp 3) (.tmp 12) w1 _ true xs rfl rfl rfl rfl rfl rfl rfl HXL.out ?_))
  refine wp_region_wd (by kernel_rfl) (by kernel_rfl) ?_
  repeat (first | go_big_quiet_skip | (go_big_quiet_want; go_big_quiet_op; go_big_quiet_on))
  refine wpQuiet_nil ?_
  intro _ hw'
  obtain ⟨⟨w2, hb⟩, rfl⟩ := hw'
  replace HS := Lib.hid (HS.out.next hb)
  clear hb
  go_wp2_with fail
  replace HS := Lib.hid HS.out.drew
  refine wp_region_held_drew (S := Held w w1.heap.size true xs b o xs) (by kernel_rfl) HS.out (fun _ => ?_)
  refine wpAnyH_take (i := 0) (oi := ⟨some 52, .move (.tmp 4), 27, "law.go:86", _, none⟩) (v := .int .i64 0) rfl (by kernel_rfl) (by kernel_rfl) (by kernel_rfl) (fun _ _ _ h => h) (Or.inl ⟨by rfl, ?_⟩) HS.out ?_
  · intro w hw
    clear hw
    go_simp
  simp only [Act.put, List.setIfInBounds_toArray, List.set_cons_succ, List.set_cons_zero]
  refine wpAnyH_take (i := 1) (oi := ⟨some 53, .binOp .eql 27 (.tmp 52) (.const (.int .i64 0)) 27, 4, "law.go:86", _, none⟩) (v := .bool true) rfl (by kernel_rfl) (by kernel_rfl) (by kernel_rfl) (fun _ _ _ h => h) (Or.inl ⟨by rfl, ?_⟩) HS.out ?_
  · intro w hw
    clear hw
    go_simp
  simp only [Act.put, List.setIfInBounds_toArray, List.set_cons_succ, List.set_cons_zero]
  refine wpAnyH_take (i := 2) (oi := ⟨some 54, .move (.tmp 53), 4, "law.go:86", _, none⟩) (v := .bool true) rfl (by kernel_rfl) (by kernel_rfl) (by kernel_rfl) (fun _ _ _ h => h) (Or.inl ⟨by rfl, ?_⟩) HS.out ?_
  · intro w hw
    clear hw
    go_simp
  simp only [Act.put, List.setIfInBounds_toArray, List.set_cons_succ, List.set_cons_zero]
  refine wpAnyH_take (i := 3) (oi := ⟨some 55, .load 24 (.tmp 3), 24, "law.go:86", _, some (2, true)⟩) (v := .agg (adA true xs)) rfl (by kernel_rfl) (by kernel_rfl) (by kernel_rfl) (fun _ _ _ h => h) (Or.inl ⟨by rfl, (fun w hw => run_ld24 rfl rfl hw.ad)⟩) HS.out ?_
  simp only [Act.put, List.setIfInBounds_toArray, List.set_cons_succ, List.set_cons_zero]
  refine wpAnyH_ready (rs := [4]) (by kernel_rfl) (by simp) (AllReadyH.cons (o := ⟨some 56, .call ⟨.value (.func 14), #[.tmp 55], #[24]⟩, 4, "law.go:86", _, some (2, true)⟩) rfl (fun K hK => ?_) AllReadyH.nil)
  rw [if_pos (by rfl)]
  go_simp
  refine (HL.out _).mono ?_
  rintro e w4 ⟨rfl, hb⟩
  replace HS := Lib.hid (HS.out.next hb)
  clear hb
  refine hK.out _ _ HS.out (fun _ => ?_)
  clear hK K
  refine wpAnyH_take (i := 5) (oi := ⟨some 57, .pick (.tmp 54) (.tmp 56) (.const (.bool false)), 4, "law.go:86", _, none⟩) (v := .bool true) rfl (by kernel_rfl) (by kernel_rfl) (by kernel_rfl) (fun _ _ _ h => h) (Or.inl ⟨by rfl, ?_⟩) HS.out ?_
  · intro w hw
    clear hw
    go_simp
  simp only [Act.put, List.setIfInBounds_toArray, List.set_cons_succ, List.set_cons_zero]
  refine wpAnyH_take (i := 6) (oi := ⟨some 58, .move (.tmp 57), 4, "law.go:86", _, none⟩) (v := .bool true) rfl (by kernel_rfl) (by kernel_rfl) (by kernel_rfl) (fun _ _ _ h => h) (Or.inl ⟨by rfl, ?_⟩) HS.out ?_
  · intro w hw
    clear hw
    go_simp
  simp only [Act.put, List.setIfInBounds_toArray, List.set_cons_succ, List.set_cons_zero]
  refine wpAnyH_take (i := 7) (oi := ⟨some 59, .fieldAddr 24 (.tmp 3) 0, 0, "law.go:86", _, some (6, true)⟩) (v := .pointer (some ⟨w1.heap.size, 0, none⟩)) rfl (by kernel_rfl) (by kernel_rfl) (by kernel_rfl) (fun _ _ _ h => h) (Or.inl ⟨by rfl, ?_⟩) HS.out ?_
  · intro w hw
    clear hw
    go_simp
  simp only [Act.put, List.setIfInBounds_toArray, List.set_cons_succ, List.set_cons_zero]
  refine wpAnyH_take (i := 8) (oi := ⟨some 60, .load 4 (.tmp 59), 4, "law.go:86", _, some (6, true)⟩) (v := .bool true) rfl (by kernel_rfl) (by kernel_rfl) (by kernel_rfl) (fun _ _ _ h => h) (Or.inl ⟨by rfl, ?_⟩) HS.out ?_
  · intro w hw
    have h0 := hw.ad.flag
    clear hw
    go_simp
  simp only [Act.put, List.setIfInBounds_toArray, List.set_cons_succ, List.set_cons_zero]
  refine wpAnyH_take (i := 9) (oi := ⟨some 61, .move (.tmp 0), 32, "law.go:86", _, some (6, true)⟩) (v := .slice (some ⟨b, o, none⟩) 16 c) rfl (by kernel_rfl) (by kernel_rfl) (by kernel_rfl) (fun _ _ _ h => h) (Or.inl ⟨by rfl, ?_⟩) HS.out ?_
  · intro w hw
    clear hw
    go_simp
  simp only [Act.put, List.setIfInBounds_toArray, List.set_cons_succ, List.set_cons_zero]
  refine wpAnyH_take (i := 10) (oi := ⟨some 62, .call ⟨.builtin .len, #[.tmp 61], #[32]⟩, 3, "law.go:86", _, some (6, true)⟩) (v := .int .i64 16) rfl (by kernel_rfl) (by kernel_rfl) (by kernel_rfl) (fun _ _ _ h => h) (Or.inl ⟨by rfl, ?_⟩) HS.out ?_
  · intro w hw
    clear hw
    go_simp
  simp only [Act.put, List.setIfInBounds_toArray, List.set_cons_succ, List.set_cons_zero]
  refine wpAnyH_take (i := 11) (oi := ⟨some 63, .binOp .eql 3 (.tmp 62) (.const (.int .i64 16)) 3, 4, "law.go:86", _, some (6, true)⟩) (v := .bool true) rfl (by kernel_rfl) (by kernel_rfl) (by kernel_rfl) (fun _ _ _ h => h) (Or.inl ⟨by rfl, ?_⟩) HS.out ?_
  · intro w hw
    clear hw
    go_simp
  simp only [Act.put, List.setIfInBounds_toArray, List.set_cons_succ, List.set_cons_zero]
  refine wpAnyH_take (i := 12) (oi := ⟨some 64, .binOp .eql 4 (.tmp 60) (.tmp 63) 4, 4, "law.go:86", _, some (6, true)⟩) (v := .bool true) rfl (by kernel_rfl) (by kernel_rfl) (by kernel_rfl) (fun _ _ _ h => h) (Or.inl ⟨by rfl, ?_⟩) HS.out ?_
  · intro w hw
    clear hw
    go_simp
  simp only [Act.put, List.setIfInBounds_toArray, List.set_cons_succ, List.set_cons_zero]
  refine wpAnyH_take (i := 13) (oi := ⟨some 65, .pick (.tmp 58) (.tmp 64) (.const (.bool false)), 4, "law.go:86", _, none⟩) (v := .bool true) rfl (by kernel_rfl) (by kernel_rfl) (by kernel_rfl) (fun _ _ _ h => h) (Or.inl ⟨by rfl, ?_⟩) HS.out ?_
  · intro w hw
    clear hw
    go_simp
  simp only [Act.put, List.setIfInBounds_toArray, List.set_cons_succ, List.set_cons_zero]
  refine wpAnyH_take (i := 14) (oi := ⟨some 66, .move (.tmp 65), 4, "law.go:86", _, none⟩) (v := .bool true) rfl (by kernel_rfl) (by kernel_rfl) (by kernel_rfl) (fun _ _ _ h => h) (Or.inl ⟨by rfl, ?_⟩) HS.out ?_
  · intro w hw
    clear hw
    go_simp
  simp only [Act.put, List.setIfInBounds_toArray, List.set_cons_succ, List.set_cons_zero]
  refine wpAnyH_take (i := 15) (oi := ⟨some 67, .load 24 (.tmp 3), 24, "law.go:86", _, some (14, true)⟩) (v := .agg (adA true xs)) rfl (by kernel_rfl) (by kernel_rfl) (by kernel_rfl) (fun _ _ _ h => h) (Or.inl ⟨by rfl, (fun w hw => run_ld24 rfl rfl hw.ad)⟩) HS.out ?_
  simp only [Act.put, List.setIfInBounds_toArray, List.set_cons_succ, List.set_cons_zero]
  refine wpAnyH_take (i := 18) (oi := ⟨some 70, .move (.tmp 0), 32, "law.go:86", _, some (14, true)⟩) (v := .slice (some ⟨b, o, none⟩) 16 c) rfl (by kernel_rfl) (by kernel_rfl) (by kernel_rfl) (fun _ _ _ h => h) (Or.inl ⟨by rfl, ?_⟩) HS.out ?_
  · intro w hw
    clear hw
    go_simp
  simp only [Act.put, List.setIfInBounds_toArray, List.set_cons_succ, List.set_cons_zero]
  refine wpAnyH_take (i := 19) (oi := ⟨some 71, .convert 32 9 (.tmp 70), 9, "law.go:86", _, some (14, true)⟩) (v := .string (strOfNums xs)) rfl (by kernel_rfl) (by kernel_rfl) (by kernel_rfl) (fun _ _ _ h => h) (Or.inl ⟨by rfl, (fun w hw => run_cv rfl rfl hw.row HXL.out)⟩) HS.out ?_
  simp only [Act.put, List.setIfInBounds_toArray, List.set_cons_succ, List.set_cons_zero]
  refine wpAnyH_ready (rs := [16]) (by kernel_rfl) (by simp) (AllReadyH.cons (o := ⟨some 68, .call ⟨.value (.func 11), #[.tmp 67], #[24]⟩, 32, "law.go:86", _, some (14, true)⟩) rfl (fun K hK => ?_) AllReadyH.nil)
  rw [if_pos (by rfl)]
  go_simp
  refine (HT.out _).mono ?_
  rintro e w5 ⟨⟨u, rfl, gq, cq, rfl, _, hr⟩, hb⟩
  replace HS := Lib.hid (HS.out.next hb)
  have HR := Lib.hid hr
  clear hr
  clear hb
  refine hK.out _ _ HS.out (fun _ => ?_)
  clear hK K
  refine wpAnyH_ready (rs := [17]) (by kernel_rfl) (by simp) (AllReadyH.cons (o := ⟨some 69, .convert 32 9 (.tmp 68), 9, "law.go:86", _, some (14, true)⟩) rfl (fun K hK => ?_) AllReadyH.nil)
  rw [if_pos (by rfl)]
  refine wp_value (run_cv_new rfl rfl HR.out rfl) ?_
  refine hK.out _ _ HS.out (fun _ => ?_)
  clear hK K HR
  simp only [Act.put, List.setIfInBounds_toArray, List.set_cons_succ, List.set_cons_zero]
  refine wpAnyH_take (i := 20) (oi := ⟨some 72, .binOp .eql 9 (.tmp 69) (.tmp 71) 9, 4, "law.go:86", _, some (14, true)⟩) (v := .bool true) rfl (by kernel_rfl) (by kernel_rfl) (by kernel_rfl) (fun _ _ _ h => h) (Or.inl ⟨by rfl, ?_⟩) HS.out ?_
  · intro w hw
    clear hw
    go_simp
  simp only [Act.put, List.setIfInBounds_toArray, List.set_cons_succ, List.set_cons_zero]
  refine wpAnyH_take (i := 21) (oi := ⟨some 73, .pick (.tmp 66) (.tmp 72) (.const (.bool false)), 4, "law.go:86", _, none⟩) (v := .bool true) rfl (by kernel_rfl) (by kernel_rfl) (by kernel_rfl) (fun _ _ _ h => h) (Or.inl ⟨by rfl, ?_⟩) HS.out ?_
  · intro w hw
    clear hw
    go_simp
  simp only [Act.put, List.setIfInBounds_toArray, List.set_cons_succ, List.set_cons_zero]
  refine wpAnyH_take (i := 22) (oi := ⟨some 74, .move (.tmp 73), 4, "law.go:86", _, none⟩) (v := .bool true) rfl (by kernel_rfl) (by kernel_rfl) (by kernel_rfl) (fun _ _ _ h => h) (Or.inl ⟨by rfl, ?_⟩) HS.out ?_
  · intro w hw
    clear hw
    go_simp
  simp only [Act.put, List.setIfInBounds_toArray, List.set_cons_succ, List.set_cons_zero]
  refine wpAnyH_ready (rs := [23]) (by kernel_rfl) (by simp) (AllReadyH.cons (o := ⟨some 75, .call ⟨.value (.func 7), #[], #[]⟩, 4, "law.go:86", _, some (22, true)⟩) rfl (fun K hK => ?_) AllReadyH.nil)
  rw [if_pos (by rfl)]
  go_simp
  refine (awake_any _ HS.out.gl).mono ?_
  rintro e w6 ⟨rfl, hb⟩
  replace HS := Lib.hid (HS.out.next hb)
  clear hb
  refine hK.out _ _ HS.out (fun _ => ?_)
  clear hK K
  refine wpAnyH_take (i := 24) (oi := ⟨some 76, .pick (.tmp 74) (.tmp 75) (.const (.bool false)), 4, "law.go:86", _, none⟩) (v := .bool true) rfl (by kernel_rfl) (by kernel_rfl) (by kernel_rfl) (fun _ _ _ h => h) (Or.inl ⟨by rfl, ?_⟩) HS.out ?_
  · intro w hw
    clear hw
    go_simp
  simp only [Act.put, List.setIfInBounds_toArray, List.set_cons_succ, List.set_cons_zero]
  refine wpAnyH_take (i := 25) (oi := ⟨some 2, .assign (.tmp 76), 4, "law.go:86", _, none⟩) (v := .bool true) rfl (by kernel_rfl) (by kernel_rfl) (by kernel_rfl) (fun _ _ _ h => h) (Or.inl ⟨by rfl, ?_⟩) HS.out ?_
  · intro w hw
    clear hw
    go_simp
  simp only [Act.put, List.setIfInBounds_toArray, List.set_cons_succ, List.set_cons_zero]
  refine wpAnyH_done (by kernel_rfl) ?_ _
  go_wp2
  go_ret
  exact ⟨rfl, HS.out.below⟩

/-- The bytes that came in lie where the slice says, if they are four or sixteen. -/
theorem octets_any (p : Option Addr) (n c : Nat) (w : World) (hg : Gl w)
    (hc : n = 4 ∨ n = 16 → ∃ (b o : Nat) (xs : List Int), p = some ⟨b, o, none⟩ ∧ b < w.heap.size ∧ xs.length = n ∧ ∀ j u, (xs.map (Value.int .u8))[j]? = some u → w.cell? ⟨b, o + j, none⟩ = some u) :
    Calls Tryd.prog 5 #[.slice p n c] w fun e w' => e = .returned (.bool true) ∧ Below w.heap.size w w' := by
  by_cases hn : 100 < n
  · exact octets_long p n c hn w hg
  · by_cases h4 : n = 4
    · obtain ⟨b, o, xs, rfl, hb, hx, hr⟩ := hc (.inl h4)
      subst h4
      obtain ⟨a0, a1, a2, a3, rfl⟩ := len4 hx
      exact octets_four b o c a0 a1 a2 a3 w hg hb hr
    · by_cases h16 : n = 16
      · obtain ⟨b, o, xs, rfl, hb, hx, hr⟩ := hc (.inr h16)
        subst h16
        exact octets_six b o c xs hx w hg hb hr
      · exact octets_odd p n c hn h4 h16 w hg

end Go.Proofs.YtahoggkjbfhadaaDoor
