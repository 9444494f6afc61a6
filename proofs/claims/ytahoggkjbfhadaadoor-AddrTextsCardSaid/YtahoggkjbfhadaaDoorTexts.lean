/- The walk of AddrTexts: any text that is read is the text of what was read; with a sign turned, or a dot at its end, it is another, or none. -/
import Derived.Test.YtahoggkjbfhadaaDoorBack
import Derived.Laws.IdiomStrings
namespace Go.Proofs.YtahoggkjbfhadaaDoor
open Go.RowKit

theorem Grew.set {w x : World} (h : Grew w x) (hg : Gl w) (g o : Nat) (hB : w.heap.size ≤ g) (u : Value) : Grew w (x.setCell ⟨g, o, none⟩ u) :=
  have hb := Below.set' h.below g o hB u
  ⟨hg.next hb, hb⟩
theorem Grew.bytes {w x : World} (h : Grew w x) (t : ByteArray) : Grew w (Lib.bytesWorld x 5 t) := h.call (Lib.bytesWorld_below _ _ _)

/-- A row of bytes in a block of the call's own, that may be written. -/
structure Own (w : World) (g : Nat) (l : List UInt8) : Prop where
  cells : ∀ j, j < l.length → w.cell? ⟨g, j, none⟩ = some (.int .u8 ((l.getD j 0).toNat : Int))
  free : ∀ j, j < l.length → w.frozen? ⟨g, j, none⟩ = false
  old : g < w.heap.size
theorem Own.next {w w' : World} {g : Nat} {l : List UInt8} (h : Own w g l) (hb : Below w.heap.size w w') : Own w' g l :=
  ⟨fun j hj => (hb.cell h.old).trans (h.cells j hj), fun j hj => (hb.frozen h.old).trans (h.free j hj), Nat.lt_of_lt_of_le h.old hb.size⟩
theorem Own.drew {w : World} {g : Nat} {l : List UInt8} (h : Own w g l) : Own w.drew g l := h.next (Below.refl _ w).drew
theorem Own.alloc {w : World} {g : Nat} {l : List UInt8} (h : Own w g l) (o : Obj) : Own (w.alloc o) g l := h.next ((Below.refl _ w).alloc (Nat.le_refl _) o)
theorem Own.new (w : World) (t : ByteArray) : Own (Lib.bytesWorld w 5 t) w.heap.size t.data.toList := by
  refine ⟨fun j hj => Lib.bytesWorld_cell w 5 t j (by simpa using hj), fun j hj => ?_, by rw [Lib.bytesWorld_size]; omega⟩
  have hs : j < (Lib.bytesCells w 5 t).size := by
    have : j < t.data.size := by simpa using hj
    unfold Lib.bytesCells
    rw [Array.size_append, Array.size_map]
    omega
  simp only [World.frozen?, Lib.bytesWorld_at_new]
  simp
  omega
theorem Own.set {w : World} {g : Nat} {l : List UInt8} (h : Own w g l) (j : Nat) (hj : j < l.length) (c : Int) (hc : 0 ≤ c ∧ c ≤ 255) : Own (w.setCell ⟨g, j, none⟩ (.int .u8 c)) g (l.set j (UInt8.ofNat c.toNat)) := by
  refine ⟨fun i hi => ?_, fun i hi => ?_, ?_⟩
  · rw [List.length_set] at hi
    by_cases e : i = j
    · subst e
      rw [World.cell?_setCell_same _ _ _ (h.cells i hi)]
      have hu : (UInt8.ofNat c.toNat).toNat = c.toNat := by
        rw [UInt8.toNat_ofNat']
        exact Nat.mod_eq_of_lt (by omega)
      simp only [List.getD, List.getElem?_set_self hi, Option.getD_some, hu]
      rw [Int.toNat_of_nonneg hc.1]
    · rw [World.cell?_setCell_other _ _ _ _ (fun x => e (by injection x with _ h2; exact h2.symm)), h.cells i hi]
      simp only [List.getD, List.getElem?_set_ne (Ne.symm e)]
  · rw [List.length_set] at hi
    rw [World.frozen?_setCell]
    exact h.free i hi
  · rw [World.size_setCell]
    exact h.old

/-- 'string(b)' of such a row. -/
theorem Own.convert {w : World} {g n c : Nat} {l : List UInt8} (h : Own w g l) (hn : l.length = n) : (convert 32 9 (.slice (some ⟨g, 0, none⟩) n c)).run Tryd.prog w = .ok (.string (bs l)) w := by
  subst hn
  exact run_convert_bytes_back w 32 9 5 ⟨g, 0, none⟩ c l Tryd.underlying32 Tryd.underlying5 Tryd.underlying9 (fun j hj => by
    refine (congrArg _ (Addr.add_lit ..)).trans ?_
    rw [Nat.zero_add, h.cells j hj]
    simp [List.getD, List.getElem?_eq_getElem hj])

theorem dot_is (l : List UInt8) : bs l ++ ⟨#[48, 46]⟩ = bs (l ++ [48, 46]) := by
  apply ByteArray.ext
  simp

/-- Such a conversion, in whatever world of the class. -/
theorem quiet_cv {o : Oper} {a : Act} {w : World} {K : Act → Prop} (x : Operand) (g n c : Nat) (l : List UInt8) (ho : o.op = .convert 32 9 x) (hx : a.eval x = .slice (some ⟨g, 0, none⟩) n c) (hr : Own w g l) (hn : l.length = n)
    (hk : K (a.put o.dst (.string (bs l)))) : o.quiet Tryd.prog a (fun w' => ∃ p : Wd w, w' = p.x) K :=
  ⟨_, fun w' ⟨p, hp⟩ => by
    subst hp
    unfold Oper.quietAt execOp
    simp only [ho, hx, Sem.run_bind, Sem.run_pure, Result.andThen_ok, (hr.next p.h).convert (c := c) hn]
    exact ⟨rfl, rfl⟩, hk⟩

theorem bs_size (l : List UInt8) : (bs l).size = l.length := rfl
theorem bs_data (s : ByteArray) : bs s.data.toList = s := rfl

set_option maxRecDepth 100000 in
set_option maxHeartbeats 1000000 in
theorem texts_long (s : ByteArray) (v : Bool) (ys : List Int) (k c : Int) (hs : 60 < s.size) (w : World) (hg : Gl w) :
    Calls Tryd.prog 4 #[.string s, .agg (adA v ys), .int .i64 k, .int .u8 c] w fun e w' => e = .returned (.bool true) ∧ Below w.heap.size w w' := by
  have HG := Lib.hid ((Grew.self hg).alloc (.cells (adA v ys) 24))
  have h1 : (60 : Int) < s.size := by omega
  clear hg hs
  go_enter Tryd.func4, Tryd.ntmps4
  go_wp2_with fail
  refine (awake_any _ HG.out.gl).mono ?_
  rintro e w2 ⟨rfl, hb⟩
  replace HG := Lib.hid (HG.out.call hb)
  clear hb
  go_wp2
  go_ret
  exact ⟨rfl, HG.out.below⟩

set_option maxRecDepth 100000 in
set_option maxHeartbeats 1000000 in
theorem texts_no (s : ByteArray) (v : Bool) (ys : List Int) (h16 : ys.length = 16) (k c : Int) (hs : ¬ 60 < s.size) (hv : vld v ys = false) (w : World) (hg : Gl w) :
    Calls Tryd.prog 4 #[.string s, .agg (adA v ys), .int .i64 k, .int .u8 c] w fun e w' => e = .returned (.bool true) ∧ Below w.heap.size w w' := by
  have HA := Lib.hid (Ad.new w v h16)
  have HG := Lib.hid ((Grew.self hg).alloc (.cells (adA v ys) 24))
  have h1 : ¬ (60 : Int) < s.size := by omega
  have hr := refValid_any v ys h16
  rw [hv] at hr
  have HR := Lib.hid hr
  clear hg hs h16 hr hv
  go_enter Tryd.func4, Tryd.ntmps4
  go_wp2_with (with_reducible refine ld24w (.tmp 5) w.heap.size v ys rfl rfl rfl HA.out ?_)
  refine (HR.out _).mono ?_
  rintro e w1 ⟨rfl, hb⟩
  replace HG := Lib.hid (HG.out.call hb)
  clear hb
  go_wp2_with fail
  refine (awake_any _ HG.out.gl).mono ?_
  rintro e w2 ⟨rfl, hb⟩
  replace HG := Lib.hid (HG.out.call hb)
  clear hb
  go_wp2
  go_ret
  exact ⟨rfl, HG.out.below⟩

set_option maxRecDepth 100000 in
set_option maxHeartbeats 2000000 in
theorem texts_yes (s : ByteArray) (v : Bool) (ys : List Int) (h16 : ys.length = 16) (ho : Oct ys) (k c : Int) (hc : 0 ≤ c ∧ c ≤ 255) (hs : ¬ 60 < s.size) (hv : vld v ys = true) (w : World) (hg : Gl w) :
    Calls Tryd.prog 4 #[.string s, .agg (adA v ys), .int .i64 k, .int .u8 c] w fun e w' => e = .returned (.bool true) ∧ Below w.heap.size w w' := by
  have hz := zeroA
  have HW := Lib.hid hg
  have HA := Lib.hid (Ad.new w v h16)
  have HG := Lib.hid ((Grew.self hg).alloc (.cells (adA v ys) 24))
  have h1 : ¬ (60 : Int) < s.size := by omega
  have HSZ : Hid (s.size ≤ 1000) := Lib.hid (by omega)
  have H16 := Lib.hid h16
  have HO := Lib.hid ho
  have HC := Lib.hid hc
  have hr := refValid_any v ys h16
  rw [hv] at hr
  have HR := Lib.hid hr
  clear hg hs h16 hr hv ho hc
  go_enter Tryd.func4, Tryd.ntmps4
  go_wp2_with (with_reducible refine ld24w (.tmp 5) w.heap.size v ys rfl rfl rfl HA.out ?_)
  refine (HR.out _).mono ?_
  rintro e w1 ⟨rfl, hb⟩
  replace HG := Lib.hid (HG.out.call hb)
  replace HA := Lib.hid (HA.out.next hb)
  clear hb HR
  go_wp2_with fail
  refine (parse_any s HSZ.out _ HG.out.gl).mono ?_
  intro e w2 hp
  obtain ⟨v1, hv1⟩ : ∃ x, (prs s).1 = x := ⟨_, rfl⟩
  obtain ⟨zs, hzs⟩ : ∃ x, (prs s).2 = x := ⟨_, rfl⟩
  have hO1 := prs_ok s
  unfold PrsPost at hp
  rw [hv1, hzs] at hp
  rw [hzs] at hO1
  have HZ := Lib.hid hO1
  clear hv1 hO1 hzs
  by_cases hE : txt v1 zs = s.data.toList
  · obtain ⟨rfl, hb⟩ : e = .returned (.tuple #[.agg (adA v1 zs), .int .i64 0]) ∧ Below w1.heap.size w1 w2 := ⟨hp.1.trans (if_pos hE), hp.2⟩
    have HBS : Hid (bs (txt v1 zs) = s) := Lib.hid (by rw [hE])
    clear hp hE HSZ
    replace HG := Lib.hid ((HG.out.call hb).alloc (.cells (adA v1 zs) 24))
    replace HA := Lib.hid ((HA.out.next hb).alloc (.cells (adA v1 zs) 24))
    have HX := Lib.hid (Ad.new w2 v1 HZ.out.2)
    clear hb
    go_wp2_with (first | (with_reducible refine st24_new (.tmp 9) (.tmp 28) w2 _ v1 zs rfl rfl rfl rfl rfl rfl rfl HZ.out.2 ?_) | (with_reducible refine ld24w (.tmp 9) w2.heap.size v1 zs rfl rfl rfl HX.out ?_))
    refine (text_any v1 zs HZ.out.2 HZ.out.1 _ HG.out.gl).mono ?_
    rintro e w3 ⟨rfl, hb⟩
    rw [HBS.out]
    replace HG := Lib.hid (HG.out.call hb)
    replace HA := Lib.hid (HA.out.next hb)
    clear hb HX HBS HZ
    go_wp2_with (with_reducible refine ld24 (.tmp 5) w.heap.size v ys rfl rfl rfl HA.out ?_)
    refine (text_any v ys H16.out HO.out _ HG.out.gl).mono ?_
    rintro e w4 ⟨rfl, hb⟩
    replace HG := Lib.hid (HG.out.call hb)
    have hsz : (bs (txt v ys)).size ≤ 39 ∧ 1 ≤ (bs (txt v ys)).size := ⟨(txt_len v ys H16.out HO.out).2, (txt_len v ys H16.out HO.out).1⟩
    obtain ⟨t, ht⟩ : ∃ t, bs (txt v ys) = t := ⟨_, rfl⟩
    rw [ht] at hsz ⊢
    have HT := Lib.hid hsz
    have h0 : ((t.size : Int) == 0) = false := beq_eq_false_iff_ne.2 (by omega)
    have hcv := Lib.run_convert_string_bytes w4 9 32 5 t Tryd.underlying9 Tryd.underlying32 Tryd.underlying5
    obtain ⟨cp, hcp⟩ : ∃ x, grownCap w4 t.size 0 5 = x := ⟨_, rfl⟩
    rw [hcp] at hcv
    have HB0 := HG.out.below.size
    replace HG := Lib.hid (HG.out.bytes t)
    have HR := Lib.hid (Own.new w4 t)
    have HB : Hid (w.heap.size ≤ w4.heap.size) := Lib.hid HB0
    obtain ⟨w5, hw5⟩ : ∃ x, Lib.bytesWorld w4 5 t = x := ⟨_, rfl⟩
    rw [hw5] at hcv HG HR
    clear hb ht hsz hcp hw5 HA HB0
    go_wp2_with fail
    have HU := HT.out
    refine (round_any k t.size (by omega) (by omega) w5).mono ?_
    rintro e w5' ⟨⟨j, hj, rfl⟩, rfl⟩
    have hl : t.data.toList.length = t.size := Array.length_toList
    have c1 := HR.out.cells j (by rw [hl]; exact hj)
    have c2 := HR.out.free j (by rw [hl]; exact hj)
    have hj0 : (j : Int) < t.size := by omega
    obtain ⟨l, hll⟩ : ∃ l, t.data.toList.set j (UInt8.ofNat c.toNat) = l := ⟨_, rfl⟩
    have hlen : l.length = t.size := by rw [← hll, List.length_set, hl]
    have HR2 := HR.out.set j (by rw [hl]; exact hj) c HC.out
    rw [hll] at HR2
    replace HR := Lib.hid HR2
    replace HG := Lib.hid (HG.out.set HW.out w4.heap.size j HB.out (.int .u8 c))
    have hcw := HR2.convert (c := cp) hlen
    have HLEN := Lib.hid hlen
    clear HU hll hlen HR2 hl hcv h0 hj
    go_wp2_with fail
    have HSZ2 : Hid ((bs l).size ≤ 1000) := Lib.hid (by rw [bs_size, HLEN.out]; have := HT.out; omega)
    refine (parse_any (bs l) HSZ2.out _ HG.out.gl).mono ?_
    intro e w7 hp
    replace HR := Lib.hid (HR.out.next hp.2)
    replace HG := Lib.hid (HG.out.call hp.2)
    obtain ⟨v2, hv2⟩ : ∃ x, (prs (bs l)).1 = x := ⟨_, rfl⟩
    obtain ⟨us, hus⟩ : ∃ x, (prs (bs l)).2 = x := ⟨_, rfl⟩
    have hO1 := prs_ok (bs l)
    unfold PrsPost at hp
    rw [hv2, hus] at hp
    rw [hus] at hO1
    have HZ2 := Lib.hid hO1
    clear hv2 hO1 hus hcw c1 c2 hj0
    have hbig : ¬ 9223372036854775807 < l.length + 2 := by rw [HLEN.out]; have := HT.out; omega
    have HD : Hid (bs l ++ ⟨#[48, 46]⟩ = bs (l ++ [48, 46])) := Lib.hid (dot_is l)
    have HSZ3 : Hid ((bs (l ++ [48, 46])).size ≤ 1000) := Lib.hid (by rw [bs_size, List.length_append, HLEN.out]; have := HT.out; simp only [List.length_cons, List.length_nil]; omega)
    by_cases hE2 : txt v2 us = l
    · obtain rfl : e = .returned (.tuple #[.agg (adA v2 us), .int .i64 0]) := hp.1.trans (if_pos hE2)
      have HBS2 : Hid (∀ x, Gl x → Calls Tryd.prog 9 #[.agg (adA v2 us)] x fun e w' => e = .returned (.string (bs l)) ∧ Below x.heap.size x w') := Lib.hid (hE2 ▸ text_any v2 us HZ2.out.2 HZ2.out.1)
      clear hp hE2 HSZ2
      replace HG := Lib.hid (HG.out.alloc (.cells (adA v2 us) 24))
      replace HR := Lib.hid (HR.out.alloc (.cells (adA v2 us) 24))
      have hcw := HR.out.convert (c := cp) HLEN.out
      have HY := Lib.hid (Ad.new w7 v2 HZ2.out.2)
      go_wp2_with (with_reducible refine st24_new (.tmp 12) (.tmp 68) w7 _ v2 us rfl rfl rfl rfl rfl rfl rfl HZ2.out.2 ?_)
      rw [HD.out]
      refine (parse_any (bs (l ++ [48, 46])) HSZ3.out _ HG.out.gl).mono ?_
      intro e w8 hp
      obtain rfl : e = .returned (.tuple #[.agg (adA false z16), .int .i64 2]) := hp.1.trans (prs_dot l)
      replace HG := Lib.hid ((HG.out.call hp.2).alloc (.cells (adA false z16) 24))
      replace HR := Lib.hid ((HR.out.next hp.2).alloc (.cells (adA false z16) 24))
      replace HY := Lib.hid ((HY.out.next hp.2).alloc (.cells (adA false z16) 24))
      clear hp hcw hbig HD HSZ3
      go_wp2_with (with_reducible refine st24_new (.tmp 14) (.tmp 75) w8 _ false z16 rfl rfl rfl rfl rfl rfl rfl rfl ?_)
      refine wp_region_wd (by kernel_rfl) (by kernel_rfl) ?_
      repeat (first | go_big_quiet_skip | (go_big_quiet_want; first | ((with_reducible refine quiet_ld24 (.tmp 12) w7.heap.size v2 us rfl rfl HY.out ?_); go_big_quiet_on; simp only [Act.put, List.setIfInBounds_toArray, List.set_cons_succ, List.set_cons_zero]) | ((with_reducible refine quiet_cv (.tmp 82) w4.heap.size t.size cp l rfl rfl HR.out HLEN.out ?_); go_big_quiet_on; simp only [Act.put, List.setIfInBounds_toArray, List.set_cons_succ, List.set_cons_zero]) | (go_big_quiet_op; first | go_big_quiet_on | go_big_quiet_call ((first | (go_at_call 9; exact Calls.wd (HBS2.out _ (HG.out.gl.next (Wd.h _)))) | (go_at_call 7; exact Calls.wd (awake_any _ (HG.out.gl.next (Wd.h _)))))))))
      refine wpQuiet_nil ?_
      intro _ hw'
      obtain ⟨⟨w9, hb⟩, rfl⟩ := hw'
      replace HG := Lib.hid (HG.out.call hb)
      clear hb
      go_wp2
      go_ret
      exact ⟨rfl, HG.out.below⟩
    · obtain rfl : e = .returned (.tuple #[.agg (adA false z16), .int .i64 2]) := hp.1.trans (if_neg hE2)
      clear hp hE2 HSZ2 HZ2
      replace HG := Lib.hid (HG.out.alloc (.cells (adA false z16) 24))
      replace HR := Lib.hid (HR.out.alloc (.cells (adA false z16) 24))
      have hcw := HR.out.convert (c := cp) HLEN.out
      go_wp2_with (with_reducible refine st24_new (.tmp 12) (.tmp 68) w7 _ false z16 rfl rfl rfl rfl rfl rfl rfl rfl ?_)
      rw [HD.out]
      refine (parse_any (bs (l ++ [48, 46])) HSZ3.out _ HG.out.gl).mono ?_
      intro e w8 hp
      obtain rfl : e = .returned (.tuple #[.agg (adA false z16), .int .i64 2]) := hp.1.trans (prs_dot l)
      replace HG := Lib.hid ((HG.out.call hp.2).alloc (.cells (adA false z16) 24))
      replace HR := Lib.hid ((HR.out.next hp.2).alloc (.cells (adA false z16) 24))
      clear hp hcw hbig HD HSZ3
      go_wp2_with (with_reducible refine st24_new (.tmp 14) (.tmp 75) w8 _ false z16 rfl rfl rfl rfl rfl rfl rfl rfl ?_)
      refine wp_region_wd (by kernel_rfl) (by kernel_rfl) ?_
      repeat (first | go_big_quiet_skip | (go_big_quiet_want; go_big_quiet_op; first | go_big_quiet_on | go_big_quiet_call ((go_at_call 7; exact Calls.wd (awake_any _ (HG.out.gl.next (Wd.h _)))))))
      refine wpQuiet_nil ?_
      intro _ hw'
      obtain ⟨⟨w9, hb⟩, rfl⟩ := hw'
      replace HG := Lib.hid (HG.out.call hb)
      clear hb
      go_wp2
      go_ret
      exact ⟨rfl, HG.out.below⟩
  · obtain ⟨rfl, hb⟩ : e = .returned (.tuple #[.agg (adA false z16), .int .i64 2]) ∧ Below w1.heap.size w1 w2 := ⟨hp.1.trans (if_neg hE), hp.2⟩
    clear hp hE HSZ HZ
    replace HG := Lib.hid ((HG.out.call hb).alloc (.cells (adA false z16) 24))
    replace HA := Lib.hid ((HA.out.next hb).alloc (.cells (adA false z16) 24))
    have HX := Lib.hid (Ad.new w2 false (ys := z16) rfl)
    have hs := same24 false z16 rfl
    have b24 := build24_zero
    clear hb
    go_wp2_with (first | (with_reducible refine st24_new (.tmp 9) (.tmp 28) w2 _ false z16 rfl rfl rfl rfl rfl rfl rfl rfl ?_) | (with_reducible refine ld24w (.tmp 9) w2.heap.size false z16 rfl rfl rfl HX.out ?_) | (with_reducible refine ld24 (.tmp 5) w.heap.size v ys rfl rfl rfl HA.out ?_))
    clear hs b24 HX
    refine (text_any v ys H16.out HO.out _ HG.out.gl).mono ?_
    rintro e w4 ⟨rfl, hb⟩
    replace HG := Lib.hid (HG.out.call hb)
    have hsz : (bs (txt v ys)).size ≤ 39 ∧ 1 ≤ (bs (txt v ys)).size := ⟨(txt_len v ys H16.out HO.out).2, (txt_len v ys H16.out HO.out).1⟩
    obtain ⟨t, ht⟩ : ∃ t, bs (txt v ys) = t := ⟨_, rfl⟩
    rw [ht] at hsz ⊢
    have HT := Lib.hid hsz
    have h0 : ((t.size : Int) == 0) = false := beq_eq_false_iff_ne.2 (by omega)
    have hcv := Lib.run_convert_string_bytes w4 9 32 5 t Tryd.underlying9 Tryd.underlying32 Tryd.underlying5
    obtain ⟨cp, hcp⟩ : ∃ x, grownCap w4 t.size 0 5 = x := ⟨_, rfl⟩
    rw [hcp] at hcv
    have HB0 := HG.out.below.size
    replace HG := Lib.hid (HG.out.bytes t)
    have HR := Lib.hid (Own.new w4 t)
    have HB : Hid (w.heap.size ≤ w4.heap.size) := Lib.hid HB0
    obtain ⟨w5, hw5⟩ : ∃ x, Lib.bytesWorld w4 5 t = x := ⟨_, rfl⟩
    rw [hw5] at hcv HG HR
    clear hb ht hsz hcp hw5 HA HB0
    go_wp2_with fail
    have HU := HT.out
    refine (round_any k t.size (by omega) (by omega) w5).mono ?_
    rintro e w5' ⟨⟨j, hj, rfl⟩, rfl⟩
    have hl : t.data.toList.length = t.size := Array.length_toList
    have c1 := HR.out.cells j (by rw [hl]; exact hj)
    have c2 := HR.out.free j (by rw [hl]; exact hj)
    have hj0 : (j : Int) < t.size := by omega
    obtain ⟨l, hll⟩ : ∃ l, t.data.toList.set j (UInt8.ofNat c.toNat) = l := ⟨_, rfl⟩
    have hlen : l.length = t.size := by rw [← hll, List.length_set, hl]
    have HR2 := HR.out.set j (by rw [hl]; exact hj) c HC.out
    rw [hll] at HR2
    replace HR := Lib.hid HR2
    replace HG := Lib.hid (HG.out.set HW.out w4.heap.size j HB.out (.int .u8 c))
    have hcw := HR2.convert (c := cp) hlen
    have HLEN := Lib.hid hlen
    clear HU hll hlen HR2 hl hcv h0 hj
    go_wp2_with fail
    have HSZ2 : Hid ((bs l).size ≤ 1000) := Lib.hid (by rw [bs_size, HLEN.out]; have := HT.out; omega)
    refine (parse_any (bs l) HSZ2.out _ HG.out.gl).mono ?_
    intro e w7 hp
    replace HR := Lib.hid (HR.out.next hp.2)
    replace HG := Lib.hid (HG.out.call hp.2)
    obtain ⟨v2, hv2⟩ : ∃ x, (prs (bs l)).1 = x := ⟨_, rfl⟩
    obtain ⟨us, hus⟩ : ∃ x, (prs (bs l)).2 = x := ⟨_, rfl⟩
    have hO1 := prs_ok (bs l)
    unfold PrsPost at hp
    rw [hv2, hus] at hp
    rw [hus] at hO1
    have HZ2 := Lib.hid hO1
    clear hv2 hO1 hus hcw c1 c2 hj0
    have hbig : ¬ 9223372036854775807 < l.length + 2 := by rw [HLEN.out]; have := HT.out; omega
    have HD : Hid (bs l ++ ⟨#[48, 46]⟩ = bs (l ++ [48, 46])) := Lib.hid (dot_is l)
    have HSZ3 : Hid ((bs (l ++ [48, 46])).size ≤ 1000) := Lib.hid (by rw [bs_size, List.length_append, HLEN.out]; have := HT.out; simp only [List.length_cons, List.length_nil]; omega)
    by_cases hE2 : txt v2 us = l
    · obtain rfl : e = .returned (.tuple #[.agg (adA v2 us), .int .i64 0]) := hp.1.trans (if_pos hE2)
      have HBS2 : Hid (∀ x, Gl x → Calls Tryd.prog 9 #[.agg (adA v2 us)] x fun e w' => e = .returned (.string (bs l)) ∧ Below x.heap.size x w') := Lib.hid (hE2 ▸ text_any v2 us HZ2.out.2 HZ2.out.1)
      clear hp hE2 HSZ2
      replace HG := Lib.hid (HG.out.alloc (.cells (adA v2 us) 24))
      replace HR := Lib.hid (HR.out.alloc (.cells (adA v2 us) 24))
      have hcw := HR.out.convert (c := cp) HLEN.out
      have HY := Lib.hid (Ad.new w7 v2 HZ2.out.2)
      go_wp2_with (with_reducible refine st24_new (.tmp 12) (.tmp 68) w7 _ v2 us rfl rfl rfl rfl rfl rfl rfl HZ2.out.2 ?_)
      rw [HD.out]
      refine (parse_any (bs (l ++ [48, 46])) HSZ3.out _ HG.out.gl).mono ?_
      intro e w8 hp
      obtain rfl : e = .returned (.tuple #[.agg (adA false z16), .int .i64 2]) := hp.1.trans (prs_dot l)
      replace HG := Lib.hid ((HG.out.call hp.2).alloc (.cells (adA false z16) 24))
      replace HR := Lib.hid ((HR.out.next hp.2).alloc (.cells (adA false z16) 24))
      replace HY := Lib.hid ((HY.out.next hp.2).alloc (.cells (adA false z16) 24))
      clear hp hcw hbig HD HSZ3
      go_wp2_with (with_reducible refine st24_new (.tmp 14) (.tmp 75) w8 _ false z16 rfl rfl rfl rfl rfl rfl rfl rfl ?_)
      refine wp_region_wd (by kernel_rfl) (by kernel_rfl) ?_
      repeat (first | go_big_quiet_skip | (go_big_quiet_want; first | ((with_reducible refine quiet_ld24 (.tmp 12) w7.heap.size v2 us rfl rfl HY.out ?_); go_big_quiet_on; simp only [Act.put, List.setIfInBounds_toArray, List.set_cons_succ, List.set_cons_zero]) | ((with_reducible refine quiet_cv (.tmp 82) w4.heap.size t.size cp l rfl rfl HR.out HLEN.out ?_); go_big_quiet_on; simp only [Act.put, List.setIfInBounds_toArray, List.set_cons_succ, List.set_cons_zero]) | (go_big_quiet_op; first | go_big_quiet_on | go_big_quiet_call ((first | (go_at_call 9; exact Calls.wd (HBS2.out _ (HG.out.gl.next (Wd.h _)))) | (go_at_call 7; exact Calls.wd (awake_any _ (HG.out.gl.next (Wd.h _)))))))))
      refine wpQuiet_nil ?_
      intro _ hw'
      obtain ⟨⟨w9, hb⟩, rfl⟩ := hw'
      replace HG := Lib.hid (HG.out.call hb)
      clear hb
      go_wp2
      go_ret
      exact ⟨rfl, HG.out.below⟩
    · obtain rfl : e = .returned (.tuple #[.agg (adA false z16), .int .i64 2]) := hp.1.trans (if_neg hE2)
      clear hp hE2 HSZ2 HZ2
      replace HG := Lib.hid (HG.out.alloc (.cells (adA false z16) 24))
      replace HR := Lib.hid (HR.out.alloc (.cells (adA false z16) 24))
      have hcw := HR.out.convert (c := cp) HLEN.out
      go_wp2_with (with_reducible refine st24_new (.tmp 12) (.tmp 68) w7 _ false z16 rfl rfl rfl rfl rfl rfl rfl rfl ?_)
      rw [HD.out]
      refine (parse_any (bs (l ++ [48, 46])) HSZ3.out _ HG.out.gl).mono ?_
      intro e w8 hp
      obtain rfl : e = .returned (.tuple #[.agg (adA false z16), .int .i64 2]) := hp.1.trans (prs_dot l)
      replace HG := Lib.hid ((HG.out.call hp.2).alloc (.cells (adA false z16) 24))
      replace HR := Lib.hid ((HR.out.next hp.2).alloc (.cells (adA false z16) 24))
      clear hp hcw hbig HD HSZ3
      go_wp2_with (with_reducible refine st24_new (.tmp 14) (.tmp 75) w8 _ false z16 rfl rfl rfl rfl rfl rfl rfl rfl ?_)
      refine wp_region_wd (by kernel_rfl) (by kernel_rfl) ?_
      repeat (first | go_big_quiet_skip | (go_big_quiet_want; go_big_quiet_op; first | go_big_quiet_on | go_big_quiet_call ((go_at_call 7; exact Calls.wd (awake_any _ (HG.out.gl.next (Wd.h _)))))))
      refine wpQuiet_nil ?_
      intro _ hw'
      obtain ⟨⟨w9, hb⟩, rfl⟩ := hw'
      replace HG := Lib.hid (HG.out.call hb)
      clear hb
      go_wp2
      go_ret
      exact ⟨rfl, HG.out.below⟩

theorem texts_any (s : ByteArray) (v : Bool) (ys : List Int) (h16 : ys.length = 16) (ho : Oct ys) (k c : Int) (hc : 0 ≤ c ∧ c ≤ 255) (w : World) (hg : Gl w) :
    Calls Tryd.prog 4 #[.string s, .agg (adA v ys), .int .i64 k, .int .u8 c] w fun e w' => e = .returned (.bool true) ∧ Below w.heap.size w w' := by
  by_cases hs : 60 < s.size
  · exact texts_long s v ys k c hs w hg
  · cases hv : vld v ys
    · exact texts_no s v ys h16 k c hs hv w hg
    · exact texts_yes s v ys h16 ho k c hc hs hv w hg

end Go.Proofs.YtahoggkjbfhadaaDoor
