/- The walk of AddrBack: whatever the address, what was written is read as it was. -/
import Derived.Test.YtahoggkjbfhadaaDoorReg
namespace Go.Proofs.YtahoggkjbfhadaaDoor
open Go.RowKit

theorem dec_size (y : Int) (h : 0 ≤ y ∧ y ≤ 255) : 1 ≤ (dec y).length ∧ (dec y).length ≤ 3 := by
  obtain ⟨n, rfl, _⟩ := dec_is y h
  have := dec_len n.val n.isLt
  exact ⟨this.2, this.1⟩

theorem txt_len (v : Bool) (ys : List Int) (h16 : ys.length = 16) (ho : Oct ys) : 1 ≤ (txt v ys).length ∧ (txt v ys).length ≤ 39 := by
  match ys, h16 with
  | [a0, a1, a2, a3, a4, a5, a6, a7, a8, a9, a10, a11, a12, a13, a14, a15], _ =>
    cases v
    · have h0 := dec_size a0 (ho a0 (by simp))
      have h1 := dec_size a1 (ho a1 (by simp))
      have h2 := dec_size a2 (ho a2 (by simp))
      have h3 := dec_size a3 (ho a3 (by simp))
      have e : txt false [a0, a1, a2, a3, a4, a5, a6, a7, a8, a9, a10, a11, a12, a13, a14, a15] = Lib.join [dec a0, dec a1, dec a2, dec a3] [46] := rfl
      rw [e, join4]
      simp only [List.length_append, List.length_singleton]
      omega
    · have e : txt true [a0, a1, a2, a3, a4, a5, a6, a7, a8, a9, a10, a11, a12, a13, a14, a15] = Lib.join [grp a0 a1, grp a2 a3, grp a4 a5, grp a6 a7, grp a8 a9, grp a10 a11, grp a12 a13, grp a14 a15] [58] := rfl
      rw [e, join8]
      simp only [List.length_append, List.length_singleton, grp_len]
      omega

theorem refValid_any (v : Bool) (ys : List Int) (hy : ys.length = 16) (w : World) :
    Calls Tryd.prog 6 #[.agg (adA v ys)] w fun e w' => e = .returned (.bool (vld v ys)) ∧ Below w.heap.size w w' := by
  cases v
  · exact refValid_four ys hy w
  · exact refValid_six ys hy w

/-- What is read from the text of an address that may be. -/
theorem PrsPost.txt {v : Bool} {ys : List Int} (h16 : ys.length = 16) (ho : Oct ys) (hv : vld v ys = true) {w w' : World} {e : Ending} (h : PrsPost (bs (txt v ys)) w e w') :
    e = .returned (.tuple #[.agg (adA v ys), .int .i64 0]) ∧ Below w.heap.size w w' := by
  refine ⟨h.1.trans ?_, h.2⟩
  rw [prs_txt v ys h16 ho hv]
  exact if_pos rfl

/-- An address's bytes: four of them, or all. -/
def some4 (v : Bool) (ys : List Int) : List Int := if v then ys else ys.take 4

theorem bytes_any (v : Bool) (ys : List Int) (h16 : ys.length = 16) (w : World) :
    Calls Tryd.prog 11 #[.agg (adA v ys)] w fun e w' => (∃ u, e = .returned u ∧ RowB w' w.heap.size u (some4 v ys)) ∧ Below w.heap.size w w' := by
  cases v
  · have := bytes_four (ys.take 4) (ys.drop 4) (by rw [List.take_append_drop]; exact h16) (by rw [List.length_take]; omega) w
    rw [List.take_append_drop] at this
    exact this
  · exact bytes_six ys h16 w

theorem four_rest (ys : List Int) (h16 : ys.length = 16) (hv : vld false ys = true) : ys.take 4 ++ z16.drop 4 = ys := by
  match ys, h16 with
  | [a, b, c, d, y4, y5, y6, y7, y8, y9, y10, y11, y12, y13, y14, y15], _ =>
    simp only [vld, Bool.false_or, List.drop_succ_cons, List.drop_zero, List.all_cons, List.all_nil, Bool.and_true, Bool.and_eq_true, beq_iff_eq] at hv
    obtain ⟨e4, e5, e6, e7, e8, e9, e10, e11, e12, e13, e14, e15⟩ := hv
    subst e4 e5 e6 e7 e8 e9 e10 e11 e12 e13 e14 e15
    rfl

/-- From an address's bytes the address. -/
theorem from_any (v : Bool) (ys : List Int) (h16 : ys.length = 16) (hv : vld v ys = true) (w : World) (base : Nat) (u : Value) (hr : RowB w base u (some4 v ys)) :
    Calls Tryd.prog 10 #[u] w fun e w' => e = .returned (.tuple #[.agg (adA v ys), .int .i64 0]) ∧ Below w.heap.size w w' := by
  obtain ⟨g, cap, rfl, _, hc⟩ := hr
  have hc' : ∀ j u, ((some4 v ys).map (Value.int .u8))[j]? = some u → w.cell? ⟨g, 0 + j, none⟩ = some u := fun j u hj => by rw [Nat.zero_add]; exact hc j u hj
  cases v
  · have hl : (some4 false ys).length = 4 := by show (ys.take 4).length = 4; rw [List.length_take]; omega
    have := from_four g 0 cap (some4 false ys) hl w hc'
    rw [show some4 false ys ++ z16.drop 4 = ys from four_rest ys h16 hv] at this
    rw [hl]
    exact this
  · have hl : (some4 true ys).length = 16 := h16
    rw [hl]
    exact from_six g 0 cap ys h16 w hc'

set_option maxRecDepth 100000 in
set_option maxHeartbeats 1000000 in
theorem back_no (v : Bool) (ys : List Int) (h16 : ys.length = 16) (hv : vld v ys = false) (w : World) (hg : Gl w) :
    Calls Tryd.prog 3 #[.agg (adA v ys)] w fun e w' => e = .returned (.bool true) ∧ Below w.heap.size w w' := by
  have HA := Lib.hid (Ad.new w v h16)
  have HG := Lib.hid ((Grew.self hg).alloc (.cells (adA v ys) 24))
  have H16 := Lib.hid h16
  have hr := refValid_any v ys h16
  rw [hv] at hr
  have HR := Lib.hid hr
  clear hg hr h16 hv
  go_enter Tryd.func3, Tryd.ntmps3
  go_wp2_with (with_reducible refine ld24 (.tmp 1) w.heap.size v ys rfl rfl rfl HA.out ?_)
  refine (HR.out _).mono ?_
  rintro e w1 ⟨rfl, hb⟩
  replace HG := Lib.hid (HG.out.call hb)
  clear hb
  go_wp2_with fail
  refine (awake_any _ HG.out.gl).mono ?_
  rintro e w2 ⟨rfl, hb⟩
  replace HG := Lib.hid (HG.out.call hb)
  clear hb
  go_wp2
  go_ret
  exact ⟨rfl, HG.out.below⟩

set_option maxRecDepth 100000 in
set_option maxHeartbeats 2000000 in
theorem back_yes (v : Bool) (ys : List Int) (h16 : ys.length = 16) (ho : Oct ys) (hv : vld v ys = true) (w : World) (hg : Gl w) :
    Calls Tryd.prog 3 #[.agg (adA v ys)] w fun e w' => e = .returned (.bool true) ∧ Below w.heap.size w w' := by
  have hz := zeroA
  have HA := Lib.hid (Ad.new w v h16)
  have HG := Lib.hid ((Grew.self hg).alloc (.cells (adA v ys) 24))
  have H16 := Lib.hid h16
  have HO := Lib.hid ho
  have HV := Lib.hid hv
  have hr := refValid_any v ys h16
  rw [hv] at hr
  have HR := Lib.hid hr
  clear hg hr h16 hv ho
  go_enter Tryd.func3, Tryd.ntmps3
  go_wp2_with (with_reducible refine ld24 (.tmp 1) w.heap.size v ys rfl rfl rfl HA.out ?_)
  refine (HR.out _).mono ?_
  rintro e w1 ⟨rfl, hb⟩
  replace HG := Lib.hid (HG.out.call hb)
  replace HA := Lib.hid (HA.out.next hb)
  clear hb HR
  go_wp2_with (with_reducible refine ld24 (.tmp 1) w.heap.size v ys rfl rfl rfl HA.out ?_)
  refine (text_any v ys H16.out HO.out _ HG.out.gl).mono ?_
  rintro e w2 ⟨rfl, hb⟩
  replace HG := Lib.hid (HG.out.call hb)
  replace HA := Lib.hid (HA.out.next hb)
  clear hb
  obtain ⟨s, hs⟩ : ∃ s, bs (txt v ys) = s := ⟨_, rfl⟩
  rw [hs]
  have HT := Lib.hid hs
  have HL : Hid (s.size ≤ 1000) := Lib.hid (by rw [← hs]; show (txt v ys).toArray.size ≤ 1000; rw [List.size_toArray]; have := txt_len v ys H16.out HO.out; omega)
  clear hs
  go_wp2_with fail
  refine (parse_any s HL.out _ HG.out.gl).mono ?_
  intro e w3 hp
  rw [← HT.out] at hp
  obtain ⟨rfl, hb⟩ := hp.txt H16.out HO.out HV.out
  clear hp HT HL
  replace HG := Lib.hid ((HG.out.call hb).alloc (.cells (adA v ys) 24))
  replace HA := Lib.hid ((HA.out.next hb).alloc (.cells (adA v ys) 24))
  have HX := Lib.hid (Ad.new w3 v H16.out)
  clear hb
  go_wp2_with (first | (with_reducible refine st24_new (.tmp 3) (.tmp 15) w3 _ v ys rfl rfl rfl rfl rfl rfl rfl H16.out ?_) | (with_reducible refine ld24 (.tmp 1) w.heap.size v ys rfl rfl rfl HA.out ?_))
  refine (bytes_any v ys H16.out _).mono ?_
  rintro e w4 ⟨⟨u, rfl, hr⟩, hb⟩
  have HR := Lib.hid hr
  replace HG := Lib.hid (HG.out.call hb)
  replace HA := Lib.hid (HA.out.next hb)
  replace HX := Lib.hid (HX.out.next hb)
  clear hb hr
  go_wp2_with fail
  refine (from_any v ys H16.out HV.out _ _ u HR.out).mono ?_
  rintro e w5 ⟨rfl, hb⟩
  replace HG := Lib.hid ((HG.out.call hb).alloc (.cells (adA v ys) 24))
  replace HA := Lib.hid ((HA.out.next hb).alloc (.cells (adA v ys) 24))
  replace HX := Lib.hid ((HX.out.next hb).alloc (.cells (adA v ys) 24))
  have HY := Lib.hid (Ad.new w5 v H16.out)
  have hsame := same24 v ys H16.out
  clear hb HR
  go_wp2_with (first | (with_reducible refine st24_new (.tmp 5) (.tmp 21) w5 _ v ys rfl rfl rfl rfl rfl rfl rfl H16.out ?_) | (with_reducible refine ld24w (.tmp 1) w.heap.size v ys rfl rfl rfl HA.out ?_) | (with_reducible refine ld24w (.tmp 3) w3.heap.size v ys rfl rfl rfl HX.out ?_) | (with_reducible refine ld24w (.tmp 5) w5.heap.size v ys rfl rfl rfl HY.out ?_))
  refine (awake_any _ HG.out.gl).mono ?_
  rintro e w6 ⟨rfl, hb⟩
  replace HG := Lib.hid (HG.out.call hb)
  clear hb hsame
  go_wp2
  go_ret
  exact ⟨rfl, HG.out.below⟩

theorem back_any (v : Bool) (ys : List Int) (h16 : ys.length = 16) (ho : Oct ys) (w : World) (hg : Gl w) :
    Calls Tryd.prog 3 #[.agg (adA v ys)] w fun e w' => e = .returned (.bool true) ∧ Below w.heap.size w w' := by
  cases hv : vld v ys
  · exact back_no v ys h16 hv w hg
  · exact back_yes v ys h16 ho hv w hg

theorem ints_of : ∀ l : List Value, (∀ r ∈ l, ∃ n : Int, r = .int .u8 n ∧ 0 ≤ n ∧ n ≤ 255) → ∃ ys : List Int, l = ys.map (Value.int .u8) ∧ Oct ys
  | [], _ => ⟨[], rfl, fun _ h => by cases h⟩
  | r :: l, h => by
    obtain ⟨n, rfl, h0, h1⟩ := h r (by simp)
    obtain ⟨ys, rfl, ho⟩ := ints_of l fun x hx => h x (by simp [hx])
    refine ⟨n :: ys, rfl, fun y hy => ?_⟩
    rcases List.mem_cons.1 hy with rfl | hy
    · exact ⟨h0, h1⟩
    · exact ho y hy

set_option maxRecDepth 100000 in
/-- An address that came in. -/
theorem addr_of {W : World} {base : Nat} {v0 : Value} (h : Value.okWide Tryd.prog W .any base 24 v0) : ∃ v ys, v0 = .agg (adA v ys) ∧ ys.length = 16 ∧ Oct ys := by
  obtain ⟨cs, rfl, hsz, ts, hts, _, hall⟩ : ∃ cs, v0 = .agg cs ∧ cs.size = Tryd.prog.cellsOf 24 ∧ Row.okWide Tryd.prog W .any base 24 cs := by
    unfold Value.okWide at h
    rw [Tryd.underlying24] at h
    exact h
  have h17 : Tryd.prog.cellsOf 24 = 17 := by kernel_rfl
  have hct : Tryd.prog.cellTypes Tryd.prog.depth 24 = some [4, 5, 5, 5, 5, 5, 5, 5, 5, 5, 5, 5, 5, 5, 5, 5, 5] := by kernel_rfl
  rw [h17] at hsz
  obtain rfl := Option.some.inj (hct.symm.trans hts)
  obtain ⟨l⟩ := cs
  match l, hsz with
  | x :: rest, hsz =>
    have hr : rest.length = 16 := by simpa using hsz
    obtain ⟨u, hu, hx⟩ := hall 0 x rfl
    obtain rfl : u = 4 := by simpa using hu.symm
    obtain ⟨v, rfl⟩ : ∃ v, x = .bool v := by
      simp only [Cell.okWide, Cell.ok, Tryd.underlying4] at hx
      cases x <;> simp_all
    obtain ⟨ys, rfl, ho⟩ := ints_of rest fun r hm => by
      obtain ⟨i, hi⟩ := List.mem_iff_getElem?.1 hm
      have hi16 : i < 16 := by
        have := (List.getElem?_eq_some_iff.1 hi).1
        omega
      obtain ⟨u, hu, hok⟩ := hall (i + 1) r (by simpa using hi)
      obtain rfl : u = 5 := by
        have h5 : ∀ i : Fin 16, ([4, 5, 5, 5, 5, 5, 5, 5, 5, 5, 5, 5, 5, 5, 5, 5, 5] : List TypeId)[(i.val + 1) % 17]? = some 5 := by decide
        exact Option.some.inj (hu.symm.trans (h5 ⟨i, hi16⟩))
      simp only [Cell.okWide, Cell.ok, Tryd.underlying5] at hok
      cases r with
      | int k n =>
        obtain ⟨rfl, hk⟩ : k = .u8 ∧ IntKind.u8.has n := hok
        have h0 : (0 : Int) ≤ n ∧ n ≤ 255 := hk
        exact ⟨n, rfl, h0⟩
      | _ => simp at hok
    exact ⟨v, ys, rfl, by simpa using hr, ho⟩

end Go.Proofs.YtahoggkjbfhadaaDoor
