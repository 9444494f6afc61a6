/- The walk of the law's awake: what the document fixes holds. -/
import Derived.Test.YtahoggkjbfhadaaDoorPlain
namespace Go.Proofs.YtahoggkjbfhadaaDoor
open Go.RowKit

/-- A world that has grown out of another, the tables as they were. -/
structure Grew (w x : World) : Prop where
  gl : Gl x
  below : Below w.heap.size w x
theorem Grew.call {w x y : World} (h : Grew w x) (hb : Below x.heap.size x y) : Grew w y :=
  ⟨h.gl.next hb, h.below.trans (hb.mono h.below.size)⟩
theorem Grew.alloc {w x : World} (h : Grew w x) (o : Obj) : Grew w (x.alloc o) := h.call ((Below.refl _ x).alloc (Nat.le_refl _) o)
theorem Grew.self {w : World} (h : Gl w) : Grew w w := ⟨h, Below.refl _ w⟩

theorem four_cells (w0 : World) (g : Nat) (hg : g = w0.heap.size) (a b c d : Int) (j : Nat) (u : Value) (hj : ([a, b, c, d].map (Value.int .u8))[j]? = some u) :
    (w0.alloc (.cells #[.int .u8 a, .int .u8 b, .int .u8 c, .int .u8 d] 5)).cell? ⟨g, 0 + j, none⟩ = some u := by
  rw [World.cell?, hg, heap_alloc_new, Nat.zero_add]
  exact (by simpa using hj : (#[.int .u8 a, .int .u8 b, .int .u8 c, .int .u8 d] : Array Value)[j]? = some u)

theorem PrsPost.litB {w w' : World} {e : Ending} (h : PrsPost litB w e w') : e = .returned (.tuple #[.agg (adA true doc6), .int .i64 0]) ∧ Below w.heap.size w w' := by
  refine ⟨h.1.trans ?_, h.2⟩
  rw [prs_litB]
  exact if_pos txt_doc6
theorem PrsPost.litC {w w' : World} {e : Ending} (h : PrsPost litC w e w') : e = .returned (.tuple #[.agg (adA false z16), .int .i64 2]) ∧ Below w.heap.size w w' := by
  refine ⟨h.1.trans ?_, h.2⟩
  rw [prs_litC]
  exact if_neg txt_litC
theorem PrsPost.litD {w w' : World} {e : Ending} (h : PrsPost litD w e w') : e = .returned (.tuple #[.agg (adA false z16), .int .i64 2]) ∧ Below w.heap.size w w' := by
  refine ⟨h.1.trans ?_, h.2⟩
  rw [prs_litD]
  exact if_neg txt_litD
theorem bs_ten : bs (txt false ten) = litA := by decide +kernel
theorem oct_ten : Oct ten := by
  intro y hy
  simp only [ten, List.mem_cons, List.not_mem_nil, or_false] at hy
  omega

section
variable {ops : Array Oper} {rest : List Oper} {o : Oper} {a : Act} {w : World} {Q : Exit → Act → World → Prop}
/-- A whole address is loaded, where the guard says yes. -/
theorem ld24w (x : Operand) (g : Nat) (v : Bool) (ys : List Int) (hw : Region.wanted o (yielded ops a.tmps) = true) (ho : o.op = .load 24 x) (hx : a.eval x = .pointer (some ⟨g, 0, none⟩)) (hg : Ad w g v ys)
    (h : wpList Tryd.prog ops Q rest (a.put o.dst (.agg (adA v ys))) w) : wpList Tryd.prog ops Q (o :: rest) a w :=
  BigFrame.wpList_want hw fun _ hK => wp_load_row 24 x ho g hx 24 _ _ _ hg.2 Tryd.underlying24 rfl (by rw [info24, size_adA, hg.1]) (hK _ _ h)
end

set_option maxRecDepth 100000 in
set_option maxHeartbeats 4000000 in
theorem awake_any (w : World) (hg : Gl w) : Calls Tryd.prog 7 #[] w fun e w' => e = .returned (.bool true) ∧ Below w.heap.size w w' := by
  have hz := zeroA
  have HG := Lib.hid (Grew.self hg)
  clear hg
  go_enter Tryd.func7, Tryd.ntmps7
  go_wp2_with fail
  refine (v4_any 10 0 0 1 w).mono ?_
  rintro e w1 ⟨rfl, hb⟩
  rw [show adA false [10, 0, 0, 1, 0, 0, 0, 0, 0, 0, 0, 0, 0, 0, 0, 0] = adA false ten from rfl]
  replace HG := Lib.hid ((HG.out.call hb).alloc (.cells (adA false ten) 24))
  have HA := Lib.hid (Ad.new w1 false (ys := ten) rfl)
  clear hb
  go_wp2_with (with_reducible refine st24_new (.tmp 1) (.tmp 12) w1 _ false ten rfl rfl rfl rfl rfl rfl rfl rfl ?_)
  replace HG := Lib.hid (HG.out.alloc (.cells #[.int .u8 10, .int .u8 0, .int .u8 0, .int .u8 1] 5))
  replace HA := Lib.hid (HA.out.alloc (.cells #[.int .u8 10, .int .u8 0, .int .u8 0, .int .u8 1] 5))
  refine (from_four (w1.heap.size + 1) 0 4 [10, 0, 0, 1] rfl _ (four_cells _ _ (World.size_alloc _ _).symm 10 0 0 1)).mono ?_
  rintro e w2 ⟨rfl, hb⟩
  rw [show adA false ([10, 0, 0, 1] ++ z16.drop 4) = adA false ten from rfl]
  replace HG := Lib.hid ((HG.out.call hb).alloc (.cells (adA false ten) 24))
  replace HA := Lib.hid ((HA.out.next hb).alloc (.cells (adA false ten) 24))
  have HB := Lib.hid (Ad.new w2 false (ys := ten) rfl)
  clear hb
  go_wp2_with (with_reducible refine st24_new (.tmp 2) (.tmp 16) w2 _ false ten rfl rfl rfl rfl rfl rfl rfl rfl ?_)
  replace HG := Lib.hid (HG.out.alloc (.cells #[.int .u8 1, .int .u8 2] 5))
  replace HA := Lib.hid (HA.out.alloc (.cells #[.int .u8 1, .int .u8 2] 5))
  replace HB := Lib.hid (HB.out.alloc (.cells #[.int .u8 1, .int .u8 2] 5))
  refine (from_bad _ 2 2 _ (by omega) (by omega)).mono ?_
  rintro e w3 ⟨rfl, hb⟩
  replace HG := Lib.hid ((HG.out.call hb).alloc (.cells (adA false z16) 24))
  replace HA := Lib.hid ((HA.out.next hb).alloc (.cells (adA false z16) 24))
  replace HB := Lib.hid ((HB.out.next hb).alloc (.cells (adA false z16) 24))
  clear hb
  go_wp2_with (with_reducible refine st24_new (.tmp 4) (.tmp 21) w3 _ false z16 rfl rfl rfl rfl rfl rfl rfl rfl ?_)
  refine (parse_any litB (by decide) _ HG.out.gl).mono ?_
  intro e w4 hp
  obtain ⟨rfl, hb⟩ := hp.litB
  clear hp
  replace HG := Lib.hid ((HG.out.call hb).alloc (.cells (adA true doc6) 24))
  replace HA := Lib.hid ((HA.out.next hb).alloc (.cells (adA true doc6) 24))
  replace HB := Lib.hid ((HB.out.next hb).alloc (.cells (adA true doc6) 24))
  have HC := Lib.hid (Ad.new w4 true (ys := doc6) rfl)
  clear hb
  go_wp2_with (with_reducible refine st24_new (.tmp 6) (.tmp 25) w4 _ true doc6 rfl rfl rfl rfl rfl rfl rfl rfl ?_)
  refine (parse_any litC (by decide) _ HG.out.gl).mono ?_
  intro e w5 hp
  obtain ⟨rfl, hb⟩ := hp.litC
  clear hp
  replace HG := Lib.hid ((HG.out.call hb).alloc (.cells (adA false z16) 24))
  replace HA := Lib.hid ((HA.out.next hb).alloc (.cells (adA false z16) 24))
  replace HB := Lib.hid ((HB.out.next hb).alloc (.cells (adA false z16) 24))
  replace HC := Lib.hid ((HC.out.next hb).alloc (.cells (adA false z16) 24))
  clear hb
  go_wp2_with (with_reducible refine st24_new (.tmp 8) (.tmp 29) w5 _ false z16 rfl rfl rfl rfl rfl rfl rfl rfl ?_)
  refine (parse_any litD (by decide) _ HG.out.gl).mono ?_
  intro e w6 hp
  obtain ⟨rfl, hb⟩ := hp.litD
  clear hp
  replace HG := Lib.hid ((HG.out.call hb).alloc (.cells (adA false z16) 24))
  replace HA := Lib.hid ((HA.out.next hb).alloc (.cells (adA false z16) 24))
  replace HB := Lib.hid ((HB.out.next hb).alloc (.cells (adA false z16) 24))
  replace HC := Lib.hid ((HC.out.next hb).alloc (.cells (adA false z16) 24))
  clear hb
  have hs := same24 false ten rfl
  go_wp2_with (with_reducible refine st24_new (.tmp 10) (.tmp 33) w6 _ false z16 rfl rfl rfl rfl rfl rfl rfl rfl (Hid.out ?_))
  refine Lib.hid ?_
  iterate 8 (first | go_values | go_skip | go_guarded | go_step | go_upon | go_back | go_simp)
  simp only [List.append_eq, List.cons_append, List.nil_append]
  clear hz
  go_wp2_with (first | (with_reducible refine ld24 (.tmp 1) w1.heap.size false ten rfl rfl rfl HA.out ?_) | (with_reducible refine ld24 (.tmp 2) w2.heap.size false ten rfl rfl rfl HB.out ?_) | (with_reducible refine ld24w (.tmp 1) w1.heap.size false ten rfl rfl rfl HA.out ?_))
  refine (text_any false ten rfl oct_ten _ HG.out.gl).mono ?_
  rintro e w7 ⟨rfl, hb⟩
  rw [bs_ten]
  replace HG := Lib.hid (HG.out.call hb)
  replace HA := Lib.hid (HA.out.next hb)
  replace HC := Lib.hid (HC.out.next hb)
  have hC0 := HC.out.flag
  have hC1 := HC.out.byte 1 (by omega)
  have hC15 := HC.out.byte 15 (by omega)
  clear hb hs HB
  have hl : litA.toList = [49, 48, 46, 48, 46, 48, 46, 49] := toList_is litA
  simp only [doc6, List.getD_cons_zero, List.getD_cons_succ, Nat.reduceAdd] at hC1 hC15
  go_wp2_with (first | (with_reducible refine ld24w (.tmp 1) w1.heap.size false ten rfl rfl rfl HA.out ?_) | (with_reducible refine ld24w (.tmp 6) w4.heap.size true doc6 rfl rfl rfl HC.out ?_))
  refine (cmp_46 ten doc6 rfl rfl w7).mono ?_
  rintro e w8 ⟨rfl, hb⟩
  replace HG := Lib.hid (HG.out.call hb)
  replace HA := Lib.hid (HA.out.next hb)
  replace HC := Lib.hid (HC.out.next hb)
  clear hb hC0 hC1 hC15 hl
  go_wp2_with (with_reducible refine ld24w (.tmp 1) w1.heap.size false ten rfl rfl rfl HA.out ?_)
  refine (valid_four 10 0 0 1 w8).mono ?_
  rintro e w9 ⟨rfl, hb⟩
  replace HG := Lib.hid (HG.out.call hb)
  replace HC := Lib.hid (HC.out.next hb)
  clear hb HA
  have b1 := build22_odd
  have b2 := build24 0 0 0 0 1 0 0 0 0 0 0 0 0 0 0 0
  go_wp2_with fail
  refine (valid_odd w9).mono ?_
  rintro e w10 ⟨rfl, hb⟩
  replace HG := Lib.hid (HG.out.call hb)
  replace HC := Lib.hid (HC.out.next hb)
  clear hb b1 b2
  go_wp2_with (with_reducible refine ld24w (.tmp 6) w4.heap.size true doc6 rfl rfl rfl HC.out ?_)
  refine (bytes_six doc6 rfl w10).mono ?_
  rintro e w11 ⟨⟨v, rfl, g, cap, rfl, _, _⟩, hb⟩
  replace HG := Lib.hid (HG.out.call hb)
  clear hb HC
  rw [show doc6.length = 16 from rfl]
  go_wp2
  go_ret
  exact ⟨rfl, HG.out.below⟩

end Go.Proofs.YtahoggkjbfhadaaDoor
