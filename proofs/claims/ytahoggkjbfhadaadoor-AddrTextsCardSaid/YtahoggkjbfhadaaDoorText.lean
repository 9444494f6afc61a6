/- The walks of addr's Text. -/
import Derived.Test.YtahoggkjbfhadaaDoorNums
import Derived.Test.YtahoggkjbfhadaaDoorLaws
import Derived.OwnWalk
import Derived.Laws.AppendOwn
namespace Go.Proofs.YtahoggkjbfhadaaDoor
open Go.RowKit

theorem Tryd.info9 : (Tryd.prog.info? 9).map (fun i => (i.zero, i.size, i.bytes)) = some (some (.string ⟨#[]⟩), 1, 16) := by kernel_rfl

theorem own_next {w w' : World} {base : Nat} {e : TypeId} {size : Nat} {v : Value} {n : Nat} {xs : List Value} (h : w.ownsRow base e size v n xs) (hb : Below w.heap.size w w') : w'.ownsRow base e size v n xs := by
  obtain ⟨hl, h⟩ := h
  refine ⟨hl, ?_⟩
  rcases h with h | ⟨g, cap, cur, h1, h2, h3, h4⟩
  · exact .inl h
  · exact .inr ⟨g, cap, cur, h1, h2, (hb.block g (Array.getElem?_eq_some_iff.1 h3).1).trans h3, h4⟩

/-- A byte string of a list. -/
abbrev bs (l : List UInt8) : ByteArray := ⟨l.toArray⟩

theorem txt4_len (ys : List Int) (h16 : ys.length = 16) (hb : ∀ y ∈ ys, 0 ≤ y ∧ y ≤ 255) : (txt false ys).length ≤ 15 := by
  obtain ⟨x0, x1, x2, x3, x4, x5, x6, x7, x8, x9, x10, x11, x12, x13, x14, x15, rfl⟩ := len16 h16
  have h0 := hb x0 (by simp)
  have h1 := hb x1 (by simp)
  have h2 := hb x2 (by simp)
  have h3 := hb x3 (by simp)
  show (Lib.join [dec x0, dec x1, dec x2, dec x3] [46]).length ≤ 15
  rw [join4]
  have l0 := (dec_len x0.toNat (by omega)).1
  have l1 := (dec_len x1.toNat (by omega)).1
  have l2 := (dec_len x2.toNat (by omega)).1
  have l3 := (dec_len x3.toNat (by omega)).1
  unfold dec
  simp only [List.length_append, List.length_cons, List.length_nil]
  omega

theorem txt6_len (ys : List Int) : (txt true ys).length = 39 := by
  show (Lib.join [part6 ys 0, part6 ys 1, part6 ys 2, part6 ys 3, part6 ys 4, part6 ys 5, part6 ys 6, part6 ys 7] [58]).length = 39
  rw [join8]
  simp only [List.length_append, List.length_cons, List.length_nil, part6, grp_len]

theorem row_step {W0 wr w1 w' : World} {B n size : Nat} {e : TypeId} {o : Obj} {v : Value} {xs : List Value} (hbel : Below B W0 wr) (hb1 : Below wr.heap.size wr w1) (hBs : B ≤ W0.heap.size) (hown : w1.ownsRow B e size v n xs)
    (hgrow : (w1.alloc o).grownBy w' v.ownBlock) : Below B W0 w' := by
  have h1 : B ≤ wr.heap.size := Nat.le_trans hBs hbel.size
  have h2 : B ≤ w1.heap.size := Nat.le_trans h1 hb1.size
  refine ((hbel.trans (hb1.mono h1)).alloc h2 o).grown hgrow (by simp; omega) fun k hk => ?_
  rcases hown.2 with ⟨rfl, _⟩ | ⟨g, cap, cur, rfl, hg, _⟩
  · simp [Value.ownBlock] at hk
  · simp [Value.ownBlock] at hk
    omega

/-- The texts of the parts that have been written. -/
def rows (f : Nat → List UInt8) (k : Nat) : List Value := (List.range k).map fun i => Value.string (bs (f i))
theorem rows_succ (f : Nat → List UInt8) (k : Nat) : rows f (k + 1) = rows f k ++ [Value.string (bs (f k))] := by
  simp [rows, List.range_succ]
theorem rows_at (f : Nat → List UInt8) (n j : Nat) (x : ByteArray) (h : ((List.range n).map fun i => bs (f i))[j]? = some x) : (rows f n)[j]? = some (.string x) := by
  unfold rows
  rw [List.getElem?_map] at h ⊢
  cases hr : (List.range n)[j]? with
  | none => rw [hr] at h; cases h
  | some i => rw [hr] at h; simp at h ⊢; rw [h]

/-- strings.Join over what a loop has laid. -/
theorem join_rows (f : Nat → List UInt8) (n : Nat) (sep : List UInt8) (v : Value) (B : Nat) (w : World) (h0 : 0 < n) (hn : n ≤ 100) (hown : w.ownsRow B 9 1 v n (rows f n)) (hlen : (Lib.join ((List.range n).map f) sep).length ≤ 1000) :
    Calls Tryd.prog 19 #[v, .string (bs sep)] w fun e w' => e = .returned (.string (bs (Lib.join ((List.range n).map f) sep))) ∧ Below w.heap.size w w' := by
  rcases hown.2 with ⟨_, h⟩ | ⟨g, cap, cur, rfl, hg, hh, hcap, _, _, hcur⟩
  · omega
  have e1 : ((List.range n).map fun i => bs (f i)).length = n := by simp
  have e2 : ((List.range n).map fun i => bs (f i)).map (·.data.toList) = (List.range n).map f := by
    rw [List.map_map]
    apply List.map_congr_left
    intro i _
    rfl
  have := Tryd.strings_Join g 0 cap ((List.range n).map fun i => bs (f i)) (bs sep) w (fun j x hj => by
    rw [Nat.zero_add, cell_of_row w g j _ _ _ hh]
    have h1 := rows_at f n j x hj
    have hjn : j < n := by
      have := (List.getElem?_eq_some_iff.1 hj).1
      rwa [e1] at this
    rw [← hcur, List.getElem?_take_of_lt (by omega)] at h1
    simpa using h1) (Array.getElem?_eq_some_iff.1 hh).1 (by rw [e1]; omega) (by rw [e1]; exact hcap) (by rw [e2]; show (Lib.join ((List.range n).map f) sep).length ≤ _; omega)
  rw [e1, e2] at this
  exact this

set_option maxRecDepth 100000 in
set_option maxHeartbeats 2000000 in
theorem text_four (ys : List Int) (h16 : ys.length = 16) (hb : ∀ y ∈ ys, 0 ≤ y ∧ y ≤ 255) (w : World) (hg : Gl w) :
    Calls Tryd.prog 9 #[.agg (adA false ys)] w fun e w' => e = .returned (.string (bs (txt false ys))) ∧ Below w.heap.size w w' := by
  have hA := Ad.new w false h16
  have f1 := hA.flag
  have HA := Lib.hid hA
  have HB := Lib.hid hb
  have HL := Lib.hid (txt4_len ys h16 hb)
  have H16 := Lib.hid h16
  clear hA hb h16
  obtain ⟨i0, hi, hz0, hz1, hz2⟩ := info_parts Tryd.info9
  have HG := Lib.hid hg
  clear hg
  go_enter Tryd.func9, Tryd.ntmps9
  go_wp2
  go_loopw [3, 15] (fun v3 v15 wr => ∃ k : Nat, k ≤ 4 ∧ v15 = .int .i64 k ∧ Hid (wr.ownsRow (w.heap.size + 1) 9 1 v3 k (rows (fun i => dec (ys.getD i 0)) k)) ∧ Hid (Below (w.heap.size + 1) (w.alloc (.cells (adA false ys) 24)) wr))
    (fun _ v15 _ => 4 - (intOf v15).toNat)
  case atStart => exact ⟨0, by omega, rfl, World.ownsRow_nil .., Below.refl _ _⟩
  case round =>
    obtain ⟨k, hk, rfl, hown, hbel⟩ := hrel
    have HAr := Lib.hid (HA.out.below hbel.out (by omega))
    by_cases hlt : k < 4
    · have hc := HAr.out.byte k (by omega)
      have hy := HB.out (ys.getD k 0) (by
        have hl := H16.out
        rw [List.getD_eq_getElem?_getD, List.getElem?_eq_getElem (by omega)]
        simp)
      obtain ⟨m, hm⟩ : ∃ m : Nat, ys.getD k 0 = (m : Int) := ⟨(ys.getD k 0).toNat, by omega⟩
      rw [hm] at hc hy
      have HM := Lib.hid hm
      clear hm
      have hm2 : m < 256 := by omega
      go_wp2_with (first | (go_at_call 18; refine (itoa_any m hm2 _ (HG.out.below (((Below.refl _ w).alloc (Nat.le_refl _) _).trans (hbel.out.mono (by omega))) HG.out.sz)).mono ?_; rintro e w1 ⟨rfl, hb1⟩; have hown1 := Lib.hid (own_next hown.out hb1)) | (at_builtin; refine wpList_append_own _ rfl _ _ 39 rfl (w.heap.size + 1) 9 i0 (.string ⟨#[]⟩) 1 16 Tryd.underlying39 hi hz0 hz1 hz2 rfl (by decide) _ k _ rfl (hown1.out.alloc _) ⟨w1.heap.size, 0, none⟩ 1 1 [.string (bs (Lib.itoa m))] rfl rfl (cell_one_new _ _ _) ?c2 ?c3 ?c4 ?c5 ?_))
      case c2 =>
        intro u hu
        simp at hu
        subst hu
        rfl
      case c3 => unfold maxLen; omega
      case c4 => omega
      case c5 =>
        have h1 := hbel.out.size
        have h2 := hb1.size
        simp at h1 ⊢
        omega
      intro v' w2 hown2 hgrow _
      have HO : Hid (w2.ownsRow (w.heap.size + 1) 9 1 v' (k + 1) (rows (fun i => dec (ys.getD i 0)) (k + 1))) := Lib.hid (by
        rw [rows_succ]
        show w2.ownsRow _ _ _ _ _ (_ ++ [Value.string (bs (dec (ys.getD k 0)))])
        rw [HM.out]
        exact hown2)
      have HB2 : Hid (Below (w.heap.size + 1) (w.alloc (.cells (adA false ys) 24)) w2) := Lib.hid (row_step hbel.out hb1 (by simp) hown1.out hgrow)
      clear hown2 hgrow hown1 hb1 hown hbel hc
      go_wp2
      go_roundw
      case rel => exact ⟨k + 1, by omega, by go_num, HO, HB2⟩
      case measure => simp [intOf]; omega
    · have hk4 : k = 4 := by omega
      subst hk4
      have hl := H16.out
      have e4 : (List.range 4).map (fun i => dec (ys.getD i 0)) = parts4 ys := by
        obtain ⟨x0, x1, x2, x3, x4, x5, x6, x7, x8, x9, x10, x11, x12, x13, x14, x15, rfl⟩ := len16 hl
        rfl
      have HJ := Lib.hid (join_rows (fun i => dec (ys.getD i 0)) 4 [46] _ _ wr (by omega) (by omega) hown.out (by
        rw [e4]
        have := HL.out
        exact Nat.le_trans this (by omega)))
      rw [e4] at HJ
      have HB2 := Lib.hid (((Below.refl _ w).alloc (Nat.le_refl _) (.cells (adA false ys) 24)).trans (hbel.out.mono (by omega)))
      clear e4 hl hown hbel
      go_wp2_with (go_at_call 19; refine HJ.out.mono ?_; rintro e w3 ⟨rfl, hb3⟩)
      go_ret
      exact ⟨rfl, HB2.out.trans (hb3.mono HB2.out.size)⟩

end Go.Proofs.YtahoggkjbfhadaaDoor
