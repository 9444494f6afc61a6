/- The walks of addr's V4, Valid, Bytes, From, Cmp at two kinds, of the reference's Valid, and of slices.Clone on bytes. -/
import Derived.Test.YtahoggkjbfhadaaDoorRows
import Derived.Test.YtahoggkjbfhadaaDoorLaws
import Derived.WalkKit
import Derived.WalkSpells
import Derived.WalkLawsBesides
import Derived.WalkSmall
import Derived.Handy
import Derived.Lib.SliceRun
import Derived.Laws.CopyOwn
import Derived.Deep.LoopGhost
import Derived.Lib.Hide
namespace Go.Proofs.YtahoggkjbfhadaaDoor
open Go.RowKit

set_option maxHeartbeats 400000 in
theorem v4_any (a b c d : Int) (w : World) :
    Calls Tryd.prog 13 #[.int .u8 a, .int .u8 b, .int .u8 c, .int .u8 d] w fun e w' => e = .returned (.agg (adA false [a, b, c, d, 0, 0, 0, 0, 0, 0, 0, 0, 0, 0, 0, 0])) ∧ Below w.heap.size w w' := by
  have b1 := build22 a b c d
  have b2 := build24 a b c d 0 0 0 0 0 0 0 0 0 0 0 0
  go_enter Tryd.func13, Tryd.ntmps13
  go_wp2_with (with_reducible refine st24_new (.tmp 8) (.tmp 14) _ _ false [a, b, c, d, 0, 0, 0, 0, 0, 0, 0, 0, 0, 0, 0, 0] rfl rfl rfl rfl rfl rfl ?c1 ?c2 ?_)
  case c1 => rfl
  case c2 => rfl
  refine bodyPost_ret (res24 rfl _ _ w.heap.size _ _ rfl (Ad.new w _ rfl)) rfl ⟨rfl, by go_grown⟩

set_option maxHeartbeats 400000 in
theorem valid_six (ys : List Int) (h : ys.length = 16) (w : World) :
    Calls Tryd.prog 14 #[.agg (adA true ys)] w fun e w' => e = .returned (.bool true) ∧ Below w.heap.size w w' := by
  obtain ⟨x0, x1, x2, x3, x4, x5, x6, x7, x8, x9, x10, x11, x12, x13, x14, x15, rfl⟩ := len16 h
  clear h
  show Calls Tryd.prog 14 #[.agg #[.bool true, .int .u8 x0, .int .u8 x1, .int .u8 x2, .int .u8 x3, .int .u8 x4, .int .u8 x5, .int .u8 x6, .int .u8 x7, .int .u8 x8, .int .u8 x9, .int .u8 x10, .int .u8 x11, .int .u8 x12, .int .u8 x13, .int .u8 x14, .int .u8 x15]] w _
  go_enter Tryd.func14, Tryd.ntmps14
  go_wp2
  go_ret
  exact ⟨rfl, by go_grown⟩

theorem same49 (d : Nat) (w : World) : (Op.equalIn (d + 2) 49 (.agg #[.int .u8 0, .int .u8 0, .int .u8 0, .int .u8 0, .int .u8 0, .int .u8 0, .int .u8 0, .int .u8 0, .int .u8 0, .int .u8 0, .int .u8 0, .int .u8 0]) (.agg #[.int .u8 0, .int .u8 0, .int .u8 0, .int .u8 0, .int .u8 0, .int .u8 0, .int .u8 0, .int .u8 0, .int .u8 0, .int .u8 0, .int .u8 0, .int .u8 0])).run Tryd.prog w = .ok true w := by
  have u3 := Tryd.underlying5
  have a3 := Tryd.isAgg5
  have z3 := Tryd.sizeOf5
  rw [Op.equalIn]
  simp only [Sem.run_bind, run_underlying Tryd.underlying49, Result.andThen_ok]
  simp only [Std.Legacy.Range.forIn_eq_forIn_range', Std.Legacy.Range.size, Nat.sub_zero, Nat.add_sub_cancel, Nat.div_one, List.range'_succ, List.range'_zero, List.forIn_cons, List.forIn_nil]
  go_simp
theorem odd49 (d : Nat) (w : World) : (Op.equalIn (d + 2) 49 (.agg #[.int .u8 1, .int .u8 0, .int .u8 0, .int .u8 0, .int .u8 0, .int .u8 0, .int .u8 0, .int .u8 0, .int .u8 0, .int .u8 0, .int .u8 0, .int .u8 0]) (.agg #[.int .u8 0, .int .u8 0, .int .u8 0, .int .u8 0, .int .u8 0, .int .u8 0, .int .u8 0, .int .u8 0, .int .u8 0, .int .u8 0, .int .u8 0, .int .u8 0])).run Tryd.prog w = .ok false w := by
  have u3 := Tryd.underlying5
  have a3 := Tryd.isAgg5
  have z3 := Tryd.sizeOf5
  rw [Op.equalIn]
  simp only [Sem.run_bind, run_underlying Tryd.underlying49, Result.andThen_ok]
  simp only [Std.Legacy.Range.forIn_eq_forIn_range', Std.Legacy.Range.size, Nat.sub_zero, Nat.add_sub_cancel, Nat.div_one, List.range'_succ, List.range'_zero, List.forIn_cons, List.forIn_nil]
  go_simp

set_option maxRecDepth 100000 in
set_option maxHeartbeats 1000000 in
theorem valid_four (x0 x1 x2 x3 : Int) (w : World) :
    Calls Tryd.prog 14 #[.agg (adA false [x0, x1, x2, x3, 0, 0, 0, 0, 0, 0, 0, 0, 0, 0, 0, 0])] w fun e w' => e = .returned (.bool true) ∧ Below w.heap.size w w' := by
  show Calls Tryd.prog 14 #[.agg #[.bool false, .int .u8 x0, .int .u8 x1, .int .u8 x2, .int .u8 x3, .int .u8 0, .int .u8 0, .int .u8 0, .int .u8 0, .int .u8 0, .int .u8 0, .int .u8 0, .int .u8 0, .int .u8 0, .int .u8 0, .int .u8 0, .int .u8 0]] w _
  have ha : ∀ a w, (Instr.arrayAt 49 (.slice a 12 12)).run Tryd.prog w = .ok (.pointer a) w := fun _ _ => by simp [Instr.arrayAt, run_underlying Tryd.underlying49]
  have he := same49 9998
  go_enter Tryd.func14, Tryd.ntmps14
  go_wp2
  go_ret
  exact ⟨rfl, by go_grown⟩

set_option maxRecDepth 100000 in
set_option maxHeartbeats 1000000 in
theorem valid_odd (w : World) :
    Calls Tryd.prog 14 #[.agg (adA false [0, 0, 0, 0, 1, 0, 0, 0, 0, 0, 0, 0, 0, 0, 0, 0])] w fun e w' => e = .returned (.bool false) ∧ Below w.heap.size w w' := by
  show Calls Tryd.prog 14 #[.agg #[.bool false, .int .u8 0, .int .u8 0, .int .u8 0, .int .u8 0, .int .u8 1, .int .u8 0, .int .u8 0, .int .u8 0, .int .u8 0, .int .u8 0, .int .u8 0, .int .u8 0, .int .u8 0, .int .u8 0, .int .u8 0, .int .u8 0]] w _
  have ha : ∀ a w, (Instr.arrayAt 49 (.slice a 12 12)).run Tryd.prog w = .ok (.pointer a) w := fun _ _ => by simp [Instr.arrayAt, run_underlying Tryd.underlying49]
  have he := odd49 9998
  go_enter Tryd.func14, Tryd.ntmps14
  go_wp2
  go_ret
  exact ⟨rfl, by go_grown⟩

/-- Bytes in a row of the call's own. -/
def RowB (w : World) (base : Nat) (v : Value) (xs : List Int) : Prop :=
  ∃ g cap, v = .slice (some ⟨g, 0, none⟩) xs.length cap ∧ base ≤ g ∧ ∀ j u, (xs.map (Value.int .u8))[j]? = some u → w.cell? ⟨g, j, none⟩ = some u

theorem Tryd.info5 : (Tryd.prog.info? 5).map (fun i => (i.zero, i.size, i.bytes)) = some (some (.int .u8 0), 1, 1) := by kernel_rfl

set_option maxRecDepth 100000 in
set_option maxHeartbeats 1000000 in
theorem clone_bytes (b off n c : Nat) (xs : List Int) (w : World) (hl : xs.length = n) (hn : n ≤ 100) (h0 : 0 < n)
    (hc : ∀ j u, (xs.map (Value.int .u8))[j]? = some u → w.cell? ⟨b, off + j, none⟩ = some u) :
    Calls Tryd.prog 22 #[.slice (some ⟨b, off, none⟩) n c] w fun e w' => (∃ v, e = .returned v ∧ RowB w' w.heap.size v xs) ∧ Below w.heap.size w w' := by
  have q22 : ∀ (w : World) (a : Option Addr) (n c n' c' : Nat), (binOp .eql 32 (.slice a n c) (.slice none n' c')).run Tryd.prog w = .ok (.bool a.isNone) w := fun w a n c n' c' => Lib.run_eql_slice_nil w _ _ a n c n' c' Tryd.underlying32
  have A : Aside (∀ j u, (xs.map (Value.int .u8))[j]? = some u → w.cell? ⟨b, off + j, none⟩ = some u) := hc
  clear hc
  obtain ⟨i0, hi, hz0, hz1, hz2⟩ := info_parts Tryd.info5
  go_enter Tryd.func22, Tryd.ntmps22
  go_wp2_with (at_builtin; refine wpList_append_own _ rfl _ _ 32 rfl w.heap.size 5 i0 (.int .u8 0) 1 1 Tryd.underlying32 hi hz0 hz1 hz2 rfl (by decide) _ _ _ rfl (World.ownsRow_made w #[] 0 (Nat.le_refl _) (Nat.zero_le _) (by simp)) ⟨b, off, none⟩ n c (xs.map (Value.int .u8)) rfl ?qc1 ?qc2 ?qc3 ?qc4 ?qc5 ?qc6 ?_)
  case qc1 => simp [hl]
  case qc2 =>
    intro j u hj
    rw [Addr.add_lit]
    exact Lib.cell?_alloc_some _ (A.out j u hj)
  case qc3 =>
    intro u hu
    obtain ⟨y, _, rfl⟩ := List.mem_map.1 hu
    rfl
  case qc4 => unfold maxLen; omega
  case qc5 => omega
  case qc6 => simp
  intro v' w1 hown hgrow hnil
  go_wp2
  go_ret
  refine ⟨⟨v', rfl, ?_⟩, ((Below.refl _ w).alloc (Nat.le_refl _) _).grown hgrow (by simp) (by intro k hk; simp [Value.ownBlock] at hk; omega)⟩
  rcases hown.2 with ⟨_, h⟩ | ⟨g, cap, cur, rfl, hg, hh, _, _, _, hcur⟩
  · omega
  · refine ⟨g, cap, by rw [hl], hg, fun j u hj => ?_⟩
    rw [World.cell?, hh]
    show cur[j]? = some u
    have hj' : j < xs.length := by
      rcases Nat.lt_or_ge j xs.length with h | h
      · exact h
      · rw [List.getElem?_eq_none (by simpa using h)] at hj; cases hj
    have : (cur.toList.take (n * 1))[j]? = some u := by rw [hcur]; simpa using hj
    rw [List.getElem?_take_of_lt (by omega)] at this
    simpa using this

end Go.Proofs.YtahoggkjbfhadaaDoor
