/- Laws for a walk over addresses of seventeen cells, their cells kept closed: load, store, literal, comparison, result. -/
import Derived.Test.YtahoggkjbfhadaaDoorRows
import Derived.Test.YtahoggkjbfhadaaDoorPure
import Derived.WalkKit
import Derived.WalkSpells
import Derived.WalkLawsBesides
import Derived.WalkSmall
import Derived.Handy
import Derived.Lib.Hide
import Derived.Laws.Rows
import Derived.Laws.Tables
import Derived.Laws.CopyOwn
namespace Go.Proofs.YtahoggkjbfhadaaDoor
open Go.RowKit

theorem adA_eq (v : Bool) (x0 x1 x2 x3 x4 x5 x6 x7 x8 x9 x10 x11 x12 x13 x14 x15 : Int) : adA v [x0, x1, x2, x3, x4, x5, x6, x7, x8, x9, x10, x11, x12, x13, x14, x15] = #[.bool v, .int .u8 x0, .int .u8 x1, .int .u8 x2, .int .u8 x3, .int .u8 x4, .int .u8 x5, .int .u8 x6, .int .u8 x7, .int .u8 x8, .int .u8 x9, .int .u8 x10, .int .u8 x11, .int .u8 x12, .int .u8 x13, .int .u8 x14, .int .u8 x15] := rfl
theorem size_adA (v : Bool) (ys : List Int) : (adA v ys).size = ys.length + 1 := by simp [adA]
theorem one_adA (v : Bool) (ys : List Int) : (adA v ys).all (·.oneCell') = true := by simp [adA, Value.oneCell']
theorem adA_zero (v : Bool) (ys : List Int) : (adA v ys)[0]? = some (.bool v) := rfl
theorem adA_succ (v : Bool) (ys : List Int) (j : Nat) : (adA v ys)[1 + j]? = (ys.map (Value.int .u8))[j]? := by rw [Nat.add_comm]; simp [adA]
theorem info24 : (Tryd.prog.info? 24).map (·.size) = some 17 := by kernel_rfl

/-- The zero address's bytes. -/
def z16 : List Int := [0, 0, 0, 0, 0, 0, 0, 0, 0, 0, 0, 0, 0, 0, 0, 0]

theorem zeroA : (#[.bool false, .int .u8 0, .int .u8 0, .int .u8 0, .int .u8 0, .int .u8 0, .int .u8 0, .int .u8 0, .int .u8 0, .int .u8 0, .int .u8 0, .int .u8 0, .int .u8 0, .int .u8 0, .int .u8 0, .int .u8 0, .int .u8 0] : Array Value) = adA false z16 := rfl
theorem build22 (a b c d : Int) (w : World) : (Instr.build 22 #[(0, .int .u8 a), (1, .int .u8 b), (2, .int .u8 c), (3, .int .u8 d)]).run Tryd.prog w = .ok (.agg #[.int .u8 a, .int .u8 b, .int .u8 c, .int .u8 d, .int .u8 0, .int .u8 0, .int .u8 0, .int .u8 0, .int .u8 0, .int .u8 0, .int .u8 0, .int .u8 0, .int .u8 0, .int .u8 0, .int .u8 0, .int .u8 0]) w := run_build w 22 _ _ (by kernel_rfl)
theorem build22_odd (w : World) : (Instr.build 22 #[(4, .int .u8 1)]).run Tryd.prog w = .ok (.agg #[.int .u8 0, .int .u8 0, .int .u8 0, .int .u8 0, .int .u8 1, .int .u8 0, .int .u8 0, .int .u8 0, .int .u8 0, .int .u8 0, .int .u8 0, .int .u8 0, .int .u8 0, .int .u8 0, .int .u8 0, .int .u8 0]) w := run_build w 22 _ _ (by kernel_rfl)
theorem build24 (x0 x1 x2 x3 x4 x5 x6 x7 x8 x9 x10 x11 x12 x13 x14 x15 : Int) (w : World) : (Instr.build 24 #[(1, .agg #[.int .u8 x0, .int .u8 x1, .int .u8 x2, .int .u8 x3, .int .u8 x4, .int .u8 x5, .int .u8 x6, .int .u8 x7, .int .u8 x8, .int .u8 x9, .int .u8 x10, .int .u8 x11, .int .u8 x12, .int .u8 x13, .int .u8 x14, .int .u8 x15])]).run Tryd.prog w = .ok (.agg (adA false [x0, x1, x2, x3, x4, x5, x6, x7, x8, x9, x10, x11, x12, x13, x14, x15])) w := run_build w 24 _ _ (by kernel_rfl)
theorem build24_zero (w : World) : (Instr.build 24 #[]).run Tryd.prog w = .ok (.agg (adA false z16)) w := run_build w 24 _ _ (by kernel_rfl)

/-- An address lies in a block. -/
def Ad (w : World) (g : Nat) (v : Bool) (ys : List Int) : Prop := ys.length = 16 ∧ w.heap[g]? = some (.cells (adA v ys) 24 (0, 0))

theorem Ad.lt {w : World} {g : Nat} {v : Bool} {ys : List Int} (h : Ad w g v ys) : g < w.heap.size := (Array.getElem?_eq_some_iff.1 h.2).1
theorem Ad.below {w w' : World} {B g : Nat} {v : Bool} {ys : List Int} (h : Ad w g v ys) (hb : Below B w w') (hg : g < B) : Ad w' g v ys := ⟨h.1, (hb.block g hg).trans h.2⟩
theorem Ad.next {w w' : World} {g : Nat} {v : Bool} {ys : List Int} (h : Ad w g v ys) (hb : Below w.heap.size w w') : Ad w' g v ys := h.below hb h.lt
theorem Ad.alloc {w : World} {g : Nat} {v : Bool} {ys : List Int} (h : Ad w g v ys) (o : Obj) : Ad (w.alloc o) g v ys := h.next ((Below.refl _ w).alloc (Nat.le_refl _) o)
theorem Ad.new (w : World) (v : Bool) {ys : List Int} (h : ys.length = 16) : Ad (w.alloc (.cells (adA v ys) 24)) w.heap.size v ys := ⟨h, heap_alloc_new _ _⟩
theorem Ad.flag {w : World} {g : Nat} {v : Bool} {ys : List Int} (h : Ad w g v ys) : w.cell? ⟨g, 0, none⟩ = some (.bool v) := by
  rw [cell_of_row w g 0 _ _ _ h.2]; rfl
theorem Ad.byte {w : World} {g : Nat} {v : Bool} {ys : List Int} (h : Ad w g v ys) (j : Nat) (hj : j < 16) : w.cell? ⟨g, 1 + j, none⟩ = some (.int .u8 (ys.getD j 0)) := by
  rw [cell_of_row w g _ _ _ _ h.2, adA_succ]
  have := h.1
  simp [List.getD, List.getElem?_eq_getElem (show j < ys.length by omega)]

theorem setRow_fresh (w : World) (Z cs : Array Value) (T : TypeId) : (w.alloc (.cells Z T)).setRow w.heap.size cs = w.alloc (.cells cs T) := by
  have hm : ∀ (a : Array Obj) (x : Obj) (f : Obj → Obj), (a.push x).modify a.size f = a.push (f x) := by
    intro a x f
    apply Array.ext
    · simp
    · intro i h1 h2
      simp only [Array.getElem_modify, Array.getElem_push]
      by_cases h : a.size = i
      · subst h
        simp
      · have hi : i < a.size := by simp at h1; omega
        simp [h, hi]
  show ({ w with heap := (w.heap.push (.cells Z T)).modify w.heap.size _ } : World) = _
  rw [hm]
  rfl

theorem setRow_same {w : World} {g : Nat} {cs : Array Value} {T : TypeId} {fr : Nat × Nat} (h : w.heap[g]? = some (.cells cs T fr)) : w.setRow g cs = w := by
  have : w.heap.modify g (fun | .cells _ elem frozen => .cells cs elem frozen | o => o) = w.heap := by
    apply Array.ext_getElem?
    intro i
    rw [Array.getElem?_modify]
    by_cases e : g = i
    · subst e
      rw [if_pos rfl, h]
      rfl
    · rw [if_neg e]
  exact congrArg (fun hp => ({ w with heap := hp } : World)) this

section
variable {w : World} {ops : Array Oper} {rest : List Oper} {o : Oper} {a : Act} {Q : Exit → Act → World → Prop}

/-- A whole address is loaded. -/
theorem ld24 (x : Operand) (g : Nat) (v : Bool) (ys : List Int) (hgd : o.guard = none) (ho : o.op = .load 24 x) (hx : a.eval x = .pointer (some ⟨g, 0, none⟩)) (hg : Ad w g v ys)
    (h : wpList Tryd.prog ops Q rest (a.put o.dst (.agg (adA v ys))) w) : wpList Tryd.prog ops Q (o :: rest) a w :=
  wpList_load_row hgd 24 x ho g hx 24 _ _ _ hg.2 Tryd.underlying24 rfl (by rw [info24, size_adA, hg.1]) h

/-- A whole address is stored into a variable that was just made. -/
theorem st24_new (x y : Operand) (w0 : World) (Z : Array Value) (v : Bool) (ys : List Int) (hgd : o.guard = none) (ho : o.op = .store 24 x y) (hd : o.dst = none) (hx : a.eval x = .pointer (some ⟨w0.heap.size, 0, none⟩)) (hy : a.eval y = .agg (adA v ys))
    (hw : w = w0.alloc (.cells Z 24)) (hZ : Z.size = 17) (hys : ys.length = 16)
    (h : wpList Tryd.prog ops Q rest a (w0.alloc (.cells (adA v ys) 24))) : wpList Tryd.prog ops Q (o :: rest) a w := by
  subst hw
  refine wpList_store_row hgd 24 x y ho w0.heap.size _ hx hy 24 Z (heap_alloc_new _ _) (by rw [info24, size_adA, hys]) (by rw [hZ, size_adA, hys]) (one_adA _ _) ?_
  rw [setRow_fresh, hd]
  exact h

/-- An address is stored where it lies. -/
theorem st24_same (x y : Operand) (g : Nat) (v : Bool) (ys : List Int) (hgd : o.guard = none) (ho : o.op = .store 24 x y) (hd : o.dst = none) (hx : a.eval x = .pointer (some ⟨g, 0, none⟩)) (hy : a.eval y = .agg (adA v ys))
    (hg : Ad w g v ys) (h : wpList Tryd.prog ops Q rest a w) : wpList Tryd.prog ops Q (o :: rest) a w := by
  refine wpList_store_row hgd 24 x y ho g _ hx hy 24 _ hg.2 (by rw [info24, size_adA, hg.1]) rfl (one_adA _ _) ?_
  rw [setRow_same hg.2, hd]
  exact h

/-- An address is stored over another one: what lies below 'B' is as it was. -/
theorem st24_over (x y : Operand) (g : Nat) (v v' : Bool) (ys ys' : List Int) (B : Nat) (w0 : World) (hgd : o.guard = none) (ho : o.op = .store 24 x y) (hd : o.dst = none) (hx : a.eval x = .pointer (some ⟨g, 0, none⟩)) (hy : a.eval y = .agg (adA v' ys'))
    (hg : Ad w g v ys) (hys : ys'.length = 16) (hb : Below B w0 w) (hBg : B ≤ g)
    (h : ∀ w', Ad w' g v' ys' → Below B w0 w' → wpList Tryd.prog ops Q rest a w') : wpList Tryd.prog ops Q (o :: rest) a w := by
  refine wpList_store_row hgd 24 x y ho g _ hx hy 24 _ hg.2 (by rw [info24, size_adA, hys]) (by rw [size_adA, size_adA, hys, hg.1]) (one_adA _ _) ?_
  rw [hd]
  exact h _ ⟨hys, setRow_heap w g _ _ 24 (0, 0) hg.2⟩ (below_setRow hb hBg _)
end

/-- One result, an address in its own variable. -/
theorem res24 {fn : Func} {p : Tmp} (h : fn.results = #[.cell p 24]) (tmps : Array Value) (w : World) (g : Nat) (v : Bool) (ys : List Int) (hp : tmps.getD p undef = .pointer (some ⟨g, 0, none⟩)) (hg : Ad w g v ys) :
    (results fn tmps).run Tryd.prog w = .ok (.agg (adA v ys)) w :=
  results_cell_row h tmps w g 24 _ _ _ hp hg.2 Tryd.underlying24 rfl (by rw [info24, size_adA, hg.1])

/-- Two results, the first an address in its own variable. -/
theorem res24_2 {fn : Func} {p q : Tmp} (h : fn.results = #[.cell p 24, .tmp q]) (tmps : Array Value) (w : World) (g : Nat) (v : Bool) (ys : List Int) (hp : tmps.getD p undef = .pointer (some ⟨g, 0, none⟩)) (hg : Ad w g v ys) :
    (results fn tmps).run Tryd.prog w = .ok (.tuple #[.agg (adA v ys), tmps.getD q undef]) w := by
  have hp' : tmps[p]?.getD undef = .pointer (some ⟨g, 0, none⟩) := by simpa using hp
  have hl := run_loadVar_row (P := Tryd.prog) w g 24 24 _ _ _ hg.2 Tryd.underlying24 rfl (by rw [info24, size_adA, hg.1])
  simp [results, h, hp', asAddr, hl]

theorem same22 (x0 x1 x2 x3 x4 x5 x6 x7 x8 x9 x10 x11 x12 x13 x14 x15 : Int) (d : Nat) (w : World) : (Op.equalIn (d + 2) 22 (.agg #[.int .u8 x0, .int .u8 x1, .int .u8 x2, .int .u8 x3, .int .u8 x4, .int .u8 x5, .int .u8 x6, .int .u8 x7, .int .u8 x8, .int .u8 x9, .int .u8 x10, .int .u8 x11, .int .u8 x12, .int .u8 x13, .int .u8 x14, .int .u8 x15]) (.agg #[.int .u8 x0, .int .u8 x1, .int .u8 x2, .int .u8 x3, .int .u8 x4, .int .u8 x5, .int .u8 x6, .int .u8 x7, .int .u8 x8, .int .u8 x9, .int .u8 x10, .int .u8 x11, .int .u8 x12, .int .u8 x13, .int .u8 x14, .int .u8 x15])).run Tryd.prog w = .ok true w := by
  have u3 := Tryd.underlying5
  have a3 := Tryd.isAgg5
  have z3 := Tryd.sizeOf5
  rw [Op.equalIn]
  simp only [Sem.run_bind, run_underlying Tryd.underlying22, Result.andThen_ok]
  simp only [Std.Legacy.Range.forIn_eq_forIn_range', Std.Legacy.Range.size, Nat.sub_zero, Nat.add_sub_cancel, Nat.div_one, List.range'_succ, List.range'_zero, List.forIn_cons, List.forIn_nil]
  go_simp
/-- An address is itself. -/
theorem same24 (v : Bool) (xs : List Int) (hx : xs.length = 16) (w : World) : (Op.equalIn 10000 24 (.agg (adA v xs)) (.agg (adA v xs))).run Tryd.prog w = .ok true w := by
  obtain ⟨x0, x1, x2, x3, x4, x5, x6, x7, x8, x9, x10, x11, x12, x13, x14, x15, rfl⟩ := len16 hx
  show (Op.equalIn (9999 + 1) 24 (.agg #[.bool v, .int .u8 x0, .int .u8 x1, .int .u8 x2, .int .u8 x3, .int .u8 x4, .int .u8 x5, .int .u8 x6, .int .u8 x7, .int .u8 x8, .int .u8 x9, .int .u8 x10, .int .u8 x11, .int .u8 x12, .int .u8 x13, .int .u8 x14, .int .u8 x15]) (.agg #[.bool v, .int .u8 x0, .int .u8 x1, .int .u8 x2, .int .u8 x3, .int .u8 x4, .int .u8 x5, .int .u8 x6, .int .u8 x7, .int .u8 x8, .int .u8 x9, .int .u8 x10, .int .u8 x11, .int .u8 x12, .int .u8 x13, .int .u8 x14, .int .u8 x15])).run Tryd.prog w = .ok true w
  have hS : Tryd.prog.underlying 24 = some (.struct (Tryd.prog.fieldsOf 24)) := by kernel_rfl
  have hp : Tryd.prog.stoodInHeld 24 = false := by kernel_rfl
  have s22 := same22 x0 x1 x2 x3 x4 x5 x6 x7 x8 x9 x10 x11 x12 x13 x14 x15 9997
  have a4 := Tryd.isAgg4
  have z4 := Tryd.sizeOf4
  have u4 := Tryd.underlying4
  have a22 := Tryd.isAgg22
  have z22 := Tryd.sizeOf22
  rw [run_equalIn_agg w 9999 24 _ _ hS hp]
  simp only [Program.fieldsOf, Tryd.underlying24]
  go_simp

end Go.Proofs.YtahoggkjbfhadaaDoor
