/- A region that draws its order, whose operations read, and whose callees change nothing below where the region began: one walk in the order of the text. -/
import Derived.Test.YtahoggkjbfhadaaDoorAwake
import Derived.BigQuiet
import Derived.Deep.RegionHeld3
import Derived.Laws.BytesArg
namespace Go.Proofs.YtahoggkjbfhadaaDoor
open Go.RowKit

/-- A world that has grown out of 'w'. -/
structure Wd (w : World) where
  x : World
  h : Below w.heap.size w x

instance (w : World) : Inhabited (Wd w) := ⟨⟨w, Below.refl _ w⟩⟩

theorem wp_region_wd {P : Program} {id : Nat} {Q : Exit → Act → World → Prop} {a : Act} {w : World} {l : List Oper} (hm : P.follows .mixedOrders = true) (hB : Region.lexB .any l.toArray = true)
    (h : wpQuiet P l.toArray (fun w' => ∃ p : Wd w, w' = p.x) (fun a' => ∀ w', (∃ p : Wd w, w' = p.x) → Q .normal a' w') l a) : (Code.region id l.toArray true).wp P Q a w :=
  wp_region_quiet (C := fun w' => ∃ p : Wd w, w' = p.x) hm hB ⟨⟨_, (Below.refl w.heap.size w).drew⟩, rfl⟩ (by simpa using h)

/-- An address is loaded, in whatever world of the class. -/
theorem quiet_ld24 {o : Oper} {a : Act} {w : World} {K : Act → Prop} (x : Operand) (g : Nat) (v : Bool) (ys : List Int) (ho : o.op = .load 24 x) (hx : a.eval x = .pointer (some ⟨g, 0, none⟩)) (hg : Ad w g v ys)
    (hk : K (a.put o.dst (.agg (adA v ys)))) : o.quiet Tryd.prog a (fun w' => ∃ p : Wd w, w' = p.x) K :=
  ⟨_, fun w' ⟨p, hp⟩ => by
    subst hp
    have hg' := hg.below p.h hg.lt
    unfold Oper.quietAt execOp
    simp only [ho, hx, Instr.loadAt, Instr.sureAddr, Sem.run_bind, Sem.run_pure, Result.andThen_ok, run_loadVar_row p.x g 24 24 _ _ _ hg'.2 Tryd.underlying24 rfl (by rw [info24, size_adA, hg'.1])]
    exact ⟨rfl, rfl⟩, hk⟩

/-- A callee's contract, met in a world of the class. -/
theorem Calls.wd {P : Program} {f : FuncId} {args : Array Value} {w : World} {p : Wd w} {v : Value}
    (h : Calls P f args p.x fun e w' => e = .returned v ∧ Below p.x.heap.size p.x w') : Calls P f args p.x fun e w'' => e = .returned v ∧ ∃ q : Wd w, w'' = q.x :=
  h.mono fun _ w'' ⟨he, hb⟩ => ⟨he, ⟨w'', p.h.trans (hb.mono p.h.size)⟩, rfl⟩

/-- What a region may lean on: an address in a block of the call's own, and a row of bytes that came in. -/
structure Held (w0 : World) (g : Nat) (v : Bool) (ys : List Int) (b o : Nat) (xs : List Int) (w : World) : Prop where
  gl : Gl w
  below : Below w0.heap.size w0 w
  ad : Ad w g v ys
  old : b < w.heap.size
  row : ∀ j u, (xs.map (Value.int .u8))[j]? = some u → w.cell? ⟨b, o + j, none⟩ = some u

theorem Held.next {w0 w w' : World} {g b o : Nat} {v : Bool} {ys xs : List Int} (h : Held w0 g v ys b o xs w) (hb : Below w.heap.size w w') : Held w0 g v ys b o xs w' :=
  ⟨h.gl.next hb, h.below.trans (hb.mono h.below.size), h.ad.next hb, Nat.lt_of_lt_of_le h.old hb.size, fun j u hj => (hb.cell h.old).trans (h.row j u hj)⟩
theorem Held.drew {w0 w : World} {g b o : Nat} {v : Bool} {ys xs : List Int} (h : Held w0 g v ys b o xs w) : Held w0 g v ys b o xs w.drew := h.next (Below.refl _ w).drew

theorem run_ld24 {op : Oper} {a : Act} {x : Operand} {w : World} {g : Nat} {v : Bool} {ys : List Int} (ho : op.op = .load 24 x) (hx : a.eval x = .pointer (some ⟨g, 0, none⟩)) (hg : Ad w g v ys) :
    (execOp a.eval op).run Tryd.prog w = .ok (.value (.agg (adA v ys))) w := by
  unfold execOp
  simp only [ho, hx, Instr.loadAt, Instr.sureAddr, Sem.run_bind, Sem.run_pure, Result.andThen_ok, run_loadVar_row w g 24 24 _ _ _ hg.2 Tryd.underlying24 rfl (by rw [info24, size_adA, hg.1])]

theorem run_cv {op : Oper} {a : Act} {x : Operand} {w : World} {b o n c : Nat} {xs : List Int} (ho : op.op = .convert 32 9 x) (hx : a.eval x = .slice (some ⟨b, o, none⟩) n c)
    (hr : ∀ j u, (xs.map (Value.int .u8))[j]? = some u → w.cell? ⟨b, o + j, none⟩ = some u) (hl : xs.length = n) :
    (execOp a.eval op).run Tryd.prog w = .ok (.value (.string (strOfNums xs))) w := by
  have := run_convert_bytes_arg (P := Tryd.prog) w 32 5 Tryd.underlying32 Tryd.underlying5 b o n c xs hl (fun i hi => hr i _ (by simp [List.getD, List.getElem?_eq_getElem (show i < xs.length by omega)])) 9 Tryd.underlying9
  unfold execOp
  simp only [ho, hx, Sem.run_bind, Sem.run_pure, Result.andThen_ok, this]

theorem run_cv_new {op : Oper} {a : Act} {x : Operand} {w : World} {g n c : Nat} {xs : List Int} (ho : op.op = .convert 32 9 x) (hx : a.eval x = .slice (some ⟨g, 0, none⟩) n c)
    (hr : ∀ j u, (xs.map (Value.int .u8))[j]? = some u → w.cell? ⟨g, j, none⟩ = some u) (hl : xs.length = n) :
    (execOp a.eval op).run Tryd.prog w = .ok (.value (.string (strOfNums xs))) w :=
  run_cv ho hx (fun j u hj => by rw [Nat.zero_add]; exact hr j u hj) hl

theorem wp_value {o : Oper} {a : Act} {w : World} {v : Value} {K : Act → World → Prop} {Q : Exit → Act → World → Prop} (h : (execOp a.eval o).run Tryd.prog w = .ok (.value v) w) (hk : K (a.put o.dst v) w) : o.wp Tryd.prog a w K Q := by
  unfold Oper.wp
  rw [h]
  exact hk

end Go.Proofs.YtahoggkjbfhadaaDoor
