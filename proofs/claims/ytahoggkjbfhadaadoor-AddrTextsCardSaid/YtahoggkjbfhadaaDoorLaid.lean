/- What the rows' condition on the library's variables gives the walks; the rows' builder, with the world's shape. -/
import Derived.Test.YtahoggkjbfhadaaDoorRows
import Derived.Test.YtahoggkjbfhadaaDoorNums
import Derived.ProofKit
import Derived.OpenShut
import Derived.LaidMore
import Derived.LaidSub
import Derived.Lay
import Derived.Stop.Joined
import Derived.Stop.LaidErr
import Derived.Lib.LaidTab
import Derived.HandedShaped
import Derived.Shelf.Vars
namespace Go.Proofs.YtahoggkjbfhadaaDoor
open Go.ChangeShapes Go.WideShapes Go.ChangeAt Go.RowKit

theorem Tryd.own : ownKnob Tryd.prog.godebug = none := by kernel_rfl
theorem Tryd.laidOut : laidOutB Tryd.prog = true := by kernel_rfl

/-- What the three rows list. -/
def laidL : List (String × DataW Unit) := Rows.addrBytesRow.laid

theorem plain_of {W : World} {n : String} {d : DataW Unit} (h : laidMetH Tryd.prog laidL W) (keep : String × DataW Unit → Bool) (hl : laidL.filter keep = [(n, d)]) (hd : d.handleName?.isNone = true) : laidMet Tryd.prog [(n, d)] W := by
  have := h.filter keep
  rw [hl, MakeChecks.laidMetH_plain _ _ _ (by simp [hd])] at this
  exact this

theorem tz_data : (Rows.laid_math_bits_deBruijn64tab : DataW Unit) = Lib.tabData .u8 [0, 1, 56, 2, 57, 49, 28, 3, 61, 58, 42, 50, 38, 29, 17, 4, 62, 47, 59, 36, 45, 43, 51, 22, 53, 39, 33, 30, 24, 18, 12, 5, 63, 55, 48, 27, 60, 41, 37, 16, 46, 35, 44, 21, 52, 32, 23, 11, 54, 26, 40, 15, 34, 20, 31, 10, 25, 14, 19, 9, 13, 8, 7, 6] := by kernel_rfl
theorem pow_data : (Rows.laid_internal_strconv_uint64pow10 : DataW Unit) = Lib.tabData .u64 Lib.pow10Tab := by kernel_rfl

theorem Tryd.star : "*errors.errorString" = "*" ++ "errors.errorString" := by decide
theorem row_of (u : TypeId) (h : Tryd.prog.typeName? 3 u = some "*errors.errorString") : u = 111 :=
  typeName_ptr_named (nm := "errors.errorString") (by rw [← Tryd.star]; kernel_rfl) (by kernel_rfl) (by decide) u (by rw [← Tryd.star]; exact h)

/-- The one field of the library's error of a text. -/
noncomputable def textField : Field := match Tryd.prog.underlying 113 with | some (.struct ⟨[f]⟩) => f | _ => default

theorem gl_of {W : World} (h : laidMetH Tryd.prog laidL W) (hs : W.ShapedOpen Tryd.prog) : Gl W := by
  have hpow : Lib.TabIs Tryd.prog W "internal/strconv.uint64pow10" .u64 Lib.pow10Tab := by
    have := plain_of h (fun x => x.1 == "internal/strconv.uint64pow10") (n := "internal/strconv.uint64pow10") (d := Rows.laid_internal_strconv_uint64pow10) (by kernel_rfl) (by kernel_rfl)
    rw [pow_data] at this
    exact Lib.tabIs_of_head (g := 1) (t := 97) (e := 52) (n := 20) (by kernel_rfl) (by kernel_rfl) (by kernel_rfl) (by kernel_rfl) (by kernel_rfl) (by kernel_rfl) this
  have htz : W.cell? ⟨7, 15, none⟩ = some (.int .u8 4) := by
    have := plain_of h (fun x => x.1 == "math/bits.deBruijn64tab") (n := "math/bits.deBruijn64tab") (d := Rows.laid_math_bits_deBruijn64tab) (by kernel_rfl) (by kernel_rfl)
    rw [tz_data] at this
    exact (Lib.tabIs_of_head (g := 7) (t := 115) (e := 5) (n := 64) (by kernel_rfl) (by kernel_rfl) (by kernel_rfl) (by kernel_rfl) (by kernel_rfl) (by kernel_rfl) this).cell (g := 7) (by kernel_rfl) 15 (by simp)
  have sent : ∀ (g : Nat) (n : String) (text : List UInt8), Tryd.prog.globalNamed n = some g → (Tryd.prog.globals[g]?).map (·.type) = some 54 →
      laidMet Tryd.prog [(n, .iface "*errors.errorString" (.ptr (.agg [.lit (.string text)])))] W → ∃ t p, W.cell? ⟨g, 0, none⟩ = some (.iface t p) := by
    intro g n text hg ht hl
    obtain ⟨a, s, hv, _⟩ := laid_sentinel (ti := 54) (tp := 111) (te := 113) (ts := 9) (f := textField) hl hg ht (ms := #[("Error", 63)]) (by kernel_rfl) row_of (by kernel_rfl) (by kernel_rfl) (by kernel_rfl) (by kernel_rfl) Tryd.underlying9 (by kernel_rfl) (by kernel_rfl)
    exact ⟨_, _, by simpa using World.var?_cell hg hv 0⟩
  have hsyn := sent 2 "strconv.ErrSyntax" _ (by kernel_rfl) (by kernel_rfl) (plain_of h (fun x => x.1 == "strconv.ErrSyntax") (n := "strconv.ErrSyntax") (d := Rows.laid_strconv_ErrSyntax) (by kernel_rfl) (by kernel_rfl))
  have hrng := sent 3 "strconv.ErrRange" _ (by kernel_rfl) (by kernel_rfl) (plain_of h (fun x => x.1 == "strconv.ErrRange") (n := "strconv.ErrRange") (d := Rows.laid_strconv_ErrRange) (by kernel_rfl) (by kernel_rfl))
  have hmax := cell_of_shapedOpen_int (k := .i64) (g := 0) (t := 3) (zero := #[.int .i64 0]) hs (of_decide_eq_true (by kernel_rfl)) (by kernel_rfl) rfl (by kernel_rfl) (by kernel_rfl) Tryd.underlying3
  exact ⟨hmax, hpow, hsyn, hrng, htz, Nat.succ_le_of_lt (World.block_lt_of_cell? _ _ htz)⟩

/-- The rows' builder: the contract is told the condition on the listed variables and the world's shape. -/
theorem returns_laid {H : Type} {enc : TypeId × Value → H} {C : Checked} {os : Os} {f : FuncId} {fn : Func} {s : ChangeSpec} {conds : List PathCond} {apart fresh handsOn again : Bool} {X : World → Array Value → Prop}
    (hX : ∀ (w w' : World) (args : Array Value), w.heap = w'.heap → X w args → X w' args)
    (own : ownKnob C.prog.godebug = none) (started : os.Started) (noInit : C.prog.inits.idxOf? f = none) (hfn : C.prog.funcs[f]? = some fn)
    (witness : ∃ (w : World) (tape : Tape) (i : Input), w.os = os ∧ (w.forCall tape i).Shaped C.prog ∧ i.vars = [] ∧ Input.okWide C.prog (w.forCall tape i) .any w.heap.size f i ∧
      ((s.pre enc C.prog fn conds apart (w.forCall tape i).memory i.args ∧ X (w.forCall tape i).memory i.args) ∧ sizedMet enc C.prog fn (OpenSpec.ofChange s) apart (w.forCall tape i).memory i.args) ∧ ({} : Assume).holds C.prog (lone (Frame.enter C.prog f i.args .normal) [] (w.forCall tape i)))
    (contract : ∀ (W : World) (base : Nat) (args : Array Value) (ds gs : List (DataW H)) (before : List MemPlace),
      (∀ (j : Nat) t v, fn.params[j]? = some t → args[j]? = some v → Value.okWide C.prog W .any base t v) →
      DataW.Whole enc C.prog fn.params.toList s.vars apart W args.toList ds gs before → X W args → W.ShapedOpen C.prog →
      Calls C.prog f args W fun e W' => ∃ v, e = .returned v ∧ s.post enc C.prog fn apart fresh handsOn again W args v W') :
    ReturnsInHanded {} C os f .any (fun w args => (s.pre enc C.prog fn conds apart w args ∧ X w args) ∧ sizedMet enc C.prog fn (OpenSpec.ofChange s) apart w args) (s.post enc C.prog fn apart fresh handsOn again) := by
  refine returnsInHanded_of_calls own started noInit witness ?_
  intro w tape i _ hsh _ hok hpre _
  obtain ⟨_, _, _, fn', hfn', _, _, _, _, hval⟩ := hok
  have e : fn' = fn := Option.some.inj (hfn'.symm.trans hfn)
  subst e
  obtain ⟨⟨⟨ds, gs, before, hw, _⟩, hx⟩, _⟩ := hpre
  refine (contract (w.forCall tape i) w.heap.size i.args ds gs before hval (DataW.Whole.of_heap (w' := w.forCall tape i) (by rfl) hw) (hX _ _ _ (by rfl) hx) hsh).mono fun e W' ⟨v, he, hp⟩ => ?_
  subst he
  exact ChangeSpec.post_blind hp

end Go.Proofs.YtahoggkjbfhadaaDoor
