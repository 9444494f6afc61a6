/- AddrTexts: whatever the text, the address, the place and the sign, the law answers true and the arguments read as they did; proved with no condition but what the row lists of the library's variables: the row and its tied card. -/
import Derived.Test.YtahoggkjbfhadaaDoorLaid
import Derived.Test.YtahoggkjbfhadaaDoorTexts
import Derived.Test.YtahoggkjbfhadaaDoorTie
import Derived.Test.YtahoggkjbfhadaaDoorCards
import Derived.SevenTiedAt
namespace Go.Proofs.YtahoggkjbfhadaaDoor
open Go.ChangeShapes Go.WideShapes Go.ChangeAt Go.RowKit

set_option maxRecDepth 100000 in
theorem byte_of {W : World} {base : Nat} {v : Value} (h : Value.okWide Tryd.prog W .any base 5 v) : ∃ c, v = .int .u8 c ∧ 0 ≤ c ∧ c ≤ 255 := by
  have hok : Cell.okWide Tryd.prog W .any base 5 v := by
    unfold Value.okWide at h
    rw [Tryd.underlying5] at h
    exact h
  simp only [Cell.okWide, Cell.ok, Tryd.underlying5] at hok
  cases v with
  | int k n =>
    obtain ⟨rfl, hk⟩ : k = .u8 ∧ IntKind.u8.has n := hok
    have h0 : (0 : Int) ≤ n ∧ n ≤ 255 := hk
    exact ⟨n, rfl, h0⟩
  | _ => simp at hok

section
variable {H : Type} {enc : TypeId × Value → H} {P : Program} {w : World} {base : Nat} {spare : Nat → Bool} {held : Bool}
theorem trodAll_four {t0 t1 t2 t3 : TypeId} {args : Array Value} {ds : List (DataW H)} {ps : List MemPlace} (h : DataW.TrodAll enc P w base spare held [t0, t1, t2, t3] args.toList ds ps) :
    ∃ v0 v1 v2 v3 d0 d1 d2 d3 p0 p1 p2 p3, args = #[v0, v1, v2, v3] ∧ ds = [d0, d1, d2, d3] ∧ ps = p0 ++ (p1 ++ (p2 ++ p3)) ∧ DataW.Trod enc P w base spare held t0 v0 d0 p0 ∧ DataW.Trod enc P w base spare held t1 v1 d1 p1 ∧ DataW.Trod enc P w base spare held t2 v2 d2 p2 ∧ DataW.Trod enc P w base spare held t3 v3 d3 p3 := by
  obtain ⟨l⟩ := args
  obtain ⟨v0, vs0, d0, ds0, p0, q0, e0, rfl, rfl, h0, hr⟩ := trodAll_cons h
  obtain ⟨v1, vs1, d1, ds1, p1, q1, rfl, rfl, rfl, h1, hr⟩ := trodAll_cons hr
  obtain ⟨v2, vs2, d2, ds2, p2, q2, rfl, rfl, rfl, h2, hr⟩ := trodAll_cons hr
  obtain ⟨v3, d3, e3, rfl, h3⟩ := trodAll_one (args := vs2.toArray) (by simpa using hr)
  refine ⟨v0, v1, v2, v3, d0, d1, d2, d3, p0, p1, p2, q2, ?_, rfl, rfl, h0, h1, h2, h3⟩
  have e3' : vs2 = [v3] := by simpa using congrArg Array.toList e3
  have e0' : l = v0 :: v1 :: v2 :: vs2 := e0
  rw [e0', e3']
end

set_option maxRecDepth 100000 in
theorem texts_lifted (os : Os) (started : os.Started) (H : Type) (enc : TypeId × Value → H) :
    ReturnsInHanded {} Tryd.checked os 4 .any (fun w args => (Rows.addrTextsSpec.pre enc Tryd.prog Tryd.f4 [] false w args ∧ laidMetH Tryd.prog laidL w) ∧ sizedMet enc Tryd.prog Tryd.f4 (OpenSpec.ofChange Rows.addrTextsSpec) false w args)
      (Rows.addrTextsSpec.post enc Tryd.prog Tryd.f4 false true false false) := by
  refine returns_laid (C := Tryd.checked) (X := fun w _ => laidMetH Tryd.prog laidL w) (fun _ _ _ hh h => h.of_heap hh) Tryd.own started (by kernel_rfl) Tryd.func4
    (ChangeSpec.witness_shaped (enc := enc) (C := Tryd.checked) (os := os) (X := fun w _ => laidMetH Tryd.prog laidL w) false (World.laidAll Tryd.prog os laidL) #[.string ⟨#[]⟩, .agg (adA false z16), .int .i64 0, .int .u8 0] 8 (World.laidAll_os _ _ _)
      (World.shaped_of_ZipB (by kernel_rfl) (by kernel_rfl)) (by kernel_rfl) (by kernel_rfl) (by kernel_rfl)
      (by rw [MakeChecks.laidMetH_plain _ _ _ (by kernel_rfl)]; exact laidMet_laidAll _ (by kernel_rfl) (by kernel_rfl))) ?_
  intro W base args ds gs before hval0 hW hL hS
  have hval : ∀ (j : Nat) t v, Tryd.f4.params[j]? = some t → args[j]? = some v → Value.okWide Tryd.prog W .any base t v := hval0
  have hW' := hW
  obtain ⟨p, q, hA0, hV, rfl, hfz, hnd⟩ := hW
  have hA : DataW.TrodAll enc Tryd.prog W 0 (fun _ => true) true Tryd.f4.params.toList args.toList ds p := hA0
  rw [Tryd.params4] at hA hval
  obtain ⟨v0, v1, v2, v3, d0, d1, d2, d3, p0, p1, p2, p3, rfl, rfl, rfl, h0, h1, h2, h3⟩ := trodAll_four hA
  obtain ⟨rfl, rfl⟩ := trodVars_none hV
  obtain ⟨s, rfl⟩ := okWide_string Tryd.underlying9 (hval 0 9 v0 rfl rfl)
  obtain ⟨v, ys, rfl, h16, ho⟩ := addr_of (hval 1 24 v1 rfl rfl)
  obtain ⟨k, rfl⟩ := okWide_int Tryd.underlying3 (hval 2 3 v2 rfl rfl)
  obtain ⟨c, rfl, hc⟩ := byte_of (hval 3 5 v3 rfl rfl)
  clear hA0 hval0 hA
  simp only [List.append_nil] at hW'
  have hlt : ∀ x ∈ p0 ++ (p1 ++ (p2 ++ p3)), x.block < W.heap.size := fun x hx => by simpa using hW'.lt x hx
  refine (texts_any s v ys h16 ho k c hc W (gl_of hL hS)).mono fun e W' ⟨he, hb⟩ => ?_
  subst he
  have b0 := Below.trod Tryd.laidOut (by kernel_rfl) (of_decide_eq_true (by kernel_rfl)) h0 hb fun x hx => hlt x (by simp [hx])
  have b1 := Below.trod Tryd.laidOut (by kernel_rfl) (of_decide_eq_true (by kernel_rfl)) h1 hb fun x hx => hlt x (by simp [hx])
  have b2 := Below.trod Tryd.laidOut (by kernel_rfl) (of_decide_eq_true (by kernel_rfl)) h2 hb fun x hx => hlt x (by simp [hx])
  have b3 := Below.trod Tryd.laidOut (by kernel_rfl) (of_decide_eq_true (by kernel_rfl)) h3 hb fun x hx => hlt x (by simp [hx])
  exact ⟨_, rfl, _, _, _, [], p0 ++ (p1 ++ (p2 ++ p3)), [], hW', trodAll_mk1 (shut_bool Tryd.underlying4 _), trodAll_cons_mk b0 (trodAll_mk3 b1 b2 b3), rfl, hb.frame _, fun h => by cases h⟩

theorem addrTexts_row_holds : Rows.AddrTextsSaid :=
  OpenClaim.holds_of_wide 4 Tryd.f4 rfl rfl rfl rfl rfl rfl rfl ⟨rfl, rfl, rfl, rfl, rfl⟩ rfl rfl rfl rfl rfl (by kernel_rfl) Tryd.func4 (by kernel_rfl)
    (of_decide_eq_true (by kernel_rfl)) (by unfold Func.isWrapper; first | (rw [if_pos (by decide +kernel)]; kernel_rfl) | (rw [if_neg (by decide +kernel)]; exact ⟨rfl, rfl⟩))
    (fun os started H enc _ => texts_lifted os started H enc)

theorem addrTexts_holds : Rows.AddrTextsCardSaid :=
  Claim7.holds_tied_plain_at .later [] [.data, .data, .data, .data, .sentinel, .sentinel, .pinned] true (true, "0ed1b15cf65c106632836188181b18e6a779844af55bfb0722829dd8f03ea940") true
    addrTexts_row_holds (fun _ h => by cases h) (by kernel_rfl) (fun _ h => by cases h) addrTexts_row_tie rfl ⟨rfl, rfl⟩ (by kernel_rfl) rfl
    (fun f fn hf hfn => by
      obtain rfl : f = 4 := Option.some.inj ((show Tryd.prog.funcNamed "bazaar/bazaarlaw2.AddrTexts" = some 4 by kernel_rfl).symm.trans hf) |>.symm
      obtain rfl : fn = Tryd.f4 := (Option.some.inj (Tryd.func4.symm.trans hfn)).symm
      exact ⟨by kernel_rfl, fun j t ht => by
        rw [Tryd.params4] at ht
        have hm : t ∈ [9, 24, 3, 5] := by simpa using Array.mem_of_getElem? ht
        have hall : ([9, 24, 3, 5].all fun u => !Tryd.prog.wantsStandIn u) = true := by kernel_rfl
        exact (show Tryd.prog.wantsStandIn t = false by simpa using List.all_eq_true.1 hall t hm)⟩)
    (by kernel_rfl)
#print axioms addrTexts_holds
end Go.Proofs.YtahoggkjbfhadaaDoor
