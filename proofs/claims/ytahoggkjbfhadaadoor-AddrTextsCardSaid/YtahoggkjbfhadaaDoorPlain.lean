/- The plain laws of addresses' texts: what was written is read as it was; no text ends with a dot. -/
import Derived.Test.YtahoggkjbfhadaaDoorParse
import Derived.Test.YtahoggkjbfhadaaDoorAddrC
namespace Go.Proofs.YtahoggkjbfhadaaDoor

/-! ### Splitting what was joined -/
def splitL (c : UInt8) (l : List UInt8) : List (List UInt8) := Lib.splitK [c] 0 (Lib.count l [c]) l

theorem lb_spl (c : UInt8) (s : ByteArray) : lb (spl c s) = splitL c s.data.toList := Lib.splitB_data _ 0 _ s
theorem spl_length (c : UInt8) (s : ByteArray) : (spl c s).length = (splitL c s.data.toList).length := by
  rw [← lb_spl]
  simp [lb]

theorem index_first (c : UInt8) (r : List UInt8) : ∀ p : List UInt8, c ∉ p → Lib.index (p ++ c :: r) [c] = p.length
  | [], _ => by simp [Lib.index, List.isPrefixOf]
  | b :: p, h => by
    have hb : c ≠ b := fun e => h (by simp [e])
    have hp : c ∉ p := fun e => h (by simp [e])
    have ih := index_first c r p hp
    rw [List.cons_append, Lib.index, if_neg (by simp [List.isPrefixOf, hb]), ih, if_neg (by simp)]
    simp

theorem splitL_hit (c : UInt8) (p r : List UInt8) (h : c ∉ p) : splitL c (p ++ c :: r) = p :: splitL c r := by
  have hi := index_first c r p h
  unfold splitL
  rw [Lib.count_hit (by simp) hi, Nat.add_comm 1, Lib.splitK, if_neg (by rw [hi]; simp), hi]
  simp only [Int.toNat_natCast, List.length_singleton]
  rw [List.drop_append, List.drop_eq_nil_of_le (by omega), List.nil_append, Nat.add_sub_cancel_left, List.drop_one, List.tail_cons, Nat.add_zero, List.take_left]

theorem splitL_miss (c : UInt8) (p : List UInt8) (h : c ∉ p) : splitL c p = [p] := by
  unfold splitL
  rw [Lib.count_one, List.count_eq_zero_of_not_mem h]
  rfl

/-! ### Decimal -/
def dec3 (n : Nat) : List UInt8 :=
  if n < 10 then [UInt8.ofNat (48 + n)] else if n < 100 then [UInt8.ofNat (48 + n / 10), UInt8.ofNat (48 + n % 10)]
  else [UInt8.ofNat (48 + n / 10 / 10), UInt8.ofNat (48 + n / 10 % 10), UInt8.ofNat (48 + n % 10)]
theorem itoa_dec3 (n : Nat) (h : n < 256) : Lib.itoa (n : Int) = dec3 n := by
  have e : Lib.itoa (n : Int) = Lib.decDigits n := by
    unfold Lib.itoa
    rw [if_neg (by omega), Int.toNat_natCast]
  rw [e, Lib.decDigits]
  unfold dec3
  split
  · rfl
  · rw [Lib.decDigits]
    split
    · rw [if_pos (by omega)]; rfl
    · rw [Lib.decDigits, dif_pos (by omega), if_neg (by omega)]; rfl

theorem pDec_dec3 : ∀ n : Fin 256, pDec (dec3 n.val) = some n.val := by decide +kernel
theorem dec3_signs : ∀ n : Fin 256, (dec3 n.val).all (fun b => 48 ≤ b && b ≤ 57) = true := by decide +kernel
theorem dec3_lead : ∀ n : Fin 256, dec3 n.val ≠ [48, 49] := by decide +kernel

theorem dec_is (y : Int) (h : 0 ≤ y ∧ y ≤ 255) : ∃ n : Fin 256, y = (n.val : Int) ∧ dec y = dec3 n.val :=
  ⟨⟨y.toNat, by omega⟩, by show y = (y.toNat : Int); omega, itoa_dec3 _ (by omega)⟩

/-! ### Hexadecimal -/
theorem hexM_step (acc d : Nat) (r : List UInt8) (hd : d < 16) (h : acc * 16 + d ≤ 65535) : hexM acc (hexB d :: r) = hexM (acc * 16 + d) r := by
  have key : ∀ d : Fin 16, (48 ≤ (hexB d.val).toNat ∧ (hexB d.val).toNat ≤ 57 ∧ (hexB d.val).toNat - 48 = d.val) ∨ (¬ (48 ≤ (hexB d.val).toNat ∧ (hexB d.val).toNat ≤ 57) ∧ 97 ≤ lowV (hexB d.val) ∧ lowV (hexB d.val) ≤ 102 ∧ (lowV (hexB d.val)).toNat - 87 = d.val) := by decide +kernel
  rcases key ⟨d, hd⟩ with ⟨h1, h2, h3⟩ | ⟨h0, h1, h2, h3⟩
  · simp only at h1 h2 h3
    rw [hexM, if_pos ⟨h1, h2⟩, h3, if_neg (by omega)]
  · simp only at h0 h1 h2 h3
    rw [hexM, if_neg h0, if_pos ⟨h1, h2⟩, h3, if_neg (by omega)]

theorem grp_is (a b : Int) (ha : 0 ≤ a ∧ a ≤ 255) (hb : 0 ≤ b ∧ b ≤ 255) : ∃ N : Nat, N = a.toNat * 256 + b.toNat ∧ N < 65536 ∧ grp a b = [hexB (N / 16 / 16 / 16), hexB (N / 16 / 16 % 16), hexB (N / 16 % 16), hexB (N % 16)] := by
  obtain ⟨N, hN⟩ : ∃ N, a.toNat * 256 + b.toNat = N := ⟨_, rfl⟩
  have z : hexB 0 = 48 := rfl
  refine ⟨N, hN.symm, by omega, ?_⟩
  unfold grp
  rw [hN]
  have hlt : N < 65536 := by omega
  clear hN
  unfold hexL
  split
  · rw [show N / 16 / 16 / 16 = 0 by omega, show N / 16 / 16 % 16 = 0 by omega, show N / 16 % 16 = 0 by omega, show N % 16 = N by omega, z]
    rfl
  · split
    · rw [show N / 16 / 16 / 16 = 0 by omega, show N / 16 / 16 % 16 = 0 by omega, show N / 16 % 16 = N / 16 by omega, z]
      rfl
    · split
      · rw [show N / 16 / 16 / 16 = 0 by omega, show N / 16 / 16 % 16 = N / 16 / 16 by omega, z]
        rfl
      · rfl

theorem pHex_grp (a b : Int) (ha : 0 ≤ a ∧ a ≤ 255) (hb : 0 ≤ b ∧ b ≤ 255) : pHex (grp a b) = some (a.toNat * 256 + b.toNat) := by
  obtain ⟨N, hN, hlt, hg⟩ := grp_is a b ha hb
  rw [hg, ← hN]
  unfold pHex
  rw [if_neg (by simp), hexM_step _ _ _ (by omega) (by omega), hexM_step _ _ _ (by omega) (by omega), hexM_step _ _ _ (by omega) (by omega), hexM_step _ _ _ (by omega) (by omega)]
  show some _ = some N
  congr 1
  omega

theorem hexB_sign (d : Nat) (h : d < 16) : hexB d ≠ 46 ∧ hexB d ≠ 58 := by
  have key : ∀ d : Fin 16, hexB d.val ≠ 46 ∧ hexB d.val ≠ 58 := by decide +kernel
  exact key ⟨d, h⟩

theorem grp_signs (a b : Int) (ha : 0 ≤ a ∧ a ≤ 255) (hb : 0 ≤ b ∧ b ≤ 255) : 46 ∉ grp a b ∧ 58 ∉ grp a b := by
  obtain ⟨N, _, hlt, hg⟩ := grp_is a b ha hb
  have h3 := hexB_sign (N / 16 / 16 / 16) (by omega)
  have h2 := hexB_sign (N / 16 / 16 % 16) (by omega)
  have h1 := hexB_sign (N / 16 % 16) (by omega)
  have h0 := hexB_sign (N % 16) (by omega)
  rw [hg]
  simp only [List.mem_cons, List.not_mem_nil, or_false, not_or]
  exact ⟨⟨h3.1.symm, h2.1.symm, h1.1.symm, h0.1.symm⟩, h3.2.symm, h2.2.symm, h1.2.symm, h0.2.symm⟩

theorem dec_signs (y : Int) (h : 0 ≤ y ∧ y ≤ 255) : 46 ∉ dec y := by
  obtain ⟨n, _, e⟩ := dec_is y h
  rw [e]
  intro hm
  have := List.all_eq_true.1 (dec3_signs n) 46 hm
  exact absurd this (by decide)

/-! ### Reading what was written -/
theorem put1_dec (ys : List Int) (i : Nat) (y : Int) (h : 0 ≤ y ∧ y ≤ 255) : put1 ys i (dec y) = ys.set i y := by
  obtain ⟨n, e, d⟩ := dec_is y h
  unfold put1
  rw [d, pDec_dec3 n]
  show ys.set i ((n.val : Int) % 256) = ys.set i y
  rw [e, Int.emod_eq_of_lt (by omega) (by omega)]

theorem put2_grp (ys : List Int) (i : Nat) (a b : Int) (ha : 0 ≤ a ∧ a ≤ 255) (hb : 0 ≤ b ∧ b ≤ 255) :
    put2 ys i (grp a b) = (ys.set (2 * i) a).set (2 * i + 1) b := by
  unfold put2
  rw [pHex_grp a b ha hb]
  show (ys.set (2 * i) (((a.toNat * 256 + b.toNat : Nat) : Int) / 256 % 256)).set (2 * i + 1) (((a.toNat * 256 + b.toNat : Nat) : Int) % 256) = _
  rw [show ((a.toNat * 256 + b.toNat : Nat) : Int) / 256 % 256 = a by omega, show ((a.toNat * 256 + b.toNat : Nat) : Int) % 256 = b by omega]

theorem prs_four (ys : List Int) (h16 : ys.length = 16) (ho : Oct ys) (hz : vld false ys = true) : prs (bs (txt false ys)) = (false, ys) := by
  match ys, h16 with
  | [a, b, c, d, y4, y5, y6, y7, y8, y9, y10, y11, y12, y13, y14, y15], _ =>
    have ea := ho a (by simp)
    have eb := ho b (by simp)
    have ec := ho c (by simp)
    have ed := ho d (by simp)
    simp only [vld, Bool.false_or, List.drop_succ_cons, List.drop_zero, List.all_cons, List.all_nil, Bool.and_true, Bool.and_eq_true, beq_iff_eq] at hz
    obtain ⟨e4, e5, e6, e7, e8, e9, e10, e11, e12, e13, e14, e15⟩ := hz
    subst e4 e5 e6 e7 e8 e9 e10 e11 e12 e13 e14 e15
    have hl : lb (spl 46 (bs (txt false [a, b, c, d, 0, 0, 0, 0, 0, 0, 0, 0, 0, 0, 0, 0]))) = [dec a, dec b, dec c, dec d] := by
      rw [lb_spl]
      show splitL 46 (Lib.join [dec a, dec b, dec c, dec d] [46]) = _
      rw [join4]
      show splitL 46 (dec a ++ 46 :: (dec b ++ 46 :: (dec c ++ 46 :: dec d))) = _
      rw [splitL_hit _ _ _ (dec_signs a ea), splitL_hit _ _ _ (dec_signs b eb), splitL_hit _ _ _ (dec_signs c ec), splitL_miss _ _ (dec_signs d ed)]
    have hn : (spl 46 (bs (txt false [a, b, c, d, 0, 0, 0, 0, 0, 0, 0, 0, 0, 0, 0, 0]))).length = 4 := by
      rw [spl_length, ← lb_spl, hl]
      rfl
    unfold prs
    rw [if_pos hn, hl]
    simp only [aft_succ, List.getD_cons_zero, List.getD_cons_succ, put1_dec _ _ _ ea, put1_dec _ _ _ eb, put1_dec _ _ _ ec, put1_dec _ _ _ ed]
    rfl

theorem prs_six (ys : List Int) (h16 : ys.length = 16) (ho : Oct ys) : prs (bs (txt true ys)) = (true, ys) := by
  match ys, h16 with
  | [a0, a1, a2, a3, a4, a5, a6, a7, a8, a9, a10, a11, a12, a13, a14, a15], _ =>
    have e0 := ho a0 (by simp)
    have e1 := ho a1 (by simp)
    have e2 := ho a2 (by simp)
    have e3 := ho a3 (by simp)
    have e4 := ho a4 (by simp)
    have e5 := ho a5 (by simp)
    have e6 := ho a6 (by simp)
    have e7 := ho a7 (by simp)
    have e8 := ho a8 (by simp)
    have e9 := ho a9 (by simp)
    have e10 := ho a10 (by simp)
    have e11 := ho a11 (by simp)
    have e12 := ho a12 (by simp)
    have e13 := ho a13 (by simp)
    have e14 := ho a14 (by simp)
    have e15 := ho a15 (by simp)
    have s0 := grp_signs a0 a1 e0 e1
    have s1 := grp_signs a2 a3 e2 e3
    have s2 := grp_signs a4 a5 e4 e5
    have s3 := grp_signs a6 a7 e6 e7
    have s4 := grp_signs a8 a9 e8 e9
    have s5 := grp_signs a10 a11 e10 e11
    have s6 := grp_signs a12 a13 e12 e13
    have s7 := grp_signs a14 a15 e14 e15
    have ht : txt true [a0, a1, a2, a3, a4, a5, a6, a7, a8, a9, a10, a11, a12, a13, a14, a15] = grp a0 a1 ++ 58 :: (grp a2 a3 ++ 58 :: (grp a4 a5 ++ 58 :: (grp a6 a7 ++ 58 :: (grp a8 a9 ++ 58 :: (grp a10 a11 ++ 58 :: (grp a12 a13 ++ 58 :: grp a14 a15)))))) := by
      show Lib.join [grp a0 a1, grp a2 a3, grp a4 a5, grp a6 a7, grp a8 a9, grp a10 a11, grp a12 a13, grp a14 a15] [58] = _
      rw [join8]
      rfl
    have hm : 46 ∉ txt true [a0, a1, a2, a3, a4, a5, a6, a7, a8, a9, a10, a11, a12, a13, a14, a15] := by
      rw [ht]
      simp only [List.mem_append, List.mem_cons, not_or]
      exact ⟨s0.1, by decide, s1.1, by decide, s2.1, by decide, s3.1, by decide, s4.1, by decide, s5.1, by decide, s6.1, by decide, s7.1⟩
    have hl : lb (spl 58 (bs (txt true [a0, a1, a2, a3, a4, a5, a6, a7, a8, a9, a10, a11, a12, a13, a14, a15]))) = [grp a0 a1, grp a2 a3, grp a4 a5, grp a6 a7, grp a8 a9, grp a10 a11, grp a12 a13, grp a14 a15] := by
      rw [lb_spl]
      show splitL 58 (txt true _) = _
      rw [ht, splitL_hit _ _ _ s0.2, splitL_hit _ _ _ s1.2, splitL_hit _ _ _ s2.2, splitL_hit _ _ _ s3.2, splitL_hit _ _ _ s4.2, splitL_hit _ _ _ s5.2, splitL_hit _ _ _ s6.2, splitL_miss _ _ s7.2]
    have hn : (spl 58 (bs (txt true [a0, a1, a2, a3, a4, a5, a6, a7, a8, a9, a10, a11, a12, a13, a14, a15]))).length = 8 := by
      rw [spl_length, ← lb_spl, hl]
      rfl
    have hn4 : (spl 46 (bs (txt true [a0, a1, a2, a3, a4, a5, a6, a7, a8, a9, a10, a11, a12, a13, a14, a15]))).length ≠ 4 := by
      rw [spl_length]
      show (splitL 46 (txt true _)).length ≠ 4
      rw [splitL_miss _ _ hm]
      simp
    unfold prs
    rw [if_neg hn4, if_pos hn, hl]
    simp only [aft_succ, List.getD_cons_zero, List.getD_cons_succ, put2_grp _ _ _ _ e0 e1, put2_grp _ _ _ _ e2 e3, put2_grp _ _ _ _ e4 e5, put2_grp _ _ _ _ e6 e7, put2_grp _ _ _ _ e8 e9, put2_grp _ _ _ _ e10 e11, put2_grp _ _ _ _ e12 e13, put2_grp _ _ _ _ e14 e15]
    rfl

theorem prs_txt (v : Bool) (ys : List Int) (h16 : ys.length = 16) (ho : Oct ys) (hz : vld v ys = true) : prs (bs (txt v ys)) = (v, ys) := by
  cases v
  · exact prs_four ys h16 ho hz
  · exact prs_six ys h16 ho

/-! ### What the document fixes -/
def litA : ByteArray := ⟨#[49, 48, 46, 48, 46, 48, 46, 49]⟩
def litB : ByteArray := ⟨#[50, 48, 48, 49, 58, 48, 100, 98, 56, 58, 48, 48, 48, 48, 58, 48, 48, 48, 48, 58, 48, 48, 48, 48, 58, 48, 48, 48, 48, 58, 48, 48, 48, 48, 58, 48, 48, 48, 49]⟩
def litC : ByteArray := ⟨#[49, 48, 46, 48, 46, 48, 46, 48, 49]⟩
def litD : ByteArray := ⟨#[50, 48, 48, 49, 58, 100, 98, 56, 58, 48, 48, 48, 48, 58, 48, 48, 48, 48, 58, 48, 48, 48, 48, 58, 48, 48, 48, 48, 58, 48, 48, 48, 48, 58, 48, 48, 48, 49]⟩
def ten : List Int := [10, 0, 0, 1, 0, 0, 0, 0, 0, 0, 0, 0, 0, 0, 0, 0]
def doc6 : List Int := [32, 1, 13, 184, 0, 0, 0, 0, 0, 0, 0, 0, 0, 0, 0, 1]

theorem txt_ten : txt false ten = litA.data.toList := by decide +kernel
theorem txt_doc6 : txt true doc6 = litB.data.toList := by decide +kernel
theorem prs_litB : prs litB = (true, doc6) := by decide +kernel
theorem prs_litC : prs litC = (false, ten) := by decide +kernel
theorem txt_litC : txt false ten ≠ litC.data.toList := by decide +kernel
theorem prs_litD : prs litD = (true, doc6) := by decide +kernel
theorem txt_litD : txt true doc6 ≠ litD.data.toList := by decide +kernel

theorem last_of {p d : List UInt8} {c : UInt8} (hn : d ≠ []) (he : (p ++ d).getLast? = some c) : c ∈ d := by
  rw [List.getLast?_append, List.getLast?_eq_some_getLast hn, Option.some_or] at he
  exact Option.some.inj he ▸ List.getLast_mem hn

theorem dec_ends (y : Int) (h : 0 ≤ y ∧ y ≤ 255) (p : List UInt8) : (p ++ dec y).getLast? ≠ some 46 := by
  intro he
  have hn : dec y ≠ [] := by
    obtain ⟨n, _, d⟩ := dec_is y h
    have key : ∀ n : Fin 256, dec3 n.val ≠ [] := by decide +kernel
    rw [d]
    exact key n
  exact dec_signs y h (last_of hn he)

theorem txt_ends (v : Bool) (ys : List Int) (h16 : ys.length = 16) (ho : Oct ys) : (txt v ys).getLast? ≠ some 46 := by
  match ys, h16 with
  | [a0, a1, a2, a3, a4, a5, a6, a7, a8, a9, a10, a11, a12, a13, a14, a15], _ =>
    cases v
    · show (Lib.join [dec a0, dec a1, dec a2, dec a3] [46]).getLast? ≠ _
      rw [join4]
      simp only [← List.append_assoc]
      exact dec_ends a3 (ho a3 (by simp)) _
    · show (Lib.join [grp a0 a1, grp a2 a3, grp a4 a5, grp a6 a7, grp a8 a9, grp a10 a11, grp a12 a13, grp a14 a15] [58]).getLast? ≠ _
      rw [join8]
      simp only [← List.append_assoc]
      intro he
      have hl := grp_len a14 a15
      exact (grp_signs a14 a15 (ho a14 (by simp)) (ho a15 (by simp))).1 (last_of (by intro e; rw [e] at hl; simp at hl) he)

/-- A text with a dot at its end is none. -/
theorem prs_dot (t : List UInt8) : PrsEnd (prs (bs (t ++ [48, 46]))).1 (prs (bs (t ++ [48, 46]))).2 (bs (t ++ [48, 46])) = .returned (.tuple #[.agg (adA false z16), .int .i64 2]) := by
  unfold PrsEnd
  have ho := prs_ok (bs (t ++ [48, 46]))
  have he := txt_ends (prs (bs (t ++ [48, 46]))).1 _ ho.2 ho.1
  rw [if_neg]
  intro e
  rw [e] at he
  exact he (by show (t ++ [48, 46]).getLast? = _; simp)

end Go.Proofs.YtahoggkjbfhadaaDoor
