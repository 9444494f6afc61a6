/- Plain functions on lists and numbers that the walks over addr compute: no program, no memory. -/
import Derived.Lib.Strings
import Derived.Lib.ParseIntB
import Derived.Lib.ParseIntBMem
import Derived.Lib.Join
import Derived.Lib.ItoaNum
import Derived.Lib.Repeat
namespace Go.Proofs.YtahoggkjbfhadaaDoor

/-- The sign of a hexadecimal digit. -/
def hexB (k : Nat) : UInt8 := if k < 10 then UInt8.ofNat (48 + k) else UInt8.ofNat (87 + k)
/-- A number below 65536 in hexadecimal, without noughts ahead. -/
def hexL (n : Nat) : List UInt8 :=
  if n < 16 then [hexB n] else if n < 256 then [hexB (n / 16), hexB (n % 16)]
  else if n < 4096 then [hexB (n / 16 / 16), hexB (n / 16 % 16), hexB (n % 16)]
  else [hexB (n / 16 / 16 / 16), hexB (n / 16 / 16 % 16), hexB (n / 16 % 16), hexB (n % 16)]

/-- The digits' text, as the library has it. -/
def dgs : ByteArray := ⟨#[48, 49, 50, 51, 52, 53, 54, 55, 56, 57, 97, 98, 99, 100, 101, 102, 103, 104, 105, 106, 107, 108, 109, 110, 111, 112, 113, 114, 115, 116, 117, 118, 119, 120, 121, 122]⟩
theorem dgs_at : ∀ (k : Nat) (_ : k < 16) (h : k < dgs.size), dgs[k] = hexB k
  | 0, _, _ | 1, _, _ | 2, _, _ | 3, _, _ | 4, _, _ | 5, _, _ | 6, _, _ | 7, _, _ | 8, _, _ | 9, _, _ | 10, _, _ | 11, _, _ | 12, _, _ | 13, _, _ | 14, _, _ | 15, _, _ => rfl
  | k + 16, h, _ => absurd h (by omega)

/-- A byte with the bit 32 set, as the model has it. -/
def lowV (c : UInt8) : Int := bits .or .u8 (c.toNat : Int) 32
/-- What the bytes of a numeral at base 16 come to, behind those that made 'acc', in 16 bits. -/
def hexM (acc : Nat) : List UInt8 → Lib.NumEnd Nat
  | [] => .ok acc
  | c :: r =>
    if 48 ≤ c.toNat ∧ c.toNat ≤ 57 then (if 65535 < acc * 16 + (c.toNat - 48) then .range else hexM (acc * 16 + (c.toNat - 48)) r)
    else if 97 ≤ lowV c ∧ lowV c ≤ 102 then (if 65535 < acc * 16 + ((lowV c).toNat - 87) then .range else hexM (acc * 16 + ((lowV c).toNat - 87)) r)
    else Lib.NumEnd.syntax

/-- What ParseUint(s, 16, 16) reads; none: an error. -/
def pHex (l : List UInt8) : Option Nat := if l = [] then none else match hexM 0 l with | .ok n => some n | _ => none
/-- What ParseUint(s, 10, 8) reads; none: an error. -/
def pDec (l : List UInt8) : Option Nat := match Lib.parseUintB 8 l with | .ok n => some n | _ => none

/-- An address's cells: its kind, and sixteen bytes. -/
def adA (v : Bool) (ys : List Int) : Array Value := (Value.bool v :: ys.map (Value.int .u8)).toArray

theorem len16 {α : Type} {ys : List α} (h : ys.length = 16) : ∃ x0 x1 x2 x3 x4 x5 x6 x7 x8 x9 x10 x11 x12 x13 x14 x15, ys = [x0, x1, x2, x3, x4, x5, x6, x7, x8, x9, x10, x11, x12, x13, x14, x15] := by
  match ys, h with
  | [x0, x1, x2, x3, x4, x5, x6, x7, x8, x9, x10, x11, x12, x13, x14, x15], _ => exact ⟨x0, x1, x2, x3, x4, x5, x6, x7, x8, x9, x10, x11, x12, x13, x14, x15, rfl⟩
theorem len4 {α : Type} {ys : List α} (h : ys.length = 4) : ∃ x0 x1 x2 x3, ys = [x0, x1, x2, x3] := by
  match ys, h with
  | [x0, x1, x2, x3], _ => exact ⟨x0, x1, x2, x3, rfl⟩

/-- A byte in decimal. -/
def dec (y : Int) : List UInt8 := Lib.itoa (y.toNat : Int)
/-- Two bytes as four hexadecimal signs. -/
def grp (a b : Int) : List UInt8 := Lib.repeatL [48] (4 - (hexL (a.toNat * 256 + b.toNat)).length) ++ hexL (a.toNat * 256 + b.toNat)
/-- The parts of an address's text. -/
def parts4 (ys : List Int) : List (List UInt8) := (ys.take 4).map dec
def part6 (ys : List Int) (i : Nat) : List UInt8 := grp (ys.getD (2 * i) 0) (ys.getD (2 * i + 1) 0)
def parts6 (ys : List Int) : List (List UInt8) := (List.range 8).map (part6 ys)
/-- An address's text. -/
def txt (v : Bool) (ys : List Int) : List UInt8 := if v then Lib.join (parts6 ys) [58] else Lib.join (parts4 ys) [46]

theorem dec_len (n : Nat) (h : n < 256) : (Lib.itoa (n : Int)).length ≤ 3 ∧ 1 ≤ (Lib.itoa (n : Int)).length := by
  have e : Lib.itoa (n : Int) = Lib.decDigits n := by
    unfold Lib.itoa
    rw [if_neg (by omega), Int.toNat_natCast]
  rw [e, Lib.decDigits]
  split
  · simp
  · rw [Lib.decDigits]
    split
    · simp
    · rw [Lib.decDigits, dif_pos (by omega)]
      simp

theorem hexL_len (n : Nat) : 1 ≤ (hexL n).length ∧ (hexL n).length ≤ 4 := by
  unfold hexL
  split
  · simp
  · split
    · simp
    · split <;> simp

theorem grp_len (a b : Int) : (grp a b).length = 4 := by
  unfold grp
  have := hexL_len (a.toNat * 256 + b.toNat)
  rw [List.length_append, Lib.repeatL_length]
  simp
  omega

theorem join4 (a b c d s : List UInt8) : Lib.join [a, b, c, d] s = a ++ (s ++ (b ++ (s ++ (c ++ (s ++ d))))) := by
  simp [Lib.join, List.intercalate]
theorem join8 (a b c d e f g h s : List UInt8) : Lib.join [a, b, c, d, e, f, g, h] s = a ++ (s ++ (b ++ (s ++ (c ++ (s ++ (d ++ (s ++ (e ++ (s ++ (f ++ (s ++ (g ++ (s ++ h))))))))))))) := by
  simp [Lib.join, List.intercalate]

/-- What one part of a text puts into the bytes: at one byte each, at two. -/
def put1 (ys : List Int) (i : Nat) (s : List UInt8) : List Int := match pDec s with | some n => ys.set i ((n : Int) % 256) | none => ys
def put2 (ys : List Int) (i : Nat) (s : List UInt8) : List Int := match pHex s with | some n => (ys.set (2 * i) ((n : Int) / 256 % 256)).set (2 * i + 1) ((n : Int) % 256) | none => ys
/-- The bytes behind so many parts. -/
def aft (f : List Int → Nat → List UInt8 → List Int) (l : List (List UInt8)) (ys : List Int) (k : Nat) : List Int := (List.range k).foldl (fun z i => f z i (l.getD i [])) ys
theorem aft_succ (f : List Int → Nat → List UInt8 → List Int) (l : List (List UInt8)) (ys : List Int) (k : Nat) : aft f l ys (k + 1) = f (aft f l ys k) k (l.getD k []) := by
  simp [aft, List.range_succ]

end Go.Proofs.YtahoggkjbfhadaaDoor
