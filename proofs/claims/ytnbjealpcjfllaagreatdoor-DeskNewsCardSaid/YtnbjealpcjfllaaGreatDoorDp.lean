/- Orders of a desk as lists of bytes: words, numbers, and what an order says. Plain functions and facts. Conditions: those of each theorem. -/
import Derived.Test.YtnbjealpcjfllaaGreatDoorBk
import Derived.Test.YtnbjealpcjfllaaGreatDoorWds
namespace Go.Proofs.YtnbjealpcjfllaaGreatDoor
set_option linter.unusedVariables false
set_option linter.unusedSimpArgs false
/-- A word of small letters and digits. -/
def wordB (l : List UInt8) : Bool := !l.isEmpty && l.all fun b => decide ((97 ≤ b.toNat ∧ b.toNat ≤ 122) ∨ (48 ≤ b.toNat ∧ b.toNat ≤ 57))
def nameB (l : List UInt8) : Bool := wordB l && (decide (l.length ≤ 8) && match l with
  | [] => false
  | b :: _ => decide (97 ≤ b.toNat ∧ b.toNat ≤ 122))
/-- The number that a word stands for. -/
def numW (l : List UInt8) : Option Int :=
  match Lib.atoiAll l with
  | .ok v => if Lib.itoa v = l ∧ -1000 ≤ v ∧ v ≤ 1000 then some v else none
  | _ => none
theorem numW_iff (l : List UInt8) (v : Int) : numW l = some v ↔ l = Lib.itoa v ∧ -1000 ≤ v ∧ v ≤ 1000 := by
  unfold numW
  constructor
  · intro h
    split at h
    · split at h
      · rename_i q
        injection h with h
        subst h
        exact ⟨q.1.symm, q.2⟩
      · cases h
    · cases h
  · rintro ⟨rfl, h1, h2⟩
    rw [atoi_itoa ⟨by omega, by omega⟩]
    exact if_pos ⟨rfl, h1, h2⟩
def numsW : List (List UInt8) → Option (List Int)
  | [] => some []
  | w :: r => match numW w, numsW r with
    | some v, some vs => some (v :: vs)
    | _, _ => none
/-- The form of an order by its first word: its kind, how many names and numbers, and whether more numbers may follow. -/
def formB (w : List UInt8) : Option (Nat × Nat × Nat × Bool) :=
  if w = [98, 108, 111, 99, 107] then some (0, 1, 3, false)
  else if w = [111, 99, 116, 97] then some (1, 1, 1, false)
  else if w = [99, 111, 112, 121] then some (2, 2, 0, false)
  else if w = [109, 111, 118, 101] then some (3, 1, 3, false)
  else if w = [115, 99, 97, 108, 101] then some (4, 1, 1, false)
  else if w = [116, 117, 114, 110] then some (5, 1, 0, false)
  else if w = [109, 105, 114, 114, 111, 114] then some (6, 1, 0, false)
  else if w = [102, 105, 110, 101, 114] then some (7, 1, 0, false)
  else if w = [117, 110, 105, 116, 101] then some (8, 2, 0, false)
  else if w = [101, 118, 101, 110] then some (9, 1, 1, false)
  else if w = [112, 114, 111, 118, 101] then some (10, 1, 2, true)
  else if w = [105, 109, 112, 114, 111, 118, 101] then some (11, 1, 1, false)
  else if w = [100, 97, 121] then some (12, 0, 0, false)
  else none
structure Ord where
  kind : Nat
  names : List (List UInt8)
  nums : List Int
def fitB (k : Nat) (need : Nat) (more : Bool) : Bool := decide (k = need) || (more && decide (need ≤ k))
def parseB (text : List UInt8) : Option Ord :=
  match wds 32 text with
  | [] => none
  | h :: args => match formB h with
    | none => none
    | some (k, a, b, more) => if rightB text && (fitB args.length (a + b) more && (args.take a).all wordB) then (numsW (args.drop a)).map fun vs => ⟨k, args.take a, vs⟩ else none
/-- The orders of the chapter's first example. -/
theorem parse_octa : parseB [111, 99, 116, 97, 32, 97, 32, 49] = some ⟨1, [[97]], [1]⟩ := by kernel_rfl
theorem parse_even : parseB [101, 118, 101, 110, 32, 97, 32, 48] = some ⟨9, [[97]], [0]⟩ := by kernel_rfl
theorem parse_day : parseB [100, 97, 121] = some ⟨12, [], []⟩ := by kernel_rfl
end Go.Proofs.YtnbjealpcjfllaaGreatDoor
