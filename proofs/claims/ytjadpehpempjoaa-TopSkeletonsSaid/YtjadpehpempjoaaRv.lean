/- Contracts: the number of sides of a matrix, of the program and of the reference; the greatest minor, of the reference. Conditions: the matrix is valid. -/
import Derived.Test.YtjadpehpempjoaaVol
namespace Go.Proofs.Ytjadpehpempjoaa
set_option linter.unusedVariables false
set_option linter.unusedSimpArgs false
open Go.RowKit Go.Deep
set_option maxRecDepth 100000 in
theorem cmost_any (A : Option Addr) (n cap : Nat) (B : Nat → Option Addr) (m cp : Nat → Nat) (f : Nat → Nat → Int) (w : World) (hv : valE n m f = 0) (hM : MatAt w A n B m cp f) :
    Calls Try.prog 17 #[.slice A n cap] w fun e w' => e = .returned (.int .i64 (min n (m 0) : Nat)) ∧ w = w' := by
  obtain ⟨⟨n1, n6⟩, ⟨m1, m6⟩, -, -⟩ := valE_0 hv
  obtain ⟨ab, ao, rfl, hab, c1⟩ := hM.at (k := 0) (by omega)
  rw [Nat.add_zero] at c1
  clear hM hv
  generalize m 0 = M at *
  go_enter Try.func17, Try.ntmps17
  go_wp2_with fail
  go_ret
  exact ⟨ret_int (by omega), rfl⟩
/-- Two calls that make something, at any time. -/
structure TwC (p q : Nat) (W : World) (P1 P2 : Value → World → Prop) (L : Nat → Bool) (b : Nat → Value) (w' : World) : Prop where
  kept : Kept W w'
  a : L p = true → P1 (b p) w'
  b : L q = true → P2 (b q) w'
theorem TwC.other {p q : Nat} {W : World} {P1 P2 : Value → World → Prop} {L : Nat → Bool} {b : Nat → Value} {w' w'' : World} {i : Nat} (h : TwC p q W P1 P2 L b w') (hk : Kept w' w'') (h1 : ∀ v w w', P1 v w → Kept w w' → P1 v w') (h2 : ∀ v w w', P2 v w → Kept w w' → P2 v w') (hp : i ≠ p) (hq : i ≠ q) : TwC p q W P1 P2 (doneAt L i) b w'' := by
  have d1 : doneAt L i p = L p := if_neg (Ne.symm hp)
  have d2 : doneAt L i q = L q := if_neg (Ne.symm hq)
  exact ⟨h.kept.trans hk, by rw [d1]; exact fun e => h1 _ _ _ (h.a e) hk, by rw [d2]; exact fun e => h2 _ _ _ (h.b e) hk⟩
theorem TwC.opA {p q : Nat} {W : World} {P1 P2 : Value → World → Prop} {L : Nat → Bool} {b : Nat → Value} {w' w'' : World} {v : Value} (h : TwC p q W P1 P2 L b w') (hpq : p ≠ q) (hk : Kept w' w'') (h2 : ∀ v w w', P2 v w → Kept w w' → P2 v w') (hv : P1 v w'') : TwC p q W P1 P2 (doneAt L p) (tellAt b p v) w'' := by
  have d2 : doneAt L p q = L q := if_neg (Ne.symm hpq)
  have e1 : tellAt b p v p = v := if_pos rfl
  have e2 : tellAt b p v q = b q := if_neg (Ne.symm hpq)
  exact ⟨h.kept.trans hk, fun _ => by rw [e1]; exact hv, by rw [d2, e2]; exact fun e => h2 _ _ _ (h.b e) hk⟩
theorem TwC.opB {p q : Nat} {W : World} {P1 P2 : Value → World → Prop} {L : Nat → Bool} {b : Nat → Value} {w' w'' : World} {v : Value} (h : TwC p q W P1 P2 L b w') (hpq : p ≠ q) (hk : Kept w' w'') (h1 : ∀ v w w', P1 v w → Kept w w' → P1 v w') (hv : P2 v w'') : TwC p q W P1 P2 (doneAt L q) (tellAt b q v) w'' := by
  have d2 : doneAt L q p = L p := if_neg hpq
  have e1 : tellAt b q v q = v := if_pos rfl
  have e2 : tellAt b q v p = b p := if_neg hpq
  exact ⟨h.kept.trans hk, by rw [d2, e2]; exact fun e => h1 _ _ _ (h.a e) hk, fun _ => by rw [e1]; exact hv⟩
/-- The sets that a call of the reference's Sets returns. -/
def SetsV (base n : Nat) (k : Int) (v : Value) (w : World) : Prop := OutL base 23 3 1 (slN n k (2 ^ n)).length (fun _ => k.toNat) (stF (slN n k (2 ^ n)) n) v w
theorem SetsV.on {base n : Nat} {k : Int} (v : Value) (w w' : World) (h : SetsV base n k v w) (hk : Kept w w') : SetsV base n k v w' := OutL.on h hk
end Go.Proofs.Ytjadpehpempjoaa
