/- Lists that a function makes itself by append: what they hold. No conditions but those of each theorem. -/
import Derived.Test.YtoadlneneijfaaaOpen
import Derived.Deep.AppendLies
namespace Go.Proofs.Ytoadlneneijfaaa
set_option linter.unusedVariables false
set_option linter.unusedSimpArgs false
open Go.ChangeShapes Go.WideShapes Go.ChangeAt Go.RowKit
theorem owns_kept {w w' : World} {base size n : Nat} {e : TypeId} {v : Value} {xs : List Value} (h : w.ownsRow base e size v n xs) (hk : Kept w w') : w'.ownsRow base e size v n xs := by
  obtain ⟨x, rfl⟩ := hk
  refine ⟨h.1, ?_⟩
  rcases h.2 with h0 | ⟨g, cap, cur, hv, hb, hg, h1, h2, h3, h4⟩
  · exact .inl h0
  · refine .inr ⟨g, cap, cur, hv, hb, ?_, h1, h2, h3, h4⟩
    rw [ext_block _ _ _ (Array.getElem?_eq_some_iff.1 hg).1]
    exact hg
/-- What was appended to a row of the call's own is kept above what was there. -/
theorem kept_grown {W w w' : World} {base size n : Nat} {e : TypeId} {v : Value} {xs : List Value} (hk : Kept W w) (hown : w.ownsRow base e size v n xs) (hb : W.heap.size ≤ base) (hg : w.grownBy w' v.ownBlock) : Kept W w' := by
  refine Kept.of_below ?_
  have h1 := hk.below
  refine h1.grown hg h1.size ?_
  intro g hvg
  rcases hown.2 with ⟨rfl, -⟩ | ⟨g', cap, cur, rfl, hb', -⟩
  · cases hvg
  · simp only [Value.ownBlock, Option.some.injEq] at hvg
    omega
/-- The cells of the first k elements of c cells each. -/
def rowC (c : Nat) (f : Nat → Nat → Int) : Nat → List Value
  | 0 => []
  | k + 1 => rowC c f k ++ (List.range c).map fun j => Value.int .i64 (f k j)
theorem rowC_len (c : Nat) (f : Nat → Nat → Int) (k : Nat) : (rowC c f k).length = k * c := by
  induction k with
  | zero => simp [rowC]
  | succ k ih => simp [rowC, ih, Nat.add_mul]
theorem rowC_get (c : Nat) (f : Nat → Nat → Int) {n k j : Nat} (hk : k < n) (hj : j < c) : (rowC c f n)[k * c + j]? = some (.int .i64 (f k j)) := by
  induction n with
  | zero => omega
  | succ n ih =>
    unfold rowC
    by_cases e : k = n
    · subst e
      rw [List.getElem?_append_right (by rw [rowC_len]; omega), rowC_len, show k * c + j - k * c = j by omega]
      simp [hj]
    · have hlt : k * c + j < n * c := by
        have : (k + 1) * c ≤ n * c := Nat.mul_le_mul_right c (by omega)
        rw [Nat.add_mul] at this
        omega
      rw [List.getElem?_append_left (by rw [rowC_len]; exact hlt)]
      exact ih (by omega)
theorem rows_of_owns {w : World} {base n c cap : Nat} {e : TypeId} {A : Option Addr} {f : Nat → Nat → Int} (h : w.ownsRow base e c (.slice A n cap) n (rowC c f n)) (hI : ∀ k, k < n → ∀ j, j < c → I64 (f k j)) : RowsAt w A n c f := by
  intro h0
  rcases h.2 with ⟨-, hn⟩ | ⟨g, cap', cur, hv, hb, hg, h1, h2, h3, h4⟩
  · omega
  · simp only [Value.slice.injEq] at hv
    obtain ⟨rfl, -, rfl⟩ := hv
    refine ⟨g, 0, rfl, (Array.getElem?_eq_some_iff.1 hg).1, fun k hk j hj => ⟨?_, hI k hk j hj⟩⟩
    have hlt : k * c + j < n * c := by
      have : (k + 1) * c ≤ n * c := Nat.mul_le_mul_right c (by omega)
      rw [Nat.add_mul] at this
      omega
    have := rowC_get c f hk hj
    rw [← h4, List.getElem?_take, if_pos hlt] at this
    unfold World.cell?
    simp only [hg]
    simpa using this
end Go.Proofs.Ytoadlneneijfaaa
