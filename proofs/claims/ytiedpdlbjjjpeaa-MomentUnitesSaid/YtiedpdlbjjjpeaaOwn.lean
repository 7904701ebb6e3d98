/- Lists of charged panels that a function makes itself: what they hold. No conditions but those of each theorem. -/
import Derived.Test.YtiedpdlbjjjpeaaSane
import Derived.Test.YtiedpdlbjjjpeaaMsc
import Derived.Deep.AppendLies
namespace Go.Proofs.Ytiedpdlbjjjpeaa
set_option linter.unusedVariables false
set_option linter.unusedSimpArgs false
open Go.ChangeShapes Go.WideShapes Go.ChangeAt Go.RowKit
theorem owns_kept {w w' : World} {base size n : Nat} {e : TypeId} {v : Value} {xs : List Value} (h : w.ownsRow base e size v n xs) (hk : Kept w w') : w'.ownsRow base e size v n xs := by
  obtain ⟨x, rfl⟩ := hk
  refine ⟨h.1, ?_⟩
  rcases h.2 with h0 | ⟨g, cap, cur, hv, hb, hg, h1, h2, h3, h4⟩
  · exact .inl h0
  · refine .inr ⟨g, cap, cur, hv, hb, ?_, h1, h2, h3, h4⟩
    rw [ext_block _ _ _ (Array.getElem?_eq_some_iff.1 hg).1]
    exact hg
/-- What was appended to a row of the call's own is kept above what was there. -/
theorem kept_grown {W w w' : World} {base size n : Nat} {e : TypeId} {v : Value} {xs : List Value} (hk : Kept W w) (hown : w.ownsRow base e size v n xs) (hb : W.heap.size ≤ base) (hg : w.grownBy w' v.ownBlock) : Kept W w' := by
  refine Kept.of_below ?_
  have h1 := hk.below
  refine h1.grown hg h1.size ?_
  intro g hvg
  rcases hown.2 with ⟨rfl, -⟩ | ⟨g', cap, cur, rfl, hb', -⟩
  · cases hvg
  · simp only [Value.ownBlock, Option.some.injEq] at hvg
    omega
/-- The cells of the first k elements of c cells each. -/
def rowC (c : Nat) (f : Nat → Nat → Int) : Nat → List Value
  | 0 => []
  | k + 1 => rowC c f k ++ (List.range c).map fun j => Value.int .i64 (f k j)
theorem rowC_len (c : Nat) (f : Nat → Nat → Int) (k : Nat) : (rowC c f k).length = k * c := by
  induction k with
  | zero => simp [rowC]
  | succ k ih => simp [rowC, ih, Nat.add_mul]
theorem rowC_get (c : Nat) (f : Nat → Nat → Int) {n k j : Nat} (hk : k < n) (hj : j < c) : (rowC c f n)[k * c + j]? = some (.int .i64 (f k j)) := by
  induction n with
  | zero => omega
  | succ n ih =>
    unfold rowC
    by_cases e : k = n
    · subst e
      rw [List.getElem?_append_right (by rw [rowC_len]; omega), rowC_len, show k * c + j - k * c = j by omega]
      simp [hj]
    · have hlt : k * c + j < n * c := by
        have : (k + 1) * c ≤ n * c := Nat.mul_le_mul_right c (by omega)
        rw [Nat.add_mul] at this
        omega
      rw [List.getElem?_append_left (by rw [rowC_len]; exact hlt)]
      exact ih (by omega)
theorem rows_of_owns {w : World} {base n c cap : Nat} {e : TypeId} {A : Option Addr} {f : Nat → Nat → Int} (h : w.ownsRow base e c (.slice A n cap) n (rowC c f n)) (hI : ∀ k, k < n → ∀ j, j < c → I64 (f k j)) : RowsAt w A n c f := by
  intro h0
  rcases h.2 with ⟨-, hn⟩ | ⟨g, cap', cur, hv, hb, hg, h1, h2, h3, h4⟩
  · omega
  · simp only [Value.slice.injEq] at hv
    obtain ⟨rfl, -, rfl⟩ := hv
    refine ⟨g, 0, rfl, (Array.getElem?_eq_some_iff.1 hg).1, fun k hk j hj => ⟨?_, hI k hk j hj⟩⟩
    have hlt : k * c + j < n * c := by
      have : (k + 1) * c ≤ n * c := Nat.mul_le_mul_right c (by omega)
      rw [Nat.add_mul] at this
      omega
    have := rowC_get c f hk hj
    rw [← h4, List.getElem?_take, if_pos hlt] at this
    unfold World.cell?
    simp only [hg]
    simpa using this
theorem infoCh : (Try.prog.info? 40).map (fun i => (i.zero, i.size, i.bytes)) = some (some (.agg #[.int .i64 0, .int .i64 0, .int .i64 0, .int .i64 0, .int .i64 0, .int .i64 0, .int .i64 0, .int .i64 0, .int .i64 0, .int .i64 0]), 10, 80) := by kernel_rfl
theorem ltimes_any (x y z k : Int) (w : World) (h : (-1099511627776 ≤ k * x ∧ k * x ≤ 1099511627776) ∧ (-1099511627776 ≤ k * y ∧ k * y ≤ 1099511627776) ∧ (-1099511627776 ≤ k * z ∧ k * z ≤ 1099511627776)) :
    Calls Try.prog 19 #[.agg #[.int .i64 x, .int .i64 y, .int .i64 z], .int .i64 k] w fun r w' => r = .returned (.agg #[.int .i64 (k * x), .int .i64 (k * y), .int .i64 (k * z)]) ∧ Kept w w' := by
  obtain ⟨⟨h0, h1⟩, ⟨h2, h3⟩, h4, h5⟩ := h
  go_enter Try.func19, Try.ntmps19
  go_wp2
  refine bodyPost_ret (by simp only [results, Try.results19]; go_simp; rfl) rfl ?_
  exact ⟨rfl, by (repeat (first | exact Kept.refl _ | assumption | refine Kept.alloc ?_ _ | refine Kept.ext ?_ _ | refine Kept.drew ?_ | refine Kept.drewN ?_ _))⟩
/-- The panels k times as large. -/
def bigF (f : Nat → Nat → Int) (k : Int) : Nat → Nat → Int := fun i j => if j = 9 then f i 9 else k * f i j
theorem bigF_row (f : Nat → Nat → Int) (k : Int) (i : Nat) : ((List.range 10).map fun j => Value.int .i64 (bigF f k i j)) = [.int .i64 (k * f i 0), .int .i64 (k * f i 1), .int .i64 (k * f i 2), .int .i64 (k * f i 3), .int .i64 (k * f i 4), .int .i64 (k * f i 5), .int .i64 (k * f i 6), .int .i64 (k * f i 7), .int .i64 (k * f i 8), .int .i64 (f i 9)] := rfl
theorem sc_add (m : Mo) (q a0 a1 a2 a3 a4 a5 a6 a7 a8 k : Int) : scM (addA m q a0 a1 a2 a3 a4 a5 a6 a7 a8) k = addA (scM m k) q (k * a0) (k * a1) (k * a2) (k * a3) (k * a4) (k * a5) (k * a6) (k * a7) (k * a8) := by
  unfold scM addA
  simp only [Mo.mk.injEq, true_and]
  refine ⟨?_, ?_, ?_, ?_, ?_, ?_, ?_, ?_, ?_⟩ <;> grind
theorem sc_momF (f : Nat → Nat → Int) (c0 c1 c2 k : Int) (n : Nat) : scM (momF f c0 c1 c2 n) k = momF (bigF f k) (k * c0) (k * c1) (k * c2) n := by
  induction n with
  | zero => simp [scM, momF, moZ]
  | succ n ih =>
    unfold momF
    rw [sc_add, ih]
    simp only [bigF]
    simp only [Int.mul_sub]
    rfl
end Go.Proofs.Ytiedpdlbjjjpeaa
