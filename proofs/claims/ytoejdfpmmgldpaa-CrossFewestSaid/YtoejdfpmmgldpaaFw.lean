/- How few rows keep a bound: there is a least number, and what the function value of the program's search does. Conditions: those of each theorem. -/
import Derived.Test.YtoejdfpmmgldpaaIns
import Derived.Test.YtoejdfpmmgldpaaCk
namespace Go.Proofs.Ytoejdfpmmgldpaa
set_option linter.unusedVariables false
set_option linter.unusedSimpArgs false
open Go.RowKit Go.Deep
/-- The error of a choice of numbers with a bound. -/
def okE (n : Nat) (m : Nat → Nat) (f : Nat → Nat → Int) (p q : Int) (r c : Nat) : Int := chkE n m f (bl r n).length (blF r n) (bl c (m 0)).length (blF c (m 0)) p q
def anyK (n : Nat) (m : Nat → Nat) (f : Nat → Nat → Int) (p q : Int) (k : Nat) : Prop := ∃ r c, r < 2 ^ n ∧ c < 2 ^ m 0 ∧ (bl r n).length = k ∧ (bl c (m 0)).length = k ∧ okE n m f p q r c = 0
def IsFew (n : Nat) (m : Nat → Nat) (f : Nat → Nat → Int) (p q : Int) (K : Nat) : Prop := K ≤ min n (m 0) ∧ anyK n m f p q K ∧ ∀ k, k < K → ¬ anyK n m f p q k
theorem few_some {n : Nat} {m : Nat → Nat} {f : Nat → Nat → Int} {p q : Int} (hv : valE n m f = 0) (hb : bndB p q = true) : ∃ K, IsFew n m f p q K := by
  obtain ⟨hq, hp⟩ := bnd_at hb
  have h1 : anyK n m f p q (rkP f n (m 0) (min n (m 0))) := by
    obtain ⟨K, hK⟩ : ∃ K, rkP f n (m 0) (min n (m 0)) = K := ⟨_, rfl⟩
    have hpos : volS f n (m 0) (K : Int) ≠ 0 := by
      have key : ∀ t, 0 < volS f n (m 0) (rkP f n (m 0) t : Nat) := by
        intro t
        induction t with
        | zero =>
          have : volS f n (m 0) ((rkP f n (m 0) 0 : Nat) : Int) = 1 := volS_0
          omega
        | succ t ih =>
          unfold rkP
          split
          · assumption
          · exact ih
      have := key (min n (m 0))
      rw [hK] at this
      omega
    rcases vmat_or (f := f) (n := n) (M := m 0) (k := (K : Int)) (b := 0) (2 ^ n) with e | ⟨r, c, h3, h4, h5, h6, e⟩
    · exact absurd e hpos
    · have e2 : volS f n (m 0) (K : Int) = dV f n (m 0) r c := e
      have hll : (bl r n).length = (bl c (m 0)).length := by omega
      have hch := bl_cho (f := f) hv hll
      have hd : D (bl r n).length (subF f (blF r n) (blF c (m 0))) ≠ 0 := by
        intro q
        unfold dV at e2
        rw [q] at e2
        exact hpos e2
      have hop : opnE n m f (bl r n).length (blF r n) (bl c (m 0)).length (blF c (m 0)) = 0 := by
        unfold opnE
        rw [if_pos hch, if_neg hd]
      have hs := bl_set (r := r) (n := n)
      have ht := bl_set (r := c) (n := m 0)
      rw [← hll] at ht
      have hw := (left_rank (f := f) hs ht hd).2 (by rw [hK]; omega)
      rw [hK]
      refine ⟨r, c, h3, h4, by omega, by omega, ?_⟩
      unfold okE chkE wstN wstD
      rw [if_pos hop, if_pos hb, if_pos hop, if_pos hop, hw, if_neg]
      have h0 : frN (0 : Int) ((D (bl r n).length (subF f (blF r n) (blF c (m 0)))).natAbs : Int) = 0 := by
        unfold frN
        simp
      have h2 := frp_pos (n := 0) (d := ((D (bl r n).length (subF f (blF r n) (blF c (m 0)))).natAbs : Int)) (by omega)
      rw [h0]
      have := Int.mul_nonneg hp.1 (Int.le_of_lt h2)
      omega
  have key : ∀ t, (∃ k, k < t ∧ anyK n m f p q k) → ∃ K, K < t ∧ anyK n m f p q K ∧ ∀ k, k < K → ¬ anyK n m f p q k := by
    intro t
    induction t with
    | zero => rintro ⟨k, hk, -⟩; omega
    | succ t ih =>
      rintro ⟨k, hk, ha⟩
      by_cases hx : ∃ k, k < t ∧ anyK n m f p q k
      · obtain ⟨K, h2, h3⟩ := ih hx
        exact ⟨K, by omega, h3⟩
      · refine ⟨k, hk, ha, fun k2 hk2 h2 => hx ⟨k2, by omega, h2⟩⟩
  have hle := rkP_le (f := f) (n := n) (M := m 0) (min n (m 0))
  obtain ⟨K, h2, h3, h4⟩ := key (rkP f n (m 0) (min n (m 0)) + 1) ⟨_, by omega, h1⟩
  exact ⟨K, by omega, h3, h4⟩
/-- No choice of k rows and columns ahead of rows r and columns c keeps the bound. -/
def noneTo (n : Nat) (m : Nat → Nat) (f : Nat → Nat → Int) (p q k : Int) (r c : Nat) : Prop := ∀ r' c', c' < 2 ^ m 0 → ((bl r' n).length : Int) = k → ((bl c' (m 0)).length : Int) = k → (r' < r ∨ r' = r ∧ c' < c) → okE n m f p q r' c' ≠ 0
/-- The boxes of the search. -/
structure CgB (W : World) (b bA bQ bF bR bC : Nat) (A : Option Addr) (n cap : Nat) (p q : Int) (vF vr vc : Value) (wr : World) : Prop where
  kept : Kept W wr
  lo : W.heap.size ≤ bF ∧ W.heap.size ≤ bR ∧ W.heap.size ≤ bC
  hi : bF < b ∧ bR < b ∧ bC < b
  ne : (bA ≠ bF ∧ bA ≠ bR ∧ bA ≠ bC) ∧ (bQ ≠ bF ∧ bQ ≠ bR ∧ bQ ≠ bC) ∧ bF ≠ bR ∧ bF ≠ bC ∧ bR ≠ bC
  ha : wr.heap[bA]? = some (.cells #[.slice A n cap] 22 (0, 0))
  hq : wr.heap[bQ]? = some (.cells #[.int .i64 p, .int .i64 q] 32 (0, 0))
  hf : wr.heap[bF]? = some (.cells #[vF] 4 (0, 0))
  hr : wr.heap[bR]? = some (.cells #[vr] 23 (0, 0))
  hc : wr.heap[bC]? = some (.cells #[vc] 23 (0, 0))
section
variable {W : World} {b bA bQ bF bR bC : Nat} {A : Option Addr} {n cap : Nat} {p q : Int} {vF vr vc : Value} {wr w' : World}
theorem CgB.on (h : CgB W b bA bQ bF bR bC A n cap p q vF vr vc wr) (hk : Kept wr w') : CgB W b bA bQ bF bR bC A n cap p q vF vr vc w' :=
  ⟨h.kept.trans hk, h.lo, h.hi, h.ne, fr_kept h.ha hk, fr_kept h.hq hk, fr_kept h.hf hk, fr_kept h.hr hk, fr_kept h.hc hk⟩
theorem CgB.setF (h : CgB W b bA bQ bF bR bC A n cap p q vF vr vc wr) (u : Value) : CgB W b bA bQ bF bR bC A n cap p q u vr vc (wr.setCell ⟨bF, 0, none⟩ u) := by
  obtain ⟨⟨n1, n2, n3⟩, ⟨n4, n5, n6⟩, n7, n8, n9⟩ := h.ne
  exact ⟨h.kept.setCell h.lo.1 _, h.lo, h.hi, h.ne, by rw [setCell_ne n1]; exact h.ha, by rw [setCell_ne n4]; exact h.hq, box_set h.hf, by rw [setCell_ne (Ne.symm n7)]; exact h.hr, by rw [setCell_ne (Ne.symm n8)]; exact h.hc⟩
theorem CgB.setR (h : CgB W b bA bQ bF bR bC A n cap p q vF vr vc wr) (u : Value) : CgB W b bA bQ bF bR bC A n cap p q vF u vc (wr.setCell ⟨bR, 0, none⟩ u) := by
  obtain ⟨⟨n1, n2, n3⟩, ⟨n4, n5, n6⟩, n7, n8, n9⟩ := h.ne
  exact ⟨h.kept.setCell h.lo.2.1 _, h.lo, h.hi, h.ne, by rw [setCell_ne n2]; exact h.ha, by rw [setCell_ne n5]; exact h.hq, by rw [setCell_ne n7]; exact h.hf, box_set h.hr, by rw [setCell_ne (Ne.symm n9)]; exact h.hc⟩
theorem CgB.setC (h : CgB W b bA bQ bF bR bC A n cap p q vF vr vc wr) (u : Value) : CgB W b bA bQ bF bR bC A n cap p q vF vr u (wr.setCell ⟨bC, 0, none⟩ u) := by
  obtain ⟨⟨n1, n2, n3⟩, ⟨n4, n5, n6⟩, n7, n8, n9⟩ := h.ne
  exact ⟨h.kept.setCell h.lo.2.2 _, h.lo, h.hi, h.ne, by rw [setCell_ne n3]; exact h.ha, by rw [setCell_ne n6]; exact h.hq, by rw [setCell_ne n8]; exact h.hf, by rw [setCell_ne n9]; exact h.hr, box_set h.hc⟩
end
theorem box2_at {V : World} {g : Nat} {T : TypeId} {a c : Value} (h : V.heap[g]? = some (.cells #[a, c] T (0, 0))) : V.cell? ⟨g, 0, none⟩ = some a ∧ V.cell? ⟨g, 1, none⟩ = some c ∧ g < V.heap.size := by
  have := (Array.getElem?_eq_some_iff.1 h).1
  refine ⟨?_, ?_, this⟩ <;> unfold World.cell? <;> simp [h]
/-- What a choice of numbers is to the program's functions. -/
structure ChoW (wr : World) (n : Nat) (m : Nat → Nat) (f : Nat → Nat → Int) (r c : Nat) (RA : Option Addr) (rc : Nat) (CA : Option Addr) (cc : Nat) : Prop where
  ll : (bl r n).length = (bl c (m 0)).length
  hr : RowsAt wr RA (bl r n).length 1 (blF r n)
  hc : RowsAt wr CA (bl c (m 0)).length 1 (blF c (m 0))
  l6 : (bl r n).length ≤ 6
theorem ChoW.of {wr : World} {b n : Nat} {m : Nat → Nat} {f : Nat → Nat → Int} {r c : Nat} {RA CA : Option Addr} {rc cc : Nat} (hv : valE n m f = 0) (hll : (bl r n).length = (bl c (m 0)).length)
    (hR : wr.ownsRow b 3 1 (.slice RA (bl r n).length rc) (bl r n).length (rowC 1 (blF r n) (bl r n).length)) (hC : wr.ownsRow b 3 1 (.slice CA (bl c (m 0)).length cc) (bl c (m 0)).length (rowC 1 (blF c (m 0)) (bl c (m 0)).length)) : ChoW wr n m f r c RA rc CA cc := by
  obtain ⟨v1, v2, -, -⟩ := valE_0 hv
  refine ⟨hll, rows_of_owns hR fun q hq j _ => ?_, rows_of_owns hC fun q hq j _ => ?_, ?_⟩
  · have := blN_lt hq
    rw [blF_N]; unfold I64; omega
  · have := blN_lt hq
    rw [blF_N]; unfold I64; omega
  · have := bl_len (r := r) (n := n); omega
end Go.Proofs.Ytoejdfpmmgldpaa
