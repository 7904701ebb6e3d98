/- How far products with skeletons are off: plain facts. Conditions: those of each theorem. -/
import Derived.Test.YtoejdfpmmgldpaaPe
import Derived.Test.YtoejdfpmmgldpaaCk
namespace Go.Proofs.Ytoejdfpmmgldpaa
set_option linter.unusedVariables false
set_option linter.unusedSimpArgs false
open Go.RowKit Go.Deep
/-- A sum of products is at most the greatest factor times the sum of the sizes. -/
theorem oSum_le {f : Nat → Nat → Int} {l : Nat} {R C X : Nat → Nat → Int} {c n i : Nat} (hi : i < n) : ∀ q, q ≤ c → ((sumZ (oTerm f l R C X i) q).natAbs : Int) ≤ wmat f l R C c n * sumZ (aTerm X) q
  | 0, _ => by
    show ((0 : Int).natAbs : Int) ≤ _ * 0
    simp
  | q + 1, hq => by
    have h1 := oSum_le (f := f) (l := l) (R := R) (C := C) (X := X) (c := c) hi q (by omega)
    have h2 := wmat_ge (f := f) (l := l) (R := R) (C := C) (c := c) n i q hi (by omega)
    have e1 : sumZ (oTerm f l R C X i) (q + 1) = sumZ (oTerm f l R C X i) q + leftV f l R C i q * X q 0 := rfl
    have e2 : sumZ (aTerm X) (q + 1) = sumZ (aTerm X) q + ((X q 0).natAbs : Int) := rfl
    rw [e1, e2, Int.mul_add]
    have h3 : ((leftV f l R C i q * X q 0).natAbs : Int) ≤ wmat f l R C c n * ((X q 0).natAbs : Int) := by
      rw [Int.natAbs_mul, Int.natCast_mul]
      exact Int.mul_le_mul_of_nonneg_right h2 (by omega)
    omega
theorem frq_le {n W d : Int} (hd : d ≠ 0) (hw : (n.natAbs : Int) ≤ W) : ((frN n d).natAbs : Int) * frD W (d.natAbs : Int) ≤ frN W (d.natAbs : Int) * frD n d := by
  obtain ⟨g, g0, g1, g2⟩ := fr_parts (n := n) hd
  obtain ⟨k, k0, k1, k2⟩ := fr_parts (n := W) (d := (d.natAbs : Int)) (by omega)
  have hN : 0 ≤ frN W (d.natAbs : Int) := by
    unfold frN
    rw [if_neg (by omega)]
    exact Int.ediv_nonneg (by omega) (by omega)
  have e1 : ((frN W (d.natAbs : Int)).natAbs : Int) = frN W (d.natAbs : Int) := by omega
  have e2 : (W.natAbs : Int) = W := by omega
  rw [e1, e2] at k1
  rw [Int.natAbs_natCast] at k2
  refine Int.le_of_mul_le_mul_right (a := g * k) ?_ (Int.mul_pos g0 k0)
  have sw : ∀ a b g k : Int, a * b * (g * k) = a * g * (b * k) := fun a b g k => by grind
  have l1 : ((frN n d).natAbs : Int) * frD W (d.natAbs : Int) * (g * k) = (n.natAbs : Int) * (d.natAbs : Int) := by
    rw [sw, g1, k2]
  have l2 : frN W (d.natAbs : Int) * frD n d * (g * k) = W * (d.natAbs : Int) := by
    rw [Int.mul_comm g k, sw, k1, g2]
  rw [l1, l2]
  exact Int.mul_le_mul_of_nonneg_right hw (by omega)
/-- What the law needs of an element that isn't chosen or is. -/
theorem off_at {n : Nat} {m : Nat → Nat} {f : Nat → Nat → Int} {rl : Nat} {R : Nat → Nat → Int} {cl : Nat} {C : Nat → Nat → Int} {xl : Nat} {X : Nat → Nat → Int} (hE : mulE n m f rl R cl C xl X = 0) {k : Nat} (hk : k < n) :
    ∃ N D0 : Int, fstF m f rl R C X k 1 = D0 ∧ fstF m f rl R C X k 0 = prF m f X k 0 * D0 - N ∧ (N.natAbs : Int) * offD n m f rl R cl C xl X ≤ offN n m f rl R cl C xl X * D0 ∧
      (-600000 ≤ prF m f X k 0 ∧ prF m f X k 0 ≤ 600000) ∧ (1 ≤ D0 ∧ D0 ≤ 1200000000000) ∧ (-4320000000000000000 ≤ N ∧ N ≤ 4320000000000000000) ∧ (-720000000000000000 ≤ prF m f X k 0 * D0 ∧ prF m f X k 0 * D0 ≤ 720000000000000000) ∧
      (∀ r, r < rl → R r 0 = k → D0 = 1 ∧ fstF m f rl R C X k 0 = prF m f X k 0) := by
  obtain ⟨hc, hf, ho⟩ := mulE_0 hE
  obtain ⟨-, hd⟩ := opnE_0 ho
  obtain ⟨hv, hs, -, rfl⟩ := choE_0 hc
  obtain ⟨-, hm⟩ := Mok.of hc
  obtain ⟨hxe, -⟩ := facB_at hf
  have h1 := den_bd (X := X) hm hs hk hd
  have h2 := pSum_bd hv hf hk (q := m 0) (Nat.le_refl _)
  have h3 := frN_bd (oSum_bd hm hs hf hk (q := m 0) (Nat.le_refl _)) hd
  rw [show sumZ (oTerm f rl R C X k) (m 0) = oV f rl R C X (m 0) k from rfl] at h3
  rw [show sumZ (pTerm f X k) (m 0) = prF m f X k 0 from rfl] at h2
  have h4 := mul_abs (c := 600000) (d := 1200000000000) (a := prF m f X k 0) (b := frD (oV f rl R C X (m 0) k) (D rl (subF f R C))) (by omega) (by omega) (by decide) (by decide)
  refine ⟨frN (oV f rl R C X (m 0) k) (D rl (subF f R C)), frD (oV f rl R C X (m 0) k) (D rl (subF f R C)), rfl, rfl, ?_, h2, h1, h3, by omega, ?_⟩
  · rw [show offN n m f rl R rl C xl X = frN (wmat f rl R C (m 0) n * sumZ (aTerm X) xl) ((D rl (subF f R C)).natAbs : Int) from if_pos hE, show offD n m f rl R rl C xl X = frD (wmat f rl R C (m 0) n * sumZ (aTerm X) xl) ((D rl (subF f R C)).natAbs : Int) from if_pos hE]
    refine frq_le hd ?_
    have := oSum_le (f := f) (l := rl) (R := R) (C := C) (X := X) (c := m 0) hk (m 0) (Nat.le_refl _)
    rw [hxe]
    exact this
  · intro r hr hrk
    have hz : oV f rl R C X (m 0) k = 0 := by
      refine sumZ_all0 fun j _ => ?_
      have hh : hasB rl R k = true := any_range.2 ⟨r, hr, by simpa using hrk⟩
      show leftV f rl R C k j * X j 0 = 0
      unfold leftV
      rw [hh, Bool.true_or, if_pos rfl, Int.zero_mul]
    have e1 : frN (0 : Int) (D rl (subF f R C)) = 0 := by
      unfold frN
      simp
    have e2 : frD (0 : Int) (D rl (subF f R C)) = 1 := by
      unfold frD
      rw [Int.natAbs_zero, Nat.gcd_zero_left]
      exact Int.ediv_self (by omega)
    refine ⟨by rw [hz, e2], ?_⟩
    show prF m f X k 0 * frD (oV f rl R C X (m 0) k) (D rl (subF f R C)) - frN (oV f rl R C X (m 0) k) (D rl (subF f R C)) = prF m f X k 0
    rw [hz, e1, e2]
    omega
/-- The bound of how far products are off. -/
theorem off_bd {n : Nat} {m : Nat → Nat} {f : Nat → Nat → Int} {rl : Nat} {R : Nat → Nat → Int} {cl : Nat} {C : Nat → Nat → Int} {xl : Nat} {X : Nat → Nat → Int} (hE : mulE n m f rl R cl C xl X = 0) :
    (0 ≤ offN n m f rl R cl C xl X ∧ offN n m f rl R cl C xl X ≤ 4320000000000000000) ∧ 0 ≤ offD n m f rl R cl C xl X ∧ offD n m f rl R cl C xl X ≤ 720000000000000 := by
  obtain ⟨hc, hf, ho⟩ := mulE_0 hE
  obtain ⟨-, hd⟩ := opnE_0 ho
  obtain ⟨hv, hs, -, rfl⟩ := choE_0 hc
  obtain ⟨-, hm⟩ := Mok.of hc
  obtain ⟨-, ⟨-, m6⟩, -, -⟩ := valE_0 hv
  have hdb := hm.bd
  have hwb := wmat_bd hm hs n (Nat.le_refl _)
  have hsb := aSum_bd m6 hf (Nat.le_refl xl)
  have h1 := mul_abs (c := 720000000000000) (d := 6000) (a := wmat f rl R C (m 0) n) (b := sumZ (aTerm X) xl) (by omega) (by omega) (by decide) (by decide)
  have h2 := Int.mul_nonneg hwb.1 hsb.1
  rw [show offN n m f rl R rl C xl X = frN (wmat f rl R C (m 0) n * sumZ (aTerm X) xl) ((D rl (subF f R C)).natAbs : Int) from if_pos hE, show offD n m f rl R rl C xl X = frD (wmat f rl R C (m 0) n * sumZ (aTerm X) xl) ((D rl (subF f R C)).natAbs : Int) from if_pos hE]
  have h3 := frN_bd (n := wmat f rl R C (m 0) n * sumZ (aTerm X) xl) (d := ((D rl (subF f R C)).natAbs : Int)) (b := 4320000000000000000) (by omega) (by omega)
  have h4 : 0 ≤ frN (wmat f rl R C (m 0) n * sumZ (aTerm X) xl) ((D rl (subF f R C)).natAbs : Int) := by
    unfold frN
    rw [if_neg (by omega)]
    exact Int.ediv_nonneg h2 (by omega)
  have h5 := frD_pos (n := wmat f rl R C (m 0) n * sumZ (aTerm X) xl) (d := ((D rl (subF f R C)).natAbs : Int)) (by omega)
  have h6 : frD (wmat f rl R C (m 0) n * sumZ (aTerm X) xl) ((D rl (subF f R C)).natAbs : Int) ≤ ((D rl (subF f R C)).natAbs : Int) := by
    unfold frD
    rw [Int.natAbs_natCast]
    exact Int.ediv_le_self _ (by omega)
  omega
end Go.Proofs.Ytoejdfpmmgldpaa
