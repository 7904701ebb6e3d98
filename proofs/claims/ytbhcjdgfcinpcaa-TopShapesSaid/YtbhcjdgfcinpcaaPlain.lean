/- Plain lemmas about the spec functions: what good results are. No conditions. -/
import Derived.Test.YtbhcjdgfcinpcaaApp
import Derived.Test.YtbhcjdgfcinpcaaSqc
import Derived.Test.YtbhcjdgfcinpcaaQuob
namespace Go.Proofs.Ytbhcjdgfcinpcaa
set_option linter.unusedVariables false
set_option linter.unusedSimpArgs false
theorem result_ok {lo hi : Int} (h : (resultS lo hi).e = 0) : resultS lo hi = ⟨lo, hi, 0⟩ ∧ validB lo hi = true := by
  unfold resultS at *
  split at h
  · rename_i k; rw [if_pos k]; exact ⟨rfl, k⟩
  · cases h
/-- A result encloses a span, if it is none, or if its bounds do. -/
theorem encl_result {lo hi a b : Int} (h1 : lo ≤ a) (h2 : b ≤ hi) : enclosesB (resultS lo hi).lo (resultS lo hi).hi (resultS lo hi).e a b = true := by
  unfold resultS
  split
  · simp [enclosesB, h1, h2]
  · simp [enclosesB]
theorem add_ok {al ah bl bh : Int} (h : (addS al ah bl bh).e = 0) : addS al ah bl bh = ⟨al + bl, ah + bh, 0⟩ ∧ validB al ah = true ∧ validB bl bh = true ∧ validB (al + bl) (ah + bh) = true := by
  unfold addS at *
  split at h
  · rename_i k
    simp only [Bool.and_eq_true] at k
    obtain ⟨e, v⟩ := result_ok h
    rw [if_pos (by simp [k]), e]
    exact ⟨rfl, k.1, k.2, v⟩
  · cases h
theorem sub_ok {al ah bl bh : Int} (h : (subS al ah bl bh).e = 0) : subS al ah bl bh = ⟨al - bh, ah - bl, 0⟩ ∧ validB al ah = true ∧ validB bl bh = true ∧ validB (al - bh) (ah - bl) = true := by
  unfold subS at *
  split at h
  · rename_i k
    simp only [Bool.and_eq_true] at k
    obtain ⟨e, v⟩ := result_ok h
    rw [if_pos (by simp [k]), e]
    exact ⟨rfl, k.1, k.2, v⟩
  · cases h
theorem mul_ok {al ah bl bh : Int} (h : (mulS al ah bl bh).e = 0) : mulS al ah bl bh = ⟨min4 fDown al ah bl bh, max4 fUp al ah bl bh, 0⟩ ∧ validB al ah = true ∧ validB bl bh = true ∧ validB (min4 fDown al ah bl bh) (max4 fUp al ah bl bh) = true := by
  unfold mulS at *
  split at h
  · rename_i k
    simp only [Bool.and_eq_true] at k
    obtain ⟨e, v⟩ := result_ok h
    rw [if_pos (by simp [k]), e]
    exact ⟨rfl, k.1, k.2, v⟩
  · cases h
theorem div_ok {al ah bl bh : Int} (h : (divS al ah bl bh).e = 0) : divS al ah bl bh = ⟨min4 qDown al ah bl bh, max4 qUp al ah bl bh, 0⟩ ∧ validB al ah = true ∧ validB bl bh = true ∧ ¬ (bl ≤ 0 ∧ 0 ≤ bh) ∧ validB (min4 qDown al ah bl bh) (max4 qUp al ah bl bh) = true := by
  unfold divS at *
  split at h
  · rename_i k
    simp only [Bool.and_eq_true] at k
    split at h
    · cases h
    · rename_i z
      obtain ⟨e, v⟩ := result_ok h
      rw [if_pos (by simp [k]), if_neg z, e]
      exact ⟨rfl, k.1, k.2, z, v⟩
  · cases h
theorem sq_ok {al ah : Int} (h : (sqS al ah).e = 0) : sqS al ah = ⟨fDown (nearS al ah) (nearS al ah), fUp (farS al ah) (farS al ah), 0⟩ ∧ validB al ah = true ∧ validB (fDown (nearS al ah) (nearS al ah)) (fUp (farS al ah) (farS al ah)) = true := by
  unfold sqS at *
  split at h
  · rename_i k
    obtain ⟨e, v⟩ := result_ok h
    rw [if_pos k, e]
    exact ⟨rfl, k, v⟩
  · cases h
theorem scale_ok {al ah n : Int} (h : (scaleS al ah n).e = 0) : scaleS al ah n = ⟨min (prodS al n) (prodS ah n), max (prodS al n) (prodS ah n), 0⟩ ∧ validB al ah = true ∧ wholeB n = true ∧ validB (min (prodS al n) (prodS ah n)) (max (prodS al n) (prodS ah n)) = true := by
  unfold scaleS at *
  split at h
  · rename_i k
    simp only [Bool.and_eq_true] at k
    obtain ⟨e, v⟩ := result_ok h
    rw [if_pos (by simp [k]), e]
    exact ⟨rfl, k.1, k.2, v⟩
  · cases h
theorem le_fDown {k x y : Int} : k ≤ fDown x y ↔ k * 1048576 ≤ x * y := by
  unfold fDown
  generalize x * y = p
  omega
theorem fUp_le {k x y : Int} : fUp x y ≤ k ↔ x * y ≤ k * 1048576 := by
  unfold fUp
  generalize x * y = p
  omega
theorem fDown_le (x y : Int) : fDown x y * 1048576 ≤ x * y := le_fDown.1 (Int.le_refl _)
theorem le_fUp (x y : Int) : x * y ≤ fUp x y * 1048576 := fUp_le.1 (Int.le_refl _)
theorem min4_le (f : Int → Int → Int) (al ah bl bh : Int) : min4 f al ah bl bh ≤ f al bl ∧ min4 f al ah bl bh ≤ f al bh ∧ min4 f al ah bl bh ≤ f ah bl ∧ min4 f al ah bl bh ≤ f ah bh := by
  unfold min4; omega
theorem le_max4 (f : Int → Int → Int) (al ah bl bh : Int) : f al bl ≤ max4 f al ah bl bh ∧ f al bh ≤ max4 f al ah bl bh ∧ f ah bl ≤ max4 f al ah bl bh ∧ f ah bh ≤ max4 f al ah bl bh := by
  unfold max4; omega
theorem le_min4 {f : Int → Int → Int} {al ah bl bh k : Int} (h1 : k ≤ f al bl) (h2 : k ≤ f al bh) (h3 : k ≤ f ah bl) (h4 : k ≤ f ah bh) : k ≤ min4 f al ah bl bh := by
  unfold min4; omega
theorem max4_le {f : Int → Int → Int} {al ah bl bh k : Int} (h1 : f al bl ≤ k) (h2 : f al bh ≤ k) (h3 : f ah bl ≤ k) (h4 : f ah bh ≤ k) : max4 f al ah bl bh ≤ k := by
  unfold max4; omega
/-- A square lies within the product with itself. -/
theorem sq_encl {al ah : Int} (h : (sqS al ah).e = 0) : enclosesB (mulS al ah al ah).lo (mulS al ah al ah).hi (mulS al ah al ah).e (sqS al ah).lo (sqS al ah).hi = true := by
  obtain ⟨e, v1, v2⟩ := sq_ok h
  rw [e]
  have b := valid_bd v1
  unfold mulS
  rw [if_pos (by simp [v1])]
  obtain ⟨m1, m2, m3, m4⟩ := min4_le fDown al ah al ah
  obtain ⟨M1, M2, M3, M4⟩ := le_max4 fUp al ah al ah
  refine encl_result ?_ ?_
  · show min4 fDown al ah al ah ≤ fDown (nearS al ah) (nearS al ah)
    by_cases p : 0 < al
    · rw [show nearS al ah = al by unfold nearS; omega]; exact m1
    · by_cases q : ah < 0
      · rw [show nearS al ah = -ah by unfold nearS; omega, show fDown (-ah) (-ah) = fDown ah ah by unfold fDown; rw [Int.neg_mul_neg]]; exact m4
      · rw [show nearS al ah = 0 by unfold nearS; omega]
        refine Int.le_trans m2 ?_
        have := Int.mul_nonpos_of_nonpos_of_nonneg (show al ≤ 0 by omega) (show 0 ≤ ah by omega)
        show al * ah / 1048576 ≤ 0
        omega
  · show fUp (farS al ah) (farS al ah) ≤ max4 fUp al ah al ah
    by_cases p : -al ≤ ah
    · rw [show farS al ah = ah by unfold farS; omega]; exact M4
    · rw [show farS al ah = -al by unfold farS; omega, show fUp (-al) (-al) = fUp al al by unfold fUp; rw [Int.neg_mul_neg]]; exact M1
theorem prod_in {x n : Int} (h : -1099511627776 ≤ prodS x n ∧ prodS x n ≤ 1099511627776) : prodS x n = x * n := by
  unfold prodS at *
  split at h
  · omega
  · rename_i a
    rw [if_neg a]
    split at h
    · omega
    · rename_i b; rw [if_neg b]
/-- A quotient behind a product by the same number is what was there. -/
theorem scale_back {al ah n : Int} (h : (scaleS al ah n).e = 0) (hn : 1 ≤ n) : partS (scaleS al ah n).lo (scaleS al ah n).hi n = ⟨al, ah, 0⟩ := by
  obtain ⟨e, v1, v2, v3⟩ := scale_ok h
  rw [e]
  have b := valid_bd v1
  have b2 := whole_bd v2
  have b3 := valid_bd v3
  have p1 : prodS al n = al * n := prod_in (by omega)
  have p2 : prodS ah n = ah * n := prod_in (by omega)
  rw [p1, p2] at v3 ⊢
  have m : al * n ≤ ah * n := Int.mul_le_mul_of_nonneg_right b.2.1 (by omega)
  rw [Int.min_eq_left m, Int.max_eq_right m] at v3 ⊢
  show partS (al * n) (ah * n) n = ⟨al, ah, 0⟩
  unfold partS
  rw [if_pos (by simp [v3]; omega), Int.mul_ediv_cancel _ (by omega), ← Int.neg_mul, Int.mul_ediv_cancel _ (by omega), Int.neg_neg]
  unfold resultS
  rw [if_pos v1]
theorem qDown_le {k x y : Int} (hy : y ≠ 0) (h : 0 < y ∧ x * 1048576 ≤ k * y ∨ y < 0 ∧ k * y ≤ x * 1048576) : qDown x y ≤ k := by
  unfold qDown
  rcases h with ⟨h0, h⟩ | ⟨h0, h⟩
  · rw [fdiv_pos _ _ h0]
    have := Int.ediv_le_ediv h0 h
    rw [Int.mul_ediv_cancel _ hy] at this
    exact this
  · rw [← fdiv_flip, fdiv_pos _ _ (show 0 < -y by omega)]
    have := Int.ediv_le_ediv (show 0 < -y by omega) (Int.neg_le_neg h)
    rw [show -(k * y) = k * -y from (Int.mul_neg _ _).symm, Int.mul_ediv_cancel _ (by omega)] at this
    exact this
theorem le_qUp {k x y : Int} (hy : y ≠ 0) (h : 0 < y ∧ k * y ≤ x * 1048576 ∨ y < 0 ∧ x * 1048576 ≤ k * y) : k ≤ qUp x y := by
  have h1 := @qDown_le (-k) (-x) y hy (by rw [Int.neg_mul, Int.neg_mul]; omega)
  unfold qUp
  unfold qDown at h1
  rw [Int.neg_mul] at h1
  omega
/-- A quotient behind a product encloses what was there. -/
theorem div_encl {al ah bl bh : Int} (h : (mulS al ah bl bh).e = 0) :
    enclosesB (divS (mulS al ah bl bh).lo (mulS al ah bl bh).hi bl bh).lo (divS (mulS al ah bl bh).lo (mulS al ah bl bh).hi bl bh).hi (divS (mulS al ah bl bh).lo (mulS al ah bl bh).hi bl bh).e al ah = true := by
  obtain ⟨e, v1, v2, v3⟩ := mul_ok h
  rw [e]
  have b1 := valid_bd v1
  have b2 := valid_bd v2
  show enclosesB (divS (min4 fDown al ah bl bh) (max4 fUp al ah bl bh) bl bh).lo (divS (min4 fDown al ah bl bh) (max4 fUp al ah bl bh) bl bh).hi (divS (min4 fDown al ah bl bh) (max4 fUp al ah bl bh) bl bh).e al ah = true
  obtain ⟨m1, m2, m3, m4⟩ := min4_le fDown al ah bl bh
  obtain ⟨M1, M2, M3, M4⟩ := le_max4 fUp al ah bl bh
  rw [le_fDown] at m1 m2 m3 m4
  rw [fUp_le] at M1 M2 M3 M4
  generalize min4 fDown al ah bl bh = pl at *
  generalize max4 fUp al ah bl bh = ph at *
  unfold divS
  rw [if_pos (by simp [v2, v3])]
  split
  · simp [enclosesB]
  · rename_i z
    obtain ⟨n1, n2, n3, n4⟩ := min4_le qDown pl ph bl bh
    obtain ⟨N1, N2, N3, N4⟩ := le_max4 qUp pl ph bl bh
    refine encl_result ?_ ?_
    · by_cases p : 0 < bl
      · exact Int.le_trans n1 (qDown_le (by omega) (.inl ⟨p, m1⟩))
      · exact Int.le_trans n3 (qDown_le (by omega) (.inr ⟨by omega, M1⟩))
    · by_cases p : 0 < bl
      · exact Int.le_trans (le_qUp (by omega) (.inl ⟨p, M3⟩)) N3
      · exact Int.le_trans (le_qUp (by omega) (.inr ⟨by omega, m3⟩)) N1
/-- The product with a sum lies within the sum of the products. -/
theorem field_encl {al ah bl bh cl ch : Int} (h1 : (addS bl bh cl ch).e = 0) (h2 : (mulS al ah (addS bl bh cl ch).lo (addS bl bh cl ch).hi).e = 0) (h3 : (mulS al ah bl bh).e = 0) (h4 : (mulS al ah cl ch).e = 0) :
    enclosesB (addS (mulS al ah bl bh).lo (mulS al ah bl bh).hi (mulS al ah cl ch).lo (mulS al ah cl ch).hi).lo (addS (mulS al ah bl bh).lo (mulS al ah bl bh).hi (mulS al ah cl ch).lo (mulS al ah cl ch).hi).hi (addS (mulS al ah bl bh).lo (mulS al ah bl bh).hi (mulS al ah cl ch).lo (mulS al ah cl ch).hi).e (mulS al ah (addS bl bh cl ch).lo (addS bl bh cl ch).hi).lo (mulS al ah (addS bl bh cl ch).lo (addS bl bh cl ch).hi).hi = true := by
  obtain ⟨e1, u1, u2, u3⟩ := add_ok h1
  rw [e1] at h2 ⊢
  simp only at h2 ⊢
  obtain ⟨e2, -, -, -⟩ := mul_ok h2
  obtain ⟨e3, -, -, v3⟩ := mul_ok h3
  obtain ⟨e4, -, -, v4⟩ := mul_ok h4
  rw [e2, e3, e4]
  simp only
  obtain ⟨m1, m2, m3, m4⟩ := min4_le fDown al ah bl bh
  obtain ⟨M1, M2, M3, M4⟩ := le_max4 fUp al ah bl bh
  obtain ⟨n1, n2, n3, n4⟩ := min4_le fDown al ah cl ch
  obtain ⟨N1, N2, N3, N4⟩ := le_max4 fUp al ah cl ch
  rw [le_fDown] at m1 m2 m3 m4 n1 n2 n3 n4
  rw [fUp_le] at M1 M2 M3 M4 N1 N2 N3 N4
  unfold addS
  rw [if_pos (by simp [v3, v4])]
  refine encl_result (le_min4 ?_ ?_ ?_ ?_) (max4_le ?_ ?_ ?_ ?_)
  all_goals first | rw [le_fDown] | rw [fUp_le]
  all_goals rw [Int.mul_add, Int.add_mul]; omega
end Go.Proofs.Ytbhcjdgfcinpcaa
