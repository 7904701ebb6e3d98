/- Texts of meshes: plain facts. Conditions: those of each theorem. Contract: a line of a mesh's text, of the program. Conditions: the library's variables hold what start-up lays. Contracts: a builder of texts is written to, as this program's texts have it. Conditions: those of each theorem. Lines of the library's shelf, turned to this program. Contract: the text of a mesh, of the program. Conditions: the lists' lengths are ints; the library's variables hold what start-up lays. -/
import Derived.Test.YtbefphfgcbbcpaaDoorWds
import Derived.Test.YtbefphfgcbbcpaaDoorGrs
import Derived.Test.YtbefphfgcbbcpaaDoorSt
import Derived.Shelf.RegionOpenPlain
import Derived.Lib.Strings
import Derived.Lib.Slices
import Derived.Lib.Walk
import Derived.Lib.Builder
import Derived.Lib.AppendStr
import Derived.Lib.UnsafeStr
import Derived.Laws.Externs
namespace Go.Proofs.YtbefphfgcbbcpaaDoor
set_option linter.unusedVariables false
set_option linter.unusedSimpArgs false
open Go.RowKit
theorem itoa_noline (v : Int) : (10 : UInt8) ∉ Lib.itoa v := by
  intro hm
  unfold Lib.itoa at hm
  split at hm
  · rcases List.mem_cons.1 hm with h | h
    · cases h
    · have := dig_all _ _ h
      simp at this
  · have := dig_all _ _ hm
    simp at this
def pW : List UInt8 := [112, 111, 105, 110, 116]
def fW : List UInt8 := [102, 97, 99, 101]
/-- A line. -/
def lnL (wd : List UInt8) (a b c : Int) : List UInt8 := wd ++ 32 :: (Lib.itoa a ++ 32 :: (Lib.itoa b ++ 32 :: Lib.itoa c))
def lnP (wd : List UInt8) (P : Nat → Nat → Int) (i : Nat) : List UInt8 := lnL wd (P i 0) (P i 1) (P i 2)
def lns (wd : List UInt8) (P : Nat → Nat → Int) (n : Nat) : List (List UInt8) := (List.range n).map (lnP wd P)
/-- Lines, one below the other. -/
def flat (ls : List (List UInt8)) : List UInt8 := ls.flatMap fun x => x ++ [10]
def gL (n : Nat) (P : Nat → Nat → Int) (m : Nat) (F : Nat → Nat → Int) : List (List UInt8) := lns pW P n ++ lns fW F m
/-- The text of a mesh. -/
def gfmt (n : Nat) (P : Nat → Nat → Int) (m : Nat) (F : Nat → Nat → Int) : List UInt8 := flat (gL n P m F)
theorem flat_app (a b : List (List UInt8)) : flat (a ++ b) = flat a ++ flat b := by unfold flat; rw [List.flatMap_append]
theorem flat_one (x : List UInt8) : flat [x] = x ++ [10] := by simp [flat]
theorem lns_succ (wd : List UInt8) (P : Nat → Nat → Int) (n : Nat) : lns wd P (n + 1) = lns wd P n ++ [lnP wd P n] := by
  unfold lns
  rw [List.range_succ, List.map_append]
  rfl
theorem lns_len (wd : List UInt8) (P : Nat → Nat → Int) (n : Nat) : (lns wd P n).length = n := by simp [lns]
theorem gL_len (n : Nat) (P : Nat → Nat → Int) (m : Nat) (F : Nat → Nat → Int) : (gL n P m F).length = n + m := by simp [gL, lns_len]
theorem lns_at {wd : List UInt8} {P : Nat → Nat → Int} {n i : Nat} (h : i < n) : (lns wd P n).getD i [] = lnP wd P i := by
  unfold lns
  rw [List.getD_eq_getElem?_getD, List.getElem?_map, List.getElem?_range h]
  rfl
theorem gL_at {n m i : Nat} {P F : Nat → Nat → Int} (h : i < n + m) : (gL n P m F).getD i [] = if i < n then lnP pW P i else lnP fW F (i - n) := by
  unfold gL
  rw [List.getD_eq_getElem?_getD]
  split
  · rename_i q
    rw [List.getElem?_append_left (by rw [lns_len]; exact q), ← List.getD_eq_getElem?_getD, lns_at q]
  · rename_i q
    rw [List.getElem?_append_right (by rw [lns_len]; omega), lns_len, ← List.getD_eq_getElem?_getD, lns_at (by omega)]
theorem ln_no10 {wd : List UInt8} (h : (10 : UInt8) ∉ wd) (a b c : Int) : (10 : UInt8) ∉ lnL wd a b c := by
  intro hm
  have h1 := itoa_noline a
  have h2 := itoa_noline b
  have h3 := itoa_noline c
  simp only [lnL, List.mem_append, List.mem_cons] at hm
  rcases hm with q | q | q | q | q | q | q
  · exact h q
  · cases q
  · exact h1 q
  · cases q
  · exact h2 q
  · cases q
  · exact h3 q
theorem gL_no10 {n m : Nat} {P F : Nat → Nat → Int} : ∀ x ∈ gL n P m F, (10 : UInt8) ∉ x := by
  intro x hx
  unfold gL lns at hx
  rcases List.mem_append.1 hx with h | h
  · obtain ⟨i, -, rfl⟩ := List.mem_map.1 h
    exact ln_no10 (by decide) _ _ _
  · obtain ⟨i, -, rfl⟩ := List.mem_map.1 h
    exact ln_no10 (by decide) _ _ _
theorem wds_lines : ∀ (ls : List (List UInt8)) (z : List UInt8), (∀ x ∈ ls, (10 : UInt8) ∉ x) → wds 10 (flat ls ++ z) = ls ++ wds 10 z
  | [], z, _ => rfl
  | x :: ls, z, h => by
    have e : flat (x :: ls) ++ z = x ++ 10 :: (flat ls ++ z) := by simp [flat]
    rw [e, wds_app _ (h x (by simp)), wds_lines ls z (fun y hy => h y (List.mem_cons_of_mem _ hy))]
    rfl
theorem wds_flatl {ls : List (List UInt8)} (h : ∀ x ∈ ls, (10 : UInt8) ∉ x) : wds 10 (flat ls) = ls ++ [[]] := by
  have := wds_lines ls [] h
  rw [List.append_nil] at this
  rw [this]
  rfl
/-- The text without its last line's end. -/
theorem trim_flat {ls : List (List UInt8)} (h0 : ls ≠ []) (h : ∀ x ∈ ls, (10 : UInt8) ∉ x) : wds 10 (Lib.trimSuffix (flat ls) [10]) = ls := by
  obtain ⟨xs, x, rfl⟩ : ∃ xs x, ls = xs ++ [x] := ⟨ls.dropLast, ls.getLast h0, (List.dropLast_concat_getLast h0).symm⟩
  have e : flat (xs ++ [x]) = (flat xs ++ x) ++ [10] := by rw [flat_app, flat_one, List.append_assoc]
  have e2 : Lib.trimSuffix (flat (xs ++ [x])) [10] = flat xs ++ x := by
    rw [e]
    unfold Lib.trimSuffix Lib.hasSuffix
    rw [if_pos (List.isSuffixOf_iff_suffix.2 (List.suffix_append _ _)), List.length_append, List.length_singleton, Nat.add_sub_cancel]
    exact List.take_left' rfl
  rw [e2, wds_lines xs x (fun y hy => h y (List.mem_append_left _ hy)), wds_none (h x (by simp))]
theorem trim_len (l p : List UInt8) : (Lib.trimSuffix l p).length ≤ l.length := by
  unfold Lib.trimSuffix
  split
  · rw [List.length_take]; omega
  · omega
theorem wds_ln {wd : List UInt8} (h : (32 : UInt8) ∉ wd) (a b c : Int) : wds 32 (lnL wd a b c) = [wd, Lib.itoa a, Lib.itoa b, Lib.itoa c] := by
  unfold lnL
  rw [wds_app _ h, wds_app _ (itoa_nospace a), wds_app _ (itoa_nospace b), wds_none (itoa_nospace c)]
theorem wds_lnp (P : Nat → Nat → Int) (i : Nat) : wds 32 (lnP pW P i) = [pW, Lib.itoa (P i 0), Lib.itoa (P i 1), Lib.itoa (P i 2)] := wds_ln (by decide) _ _ _
theorem wds_lnf (P : Nat → Nat → Int) (i : Nat) : wds 32 (lnP fW P i) = [fW, Lib.itoa (P i 0), Lib.itoa (P i 1), Lib.itoa (P i 2)] := wds_ln (by decide) _ _ _
/-- What a valid mesh holds. -/
theorem valid_in {n m : Nat} {P F : Nat → Nat → Int} (h : validE n P m F = 0) : (n ≤ 64 ∧ 1 ≤ m ∧ m ≤ 96) ∧ (∀ i, i < n → ∀ j, j < 3 → -64 ≤ P i j ∧ P i j ≤ 64) ∧ ∀ i, i < m → ∀ j, j < 3 → 0 ≤ F i j ∧ F i j < 64 := by
  unfold validE at h
  split at h
  · omega
  rename_i h1
  split at h
  · omega
  rename_i h2
  split at h
  · omega
  rename_i h3
  have h1' : largeB n m = false := by simpa using h1
  simp only [largeB, Bool.or_eq_false_iff, decide_eq_false_iff_not, Bool.not_eq_false', decide_eq_true_eq] at h1'
  obtain ⟨k1, k2⟩ := h1'
  refine ⟨by omega, fun i hi j hj => ?_, fun i hi j hj => ?_⟩
  · have h4 := of_any_false (show ptsBad P n = false by simpa using h2) i hi
    simp only [ptBad, Bool.or_eq_false_iff, Bool.not_eq_false'] at h4
    have h5 := h4.1
    simp only [inB, frB, Bool.and_eq_true, decide_eq_true_eq] at h5
    rcases (show j = 0 ∨ j = 1 ∨ j = 2 by omega) with rfl | rfl | rfl <;> omega
  · have h4 := (faceE_0 (facesE_at (by simpa using h3) i hi)).1
    simp only [cornB, Bool.and_eq_true, decide_eq_true_eq] at h4
    rcases (show j = 0 ∨ j = 1 ∨ j = 2 by omega) with rfl | rfl | rfl <;> omega
theorem gfmt_lines (n : Nat) (P : Nat → Nat → Int) (m : Nat) (F : Nat → Nat → Int) : wds 10 (gfmt n P m F) = gL n P m F ++ [[]] := wds_flatl gL_no10
theorem gL_inj {n m n' m' : Nat} {P F P' F' : Nat → Nat → Int} (h : gL n P m F = gL n' P' m' F') (h1 : validE n P m F = 0) (h2 : validE n' P' m' F' = 0) :
    n = n' ∧ m = m' ∧ (∀ i, i < n → ∀ j, j < 3 → P i j = P' i j) ∧ ∀ i, i < m → ∀ j, j < 3 → F i j = F' i j := by
  have hl : n + m = n' + m' := by rw [← gL_len n P m F, h, gL_len]
  obtain ⟨a1, a2, a3⟩ := valid_in h1
  obtain ⟨b1, b2, b3⟩ := valid_in h2
  have hat : ∀ i, i < n + m → (if i < n then lnP pW P i else lnP fW F (i - n)) = (if i < n' then lnP pW P' i else lnP fW F' (i - n')) := fun i hi => by
    rw [← gL_at hi, h, gL_at (by omega)]
  have far : ∀ (P F : Nat → Nat → Int) i k, lnP pW P i ≠ lnP fW F k := fun P F i k e => by
    have := congrArg (wds 32) e
    rw [wds_lnp, wds_lnf] at this
    simp [pW, fW] at this
  have hn : n = n' := by
    rcases Nat.lt_trichotomy n n' with q | q | q
    · have := hat n (by omega)
      rw [if_neg (by omega), if_pos q] at this
      exact absurd this.symm (far _ _ _ _)
    · exact q
    · have := hat n' (by omega)
      rw [if_pos q, if_neg (by omega)] at this
      exact absurd this (far _ _ _ _)
  subst hn
  refine ⟨rfl, by omega, fun i hi j hj => ?_, fun i hi j hj => ?_⟩
  · have := hat i (by omega)
    rw [if_pos hi, if_pos hi] at this
    have := congrArg (wds 32) this
    rw [wds_lnp, wds_lnp] at this
    simp only [List.cons.injEq, and_true, true_and] at this
    obtain ⟨e0, e1, e2⟩ := this
    have c := fun j hj => a2 i hi j hj
    have d := fun j hj => b2 i hi j hj
    rcases (show j = 0 ∨ j = 1 ∨ j = 2 by omega) with rfl | rfl | rfl
    · have := c 0 hj; have := d 0 hj; exact itoa_inj (by omega) (by omega) e0
    · have := c 1 hj; have := d 1 hj; exact itoa_inj (by omega) (by omega) e1
    · have := c 2 hj; have := d 2 hj; exact itoa_inj (by omega) (by omega) e2
  · have := hat (n + i) (by omega)
    rw [if_neg (by omega), if_neg (by omega), show n + i - n = i by omega] at this
    have := congrArg (wds 32) this
    rw [wds_lnf, wds_lnf] at this
    simp only [List.cons.injEq, and_true, true_and] at this
    obtain ⟨e0, e1, e2⟩ := this
    have c := fun j hj => a3 i hi j hj
    have d := fun j hj => b3 i (by omega) j hj
    rcases (show j = 0 ∨ j = 1 ∨ j = 2 by omega) with rfl | rfl | rfl
    · have := c 0 hj; have := d 0 hj; exact itoa_inj (by omega) (by omega) e0
    · have := c 1 hj; have := d 1 hj; exact itoa_inj (by omega) (by omega) e1
    · have := c 2 hj; have := d 2 hj; exact itoa_inj (by omega) (by omega) e2
theorem gfmt_inj {n m n' m' : Nat} {P F P' F' : Nat → Nat → Int} (h : gfmt n P m F = gfmt n' P' m' F') (h1 : validE n P m F = 0) (h2 : validE n' P' m' F' = 0) :
    n = n' ∧ m = m' ∧ (∀ i, i < n → ∀ j, j < 3 → P i j = P' i j) ∧ ∀ i, i < m → ∀ j, j < 3 → F i j = F' i j := by
  have := congrArg (wds 10) h
  rw [gfmt_lines, gfmt_lines, List.append_cancel_right_eq] at this
  exact gL_inj this h1 h2
theorem itoa_short {v : Int} (h : -64 ≤ v ∧ v ≤ 64) : (Lib.itoa v).length ≤ 3 := by
  have k : ((List.range 129).all fun k => decide ((Lib.itoa ((k : Int) - 64)).length ≤ 3)) = true := by kernel_rfl
  have := List.all_eq_true.1 k (v + 64).toNat (List.mem_range.2 (by omega))
  rw [show (((v + 64).toNat : Nat) : Int) - 64 = v by omega] at this
  exact of_decide_eq_true this
theorem ln_len {wd : List UInt8} {a b c : Int} (hw : wd.length ≤ 5) (ha : -64 ≤ a ∧ a ≤ 64) (hb : -64 ≤ b ∧ b ≤ 64) (hc : -64 ≤ c ∧ c ≤ 64) : (lnL wd a b c).length ≤ 17 := by
  have h1 := itoa_short ha
  have h2 := itoa_short hb
  have h3 := itoa_short hc
  unfold lnL
  simp only [List.length_append, List.length_cons]
  omega
theorem flat_len : ∀ {ls : List (List UInt8)}, (∀ x ∈ ls, x.length ≤ 17) → (flat ls).length ≤ 18 * ls.length
  | [], _ => by simp [flat]
  | x :: r, h => by
    have ih := flat_len (ls := r) (fun y hy => h y (List.mem_cons_of_mem _ hy))
    have hx := h x (by simp)
    rw [show flat (x :: r) = x ++ [10] ++ flat r by simp [flat], List.length_append, List.length_append, List.length_singleton]
    simp only [List.length_cons]
    omega
theorem lns_short {wd : List UInt8} {P : Nat → Nat → Int} (hw : wd.length ≤ 5) : ∀ {n k : Nat}, k ≤ n → (∀ i, i < n → ∀ j, j < 3 → -64 ≤ P i j ∧ P i j ≤ 64) → ∀ x ∈ lns wd P k, x.length ≤ 17 := by
  intro n k hk h x hx
  obtain ⟨i, hi, rfl⟩ := List.mem_map.1 hx
  have hi := List.mem_range.1 hi
  exact ln_len hw (h i (by omega) 0 (by omega)) (h i (by omega) 1 (by omega)) (h i (by omega) 2 (by omega))
theorem gfmt_len {n m : Nat} {P F : Nat → Nat → Int} (h : validE n P m F = 0) : (gfmt n P m F).length ≤ 2880 := by
  obtain ⟨a1, a2, a3⟩ := valid_in h
  have : (gfmt n P m F).length ≤ 18 * (gL n P m F).length := flat_len fun x hx => by
    unfold gL at hx
    rcases List.mem_append.1 hx with q | q
    · exact lns_short (by decide) (Nat.le_refl _) a2 x q
    · exact lns_short (by decide) (Nat.le_refl _) (fun i hi j hj => by have := a3 i hi j hj; omega) x q
  rw [gL_len] at this
  omega
/-- What is known of the lines read: they are the first lines of whatever mesh the text may be of. -/
def Acc (l : List UInt8) (i np : Nat) (p : Nat → Nat → Int) (nf : Nat) (f : Nat → Nat → Int) : Prop :=
  np + nf = i ∧ ∀ n P m F, validE n P m F = 0 → l = gfmt n P m F → i ≤ n + m ∧ np = min i n ∧ (∀ k, k < np → ∀ j, j < 3 → p k j = P k j) ∧ ∀ k, k < nf → ∀ j, j < 3 → f k j = F k j
/-- What is known of one line's words and numbers. -/
def LnOk (l : List UInt8) (i : Nat) (wd : List UInt8) (z0 z1 z2 : Int) : Prop :=
  ∀ n P m F, validE n P m F = 0 → l = gfmt n P m F → i < n + m ∧ ((i < n ∧ wd = pW ∧ P i 0 = z0 ∧ P i 1 = z1 ∧ P i 2 = z2) ∨ (n ≤ i ∧ wd = fW ∧ F (i - n) 0 = z0 ∧ F (i - n) 1 = z1 ∧ F (i - n) 2 = z2))
def addF (p : Nat → Nat → Int) (np : Nat) (z0 z1 z2 : Int) : Nat → Nat → Int := fun k j => if k < np then p k j else if j = 0 then z0 else if j = 1 then z1 else z2
theorem Acc.start (l : List UInt8) : Acc l 0 0 (fun _ _ => 0) 0 (fun _ _ => 0) := ⟨rfl, fun n P m F _ _ => ⟨by omega, by omega, fun k hk => absurd hk (by omega), fun k hk => absurd hk (by omega)⟩⟩
theorem Acc.pt {l : List UInt8} {i np nf : Nat} {p f : Nat → Nat → Int} {z0 z1 z2 : Int} (h : Acc l i np p nf f) (hl : LnOk l i pW z0 z1 z2) : Acc l (i + 1) (np + 1) (addF p np z0 z1 z2) nf f := by
  obtain ⟨h1, h2⟩ := h
  refine ⟨by omega, fun n P m F hv e => ?_⟩
  obtain ⟨a1, a2, a3, a4⟩ := h2 n P m F hv e
  obtain ⟨b1, b2⟩ := hl n P m F hv e
  rcases b2 with ⟨b3, -, c0, c1, c2⟩ | ⟨-, b3, -⟩
  · refine ⟨by omega, by omega, fun k hk j hj => ?_, a4⟩
    unfold addF
    split
    · rename_i q; exact a3 k q j hj
    · obtain rfl : k = i := by omega
      rcases (show j = 0 ∨ j = 1 ∨ j = 2 by omega) with rfl | rfl | rfl
      · exact c0.symm
      · exact c1.symm
      · exact c2.symm
  · cases b3
theorem Acc.fc {l : List UInt8} {i np nf : Nat} {p f : Nat → Nat → Int} {wd : List UInt8} {z0 z1 z2 : Int} (h : Acc l i np p nf f) (hl : LnOk l i wd z0 z1 z2) (hw : wd ≠ pW) : Acc l (i + 1) np p (nf + 1) (addF f nf z0 z1 z2) := by
  obtain ⟨h1, h2⟩ := h
  refine ⟨by omega, fun n P m F hv e => ?_⟩
  obtain ⟨a1, a2, a3, a4⟩ := h2 n P m F hv e
  obtain ⟨b1, b2⟩ := hl n P m F hv e
  rcases b2 with ⟨-, b3, -⟩ | ⟨b3, -, c0, c1, c2⟩
  · exact absurd b3 hw
  · refine ⟨by omega, by omega, a3, fun k hk j hj => ?_⟩
    unfold addF
    split
    · rename_i q; exact a4 k q j hj
    · obtain rfl : k = i - n := by omega
      rcases (show j = 0 ∨ j = 1 ∨ j = 2 by omega) with rfl | rfl | rfl
      · exact c0.symm
      · exact c1.symm
      · exact c2.symm
/-- The words of a line. -/
theorem ln_words {ls : List (List UInt8)} {n m i : Nat} {P F : Nat → Nat → Int} (h : i < n + m) (e : ls.getD i [] = (gL n P m F).getD i []) :
    (i < n ∧ wds 32 (ls.getD i []) = [pW, Lib.itoa (P i 0), Lib.itoa (P i 1), Lib.itoa (P i 2)]) ∨ (n ≤ i ∧ wds 32 (ls.getD i []) = [fW, Lib.itoa (F (i - n) 0), Lib.itoa (F (i - n) 1), Lib.itoa (F (i - n) 2)]) := by
  rw [e, gL_at h]
  split
  · rename_i q; exact .inl ⟨q, wds_lnp _ _⟩
  · exact .inr ⟨by omega, wds_lnf _ _⟩
/-- What reading a text of a mesh gives. -/
def ParseG (l : List UInt8) (e : Ending) (w' : World) : Prop :=
  (∃ n P m F, validE n P m F = 0 ∧ l = gfmt n P m F ∧ ∃ A cap B cap2, e = .returned (.tuple #[.agg #[.slice A n cap, .slice B m cap2], .int .i64 0]) ∧ RowsAt w' A n 3 P ∧ RowsAt w' B m 3 F) ∨
  ((∀ n P m F, validE n P m F = 0 → l ≠ gfmt n P m F) ∧ e = .returned (.tuple #[.agg #[.slice none 0 0, .slice none 0 0], .int .i64 (if 8000 < l.length then 4 else 3)]))
theorem parseG_det (l : List UInt8) : ∃ (c : Int) (n : Nat) (P : Nat → Nat → Int) (m : Nat) (F : Nat → Nat → Int), (n ≤ 1000 ∧ m ≤ 1000) ∧ ∀ e w', ParseG l e w' → ∃ A cap B cap2, e = .returned (.tuple #[.agg #[.slice A n cap, .slice B m cap2], .int .i64 c]) ∧ RowsAt w' A n 3 P ∧ RowsAt w' B m 3 F := by
  by_cases h : ∃ n P m F, validE n P m F = 0 ∧ l = gfmt n P m F
  · obtain ⟨n, P, m, F, h1, h2⟩ := h
    have hv := (valid_in h1).1
    refine ⟨0, n, P, m, F, by omega, fun e w' he => ?_⟩
    rcases he with ⟨n', P', m', F', k1, k2, A, cap, B, cap2, k3, k4, k5⟩ | ⟨k1, -⟩
    · rw [h2] at k2
      obtain ⟨rfl, rfl, e1, e2⟩ := gfmt_inj k2 h1 k1
      exact ⟨A, cap, B, cap2, k3, k4.congr fun i hi j hj => (e1 i hi j hj).symm, k5.congr fun i hi j hj => (e2 i hi j hj).symm⟩
    · exact absurd h2 (k1 n P m F h1)
  · refine ⟨if 8000 < l.length then 4 else 3, 0, fun _ _ => 0, 0, fun _ _ => 0, by omega, fun e w' he => ?_⟩
    rcases he with ⟨n', P', m', F', k1, k2, -⟩ | ⟨-, k2⟩
    · exact absurd ⟨n', P', m', F', k1, k2⟩ h
    · exact ⟨none, 0, none, 0, k2, RowsAt.nil0, RowsAt.nil0⟩
end Go.Proofs.YtbefphfgcbbcpaaDoor
namespace Go.Proofs.YtbefphfgcbbcpaaDoor
set_option linter.unusedVariables false
set_option linter.unusedSimpArgs false
open Go.ChangeShapes Go.WideShapes Go.ChangeAt Go.RowKit
theorem ba_app (a b : List UInt8) : (⟨a.toArray⟩ : ByteArray) ++ ⟨b.toArray⟩ = ⟨(a ++ b).toArray⟩ := by
  apply ByteArray.ext
  simp
set_option maxRecDepth 100000 in
set_option maxHeartbeats 4000000 in
theorem srow_any (wd : List UInt8) (a b c : Int) (w : World) (hw : wd.length ≤ 5) (hb : (-64 ≤ a ∧ a ≤ 64) ∧ (-64 ≤ b ∧ b ≤ 64) ∧ (-64 ≤ c ∧ c ≤ 64)) (h : Ld w) :
    Calls Tryd.prog 21 #[.string ⟨wd.toArray⟩, .agg #[.int .i64 a, .int .i64 b, .int .i64 c]] w fun e w' => e = .returned (.string ⟨(lnL wd a b c ++ [10]).toArray⟩) ∧ Kept w w' := by
  have la := itoa_short hb.1
  have lb := itoa_short hb.2.1
  have lc := itoa_short hb.2.2
  have ha : ∀ w', Kept w w' → _ := fun w' hk => sItoa a w' (by omega) (h.on hk)
  have hbb : ∀ w', Kept w w' → _ := fun w' hk => sItoa b w' (by omega) (h.on hk)
  have hc : ∀ w', Kept w w' → _ := fun w' hk => sItoa c w' (by omega) (h.on hk)
  have HA := Lib.hid ha
  have HB := Lib.hid hbb
  have HC := Lib.hid hc
  clear ha hbb hc hb h
  go_enter Tryd.func21, Tryd.ntmps21
  go_wp2_with fail
  refine wp_loop_rounds 4 ?_
  rw [rounds_succ]
  go_wp2_with (go_at_call 34; refine (HA.out _ (by (repeat (first | exact Kept.refl _ | assumption | refine Kept.alloc ?_ _ | refine Kept.ext ?_ _ | refine Kept.drew ?_ | refine Kept.drewN ?_ _)))).mono ?_; rintro e w1 ⟨rfl, x1, rfl⟩)
  rw [rounds_succ]
  go_wp2_with (go_at_call 34; refine (HB.out _ (by (repeat (first | exact Kept.refl _ | assumption | refine Kept.alloc ?_ _ | refine Kept.ext ?_ _ | refine Kept.drew ?_ | refine Kept.drewN ?_ _)))).mono ?_; rintro e w1 ⟨rfl, x2, rfl⟩)
  rw [rounds_succ]
  go_wp2_with (go_at_call 34; refine (HC.out _ (by (repeat (first | exact Kept.refl _ | assumption | refine Kept.alloc ?_ _ | refine Kept.ext ?_ _ | refine Kept.drew ?_ | refine Kept.drewN ?_ _)))).mono ?_; rintro e w1 ⟨rfl, x3, rfl⟩)
  rw [rounds_succ]
  go_wp2_with fail
  refine bodyPost_ret (by simp only [results, Tryd.results21]; go_simp; rfl) rfl ?_
  refine ⟨?_, by (repeat (first | exact Kept.refl _ | assumption | refine Kept.alloc ?_ _ | refine Kept.ext ?_ _ | refine Kept.drew ?_ | refine Kept.drewN ?_ _))⟩
  rw [show (#[32] : Array UInt8) = [32].toArray from rfl, show (#[10] : Array UInt8) = [10].toArray from rfl]
  simp only [ba_app]
  simp [lnL]
end Go.Proofs.YtbefphfgcbbcpaaDoor
namespace Go.Proofs.YtbefphfgcbbcpaaDoor
set_option linter.unusedVariables false
set_option linter.unusedSimpArgs false
open Go.ChangeShapes Go.WideShapes Go.ChangeAt Go.RowKit
theorem infoBld : (Tryd.prog.info? 51).map (·.size) = some 2 := by kernel_rfl
theorem infoByte0 : (Tryd.prog.info? 5).map (fun i => (i.zero, i.size, i.bytes)) = some (some (.int .u8 0), 1, 1) := by kernel_rfl
set_option maxRecDepth 100000 in
set_option maxHeartbeats 2000000 in
theorem bldUsed (b : Nat) (w : World) (h0 : w.cell? ⟨b, 0, none⟩ = some (.pointer (some ⟨b, 0, none⟩))) :
    Calls Tryd.prog 51 #[.pointer (some ⟨b, 0, none⟩)] w fun e w' => e = .returned (.tuple #[]) ∧ w' = w := by
  obtain ⟨j, hj, _⟩ := Option.map_eq_some_iff.1 infoBld
  go_enter Tryd.func51, Tryd.ntmps51
  go_wp2
  rw [Lib.run_neq_ptr_same w _ Tryd.underlying48 hj]
  go_wp2
  go_end0
  exact ⟨rfl, rfl⟩
set_option maxRecDepth 100000 in
set_option maxHeartbeats 2000000 in
theorem bldFresh (b : Nat) (w : World) (h0 : w.cell? ⟨b, 0, none⟩ = some (.pointer none)) (hsh : w.shape? b = some (51, 2)) (hfz : w.frozen? ⟨b, 0, none⟩ = false) :
    Calls Tryd.prog 51 #[.pointer (some ⟨b, 0, none⟩)] w fun e w' => e = .returned (.tuple #[]) ∧ w' = w.setCell ⟨b, 0, none⟩ (.pointer (some ⟨b, 0, none⟩)) := by
  obtain ⟨j, hj, hjs⟩ := Option.map_eq_some_iff.1 infoBld
  go_enter Tryd.func51, Tryd.ntmps51
  go_wp2
  rw [Lib.run_to_unsafe w ⟨b, 0, none⟩ Tryd.underlying48 Tryd.underlying120 hj (by rw [hjs]; decide) hsh (Nat.zero_lt_succ 1)]
  simp only [Result.andThen]
  rw [Oper.upon_value]
  go_wp2
  rw [run_callFunc_extern Tryd.func78 (by kernel_rfl) (by kernel_rfl) (by kernel_rfl) (e := Extern.AbiNoEscape.same) (by kernel_rfl)]
  rw [Lib.run_noEscape]
  simp only [Result.andThen]
  rw [Oper.upon_value]
  go_wp2
  rw [Lib.run_from_unsafe w ⟨b, 0, none⟩ Tryd.underlying120 Tryd.underlying48 hj hsh (by kernel_rfl)]
  simp only [Result.andThen]
  rw [Oper.upon_value]
  go_wp2
  go_end0
  exact ⟨rfl, rfl⟩
theorem bldCheck (B b : Nat) (bs : List Value) (w : World) (h : Lib.IsBuilder 51 5 B b bs w) :
    Calls Tryd.prog 51 #[.pointer (some ⟨b, 0, none⟩)] w fun e w' => e = .returned (.tuple #[]) ∧ (Lib.BuilderAt 51 5 B b (.pointer (some ⟨b, 0, none⟩)) bs w' ∧ Below B w w') := by
  rcases h with h | h
  · refine (bldFresh b w h.cell0 h.shape h.frozen0).mono ?_
    rintro e w' ⟨rfl, rfl⟩
    exact ⟨rfl, h.used _, (Below.refl B w).setCell (p := ⟨b, 0, none⟩) h.1 _⟩
  · refine (bldUsed b w h.cell0).mono ?_
    rintro e w' ⟨rfl, rfl⟩
    exact ⟨rfl, h, Below.refl B _⟩
set_option maxHeartbeats 2000000 in
set_option maxRecDepth 100000 in
theorem bldWrite (B b : Nat) (bs : List Value) (s : ByteArray) (w : World) (h : Lib.IsBuilder 51 5 B b bs w) (hlen : bs.length + s.size ≤ 140737488355328) (hBw : B ≤ w.heap.size) :
    Calls Tryd.prog 20 #[.pointer (some ⟨b, 0, none⟩), .string s] w fun e w' => e = .returned (.tuple #[.int .i64 s.size, .nilIface]) ∧ (Lib.BuilderAt 51 5 B b (.pointer (some ⟨b, 0, none⟩)) (bs ++ Lib.strCells s) w' ∧ Below B w w') := by
  obtain ⟨i0, hi, hz0, hz1, hz2⟩ := info_parts infoByte0
  go_enter Tryd.func20, Tryd.ntmps20
  go_wp2_with (go_at_call 51; refine (bldCheck B b bs _ h).mono ?_)
  rintro e w1 ⟨rfl, h1, hb1⟩
  obtain ⟨hB, v, hbk, hown, hne⟩ := h1
  have c0 : w1.cell? ⟨b, 0, none⟩ = some (.pointer (some ⟨b, 0, none⟩)) := by rw [Lib.cell_of_heap hbk]; rfl
  have c1 : w1.cell? ⟨b, 1, none⟩ = some v := by rw [Lib.cell_of_heap hbk]; rfl
  go_wp2_with (at_builtin; refine Lib.wpList_append_own_string _ rfl _ _ 49 9 rfl B 5 i0 Tryd.underlying49 Tryd.underlying9 hi hz0 hz1 hz2 _ _ _ rfl hown s rfl ?c3 ?c4 ?c5 ?_)
  case c3 => unfold maxLen; omega
  case c4 => omega
  case c5 => have := hb1.size; omega
  intro v' w2 hown' hgrow _
  have hlt : b < w1.heap.size := by
    rcases Nat.lt_or_ge b w1.heap.size with h' | h'
    · exact h'
    · simp [Array.getElem?_eq_none h'] at hbk
  have hb2 : w2.heap[b]? = some (.cells #[.pointer (some ⟨b, 0, none⟩), v] 51 (0, 0)) := by
    rw [hgrow.block b hlt (fun e => hne e.symm)]
    exact hbk
  have d0 : w2.cell? ⟨b, 0, none⟩ = some (.pointer (some ⟨b, 0, none⟩)) := by rw [Lib.cell_of_heap hb2]; rfl
  have d1 : w2.cell? ⟨b, 1, none⟩ = some v := by rw [Lib.cell_of_heap hb2]; rfl
  have f1 : w2.frozen? ⟨b, 1, none⟩ = false := Lib.frozen_of_heap hb2 1
  obtain ⟨ao, n', cap, rfl⟩ : ∃ ao n' cap, v' = .slice ao n' cap := by
    rcases hown'.2 with ⟨hv, _⟩ | ⟨g, cap, cur, hv, _⟩
    · exact ⟨_, _, _, hv⟩
    · exact ⟨_, _, _, hv⟩
  go_wp2
  go_ret2
  refine ⟨rfl, ?_, ?_⟩
  · exact Lib.BuilderAt.put (T := 51) (e := 5) hB hb2 (bs' := bs ++ Lib.strCells s) (by simpa [Lib.strCells_length] using hown') (by decide)
  · exact (hb1.grown hgrow (by have := hb1.size; omega) (fun k hk => (hown.lt k hk).1)).setCell (p := ⟨b, 1, none⟩) hB _
end Go.Proofs.YtbefphfgcbbcpaaDoor
namespace Go.Proofs.YtbefphfgcbbcpaaDoor
set_option linter.unusedVariables false
set_option linter.unusedSimpArgs false
open Go.ChangeShapes Go.WideShapes Go.ChangeAt Go.RowKit Go.Deep
theorem flat_step (wd : List UInt8) (P : Nat → Nat → Int) (k : Nat) : flat (lns wd P (k + 1)) = flat (lns wd P k) ++ (lnL wd (P k 0) (P k 1) (P k 2) ++ [10]) := by
  rw [lns_succ, flat_app, flat_one]
  rfl
theorem isB_kept {T e : TypeId} {B b : Nat} {bs : List Value} {w w' : World} (h : Lib.IsBuilder T e B b bs w) (hk : Kept w w') : Lib.IsBuilder T e B b bs w' := by
  have go : ∀ p, Lib.BuilderAt T e B b p bs w → Lib.BuilderAt T e B b p bs w' := fun p hp => by
    obtain ⟨h1, v, h2, h3, h4⟩ := hp
    exact ⟨h1, v, fr_kept h2 hk, owns_kept h3 hk, h4⟩
  rcases h with h | h
  · exact .inl (go _ h)
  · exact .inr (go _ h)
theorem byteCells_app (a b : List UInt8) : Lib.byteCells a ++ Lib.strCells ⟨b.toArray⟩ = Lib.byteCells (a ++ b) := by
  show Lib.byteCells a ++ Lib.byteCells b = _
  simp [Lib.byteCells]
theorem bldOn {W0 wr : World} {b : Nat} {t x : List UInt8} (hs : W0.heap.size = b) (hk : Kept W0 wr) (hB : Lib.IsBuilder 51 5 b b (Lib.byteCells t) wr) (ht : t.length ≤ 10000) (hx : x.length ≤ 100) :
    ∀ w', Kept wr w' → Calls Tryd.prog 20 #[.pointer (some ⟨b, 0, none⟩), .string ⟨x.toArray⟩] w' fun e w'' => (∃ v, e = .returned (.tuple #[v, .nilIface])) ∧ Lib.IsBuilder 51 5 b b (Lib.byteCells (t ++ x)) w'' ∧ Kept W0 w'' := by
  intro w' hk'
  have hx2 : (⟨x.toArray⟩ : ByteArray).size = x.length := by show x.toArray.size = _; simp
  have h1 := (hk.trans hk').below
  rw [hs] at h1
  refine (bldWrite b b (Lib.byteCells t) ⟨x.toArray⟩ w' (isB_kept hB hk') (by rw [Lib.byteCells_length, hx2]; omega) (by rw [← hs]; exact kept_size (hk.trans hk'))).mono ?_
  rintro e w'' ⟨rfl, h2, h3⟩
  rw [byteCells_app] at h2
  refine ⟨⟨_, rfl⟩, .inr h2, Kept.of_below ?_⟩
  rw [hs]
  exact h1.trans h3
set_option maxRecDepth 100000 in
set_option maxHeartbeats 8000000 in
theorem sFmt_any (A B : Option Addr) (n cap m cap2 : Nat) (P F : Nat → Nat → Int) (w : World) (hn : n ≤ 9223372036854775807 ∧ m ≤ 9223372036854775807) (hP : RowsAt w A n 3 P) (hF : RowsAt w B m 3 F) (h : Ld w) :
    Calls Tryd.prog 7 #[.agg #[.slice A n cap, .slice B m cap2]] w fun e w' => e = .returned (.tuple #[.string ⟨(if validE n P m F = 0 then gfmt n P m F else []).toArray⟩, .int .i64 (validE n P m F)]) ∧ Kept w w' := by
  have HP := Lib.hid hP
  have HF := Lib.hid hF
  have HL := Lib.hid h
  clear hP hF h
  by_cases hv : validE n P m F = 0
  · obtain ⟨⟨k1, k2, k3⟩, k4, k5⟩ := valid_in hv
    have HV := Lib.hid hv
    have H4 := Lib.hid k4
    have H5 := Lib.hid k5
    clear hv k4 k5
    go_enter Tryd.func7, Tryd.ntmps7
    go_wp2_with (go_at_call 19; refine (svalidate_any _ _ _ _ _ _ P F _ hn (HP.out.of (by (repeat (first | exact Kept.refl _ | assumption | refine Kept.alloc ?_ _ | refine Kept.ext ?_ _ | refine Kept.drew ?_ | refine Kept.drewN ?_ _)))) (HF.out.of (by (repeat (first | exact Kept.refl _ | assumption | refine Kept.alloc ?_ _ | refine Kept.ext ?_ _ | refine Kept.drew ?_ | refine Kept.drewN ?_ _))))).mono ?_; rintro e w1 ⟨rfl, x0, rfl⟩; rw [HV.out])
    have hsz : (ext (w.alloc (.cells #[.slice A n cap, .slice B m cap2] 25)) x0).heap.size = (adv (w.heap.size + 1) x0.obs.size) := by rw [ext_size, World.size_alloc]
    have HSZ := Lib.hid hsz
    have hb0 : Lib.IsBuilder 51 5 (adv (w.heap.size + 1) x0.obs.size) (adv (w.heap.size + 1) x0.obs.size) [] ((ext (w.alloc (.cells #[.slice A n cap, .slice B m cap2] 25)) x0).alloc (.cells #[.pointer none, .slice none 0 0] 51)) := by
      have := Lib.fresh_isBuilder 51 5 (ext (w.alloc (.cells #[.slice A n cap, .slice B m cap2] 25)) x0)
      rwa [hsz] at this
    have HB0 := Lib.hid hb0
    clear hsz hb0
    go_loopw [18] (fun i wr => ∃ r : Nat, r ≤ n ∧ i = .int .i64 r ∧ Kept (ext (w.alloc (.cells #[.slice A n cap, .slice B m cap2] 25)) x0) wr ∧ Lib.IsBuilder 51 5 (adv (w.heap.size + 1) x0.obs.size) (adv (w.heap.size + 1) x0.obs.size) (Lib.byteCells (flat (lns pW P r))) wr) (fun i _ => n - (intOf i).toNat)
    case atStart => exact ⟨0, by omega, rfl, by (repeat (first | exact Kept.refl _ | assumption | refine Kept.alloc ?_ _ | refine Kept.ext ?_ _ | refine Kept.drew ?_ | refine Kept.drewN ?_ _)), HB0.out⟩
    case round =>
      obtain ⟨r, hr, rfl, hk, hB⟩ := hrel
      have hk0 : Kept w wr := (by (repeat (first | exact Kept.refl _ | assumption | refine Kept.alloc ?_ _ | refine Kept.ext ?_ _ | refine Kept.drew ?_ | refine Kept.drewN ?_ _)) : Kept w (ext (w.alloc (.cells #[.slice A n cap, .slice B m cap2] 25)) x0)).trans hk
      by_cases hlt : r < n
      · obtain ⟨b, off, rfl, hb, f0, f1, f2⟩ := rows3 ((HP.out.of hk0)) hlt
        have LB : Lower b wr.heap.size := ⟨hb⟩
        have HK := Lib.hid hk
        have HK0 := Lib.hid hk0
        have HBD := Lib.hid hB
        clear hb hk hk0 hB
        have FL : (flat (lns pW P r)).length ≤ 10000 := by
          have := flat_len (lns_short (wd := pW) (by decide) hr H4.out)
          rw [lns_len] at this
          omega
        have RL : (lnL pW (P r 0) (P r 1) (P r 2) ++ [10]).length ≤ 100 := by
          have := ln_len (wd := pW) (by decide) (H4.out r hlt 0 (by omega)) (H4.out r hlt 1 (by omega)) (H4.out r hlt 2 (by omega))
          rw [List.length_append, List.length_singleton]
          omega
        have hw2 := bldOn HSZ.out HK.out HBD.out FL RL
        have HW2 := Lib.hid hw2
        clear FL RL hw2
        go_wp2_with (first | (go_at_call 21; refine (srow_any pW (P r 0) (P r 1) (P r 2) _ (by decide) ⟨H4.out r hlt 0 (by omega), H4.out r hlt 1 (by omega), H4.out r hlt 2 (by omega)⟩ (HL.out.on (HK0.out.trans (by (repeat (first | exact Kept.refl _ | assumption | refine Kept.alloc ?_ _ | refine Kept.ext ?_ _ | refine Kept.drew ?_ | refine Kept.drewN ?_ _)))))).mono ?_; rintro e w1 ⟨rfl, x1, rfl⟩) | (go_at_call 20; refine (HW2.out _ (by (repeat (first | exact Kept.refl _ | assumption | refine Kept.alloc ?_ _ | refine Kept.ext ?_ _ | refine Kept.drew ?_ | refine Kept.drewN ?_ _)))).mono ?_; rintro e w2 ⟨⟨v2, rfl⟩, hba, hke⟩; have HBA := Lib.hid hba; have HKE := Lib.hid hke; clear hba hke))
        go_roundw
        case rel =>
          refine ⟨r + 1, by omega, by go_num, HKE.out, ?_⟩
          rw [flat_step]
          exact HBA.out
        case measure => simp [intOf]; omega
      · obtain rfl : r = n := by omega
        have kb : wr.cell? ⟨w.heap.size, 1, none⟩ = some (.slice B m cap2) := kept_cell (w := (w.alloc (.cells #[.slice A r cap, .slice B m cap2] 25))) (by go_simp) ((by (repeat (first | exact Kept.refl _ | assumption | refine Kept.alloc ?_ _ | refine Kept.ext ?_ _ | refine Kept.drew ?_ | refine Kept.drewN ?_ _)) : Kept (w.alloc (.cells #[.slice A r cap, .slice B m cap2] 25)) (ext (w.alloc (.cells #[.slice A r cap, .slice B m cap2] 25)) x0)).trans hk)
        have LB : Lower w.heap.size wr.heap.size := ⟨cell_lt kb⟩
        have HK := Lib.hid hk
        have HK0 := Lib.hid hk0
        have HBD := Lib.hid hB
        clear hk hk0 hB hlt HB0
        go_wp2_with fail
        go_loopw [35] (fun i wr => ∃ q : Nat, q ≤ m ∧ i = .int .i64 q ∧ Kept (ext (w.alloc (.cells #[.slice A r cap, .slice B m cap2] 25)) x0) wr ∧ Lib.IsBuilder 51 5 (adv (w.heap.size + 1) x0.obs.size) (adv (w.heap.size + 1) x0.obs.size) (Lib.byteCells (flat (lns pW P r ++ lns fW F q))) wr) (fun i _ => m - (intOf i).toNat)
        case atStart => exact ⟨0, by omega, rfl, HK.out, by rw [show lns fW F 0 = [] from rfl, List.append_nil]; exact HBD.out⟩
        case round =>
          clear kb LB HK HK0 HBD
          obtain ⟨q, hq, rfl, hk, hB⟩ := hrel
          have hk0 : Kept w wr := (by (repeat (first | exact Kept.refl _ | assumption | refine Kept.alloc ?_ _ | refine Kept.ext ?_ _ | refine Kept.drew ?_ | refine Kept.drewN ?_ _)) : Kept w (ext (w.alloc (.cells #[.slice A r cap, .slice B m cap2] 25)) x0)).trans hk
          by_cases hlt : q < m
          · obtain ⟨b, off, rfl, hb, f0, f1, f2⟩ := rows3 ((HF.out.of hk0)) hlt
            have LB : Lower b wr.heap.size := ⟨hb⟩
            have HK := Lib.hid hk
            have HK0 := Lib.hid hk0
            have HBD := Lib.hid hB
            clear hb hk hk0 hB
            have K5 : ∀ j, j < 3 → -64 ≤ F q j ∧ F q j ≤ 64 := fun j hj => by have := H5.out q hlt j hj; omega
            have FL : (flat (lns pW P r ++ lns fW F q)).length ≤ 10000 := by
              have e1 := flat_len (lns_short (wd := pW) (by decide) (Nat.le_refl r) H4.out)
              have e2 := flat_len (lns_short (wd := fW) (P := F) (by decide) hq (fun i hi j hj => by have := H5.out i hi j hj; omega))
              rw [lns_len] at e1 e2
              rw [flat_app, List.length_append]
              omega
            have RL : (lnL fW (F q 0) (F q 1) (F q 2) ++ [10]).length ≤ 100 := by
              have := ln_len (wd := fW) (by decide) (K5 0 (by omega)) (K5 1 (by omega)) (K5 2 (by omega))
              rw [List.length_append, List.length_singleton]
              omega
            have hw2 := bldOn HSZ.out HK.out HBD.out FL RL
            have HW2 := Lib.hid hw2
            have HK5 := Lib.hid K5
            clear FL RL hw2 K5
            go_wp2_with (first | (go_at_call 21; refine (srow_any fW (F q 0) (F q 1) (F q 2) _ (by decide) ⟨HK5.out 0 (by omega), HK5.out 1 (by omega), HK5.out 2 (by omega)⟩ (HL.out.on (HK0.out.trans (by (repeat (first | exact Kept.refl _ | assumption | refine Kept.alloc ?_ _ | refine Kept.ext ?_ _ | refine Kept.drew ?_ | refine Kept.drewN ?_ _)))))).mono ?_; rintro e w1 ⟨rfl, x1, rfl⟩) | (go_at_call 20; refine (HW2.out _ (by (repeat (first | exact Kept.refl _ | assumption | refine Kept.alloc ?_ _ | refine Kept.ext ?_ _ | refine Kept.drew ?_ | refine Kept.drewN ?_ _)))).mono ?_; rintro e w2 ⟨⟨v2, rfl⟩, hba, hke⟩; have HBA := Lib.hid hba; have HKE := Lib.hid hke; clear hba hke))
            go_roundw
            case rel =>
              refine ⟨q + 1, by omega, by go_num, HKE.out, ?_⟩
              have := HBA.out
              rw [flat_app, List.append_assoc, ← flat_step, ← flat_app] at this
              exact this
            case measure => simp [intOf]; omega
          · obtain rfl : q = m := by omega
            have HK := Lib.hid hk
            have HK0 := Lib.hid hk0
            have hs : ∀ w', Kept wr w' → _ := fun w' hk' => Tryd.Builder_String_any (adv (w.heap.size + 1) x0.obs.size) (adv (w.heap.size + 1) x0.obs.size) (flat (lns pW P r ++ lns fW F q)) w' (isB_kept hB hk') (by rw [← HSZ.out]; exact kept_size (hk.trans hk'))
            have HS := Lib.hid hs
            clear hs hk hk0 hB hlt
            go_wp2_with (go_at_call 22; refine (HS.out _ (by (repeat (first | exact Kept.refl _ | assumption | refine Kept.alloc ?_ _ | refine Kept.ext ?_ _ | refine Kept.drew ?_ | refine Kept.drewN ?_ _)))).mono ?_; rintro e w2 ⟨rfl, hbel⟩; have HBE := Lib.hid hbel; clear hbel)
            refine bodyPost_ret (by simp only [results, Tryd.results7]; go_simp; rfl) rfl ?_
            all_goals first | exact absurd HV.out (by assumption) | skip
            refine ⟨rfl, (by (repeat (first | exact Kept.refl _ | assumption | refine Kept.alloc ?_ _ | refine Kept.ext ?_ _ | refine Kept.drew ?_ | refine Kept.drewN ?_ _)) : Kept w (ext (w.alloc (.cells #[.slice A r cap, .slice B q cap2] 25)) x0)).trans (Kept.of_below ?_)⟩
            rw [HSZ.out]
            have := HK.out.below
            rw [HSZ.out] at this
            exact this.trans HBE.out
  · obtain ⟨e, he⟩ : ∃ e, validE n P m F = e := ⟨_, rfl⟩
    rw [he] at hv
    have HV := Lib.hid he
    clear he
    have hv2 : (e == 0) = false := by simpa using hv
    have hv3 : decide (e = 0) = false := by simpa using hv
    go_enter Tryd.func7, Tryd.ntmps7
    go_wp2_with (go_at_call 19; refine (svalidate_any _ _ _ _ _ _ P F _ hn (HP.out.of (by (repeat (first | exact Kept.refl _ | assumption | refine Kept.alloc ?_ _ | refine Kept.ext ?_ _ | refine Kept.drew ?_ | refine Kept.drewN ?_ _)))) (HF.out.of (by (repeat (first | exact Kept.refl _ | assumption | refine Kept.alloc ?_ _ | refine Kept.ext ?_ _ | refine Kept.drew ?_ | refine Kept.drewN ?_ _))))).mono ?_; rintro e w1 ⟨rfl, x0, rfl⟩; rw [HV.out])
    · rename_i h
      exact absurd (HV.out.symm.trans h) hv
    · refine bodyPost_ret (by simp only [results, Tryd.results7]; go_simp; rfl) rfl ?_
      rw [HV.out]
      exact ⟨rfl, by (repeat (first | exact Kept.refl _ | assumption | refine Kept.alloc ?_ _ | refine Kept.ext ?_ _ | refine Kept.drew ?_ | refine Kept.drewN ?_ _))⟩
end Go.Proofs.YtbefphfgcbbcpaaDoor
