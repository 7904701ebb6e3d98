/- Contract: a choice of the greatest minor, of the program. Conditions: the matrix is valid, k is from 0 on. -/
import Derived.Test.YtjadpehpempjoaaCcs
namespace Go.Proofs.Ytjadpehpempjoaa
set_option linter.unusedVariables false
set_option linter.unusedSimpArgs false
open Go.RowKit Go.Deep
theorem bl_set {r n : Nat} : setB n (bl r n).length (blF r n) = true := by
  unfold setB
  rw [Bool.not_eq_true', any_range_false]
  intro k hk
  have h1 := blN_lt hk
  cases k with
  | zero => exact badS_0 (decide_eq_true ⟨by rw [blF_N]; omega, by rw [blF_N]; omega⟩)
  | succ k =>
    have h2 := blN_asc (r := r) (n := n) (show k < k + 1 by omega) hk
    exact badS_3 (decide_eq_true ⟨by rw [blF_N]; omega, by rw [blF_N]; omega⟩) (by rw [blF_N, blF_N]; omega)
theorem bl_cho {n : Nat} {m : Nat → Nat} {f : Nat → Nat → Int} {r c : Nat} (hv : valE n m f = 0) (hl : (bl r n).length = (bl c (m 0)).length) : choE n m f (bl r n).length (blF r n) (bl c (m 0)).length (blF c (m 0)) = 0 := by
  have h1 := bl_set (r := r) (n := n)
  have h2 := bl_set (r := c) (n := m 0)
  unfold choE
  rw [h1, h2, hv]
  simp [hl]
/-- The size of the minor of a choice. -/
def dV (f : Nat → Nat → Int) (n M r c : Nat) : Int := ((D (bl r n).length (subF f (blF r n) (blF c M))).natAbs : Int)
/-- The greatest one among the first columns, and among the first rows. -/
def vcol (f : Nat → Nat → Int) (n M : Nat) (k : Int) (r : Nat) (b : Int) : Nat → Int
  | 0 => b
  | c + 1 => if ((bl c M).length : Int) = k then max (vcol f n M k r b c) (dV f n M r c) else vcol f n M k r b c
def vmat (f : Nat → Nat → Int) (n M : Nat) (k b : Int) : Nat → Int
  | 0 => b
  | r + 1 => if ((bl r n).length : Int) = k then vcol f n M k r (vmat f n M k b r) (2 ^ M) else vmat f n M k b r
/-- What is known of the best choice so far. -/
def Bst (f : Nat → Nat → Int) (n M : Nat) (k : Int) (b : Nat) (vr vc : Value) (vol : Int) (wr : World) : Prop :=
  (vol = -1 ∧ vr = .slice none 0 0 ∧ vc = .slice none 0 0) ∨
  ∃ r c, r < 2 ^ n ∧ c < 2 ^ M ∧ ((bl r n).length : Int) = k ∧ ((bl c M).length : Int) = k ∧ vol = dV f n M r c ∧
    wr.ownsRow b 3 1 vr (bl r n).length (rowC 1 (blF r n) (bl r n).length) ∧ wr.ownsRow b 3 1 vc (bl c M).length (rowC 1 (blF c M) (bl c M).length)
theorem Bst.on {f : Nat → Nat → Int} {n M : Nat} {k : Int} {b : Nat} {vr vc : Value} {vol : Int} {wr w' : World} (h : Bst f n M k b vr vc vol wr) (hk : FromOn b wr w') : Bst f n M k b vr vc vol w' := by
  rcases h with h | ⟨r, c, h1, h2, h3, h4, h5, h6, h7⟩
  · exact .inl h
  · exact .inr ⟨r, c, h1, h2, h3, h4, h5, hk.owns h6, hk.owns h7⟩
theorem Bst.shape {f : Nat → Nat → Int} {n M : Nat} {k : Int} {b : Nat} {vr vc : Value} {vol : Int} {wr : World} (h : Bst f n M k b vr vc vol wr) : (∃ A l c, vr = .slice A l c) ∧ ∃ A l c, vc = .slice A l c := by
  rcases h with ⟨-, h1, h2⟩ | ⟨r, c, h1, h2, h3, h4, h5, h6, h7⟩
  · exact ⟨⟨_, _, _, h1⟩, _, _, _, h2⟩
  · obtain ⟨A, c1, e1⟩ := own_slice2 h6
    obtain ⟨A2, c2, e2⟩ := own_slice2 h7
    exact ⟨⟨_, _, _, e1⟩, _, _, _, e2⟩
theorem Bst.low {f : Nat → Nat → Int} {n M : Nat} {k : Int} {b b' : Nat} {vr vc : Value} {vol : Int} {wr : World} (h : Bst f n M k b vr vc vol wr) (hb : b' ≤ b) : Bst f n M k b' vr vc vol wr := by
  rcases h with h | ⟨r, c, h1, h2, h3, h4, h5, h6, h7⟩
  · exact .inl h
  · exact .inr ⟨r, c, h1, h2, h3, h4, h5, own_lo2 h6 hb, own_lo2 h7 hb⟩
/-- A cell that is given what it holds. -/
theorem same_set {w : World} {b o : Nat} {v : Value} (h : w.cell? ⟨b, o, none⟩ = some v) : w.setCell ⟨b, o, none⟩ v = w := by
  unfold World.setCell
  cases w with
  | mk hp tp dr os out =>
    unfold World.cell? at h
    simp only at h ⊢
    congr 1
    apply Array.ext_getElem?
    intro q
    rw [Array.getElem?_modify]
    by_cases hq : b = q
    · subst hq
      rw [if_pos rfl]
      cases hb : hp[b]? with
      | none => rfl
      | some x =>
        rw [hb] at h
        cases x <;> simp_all
        apply Array.ext_getElem?
        intro q
        rw [Array.getElem?_setIfInBounds]
        split
        · rename_i hq
          subst hq
          split
          · exact h.symm
          · rename_i hlt
            rw [Array.getElem?_eq_none (by omega)]
        · rfl
    · rw [if_neg hq]
theorem FromOn.refl (b : Nat) (w : World) : FromOn b w w := ⟨Nat.le_refl _, fun _ _ _ => rfl⟩
theorem FromOn.trans {b : Nat} {w w' w'' : World} (h : FromOn b w w') (k : FromOn b w' w'') : FromOn b w w'' :=
  ⟨Nat.le_trans h.1 k.1, fun g h1 h2 => by rw [k.2 g h1 (Nat.lt_of_lt_of_le h2 h.1), h.2 g h1 h2]⟩
theorem FromOn.of {b : Nat} {w w' : World} (h : Kept w w') : FromOn b w w' := by
  obtain ⟨x, rfl⟩ := h
  exact ⟨by rw [ext_size]; exact adv_le _ _, fun g _ hg => ext_block _ _ _ hg⟩
theorem FromOn.up {b b' : Nat} {w w' : World} (h : FromOn b w w') (hb : b ≤ b') : FromOn b' w w' := ⟨h.1, fun g h1 h2 => h.2 g (Nat.le_trans hb h1) h2⟩
theorem setCell_ne {w : World} {b o g : Nat} {u : Value} (h : g ≠ b) : (w.setCell ⟨b, o, none⟩ u).heap[g]? = w.heap[g]? := by
  unfold World.setCell
  rw [Array.getElem?_modify, if_neg (Ne.symm h)]
theorem FromOn.set {b g o : Nat} {w : World} {u : Value} (h : g < b) : FromOn b w (w.setCell ⟨g, o, none⟩ u) :=
  ⟨by rw [World.size_setCell]; exact Nat.le_refl _, fun q h1 _ => setCell_ne (by omega)⟩
theorem box_set {w : World} {g : Nat} {T : TypeId} {a u : Value} (h : w.heap[g]? = some (.cells #[a] T (0, 0))) : (w.setCell ⟨g, 0, none⟩ u).heap[g]? = some (.cells #[u] T (0, 0)) := by
  unfold World.setCell
  rw [Array.getElem?_modify, if_pos rfl, h]
  rfl
theorem box_at {V : World} {g : Nat} {T : TypeId} {a : Value} (h : V.heap[g]? = some (.cells #[a] T (0, 0))) : V.cell? ⟨g, 0, none⟩ = some a ∧ V.frozen? ⟨g, 0, none⟩ = false ∧ g < V.heap.size := by
  have := (Array.getElem?_eq_some_iff.1 h).1
  refine ⟨?_, ?_, this⟩
  · unfold World.cell?; simp [h]
  · unfold World.frozen?; simp [h]
/-- The state ahead of the choice of rows r and columns c. -/
structure LgI (W : World) (b bA bR bC bV : Nat) (A : Option Addr) (n cap M : Nat) (f : Nat → Nat → Int) (k : Int) (r c : Nat) (wr : World) : Prop where
  kept : Kept W wr
  lo : W.heap.size ≤ bR ∧ W.heap.size ≤ bC ∧ W.heap.size ≤ bV
  hi : bA < b ∧ bR < b ∧ bC < b ∧ bV < b
  ne : bA ≠ bR ∧ bA ≠ bC ∧ bA ≠ bV ∧ bR ≠ bC ∧ bR ≠ bV ∧ bC ≠ bV
  ba : wr.heap[bA]? = some (.cells #[.slice A n cap] 22 (0, 0))
  st : ∃ vr vc, wr.heap[bR]? = some (.cells #[vr] 23 (0, 0)) ∧ wr.heap[bC]? = some (.cells #[vc] 23 (0, 0)) ∧
    wr.heap[bV]? = some (.cells #[.int .i64 (vcol f n M k r (vmat f n M k (-1) r) c)] 3 (0, 0)) ∧ Bst f n M k b vr vc (vcol f n M k r (vmat f n M k (-1) r) c) wr
theorem LgI.on {W : World} {b bA bR bC bV : Nat} {A : Option Addr} {n cap M : Nat} {f : Nat → Nat → Int} {k : Int} {r c : Nat} {wr w' : World} (h : LgI W b bA bR bC bV A n cap M f k r c wr) (hk : Kept wr w') : LgI W b bA bR bC bV A n cap M f k r c w' := by
  obtain ⟨vr, vc, h1, h2, h3, h4⟩ := h.st
  exact ⟨h.kept.trans hk, h.lo, h.hi, h.ne, fr_kept h.ba hk, vr, vc, fr_kept h1 hk, fr_kept h2 hk, fr_kept h3 hk, h4.on (.of hk)⟩
theorem vcol_same {f : Nat → Nat → Int} {n M : Nat} {k : Int} {r : Nat} {b : Int} {c : Nat} (h : ((bl c M).length : Int) ≠ k) : vcol f n M k r b (c + 1) = vcol f n M k r b c := if_neg h
theorem vcol_max {f : Nat → Nat → Int} {n M : Nat} {k : Int} {r : Nat} {b : Int} {c : Nat} (h : ((bl c M).length : Int) = k) : vcol f n M k r b (c + 1) = max (vcol f n M k r b c) (dV f n M r c) := if_pos h
/-- The state ahead of the next row. -/
theorem LgI.row {W : World} {b bA bR bC bV : Nat} {A : Option Addr} {n cap M : Nat} {f : Nat → Nat → Int} {k : Int} {r : Nat} {wr : World} (h : LgI W b bA bR bC bV A n cap M f k r (2 ^ M) wr) (hl : ((bl r n).length : Int) = k) : LgI W b bA bR bC bV A n cap M f k (r + 1) 0 wr := by
  have e : vcol f n M k (r + 1) (vmat f n M k (-1) (r + 1)) 0 = vcol f n M k r (vmat f n M k (-1) r) (2 ^ M) := if_pos hl
  exact ⟨h.kept, h.lo, h.hi, h.ne, h.ba, by rw [e]; exact h.st⟩
theorem LgI.past {W : World} {b bA bR bC bV : Nat} {A : Option Addr} {n cap M : Nat} {f : Nat → Nat → Int} {k : Int} {r : Nat} {wr : World} (h : LgI W b bA bR bC bV A n cap M f k r 0 wr) (hl : ((bl r n).length : Int) ≠ k) : LgI W b bA bR bC bV A n cap M f k (r + 1) 0 wr := by
  have e : vcol f n M k (r + 1) (vmat f n M k (-1) (r + 1)) 0 = vcol f n M k r (vmat f n M k (-1) r) 0 := if_neg hl
  exact ⟨h.kept, h.lo, h.hi, h.ne, h.ba, by rw [e]; exact h.st⟩
theorem LgI.col {W : World} {b bA bR bC bV : Nat} {A : Option Addr} {n cap M : Nat} {f : Nat → Nat → Int} {k : Int} {r c : Nat} {wr : World} (h : LgI W b bA bR bC bV A n cap M f k r c wr) (hl : ((bl c M).length : Int) ≠ k) : LgI W b bA bR bC bV A n cap M f k r (c + 1) wr :=
  ⟨h.kept, h.lo, h.hi, h.ne, h.ba, by rw [vcol_same hl]; exact h.st⟩
end Go.Proofs.Ytjadpehpempjoaa
