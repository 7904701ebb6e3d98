/- Contract: a choice of the greatest minor, of the program. Conditions: the matrix is valid, k is from 0 on. -/
import Derived.Test.YtoejdfpmmgldpaaCcs
namespace Go.Proofs.Ytoejdfpmmgldpaa
set_option linter.unusedVariables false
set_option linter.unusedSimpArgs false
open Go.RowKit Go.Deep
theorem bl_set {r n : Nat} : setB n (bl r n).length (blF r n) = true := by
  unfold setB
  rw [Bool.not_eq_true', any_range_false]
  intro k hk
  have h1 := blN_lt hk
  cases k with
  | zero => exact badS_0 (decide_eq_true ⟨by rw [blF_N]; omega, by rw [blF_N]; omega⟩)
  | succ k =>
    have h2 := blN_asc (r := r) (n := n) (show k < k + 1 by omega) hk
    exact badS_3 (decide_eq_true ⟨by rw [blF_N]; omega, by rw [blF_N]; omega⟩) (by rw [blF_N, blF_N]; omega)
theorem bl_cho {n : Nat} {m : Nat → Nat} {f : Nat → Nat → Int} {r c : Nat} (hv : valE n m f = 0) (hl : (bl r n).length = (bl c (m 0)).length) : choE n m f (bl r n).length (blF r n) (bl c (m 0)).length (blF c (m 0)) = 0 := by
  have h1 := bl_set (r := r) (n := n)
  have h2 := bl_set (r := c) (n := m 0)
  unfold choE
  rw [h1, h2, hv]
  simp [hl]
/-- The size of the minor of a choice. -/
def dV (f : Nat → Nat → Int) (n M r c : Nat) : Int := ((D (bl r n).length (subF f (blF r n) (blF c M))).natAbs : Int)
/-- The greatest one among the first columns, and among the first rows. -/
def vcol (f : Nat → Nat → Int) (n M : Nat) (k : Int) (r : Nat) (b : Int) : Nat → Int
  | 0 => b
  | c + 1 => if ((bl c M).length : Int) = k then max (vcol f n M k r b c) (dV f n M r c) else vcol f n M k r b c
def vmat (f : Nat → Nat → Int) (n M : Nat) (k b : Int) : Nat → Int
  | 0 => b
  | r + 1 => if ((bl r n).length : Int) = k then vcol f n M k r (vmat f n M k b r) (2 ^ M) else vmat f n M k b r
/-- What is known of the best choice so far. -/
def Bst (f : Nat → Nat → Int) (n M : Nat) (k : Int) (b : Nat) (vr vc : Value) (vol : Int) (wr : World) : Prop :=
  (vol = -1 ∧ vr = .slice none 0 0 ∧ vc = .slice none 0 0) ∨
  ∃ r c, r < 2 ^ n ∧ c < 2 ^ M ∧ ((bl r n).length : Int) = k ∧ ((bl c M).length : Int) = k ∧ vol = dV f n M r c ∧
    wr.ownsRow b 3 1 vr (bl r n).length (rowC 1 (blF r n) (bl r n).length) ∧ wr.ownsRow b 3 1 vc (bl c M).length (rowC 1 (blF c M) (bl c M).length)
theorem Bst.on {f : Nat → Nat → Int} {n M : Nat} {k : Int} {b : Nat} {vr vc : Value} {vol : Int} {wr w' : World} (h : Bst f n M k b vr vc vol wr) (hk : FromOn b wr w') : Bst f n M k b vr vc vol w' := by
  rcases h with h | ⟨r, c, h1, h2, h3, h4, h5, h6, h7⟩
  · exact .inl h
  · exact .inr ⟨r, c, h1, h2, h3, h4, h5, hk.owns h6, hk.owns h7⟩
theorem Bst.shape {f : Nat → Nat → Int} {n M : Nat} {k : Int} {b : Nat} {vr vc : Value} {vol : Int} {wr : World} (h : Bst f n M k b vr vc vol wr) : (∃ A l c, vr = .slice A l c) ∧ ∃ A l c, vc = .slice A l c := by
  rcases h with ⟨-, h1, h2⟩ | ⟨r, c, h1, h2, h3, h4, h5, h6, h7⟩
  · exact ⟨⟨_, _, _, h1⟩, _, _, _, h2⟩
  · obtain ⟨A, c1, e1⟩ := own_slice2 h6
    obtain ⟨A2, c2, e2⟩ := own_slice2 h7
    exact ⟨⟨_, _, _, e1⟩, _, _, _, e2⟩
theorem Bst.low {f : Nat → Nat → Int} {n M : Nat} {k : Int} {b b' : Nat} {vr vc : Value} {vol : Int} {wr : World} (h : Bst f n M k b vr vc vol wr) (hb : b' ≤ b) : Bst f n M k b' vr vc vol wr := by
  rcases h with h | ⟨r, c, h1, h2, h3, h4, h5, h6, h7⟩
  · exact .inl h
  · exact .inr ⟨r, c, h1, h2, h3, h4, h5, own_lo2 h6 hb, own_lo2 h7 hb⟩
/-- A cell that is given what it holds. -/
theorem same_set {w : World} {b o : Nat} {v : Value} (h : w.cell? ⟨b, o, none⟩ = some v) : w.setCell ⟨b, o, none⟩ v = w := by
  unfold World.setCell
  cases w with
  | mk hp tp dr os out =>
    unfold World.cell? at h
    simp only at h ⊢
    congr 1
    apply Array.ext_getElem?
    intro q
    rw [Array.getElem?_modify]
    by_cases hq : b = q
    · subst hq
      rw [if_pos rfl]
      cases hb : hp[b]? with
      | none => rfl
      | some x =>
        rw [hb] at h
        cases x <;> simp_all
        apply Array.ext_getElem?
        intro q
        rw [Array.getElem?_setIfInBounds]
        split
        · rename_i hq
          subst hq
          split
          · exact h.symm
          · rename_i hlt
            rw [Array.getElem?_eq_none (by omega)]
        · rfl
    · rw [if_neg hq]
theorem FromOn.refl (b : Nat) (w : World) : FromOn b w w := ⟨Nat.le_refl _, fun _ _ _ => rfl⟩
theorem FromOn.trans {b : Nat} {w w' w'' : World} (h : FromOn b w w') (k : FromOn b w' w'') : FromOn b w w'' :=
  ⟨Nat.le_trans h.1 k.1, fun g h1 h2 => by rw [k.2 g h1 (Nat.lt_of_lt_of_le h2 h.1), h.2 g h1 h2]⟩
theorem FromOn.of {b : Nat} {w w' : World} (h : Kept w w') : FromOn b w w' := by
  obtain ⟨x, rfl⟩ := h
  exact ⟨by rw [ext_size]; exact adv_le _ _, fun g _ hg => ext_block _ _ _ hg⟩
theorem FromOn.up {b b' : Nat} {w w' : World} (h : FromOn b w w') (hb : b ≤ b') : FromOn b' w w' := ⟨h.1, fun g h1 h2 => h.2 g (Nat.le_trans hb h1) h2⟩
theorem setCell_ne {w : World} {b o g : Nat} {u : Value} (h : g ≠ b) : (w.setCell ⟨b, o, none⟩ u).heap[g]? = w.heap[g]? := by
  unfold World.setCell
  rw [Array.getElem?_modify, if_neg (Ne.symm h)]
theorem FromOn.set {b g o : Nat} {w : World} {u : Value} (h : g < b) : FromOn b w (w.setCell ⟨g, o, none⟩ u) :=
  ⟨by rw [World.size_setCell]; exact Nat.le_refl _, fun q h1 _ => setCell_ne (by omega)⟩
theorem box_set {w : World} {g : Nat} {T : TypeId} {a u : Value} (h : w.heap[g]? = some (.cells #[a] T (0, 0))) : (w.setCell ⟨g, 0, none⟩ u).heap[g]? = some (.cells #[u] T (0, 0)) := by
  unfold World.setCell
  rw [Array.getElem?_modify, if_pos rfl, h]
  rfl
theorem box_at {V : World} {g : Nat} {T : TypeId} {a : Value} (h : V.heap[g]? = some (.cells #[a] T (0, 0))) : V.cell? ⟨g, 0, none⟩ = some a ∧ V.frozen? ⟨g, 0, none⟩ = false ∧ g < V.heap.size := by
  have := (Array.getElem?_eq_some_iff.1 h).1
  refine ⟨?_, ?_, this⟩
  · unfold World.cell?; simp [h]
  · unfold World.frozen?; simp [h]
/-- The state ahead of the choice of rows r and columns c. -/
structure LgI (W : World) (b bA bR bC bV : Nat) (A : Option Addr) (n cap M : Nat) (f : Nat → Nat → Int) (k : Int) (r c : Nat) (wr : World) : Prop where
  kept : Kept W wr
  lo : W.heap.size ≤ bR ∧ W.heap.size ≤ bC ∧ W.heap.size ≤ bV
  hi : bA < b ∧ bR < b ∧ bC < b ∧ bV < b
  ne : bA ≠ bR ∧ bA ≠ bC ∧ bA ≠ bV ∧ bR ≠ bC ∧ bR ≠ bV ∧ bC ≠ bV
  ba : wr.heap[bA]? = some (.cells #[.slice A n cap] 22 (0, 0))
  st : ∃ vr vc, wr.heap[bR]? = some (.cells #[vr] 23 (0, 0)) ∧ wr.heap[bC]? = some (.cells #[vc] 23 (0, 0)) ∧
    wr.heap[bV]? = some (.cells #[.int .i64 (vcol f n M k r (vmat f n M k (-1) r) c)] 3 (0, 0)) ∧ Bst f n M k b vr vc (vcol f n M k r (vmat f n M k (-1) r) c) wr
theorem LgI.on {W : World} {b bA bR bC bV : Nat} {A : Option Addr} {n cap M : Nat} {f : Nat → Nat → Int} {k : Int} {r c : Nat} {wr w' : World} (h : LgI W b bA bR bC bV A n cap M f k r c wr) (hk : Kept wr w') : LgI W b bA bR bC bV A n cap M f k r c w' := by
  obtain ⟨vr, vc, h1, h2, h3, h4⟩ := h.st
  exact ⟨h.kept.trans hk, h.lo, h.hi, h.ne, fr_kept h.ba hk, vr, vc, fr_kept h1 hk, fr_kept h2 hk, fr_kept h3 hk, h4.on (.of hk)⟩
theorem vcol_same {f : Nat → Nat → Int} {n M : Nat} {k : Int} {r : Nat} {b : Int} {c : Nat} (h : ((bl c M).length : Int) ≠ k) : vcol f n M k r b (c + 1) = vcol f n M k r b c := if_neg h
theorem vcol_max {f : Nat → Nat → Int} {n M : Nat} {k : Int} {r : Nat} {b : Int} {c : Nat} (h : ((bl c M).length : Int) = k) : vcol f n M k r b (c + 1) = max (vcol f n M k r b c) (dV f n M r c) := if_pos h
set_option maxRecDepth 100000 in
set_option maxHeartbeats 4000000 in
theorem clarg1_any (W : World) (b bA bR bC bV : Nat) (A : Option Addr) (n cap : Nat) (B : Nat → Option Addr) (m cp : Nat → Nat) (f : Nat → Nat → Int) (k : Int) (r c : Nat) (RA CA : Option Addr) (rc cc : Nat) (wr : World)
    (hv : valE n m f = 0) (hM : MatAt W A n B m cp f) (hr : r < 2 ^ n) (hc : c < 2 ^ m 0) (hrl : ((bl r n).length : Int) = k) (hcl : ((bl c (m 0)).length : Int) = k) (hI : LgI W b bA bR bC bV A n cap (m 0) f k r c wr)
    (hR : wr.ownsRow b 3 1 (.slice RA (bl r n).length rc) (bl r n).length (rowC 1 (blF r n) (bl r n).length)) (hC : wr.ownsRow b 3 1 (.slice CA (bl c (m 0)).length cc) (bl c (m 0)).length (rowC 1 (blF c (m 0)) (bl c (m 0)).length)) :
    Calls Try.prog 96 #[.slice RA (bl r n).length rc, .slice CA (bl c (m 0)).length cc, .pointer (some ⟨bA, 0, none⟩), .pointer (some ⟨bV, 0, none⟩), .pointer (some ⟨bR, 0, none⟩), .pointer (some ⟨bC, 0, none⟩)] wr
      fun e w'' => ∃ v, e = .returned (.bool v) ∧ (v = true → LgI W b bA bR bC bV A n cap (m 0) f k r (c + 1) w'' ∧ FromOn b wr w'') ∧ (v = false → False) := by
  have hll : (bl r n).length = (bl c (m 0)).length := by omega
  obtain ⟨-, hk⟩ := Mok.of (bl_cho hv hll)
  have hdb := hk.bd
  obtain ⟨vr, vc, s1, s2, s3, s4⟩ := hI.st
  have hRr : RowsAt wr RA (bl r n).length 1 (blF r n) := rows_of_owns hR fun q hq j _ => by
    have := blN_lt hq
    have h6 := hk.n1
    rw [blF_N]; unfold I64; omega
  have hCr : RowsAt wr CA (bl r n).length 1 (blF c (m 0)) := by
    rw [hll]
    exact rows_of_owns hC fun q hq j _ => by
      have := blN_lt hq
      have h6 := hk.m1
      rw [blF_N]; unfold I64; omega
  have hmin : ∀ w', Kept wr w' → Calls Try.prog 62 #[.slice A n cap, .slice RA (bl r n).length rc, .slice CA (bl c (m 0)).length cc] w' fun e w'' => e = .returned (.int .i64 (D (bl r n).length (subF f (blF r n) (blF c (m 0))))) ∧ Kept w' w'' := fun w' hkw => by
    rw [← hll]
    exact cminor_any A n cap B m cp f RA (bl r n).length rc (blF r n) CA cc (blF c (m 0)) w' hk (hM.of (hI.kept.trans hkw)) (hRr.of hkw) (hCr.of hkw)
  have hd : dV f n (m 0) r c = ((D (bl r n).length (subF f (blF r n) (blF c (m 0)))).natAbs : Int) := rfl
  obtain ⟨d, hde⟩ : ∃ d, D (bl r n).length (subF f (blF r n) (blF c (m 0))) = d := ⟨_, rfl⟩
  rw [hde] at hdb hmin hd
  obtain ⟨vol, hvo⟩ : ∃ v, vcol f n (m 0) k r (vmat f n (m 0) k (-1) r) c = v := ⟨_, rfl⟩
  rw [hvo] at s3 s4
  obtain ⟨a1, a2, a3⟩ := box_at hI.ba
  obtain ⟨r1, r2, r3⟩ := box_at s1
  obtain ⟨c1, c2, c3⟩ := box_at s2
  obtain ⟨v1, v2, v3⟩ := box_at s3
  have LA : Lower bA wr.heap.size := ⟨a3⟩
  have LR : Lower bR wr.heap.size := ⟨r3⟩
  have LC : Lower bC wr.heap.size := ⟨c3⟩
  have LV : Lower bV wr.heap.size := ⟨v3⟩
  obtain ⟨q1, q2, q3, q4, q5, q6⟩ := hI.ne
  have p1 : (wr.setCell ⟨bR, 0, none⟩ (.slice RA (bl r n).length rc)).heap[bC]? = some (.cells #[vc] 23 (0, 0)) := by rw [setCell_ne (Ne.symm q4)]; exact s2
  have p2 : ((wr.setCell ⟨bR, 0, none⟩ (.slice RA (bl r n).length rc)).setCell ⟨bC, 0, none⟩ (.slice CA (bl c (m 0)).length cc)).heap[bV]? = some (.cells #[.int .i64 vol] 3 (0, 0)) := by rw [setCell_ne (Ne.symm q6), setCell_ne (Ne.symm q5)]; exact s3
  obtain ⟨t1, t2, t3⟩ := box_at p1
  obtain ⟨t4, t5, t6⟩ := box_at p2
  have HP := Lib.hid (And.intro p1 p2)
  have HMIN := Lib.hid hmin
  clear p1 p2 q1 q2 q3 q4 q5 q6
  have HI := Lib.hid hI
  have HD := Lib.hid hd
  have HVO := Lib.hid hvo
  have HMX := Lib.hid (vcol_max (f := f) (n := n) (r := r) (b := vmat f n (m 0) k (-1) r) hcl)
  have HBS := Lib.hid s4
  have HBX := Lib.hid (And.intro s1 (And.intro s2 s3))
  have HR := Lib.hid hR
  have HC := Lib.hid hC
  have HRL := Lib.hid (And.intro hrl hcl)
  have HLL := Lib.hid hll
  have HRC := Lib.hid (And.intro hr hc)
  clear hv hM hk hR hC hRr hCr hmin hd hde hvo hI s1 s2 s3 s4 hrl hcl hll hr hc
  by_cases hgt : vol < max d (-d)
  · have g1 : decide (vol < max d (-d)) = true := decide_eq_true hgt
    go_enter Try.func96, Try.ntmps96
    go_wp2_with (go_at_call 62; refine (HMIN.out _ (by (repeat (first | exact Kept.refl _ | assumption | refine Kept.alloc ?_ _ | refine Kept.ext ?_ _ | refine Kept.drew ?_ | refine Kept.drewN ?_ _)))).mono ?_; rintro e w1 ⟨rfl, x, rfl⟩)
    go_ret
    obtain ⟨s1, s2, s3⟩ := HBX.out
    obtain ⟨hr, hc⟩ := HRC.out
    obtain ⟨hrl, hcl⟩ := HRL.out
    obtain ⟨q1, q2, q3, q4, q5, q6⟩ := HI.out.ne
    obtain ⟨l1, l2, l3⟩ := HI.out.lo
    obtain ⟨h1, h2, h3, h4⟩ := HI.out.hi
    have hK3 : Kept W (ext (((wr.setCell ⟨bR, 0, none⟩ (.slice RA (bl r n).length rc)).setCell ⟨bC, 0, none⟩ (.slice CA (bl c (m 0)).length cc)).setCell ⟨bV, 0, none⟩ (.int .i64 (max d (-d)))) x) := (((HI.out.kept.setCell l1 _).setCell l2 _).setCell l3 _).ext x
    have hF3 : FromOn b wr (ext (((wr.setCell ⟨bR, 0, none⟩ (.slice RA (bl r n).length rc)).setCell ⟨bC, 0, none⟩ (.slice CA (bl c (m 0)).length cc)).setCell ⟨bV, 0, none⟩ (.int .i64 (max d (-d)))) x) :=
      (((FromOn.set h2).trans (FromOn.set h3)).trans (FromOn.set h4)).trans (.of ((Kept.refl _).ext x))
    have e : vcol f n (m 0) k r (vmat f n (m 0) k (-1) r) (c + 1) = max d (-d) := by
      rw [HMX.out, HVO.out, HD.out]
      omega
    refine ⟨true, rfl, fun _ => ⟨⟨hK3, HI.out.lo, HI.out.hi, HI.out.ne, ?_, .slice RA (bl r n).length rc, .slice CA (bl c (m 0)).length cc, ?_, ?_, ?_, ?_⟩, hF3⟩, fun h => by cases h⟩
    · refine fr_kept ?_ ((Kept.refl _).ext x)
      rw [setCell_ne q3, setCell_ne q2, setCell_ne q1]
      exact HI.out.ba
    · refine fr_kept ?_ ((Kept.refl _).ext x)
      rw [setCell_ne q5, setCell_ne q4]
      exact box_set s1
    · refine fr_kept ?_ ((Kept.refl _).ext x)
      rw [setCell_ne q6]
      refine box_set (a := vc) ?_
      rw [setCell_ne (Ne.symm q4)]
      exact s2
    · rw [e]
      refine fr_kept ?_ ((Kept.refl _).ext x)
      exact box_set HP.out.2
    · rw [e]
      refine .inr ⟨r, c, hr, hc, hrl, hcl, ?_, hF3.owns HR.out, hF3.owns HC.out⟩
      rw [HD.out]
      omega
  · have g1 : decide (vol < max d (-d)) = false := decide_eq_false hgt
    go_enter Try.func96, Try.ntmps96
    go_wp2_with (go_at_call 62; refine (HMIN.out _ (by (repeat (first | exact Kept.refl _ | assumption | refine Kept.alloc ?_ _ | refine Kept.ext ?_ _ | refine Kept.drew ?_ | refine Kept.drewN ?_ _)))).mono ?_; rintro e w1 ⟨rfl, x, rfl⟩)
    go_ret
    have hkx : Kept wr (ext wr x) := by (repeat (first | exact Kept.refl _ | assumption | refine Kept.alloc ?_ _ | refine Kept.ext ?_ _ | refine Kept.drew ?_ | refine Kept.drewN ?_ _))
    refine ⟨true, rfl, fun _ => ⟨?_, .of hkx⟩, fun h => by cases h⟩
    have h := HI.out.on hkx
    have e : vcol f n (m 0) k r (vmat f n (m 0) k (-1) r) (c + 1) = vcol f n (m 0) k r (vmat f n (m 0) k (-1) r) c := by
      rw [HMX.out, HVO.out, HD.out]
      omega
    exact ⟨h.kept, h.lo, h.hi, h.ne, h.ba, by rw [e]; exact h.st⟩
/-- The state ahead of the next row. -/
theorem LgI.row {W : World} {b bA bR bC bV : Nat} {A : Option Addr} {n cap M : Nat} {f : Nat → Nat → Int} {k : Int} {r : Nat} {wr : World} (h : LgI W b bA bR bC bV A n cap M f k r (2 ^ M) wr) (hl : ((bl r n).length : Int) = k) : LgI W b bA bR bC bV A n cap M f k (r + 1) 0 wr := by
  have e : vcol f n M k (r + 1) (vmat f n M k (-1) (r + 1)) 0 = vcol f n M k r (vmat f n M k (-1) r) (2 ^ M) := if_pos hl
  exact ⟨h.kept, h.lo, h.hi, h.ne, h.ba, by rw [e]; exact h.st⟩
theorem LgI.past {W : World} {b bA bR bC bV : Nat} {A : Option Addr} {n cap M : Nat} {f : Nat → Nat → Int} {k : Int} {r : Nat} {wr : World} (h : LgI W b bA bR bC bV A n cap M f k r 0 wr) (hl : ((bl r n).length : Int) ≠ k) : LgI W b bA bR bC bV A n cap M f k (r + 1) 0 wr := by
  have e : vcol f n M k (r + 1) (vmat f n M k (-1) (r + 1)) 0 = vcol f n M k r (vmat f n M k (-1) r) 0 := if_neg hl
  exact ⟨h.kept, h.lo, h.hi, h.ne, h.ba, by rw [e]; exact h.st⟩
theorem LgI.col {W : World} {b bA bR bC bV : Nat} {A : Option Addr} {n cap M : Nat} {f : Nat → Nat → Int} {k : Int} {r c : Nat} {wr : World} (h : LgI W b bA bR bC bV A n cap M f k r c wr) (hl : ((bl c M).length : Int) ≠ k) : LgI W b bA bR bC bV A n cap M f k r (c + 1) wr :=
  ⟨h.kept, h.lo, h.hi, h.ne, h.ba, by rw [vcol_same hl]; exact h.st⟩
set_option maxRecDepth 100000 in
set_option maxHeartbeats 4000000 in
theorem clargest_any (A : Option Addr) (n cap : Nat) (B : Nat → Option Addr) (m cp : Nat → Nat) (f : Nat → Nat → Int) (k : Int) (w : World) (hv : valE n m f = 0) (hM : MatAt w A n B m cp f) :
    Calls Try.prog 72 #[.slice A n cap, .int .i64 k] w fun e w' => ∃ vr vc, e = .returned (.tuple #[vr, vc, .int .i64 (vmat f n (m 0) k (-1) (2 ^ n))]) ∧ Kept w w' ∧ Bst f n (m 0) k w.heap.size vr vc (vmat f n (m 0) k (-1) (2 ^ n)) w' := by
  obtain ⟨hn1, hm1, -, -⟩ := valE_0 hv
  obtain ⟨vol, hvo⟩ : ∃ v, vmat f n (m 0) k (-1) (2 ^ n) = v := ⟨_, rfl⟩
  rw [hvo]
  have HVO := Lib.hid hvo
  have HM := Lib.hid hM
  have HV := Lib.hid hv
  clear hM hv hvo
  go_enter Try.func72, Try.ntmps72
  go_wp2_with fail
  have hst : LgI w (w.heap.size + 1 + 1 + 1 + 1) w.heap.size (w.heap.size + 1) (w.heap.size + 1 + 1) (w.heap.size + 1 + 1 + 1) A n cap (m 0) f k 0 0 ((((w.alloc (.cells #[.slice A n cap] 22)).alloc (.cells #[.slice none 0 0] 23)).alloc (.cells #[.slice none 0 0] 23)).alloc (.cells #[.int .i64 (-1)] 3)) := by
    refine ⟨by (repeat (first | exact Kept.refl _ | assumption | refine Kept.alloc ?_ _ | refine Kept.ext ?_ _ | refine Kept.drew ?_ | refine Kept.drewN ?_ _)), by omega, by omega, by omega, ?_, .slice none 0 0, .slice none 0 0, ?_, ?_, alloc_at2 _ _ _, .inl ⟨rfl, rfl, rfl⟩⟩
    · exact fr_kept (alloc_at2 w _ _) (by (repeat (first | exact Kept.refl _ | assumption | refine Kept.alloc ?_ _ | refine Kept.ext ?_ _ | refine Kept.drew ?_ | refine Kept.drewN ?_ _)))
    · exact fr_kept (alloc_at2 (w.alloc (.cells #[.slice A n cap] 22)) _ _) (by (repeat (first | exact Kept.refl _ | assumption | refine Kept.alloc ?_ _ | refine Kept.ext ?_ _ | refine Kept.drew ?_ | refine Kept.drewN ?_ _)))
    · exact fr_kept (alloc_at2 ((w.alloc (.cells #[.slice A n cap] 22)).alloc (.cells #[.slice none 0 0] 23)) _ _) (by (repeat (first | exact Kept.refl _ | assumption | refine Kept.alloc ?_ _ | refine Kept.ext ?_ _ | refine Kept.drew ?_ | refine Kept.drewN ?_ _)))
  refine (cchoices_l A n cap B m cp f k _ _ _ _ (fun r c w' => LgI w (w.heap.size + 1 + 1 + 1 + 1) w.heap.size (w.heap.size + 1) (w.heap.size + 1 + 1) (w.heap.size + 1 + 1 + 1) A n cap (m 0) f k r c w') (fun _ => False) w _ ⟨hn1, hm1⟩ HM.out
    (fun r c w' h => h.kept) (fun r c w' w'' h hk => h.on hk) (fun r c w' RA CA rc cc hr hc hrl hcl h h1 h2 => ?_) (fun r c w' _ hl h => h.col hl) (fun r w' _ hl h => h.past hl) (fun r w' hl h => h.row hl) hst).mono ?_
  · have e : ((((w.alloc (.cells #[.slice A n cap] 22)).alloc (.cells #[.slice none 0 0] 23)).alloc (.cells #[.slice none 0 0] 23)).alloc (.cells #[.int .i64 (-1)] 3)).heap.size = w.heap.size + 1 + 1 + 1 + 1 := by simp
    rw [e] at h1 h2 ⊢
    exact clarg1_any w _ _ _ _ _ A n cap B m cp f k r c RA CA rc cc w' HV.out HM.out hr hc hrl hcl h h1 h2
  · rintro e w1 ⟨rfl, hI | hI⟩
    case inr => exact hI.elim
    obtain ⟨vr, vc, s1, s2, s3, s4⟩ := hI.st
    obtain ⟨⟨RA, rn, rc, rfl⟩, CA, cn, cc, rfl⟩ := s4.shape
    rw [show vcol f n (m 0) k (2 ^ n) (vmat f n (m 0) k (-1) (2 ^ n)) 0 = vmat f n (m 0) k (-1) (2 ^ n) from rfl, HVO.out] at s3 s4
    have HI := Lib.hid hI
    have HB := Lib.hid (s4.low (show w.heap.size ≤ w.heap.size + 1 + 1 + 1 + 1 by omega))
    clear hI s4 hst
    have hx : ∀ W', Kept w1 W' → ((W'.cell? ⟨w.heap.size + 1, 0, none⟩ = some (.slice RA rn rc) ∧ W'.frozen? ⟨w.heap.size + 1, 0, none⟩ = false) ∧ (W'.cell? ⟨w.heap.size + 1 + 1, 0, none⟩ = some (.slice CA cn cc) ∧ W'.frozen? ⟨w.heap.size + 1 + 1, 0, none⟩ = false) ∧ W'.cell? ⟨w.heap.size + 1 + 1 + 1, 0, none⟩ = some (.int .i64 vol) ∧ W'.frozen? ⟨w.heap.size + 1 + 1 + 1, 0, none⟩ = false) ∧ w.heap.size + 1 < W'.heap.size ∧ w.heap.size + 1 + 1 < W'.heap.size ∧ w.heap.size + 1 + 1 + 1 < W'.heap.size := by
      intro W' hk
      obtain ⟨e1, e2, e3⟩ := box_at (fr_kept s1 hk)
      obtain ⟨e4, e5, e6⟩ := box_at (fr_kept s2 hk)
      obtain ⟨e7, e8, e9⟩ := box_at (fr_kept s3 hk)
      exact ⟨⟨⟨e1, e2⟩, ⟨e4, e5⟩, e7, e8⟩, e3, e6, e9⟩
    have HX := Lib.hid hx
    clear hx s1 s2 s3
    go_wp2_with fail
    refine wp_region_tellC (C := fun W' => Kept w1 W') [.q, .q, .q, .k undef, .k undef, .k undef] (fun _ _ W' => Kept w1 W') (by kernel_rfl) (by kernel_rfl) (fun b => by kernel_rfl) (fun _ => (Kept.refl _).drew) (fun _ _ _ _ _ _ h hk => h.trans hk) (fun _ _ _ h => h) ?_
    apply Exists.intro
    refine ⟨?_, ?_, ?_, ?_⟩
    · rintro b W hk
      obtain ⟨⟨⟨e1, -⟩, ⟨e2, -⟩, e3, -⟩, l1, l2, l3⟩ := HX.out W hk
      have L1 : Lower (w.heap.size + 1) W.heap.size := ⟨l1⟩
      have L2 : Lower (w.heap.size + 1 + 1) W.heap.size := ⟨l2⟩
      have L3 : Lower (w.heap.size + 1 + 1 + 1) W.heap.size := ⟨l3⟩
      simp only [swapL, Nat.reduceAdd]
      repeat (go_big_quiet_step (fail))
      refine wpQuiet_nil ?_
      rfl
    · simp only [EachS, and_true]
      refine ⟨?_, ?_, ?_⟩
      · intro S b w' _ _ hK
        obtain ⟨⟨⟨e1, e2⟩, -, -, -⟩, -⟩ := HX.out w' hK
        have e3 := same_set e1
        go_simp
        exact ⟨rfl, hK⟩
      · intro S b w' _ _ hK
        obtain ⟨⟨-, ⟨e1, e2⟩, -, -⟩, -⟩ := HX.out w' hK
        have e3 := same_set e1
        go_simp
        exact ⟨rfl, hK⟩
      · intro S b w' _ _ hK
        obtain ⟨⟨-, -, e1, e2⟩, -⟩ := HX.out w' hK
        have e3 := same_set e1
        go_simp
        exact ⟨rfl, hK⟩
    · intro b1 b2 d hd
      simp [callSlots, dullOp] at hd
    · intro L b w' hL hK
      obtain ⟨⟨⟨e1, -⟩, ⟨e2, -⟩, e3, -⟩, l1, l2, l3⟩ := HX.out w' hK
      go_simp
      go_wp2
      refine bodyPost_ret (by simp only [results, Try.results72]; go_simp; rfl) rfl ?_
      exact ⟨_, _, rfl, HI.out.kept.trans hK, HB.out.on (.of hK)⟩
end Go.Proofs.Ytoejdfpmmgldpaa
