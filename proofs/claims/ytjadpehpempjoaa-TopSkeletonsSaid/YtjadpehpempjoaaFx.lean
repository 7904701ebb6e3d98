/- How few rows keep a bound: there is a least number, and what the function value of the program's search does. Conditions: those of each theorem. Contract: what the function value of the program's search does with a choice. Conditions: the matrix and the bound are valid. -/
import Derived.Test.YtjadpehpempjoaaIns
import Derived.Test.YtjadpehpempjoaaCk
namespace Go.Proofs.Ytjadpehpempjoaa
set_option linter.unusedVariables false
set_option linter.unusedSimpArgs false
open Go.RowKit Go.Deep
/-- The error of a choice of numbers with a bound. -/
def okE (n : Nat) (m : Nat → Nat) (f : Nat → Nat → Int) (p q : Int) (r c : Nat) : Int := chkE n m f (bl r n).length (blF r n) (bl c (m 0)).length (blF c (m 0)) p q
def anyK (n : Nat) (m : Nat → Nat) (f : Nat → Nat → Int) (p q : Int) (k : Nat) : Prop := ∃ r c, r < 2 ^ n ∧ c < 2 ^ m 0 ∧ (bl r n).length = k ∧ (bl c (m 0)).length = k ∧ okE n m f p q r c = 0
def IsFew (n : Nat) (m : Nat → Nat) (f : Nat → Nat → Int) (p q : Int) (K : Nat) : Prop := K ≤ min n (m 0) ∧ anyK n m f p q K ∧ ∀ k, k < K → ¬ anyK n m f p q k
theorem few_some {n : Nat} {m : Nat → Nat} {f : Nat → Nat → Int} {p q : Int} (hv : valE n m f = 0) (hb : bndB p q = true) : ∃ K, IsFew n m f p q K := by
  obtain ⟨hq, hp⟩ := bnd_at hb
  have h1 : anyK n m f p q (rkP f n (m 0) (min n (m 0))) := by
    obtain ⟨K, hK⟩ : ∃ K, rkP f n (m 0) (min n (m 0)) = K := ⟨_, rfl⟩
    have hpos : volS f n (m 0) (K : Int) ≠ 0 := by
      have key : ∀ t, 0 < volS f n (m 0) (rkP f n (m 0) t : Nat) := by
        intro t
        induction t with
        | zero =>
          have : volS f n (m 0) ((rkP f n (m 0) 0 : Nat) : Int) = 1 := volS_0
          omega
        | succ t ih =>
          unfold rkP
          split
          · assumption
          · exact ih
      have := key (min n (m 0))
      rw [hK] at this
      omega
    rcases vmat_or (f := f) (n := n) (M := m 0) (k := (K : Int)) (b := 0) (2 ^ n) with e | ⟨r, c, h3, h4, h5, h6, e⟩
    · exact absurd e hpos
    · have e2 : volS f n (m 0) (K : Int) = dV f n (m 0) r c := e
      have hll : (bl r n).length = (bl c (m 0)).length := by omega
      have hch := bl_cho (f := f) hv hll
      have hd : D (bl r n).length (subF f (blF r n) (blF c (m 0))) ≠ 0 := by
        intro q
        unfold dV at e2
        rw [q] at e2
        exact hpos e2
      have hop : opnE n m f (bl r n).length (blF r n) (bl c (m 0)).length (blF c (m 0)) = 0 := by
        unfold opnE
        rw [if_pos hch, if_neg hd]
      have hs := bl_set (r := r) (n := n)
      have ht := bl_set (r := c) (n := m 0)
      rw [← hll] at ht
      have hw := (left_rank (f := f) hs ht hd).2 (by rw [hK]; omega)
      rw [hK]
      refine ⟨r, c, h3, h4, by omega, by omega, ?_⟩
      unfold okE chkE wstN wstD
      rw [if_pos hop, if_pos hb, if_pos hop, if_pos hop, hw, if_neg]
      have h0 : frN (0 : Int) ((D (bl r n).length (subF f (blF r n) (blF c (m 0)))).natAbs : Int) = 0 := by
        unfold frN
        simp
      have h2 := frp_pos (n := 0) (d := ((D (bl r n).length (subF f (blF r n) (blF c (m 0)))).natAbs : Int)) (by omega)
      rw [h0]
      have := Int.mul_nonneg hp.1 (Int.le_of_lt h2)
      omega
  have key : ∀ t, (∃ k, k < t ∧ anyK n m f p q k) → ∃ K, K < t ∧ anyK n m f p q K ∧ ∀ k, k < K → ¬ anyK n m f p q k := by
    intro t
    induction t with
    | zero => rintro ⟨k, hk, -⟩; omega
    | succ t ih =>
      rintro ⟨k, hk, ha⟩
      by_cases hx : ∃ k, k < t ∧ anyK n m f p q k
      · obtain ⟨K, h2, h3⟩ := ih hx
        exact ⟨K, by omega, h3⟩
      · refine ⟨k, hk, ha, fun k2 hk2 h2 => hx ⟨k2, by omega, h2⟩⟩
  have hle := rkP_le (f := f) (n := n) (M := m 0) (min n (m 0))
  obtain ⟨K, h2, h3, h4⟩ := key (rkP f n (m 0) (min n (m 0)) + 1) ⟨_, by omega, h1⟩
  exact ⟨K, by omega, h3, h4⟩
/-- No choice of k rows and columns ahead of rows r and columns c keeps the bound. -/
def noneTo (n : Nat) (m : Nat → Nat) (f : Nat → Nat → Int) (p q k : Int) (r c : Nat) : Prop := ∀ r' c', c' < 2 ^ m 0 → ((bl r' n).length : Int) = k → ((bl c' (m 0)).length : Int) = k → (r' < r ∨ r' = r ∧ c' < c) → okE n m f p q r' c' ≠ 0
/-- The boxes of the search. -/
structure CgB (W : World) (b bA bQ bF bR bC : Nat) (A : Option Addr) (n cap : Nat) (p q : Int) (vF vr vc : Value) (wr : World) : Prop where
  kept : Kept W wr
  lo : W.heap.size ≤ bF ∧ W.heap.size ≤ bR ∧ W.heap.size ≤ bC
  hi : bF < b ∧ bR < b ∧ bC < b
  ne : (bA ≠ bF ∧ bA ≠ bR ∧ bA ≠ bC) ∧ (bQ ≠ bF ∧ bQ ≠ bR ∧ bQ ≠ bC) ∧ bF ≠ bR ∧ bF ≠ bC ∧ bR ≠ bC
  ha : wr.heap[bA]? = some (.cells #[.slice A n cap] 22 (0, 0))
  hq : wr.heap[bQ]? = some (.cells #[.int .i64 p, .int .i64 q] 27 (0, 0))
  hf : wr.heap[bF]? = some (.cells #[vF] 4 (0, 0))
  hr : wr.heap[bR]? = some (.cells #[vr] 23 (0, 0))
  hc : wr.heap[bC]? = some (.cells #[vc] 23 (0, 0))
section
variable {W : World} {b bA bQ bF bR bC : Nat} {A : Option Addr} {n cap : Nat} {p q : Int} {vF vr vc : Value} {wr w' : World}
theorem CgB.on (h : CgB W b bA bQ bF bR bC A n cap p q vF vr vc wr) (hk : Kept wr w') : CgB W b bA bQ bF bR bC A n cap p q vF vr vc w' :=
  ⟨h.kept.trans hk, h.lo, h.hi, h.ne, fr_kept h.ha hk, fr_kept h.hq hk, fr_kept h.hf hk, fr_kept h.hr hk, fr_kept h.hc hk⟩
theorem CgB.setF (h : CgB W b bA bQ bF bR bC A n cap p q vF vr vc wr) (u : Value) : CgB W b bA bQ bF bR bC A n cap p q u vr vc (wr.setCell ⟨bF, 0, none⟩ u) := by
  obtain ⟨⟨n1, n2, n3⟩, ⟨n4, n5, n6⟩, n7, n8, n9⟩ := h.ne
  exact ⟨h.kept.setCell h.lo.1 _, h.lo, h.hi, h.ne, by rw [setCell_ne n1]; exact h.ha, by rw [setCell_ne n4]; exact h.hq, box_set h.hf, by rw [setCell_ne (Ne.symm n7)]; exact h.hr, by rw [setCell_ne (Ne.symm n8)]; exact h.hc⟩
theorem CgB.setR (h : CgB W b bA bQ bF bR bC A n cap p q vF vr vc wr) (u : Value) : CgB W b bA bQ bF bR bC A n cap p q vF u vc (wr.setCell ⟨bR, 0, none⟩ u) := by
  obtain ⟨⟨n1, n2, n3⟩, ⟨n4, n5, n6⟩, n7, n8, n9⟩ := h.ne
  exact ⟨h.kept.setCell h.lo.2.1 _, h.lo, h.hi, h.ne, by rw [setCell_ne n2]; exact h.ha, by rw [setCell_ne n5]; exact h.hq, by rw [setCell_ne n7]; exact h.hf, box_set h.hr, by rw [setCell_ne (Ne.symm n9)]; exact h.hc⟩
theorem CgB.setC (h : CgB W b bA bQ bF bR bC A n cap p q vF vr vc wr) (u : Value) : CgB W b bA bQ bF bR bC A n cap p q vF vr u (wr.setCell ⟨bC, 0, none⟩ u) := by
  obtain ⟨⟨n1, n2, n3⟩, ⟨n4, n5, n6⟩, n7, n8, n9⟩ := h.ne
  exact ⟨h.kept.setCell h.lo.2.2 _, h.lo, h.hi, h.ne, by rw [setCell_ne n3]; exact h.ha, by rw [setCell_ne n6]; exact h.hq, by rw [setCell_ne n8]; exact h.hf, by rw [setCell_ne n9]; exact h.hr, box_set h.hc⟩
end
theorem box2_at {V : World} {g : Nat} {T : TypeId} {a c : Value} (h : V.heap[g]? = some (.cells #[a, c] T (0, 0))) : V.cell? ⟨g, 0, none⟩ = some a ∧ V.cell? ⟨g, 1, none⟩ = some c ∧ g < V.heap.size := by
  have := (Array.getElem?_eq_some_iff.1 h).1
  refine ⟨?_, ?_, this⟩ <;> unfold World.cell? <;> simp [h]
/-- What a choice of numbers is to the program's functions. -/
structure ChoW (wr : World) (n : Nat) (m : Nat → Nat) (f : Nat → Nat → Int) (r c : Nat) (RA : Option Addr) (rc : Nat) (CA : Option Addr) (cc : Nat) : Prop where
  ll : (bl r n).length = (bl c (m 0)).length
  hr : RowsAt wr RA (bl r n).length 1 (blF r n)
  hc : RowsAt wr CA (bl c (m 0)).length 1 (blF c (m 0))
  l6 : (bl r n).length ≤ 6
theorem ChoW.of {wr : World} {b n : Nat} {m : Nat → Nat} {f : Nat → Nat → Int} {r c : Nat} {RA CA : Option Addr} {rc cc : Nat} (hv : valE n m f = 0) (hll : (bl r n).length = (bl c (m 0)).length)
    (hR : wr.ownsRow b 3 1 (.slice RA (bl r n).length rc) (bl r n).length (rowC 1 (blF r n) (bl r n).length)) (hC : wr.ownsRow b 3 1 (.slice CA (bl c (m 0)).length cc) (bl c (m 0)).length (rowC 1 (blF c (m 0)) (bl c (m 0)).length)) : ChoW wr n m f r c RA rc CA cc := by
  obtain ⟨v1, v2, -, -⟩ := valE_0 hv
  refine ⟨hll, rows_of_owns hR fun q hq j _ => ?_, rows_of_owns hC fun q hq j _ => ?_, ?_⟩
  · have := blN_lt hq
    rw [blF_N]; unfold I64; omega
  · have := blN_lt hq
    rw [blF_N]; unfold I64; omega
  · have := bl_len (r := r) (n := n); omega
end Go.Proofs.Ytjadpehpempjoaa
namespace Go.Proofs.Ytjadpehpempjoaa
set_option linter.unusedVariables false
set_option linter.unusedSimpArgs false
open Go.RowKit Go.Deep
set_option maxRecDepth 100000 in
set_option maxHeartbeats 8000000 in
theorem ccarg_any (W : World) (b bA bQ bF bR bC : Nat) (A : Option Addr) (n cap : Nat) (B : Nat → Option Addr) (m cp : Nat → Nat) (f : Nat → Nat → Int) (p q k : Int) (r c : Nat) (RA CA : Option Addr) (rc cc : Nat) (vr vc : Value) (wr : World)
    (hv : valE n m f = 0) (hbb : bndB p q = true) (hM : MatAt W A n B m cp f) (hll : (bl r n).length = (bl c (m 0)).length) (hI : CgB W b bA bQ bF bR bC A n cap p q (.bool false) vr vc wr)
    (hR : wr.ownsRow b 3 1 (.slice RA (bl r n).length rc) (bl r n).length (rowC 1 (blF r n) (bl r n).length)) (hC : wr.ownsRow b 3 1 (.slice CA (bl c (m 0)).length cc) (bl c (m 0)).length (rowC 1 (blF c (m 0)) (bl c (m 0)).length)) :
    Calls Try.prog 19 #[.slice RA (bl r n).length rc, .slice CA (bl c (m 0)).length cc, .pointer (some ⟨bA, 0, none⟩), .pointer (some ⟨bQ, 0, none⟩), .pointer (some ⟨bF, 0, none⟩), .pointer (some ⟨bR, 0, none⟩), .pointer (some ⟨bC, 0, none⟩)] wr
      fun e w'' => FromOn b wr w'' ∧ ((okE n m f p q r c ≠ 0 ∧ e = .returned (.bool true) ∧ CgB W b bA bQ bF bR bC A n cap p q (.bool false) vr vc w'') ∨
        (okE n m f p q r c = 0 ∧ e = .returned (.bool false) ∧ CgB W b bA bQ bF bR bC A n cap p q (.bool true) (.slice RA (bl r n).length rc) (.slice CA (bl c (m 0)).length cc) w'')) := by
  have hw := ChoW.of (f := f) (RA := RA) (CA := CA) hv hll hR hC
  obtain ⟨hcc, hk⟩ := And.intro (bl_cho (f := f) hv hll) (Mok.of (bl_cho (f := f) hv hll)).2
  have hdb := hk.bd
  have hwb := wmat_bd hk bl_set n (Nat.le_refl n)
  obtain ⟨l, hl⟩ : ∃ l, (bl r n).length = l := ⟨_, rfl⟩
  have hlc : (bl c (m 0)).length = l := by rw [← hll, hl]
  have hset := bl_set (r := r) (n := n)
  have hoE : okE n m f p q r c = chkE n m f l (blF r n) l (blF c (m 0)) p q := by unfold okE; rw [hl, hlc]
  have hRr := hw.hr
  have hCr := hw.hc
  have hl6 := hw.l6
  rw [hl] at hcc hk hdb hwb hRr hset hl6 ⊢
  rw [hlc] at hcc hCr ⊢
  rw [hoE]
  obtain ⟨⟨n1, n6⟩, ⟨m1, m6⟩, -, -⟩ := valE_0 hv
  obtain ⟨a1, a2, a3⟩ := box_at hI.ha
  obtain ⟨q1, q2, q3⟩ := box2_at hI.hq
  obtain ⟨f1, f2, f3⟩ := box_at hI.hf
  have LA : Lower bA wr.heap.size := ⟨a3⟩
  have LQ : Lower bQ wr.heap.size := ⟨q3⟩
  have LF : Lower bF wr.heap.size := ⟨f3⟩
  have HI := Lib.hid hI
  have HM := Lib.hid (hM.of hI.kept)
  have HRr := Lib.hid hRr
  have HCr := Lib.hid hCr
  have hn9 : n ≤ 9223372036854775807 := by omega
  have hl9 : l ≤ 9223372036854775807 := by omega
  have HKM := Lib.hid hk
  have HSET := Lib.hid hset
  have HBB := Lib.hid hbb
  have hsame := same_set f1
  have HSM := Lib.hid hsame
  by_cases hd : D l (subF f (blF r n) (blF c (m 0))) = 0
  · have hop : opnE n m f l (blF r n) l (blF c (m 0)) = 11 := by
      unfold opnE
      rw [if_pos hcc, if_pos hd]
    have hne : chkE n m f l (blF r n) l (blF c (m 0)) p q ≠ 0 := by
      unfold chkE
      rw [if_neg (by rw [hop]; decide), hop]
      decide
    have HOP := Lib.hid hop
    have HNE := Lib.hid hne
    clear hv hM hll hI hR hC hw hcc hk hdb hwb hl hlc hoE hRr hCr hd hop hne hset hbb
    go_enter Try.func19, Try.ntmps19
    go_wp2_with (go_at_call 20; refine (copenno_any _ _ _ _ _ _ _ _ _ _ _ _ _ _ _ _ hn9 hl9 hl9 (HM.out.of (by (repeat (first | exact Kept.refl _ | assumption | refine Kept.alloc ?_ _ | refine Kept.ext ?_ _ | refine Kept.drew ?_ | refine Kept.drewN ?_ _)))) (HRr.out.of (by (repeat (first | exact Kept.refl _ | assumption | refine Kept.alloc ?_ _ | refine Kept.ext ?_ _ | refine Kept.drew ?_ | refine Kept.drewN ?_ _)))) (HCr.out.of (by (repeat (first | exact Kept.refl _ | assumption | refine Kept.alloc ?_ _ | refine Kept.ext ?_ _ | refine Kept.drew ?_ | refine Kept.drewN ?_ _)))) (by rw [HOP.out]; decide)).mono ?_; rintro e w1 ⟨rfl, x, rfl⟩; rw [HOP.out])
    ((first | (with_reducible refine wp_region_tail2 9 (by kernel_rfl) (by kernel_rfl) ?_) | refine wp_region_tail 9 (by kernel_rfl) (by kernel_rfl) ?_); simp only [List.take_succ_cons, List.take_zero, List.drop_succ_cons, List.drop_zero]; (repeat (go_big_quiet_step (fail))); refine wpQuiet_nil ?_; intro x3)
    go_wp2_with fail
    go_ret
    have hkx : Kept wr (ext ((ext wr x).alloc (.cells #[.slice none 0 0, .slice none 0 0, .slice none 0 0, .int .i64 0] 53)) x3) := by (repeat (first | exact Kept.refl _ | assumption | refine Kept.alloc ?_ _ | refine Kept.ext ?_ _ | refine Kept.drew ?_ | refine Kept.drewN ?_ _))
    exact ⟨.of hkx, .inl ⟨HNE.out, rfl, HI.out.on hkx⟩⟩
  · have hop : opnE n m f l (blF r n) l (blF c (m 0)) = 0 := by
      unfold opnE
      rw [if_pos hcc, if_neg hd]
    have hN2 : wstN n m f l (blF r n) l (blF c (m 0)) = frN (wmat f l (blF r n) (blF c (m 0)) (m 0) n) ((D l (subF f (blF r n) (blF c (m 0)))).natAbs : Int) := if_pos hop
    have hD2 : wstD n m f l (blF r n) l (blF c (m 0)) = frD (wmat f l (blF r n) (blF c (m 0)) (m 0) n) ((D l (subF f (blF r n) (blF c (m 0)))).natAbs : Int) := if_pos hop
    obtain ⟨dd, hdd⟩ : ∃ x, D l (subF f (blF r n) (blF c (m 0))) = x := ⟨_, rfl⟩
    rw [hdd] at hd hdb hN2 hD2
    have hp := fr_pos hwb (show 1 ≤ (dd.natAbs : Int) ∧ (dd.natAbs : Int) ≤ 720000000000000 by omega)
    obtain ⟨wN, hN⟩ : ∃ x, frN (wmat f l (blF r n) (blF c (m 0)) (m 0) n) (dd.natAbs : Int) = x := ⟨_, rfl⟩
    obtain ⟨wD, hDN⟩ : ∃ x, frD (wmat f l (blF r n) (blF c (m 0)) (m 0) n) (dd.natAbs : Int) = x := ⟨_, rfl⟩
    rw [hN] at hp hN2
    rw [hDN] at hp hD2
    have hpq := bnd_at hbb
    have hwst : ∀ w', Kept wr w' → Calls Try.prog 22 #[.agg #[.slice A n cap, .slice RA l rc, .slice CA l cc, .int .i64 dd]] w' fun e w'' => e = .returned (.agg #[.int .i64 wN, .int .i64 wD]) ∧ Kept w' w'' := fun w' hkw => by
      have := cworst_any A n cap B m cp f RA l rc (blF r n) CA cc (blF c (m 0)) dd w' HKM.out HSET.out (by omega) (HM.out.of hkw) (HRr.out.of hkw) (HCr.out.of hkw)
      rwa [hN, hDN] at this
    have HWST := Lib.hid hwst
    have HOP := Lib.hid hop
    have HDD := Lib.hid hdd
    have hchk : chkE n m f l (blF r n) l (blF c (m 0)) p q = if p * wD < wN * q then 12 else 0 := by
      unfold chkE
      rw [if_pos hop, if_pos hbb, hN2, hD2]
    by_cases hc : p * wD < wN * q
    · have hab := fun w => above_any wN wD p q w ⟨by omega, by omega, by omega, by omega⟩
      rw [decide_eq_true hc] at hab
      have HAB := Lib.hid hab
      have HNE := Lib.hid (show chkE n m f l (blF r n) l (blF c (m 0)) p q ≠ 0 by rw [hchk, if_pos hc]; decide)
      clear hv hM hll hI hR hC hw hcc hk hdb hwb hl hlc hoE hRr hCr hd hop hset hbb hN2 hD2 hdd hp hN hDN hpq hwst hchk hc hab
      go_enter Try.func19, Try.ntmps19
      go_wp2_with (go_at_call 20; refine (copenok_any _ _ _ _ _ _ _ _ _ _ _ _ _ _ _ _ hn9 hl9 hl9 (HM.out.of (by (repeat (first | exact Kept.refl _ | assumption | refine Kept.alloc ?_ _ | refine Kept.ext ?_ _ | refine Kept.drew ?_ | refine Kept.drewN ?_ _)))) (HRr.out.of (by (repeat (first | exact Kept.refl _ | assumption | refine Kept.alloc ?_ _ | refine Kept.ext ?_ _ | refine Kept.drew ?_ | refine Kept.drewN ?_ _)))) (HCr.out.of (by (repeat (first | exact Kept.refl _ | assumption | refine Kept.alloc ?_ _ | refine Kept.ext ?_ _ | refine Kept.drew ?_ | refine Kept.drewN ?_ _)))) HOP.out).mono ?_; rintro e w1 ⟨rfl, x, rfl⟩; rw [HDD.out])
      ((first | (with_reducible refine wp_region_tail2 9 (by kernel_rfl) (by kernel_rfl) ?_) | refine wp_region_tail 9 (by kernel_rfl) (by kernel_rfl) ?_); simp only [List.take_succ_cons, List.take_zero, List.drop_succ_cons, List.drop_zero]; (repeat (go_big_quiet_step (first | (go_at_call 22; exact Calls.kept_of (HWST.out _ (by (repeat (first | exact Kept.refl _ | assumption | refine Kept.alloc ?_ _ | refine Kept.ext ?_ _ | refine Kept.drew ?_ | refine Kept.drewN ?_ _))))) | (go_at_call 21; exact Calls.kept_of (HAB.out _))))); refine wpQuiet_nil ?_; intro x3)
      go_wp2_with fail
      go_ret
      have hkx : Kept wr (ext ((ext wr x).alloc (.cells #[.slice A n cap, .slice RA l rc, .slice CA l cc, .int .i64 dd] 53)) x3) := by (repeat (first | exact Kept.refl _ | assumption | refine Kept.alloc ?_ _ | refine Kept.ext ?_ _ | refine Kept.drew ?_ | refine Kept.drewN ?_ _))
      exact ⟨.of hkx, .inl ⟨HNE.out, rfl, HI.out.on hkx⟩⟩
    · have hab := fun w => above_any wN wD p q w ⟨by omega, by omega, by omega, by omega⟩
      rw [decide_eq_false hc] at hab
      have HAB := Lib.hid hab
      have HNE := Lib.hid (show chkE n m f l (blF r n) l (blF c (m 0)) p q = 0 by rw [hchk, if_neg hc])
      clear hsame
      have h1 := hI.setF (.bool true)
      have h2 := h1.setR (.slice RA l rc)
      have h3 := h2.setC (.slice CA l cc)
      obtain ⟨g1, g2, g3⟩ := box_at h1.hf
      obtain ⟨g4, g5, g6⟩ := box_at h1.hr
      obtain ⟨g7, g8, g9⟩ := box_at h2.hc
      obtain ⟨g10, g11, g12⟩ := box_at h2.hf
      obtain ⟨g13, g14, g15⟩ := box_at h3.hf
      have LR : Lower bR wr.heap.size := ⟨(box_at hI.hr).2.2⟩
      have LC : Lower bC wr.heap.size := ⟨(box_at hI.hc).2.2⟩
      have H3 := Lib.hid h3
      have HFO := Lib.hid (((FromOn.set (w := wr) (o := 0) (u := .bool true) hI.hi.1).trans (FromOn.set (o := 0) (u := .slice RA l rc) hI.hi.2.1)).trans (FromOn.set (o := 0) (u := .slice CA l cc) hI.hi.2.2))
      clear hv hM hll hI hR hC hw hcc hk hdb hwb hl hlc hoE hRr hCr hd hop hset hbb hN2 hD2 hdd hp hN hDN hpq hwst hchk hc hab h1 h2 h3
      go_enter Try.func19, Try.ntmps19
      go_wp2_with (go_at_call 20; refine (copenok_any _ _ _ _ _ _ _ _ _ _ _ _ _ _ _ _ hn9 hl9 hl9 (HM.out.of (by (repeat (first | exact Kept.refl _ | assumption | refine Kept.alloc ?_ _ | refine Kept.ext ?_ _ | refine Kept.drew ?_ | refine Kept.drewN ?_ _)))) (HRr.out.of (by (repeat (first | exact Kept.refl _ | assumption | refine Kept.alloc ?_ _ | refine Kept.ext ?_ _ | refine Kept.drew ?_ | refine Kept.drewN ?_ _)))) (HCr.out.of (by (repeat (first | exact Kept.refl _ | assumption | refine Kept.alloc ?_ _ | refine Kept.ext ?_ _ | refine Kept.drew ?_ | refine Kept.drewN ?_ _)))) HOP.out).mono ?_; rintro e w1 ⟨rfl, x, rfl⟩; rw [HDD.out])
      ((first | (with_reducible refine wp_region_tail2 9 (by kernel_rfl) (by kernel_rfl) ?_) | refine wp_region_tail 9 (by kernel_rfl) (by kernel_rfl) ?_); simp only [List.take_succ_cons, List.take_zero, List.drop_succ_cons, List.drop_zero]; (repeat (go_big_quiet_step (first | (go_at_call 22; exact Calls.kept_of (HWST.out _ (by (repeat (first | exact Kept.refl _ | assumption | refine Kept.alloc ?_ _ | refine Kept.ext ?_ _ | refine Kept.drew ?_ | refine Kept.drewN ?_ _))))) | (go_at_call 21; exact Calls.kept_of (HAB.out _))))); refine wpQuiet_nil ?_; intro x3)
      go_wp2_with fail
      go_ret
      have hkx : Kept (((wr.setCell ⟨bF, 0, none⟩ (.bool true)).setCell ⟨bR, 0, none⟩ (.slice RA l rc)).setCell ⟨bC, 0, none⟩ (.slice CA l cc)) (ext ((ext (((wr.setCell ⟨bF, 0, none⟩ (.bool true)).setCell ⟨bR, 0, none⟩ (.slice RA l rc)).setCell ⟨bC, 0, none⟩ (.slice CA l cc)) x).alloc (.cells #[.slice A n cap, .slice RA l rc, .slice CA l cc, .int .i64 dd] 53)) x3) := by (repeat (first | exact Kept.refl _ | assumption | refine Kept.alloc ?_ _ | refine Kept.ext ?_ _ | refine Kept.drew ?_ | refine Kept.drewN ?_ _))
      exact ⟨HFO.out.trans (.of hkx), .inr ⟨HNE.out, rfl, H3.out.on hkx⟩⟩
end Go.Proofs.Ytjadpehpempjoaa
