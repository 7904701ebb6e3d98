/- Contracts: which vectors can be multiplied, the skeleton or its error, of the program and of the reference. Conditions: the lists' lengths are ints. Contracts: products of a matrix with a vector, of the program and of the reference. Conditions: the lists' lengths are ints. Contracts: an element of the product and the product, of the reference. Conditions: the lists' lengths are ints. -/
import Derived.Test.YtjadpehpempjoaaWt
namespace Go.Proofs.Ytjadpehpempjoaa
set_option linter.unusedVariables false
set_option linter.unusedSimpArgs false
open Go.RowKit Go.Deep
def badX (X : Nat → Nat → Int) (k : Nat) : Bool := !(decide (-1000 ≤ X k 0 ∧ X k 0 ≤ 1000))
def facB (M xl : Nat) (X : Nat → Nat → Int) : Bool := (xl == M) && !(List.range xl).any (badX X)
theorem facB_at {M xl : Nat} {X : Nat → Nat → Int} (h : facB M xl X = true) : xl = M ∧ ∀ k, k < xl → -1000 ≤ X k 0 ∧ X k 0 ≤ 1000 := by
  unfold facB at h
  simp only [Bool.and_eq_true, beq_iff_eq, Bool.not_eq_true'] at h
  refine ⟨h.1, fun k hk => ?_⟩
  have := any_range_false.1 h.2 k hk
  unfold badX at this
  simpa using this
theorem fac_no {M xl : Nat} {X : Nat → Nat → Int} {r : Bool} (h : xl ≠ M) (hr : facB M xl X = r) : r = false := by
  unfold facB at hr; rw [show (xl == M) = false by simpa using h] at hr; exact hr.symm
theorem fac_bad {M xl k : Nat} {X : Nat → Nat → Int} {r : Bool} (hk : k < xl) (h : badX X k = true) (hr : facB M xl X = r) : r = false := by
  unfold facB at hr; rw [any_range.2 ⟨k, hk, h⟩] at hr; simpa using hr.symm
theorem fac_ok {M xl : Nat} {X : Nat → Nat → Int} {r : Bool} (h : xl = M) (h2 : ∀ k, k < xl → badX X k = false) (hr : facB M xl X = r) : r = true := by
  unfold facB at hr; rw [any_range_false.2 h2, show (xl == M) = true by simpa using h] at hr; exact hr.symm
set_option maxRecDepth 100000 in
set_option maxHeartbeats 4000000 in
theorem cfac_any (A : Option Addr) (n cap : Nat) (B : Nat → Option Addr) (m cp : Nat → Nat) (f : Nat → Nat → Int) (XA : Option Addr) (xl xc : Nat) (X : Nat → Nat → Int) (w : World) (h1 : 1 ≤ n ∧ n ≤ 6) (hm : m 0 ≤ 6) (hxl : xl ≤ 9223372036854775807) (h : MatAt w A n B m cp f) (hX : RowsAt w XA xl 1 X) :
    Calls Try.prog 23 #[.slice A n cap, .slice XA xl xc] w fun e w' => e = .returned (.bool (facB (m 0) xl X)) ∧ w = w' := by
  have HX := Lib.hid hX
  obtain ⟨b, off, rfl, hb, c00⟩ := h.at (k := 0) (by omega)
  have LB : Lower b w.heap.size := ⟨hb⟩
  rw [Nat.add_zero] at c00
  clear h hX
  obtain ⟨r, hr⟩ : ∃ r, facB (m 0) xl X = r := ⟨_, rfl⟩
  rw [hr]
  have HR := Lib.hid hr
  clear hr
  by_cases he : xl = m 0
  · have g1 : ((xl : Int) == (m 0 : Int)) = true := by rw [he]; exact beq_self_eq_true _
    have g2 : ((xl : Int) != (m 0 : Int)) = false := by simp only [bne, g1, Bool.not_true]
    have HE := Lib.hid he
    clear he
    go_enter Try.func23, Try.ntmps23
    go_wp2_with (first | (go_at_call 27; refine (from_any _ _ _ _).mono ?_; rintro e w1 ⟨rfl, rfl⟩))
    go_loopw [16] (fun i wr => ∃ k : Nat, k ≤ xl ∧ i = .int .i64 k ∧ (∀ j, j < k → badX X j = false) ∧ w = wr) (fun i _ => xl - (intOf i).toNat)
    case atStart => exact ⟨0, by omega, rfl, fun j hj => absurd hj (by omega), by first | rfl | trivial⟩
    case round =>
      obtain ⟨k, hk, rfl, hno, rfl⟩ := hrel
      have HNO := Lib.hid hno
      clear hno
      by_cases hlt : k < xl
      · obtain ⟨xb, xo, rfl, hxb, c0, i0⟩ := rows1 HX.out hlt
        have LX : Lower xb w.heap.size := ⟨hxb⟩
        by_cases hf : decide (-1000 ≤ X k 0 ∧ X k 0 ≤ 1000) = true
        · go_wp2_with (first | (go_at_call 27; refine (from_any _ _ _ _).mono ?_; rintro e w1 ⟨rfl, rfl⟩))
          go_roundw
          case rel =>
            refine ⟨k + 1, by omega, by go_num, fun j hj => ?_, by first | rfl | trivial⟩
            by_cases e : j = k
            · rw [e]; unfold badX; rw [hf]; rfl
            · exact HNO.out j (by omega)
          case measure => simp [intOf]; omega
        · have hf : decide (-1000 ≤ X k 0 ∧ X k 0 ≤ 1000) = false := by simpa using hf
          go_wp2_with (first | (go_at_call 27; refine (from_any _ _ _ _).mono ?_; rintro e w1 ⟨rfl, rfl⟩))
          go_ret
          exact ⟨ret_bool (fac_bad hlt (by unfold badX; rw [hf]; rfl) HR.out).symm, rfl⟩
      · obtain rfl : k = xl := by omega
        go_wp2_with (first | (go_at_call 27; refine (from_any _ _ _ _).mono ?_; rintro e w1 ⟨rfl, rfl⟩))
        go_ret
        exact ⟨ret_bool (fac_ok HE.out HNO.out HR.out).symm, rfl⟩
  · have g1 : ((xl : Int) == (m 0 : Int)) = false := beq_eq_false_iff_ne.2 (by omega)
    have g2 : ((xl : Int) != (m 0 : Int)) = true := by simp only [bne, g1, Bool.not_false]
    have HE := Lib.hid he
    clear he
    go_enter Try.func23, Try.ntmps23
    go_wp2_with (first | (go_at_call 27; refine (from_any _ _ _ _).mono ?_; rintro e w1 ⟨rfl, rfl⟩))
    go_ret
    exact ⟨ret_bool (fac_no HE.out HR.out).symm, rfl⟩
end Go.Proofs.Ytjadpehpempjoaa
namespace Go.Proofs.Ytjadpehpempjoaa
set_option linter.unusedVariables false
set_option linter.unusedSimpArgs false
open Go.RowKit Go.Deep
/-- Element i of the product. -/
def pTerm (f X : Nat → Nat → Int) (i j : Nat) : Int := f i j * X j 0
def pV (f X : Nat → Nat → Int) (M i : Nat) : Int := sumZ (pTerm f X i) M
theorem pSum_bd {n : Nat} {m : Nat → Nat} {f X : Nat → Nat → Int} {xl i : Nat} (hv : valE n m f = 0) (hf : facB (m 0) xl X = true) (hi : i < n) {q : Nat} (hq : q ≤ m 0) : -600000 ≤ sumZ (pTerm f X i) q ∧ sumZ (pTerm f X i) q ≤ 600000 := by
  obtain ⟨-, ⟨h1, h2⟩, -, h4⟩ := valE_0 hv
  obtain ⟨he, hx⟩ := facB_at hf
  have := sumZ_bd (f := pTerm f X i) (b := 100000) (n := q) (fun k hk => mul_abs (c := 100) (d := 1000) (h4 i hi k (by omega)) (hx k (by omega)) (by decide) (by decide))
  omega
theorem pTerm_bd {n : Nat} {m : Nat → Nat} {f X : Nat → Nat → Int} {xl i : Nat} (hv : valE n m f = 0) (hf : facB (m 0) xl X = true) (hi : i < n) {q : Nat} (hq : q < m 0) : -100000 ≤ f i q * X q 0 ∧ f i q * X q 0 ≤ 100000 := by
  obtain ⟨-, ⟨h1, h2⟩, -, h4⟩ := valE_0 hv
  obtain ⟨he, hx⟩ := facB_at hf
  exact mul_abs (c := 100) (d := 1000) (h4 i hi q hq) (hx q (by omega)) (by decide) (by decide)
def prodE (n : Nat) (m : Nat → Nat) (f : Nat → Nat → Int) (xl : Nat) (X : Nat → Nat → Int) : Int := if valE n m f = 0 then (if facB (m 0) xl X = true then 0 else 1) else valE n m f
theorem prodE_0 {n : Nat} {m : Nat → Nat} {f : Nat → Nat → Int} {xl : Nat} {X : Nat → Nat → Int} (h : prodE n m f xl X = 0) : valE n m f = 0 ∧ facB (m 0) xl X = true := by
  unfold prodE at h
  split at h
  · split at h
    · exact ⟨by assumption, by assumption⟩
    · cases h
  · exact absurd h (by assumption)
/-- Two lists of results: what is returned with an error is nil. -/
theorem rowC_ext {f g : Nat → Nat → Int} {n : Nat} (h : ∀ k, k < n → f k 0 = g k 0) : rowC 1 f n = rowC 1 g n := rowC_congr fun k hk j hj => by
  obtain rfl : j = 0 := by omega
  exact h k hk
set_option maxRecDepth 100000 in
set_option maxHeartbeats 4000000 in
theorem cProdno_any (A : Option Addr) (n cap : Nat) (B : Nat → Option Addr) (m cp : Nat → Nat) (f : Nat → Nat → Int) (XA : Option Addr) (xl xc : Nat) (X : Nat → Nat → Int) (w : World) (hn : n ≤ 9223372036854775807) (hxl : xl ≤ 9223372036854775807) (h : MatAt w A n B m cp f) (hX : RowsAt w XA xl 1 X) (hE : prodE n m f xl X ≠ 0) :
    Calls Try.prog 8 #[.slice A n cap, .slice XA xl xc] w fun e w' => e = .returned (.tuple #[.slice none 0 0, .int .i64 (prodE n m f xl X)]) ∧ Kept w w' := by
  have HM := Lib.hid h
  have HX := Lib.hid hX
  clear h hX
  by_cases hv : valE n m f = 0
  · obtain ⟨hn1, hm1, -, -⟩ := valE_0 hv
    have hf : facB (m 0) xl X = false := by
      cases hf : facB (m 0) xl X
      · rfl
      · exact absurd (by unfold prodE; rw [if_pos hv, if_pos hf]) hE
    rw [show prodE n m f xl X = 1 by unfold prodE; rw [if_pos hv, if_neg (by rw [hf]; decide)]]
    have HV := Lib.hid hv
    have HF := Lib.hid hf
    clear hv hf hE
    go_enter Try.func8, Try.ntmps8
    go_wp2_with (first | (go_at_call 15; refine (cval_any _ _ _ _ _ _ _ _ hn HM.out).mono ?_; rintro e w1 ⟨rfl, rfl⟩; rw [HV.out]) | (go_at_call 23; refine (cfac_any _ _ _ _ _ _ _ _ _ _ _ _ hn1 hm1.2 hxl HM.out HX.out).mono ?_; rintro e w1 ⟨rfl, rfl⟩; rw [HF.out]))
    refine bodyPost_ret (by simp only [results, Try.results8]; go_simp; rfl) rfl ?_
    exact ⟨rfl, by (repeat (first | exact Kept.refl _ | assumption | refine Kept.alloc ?_ _ | refine Kept.ext ?_ _ | refine Kept.drew ?_ | refine Kept.drewN ?_ _))⟩
  · obtain ⟨e, he⟩ : ∃ e, valE n m f = e := ⟨_, rfl⟩
    rw [show prodE n m f xl X = e by unfold prodE; rw [if_neg hv, he]]
    have HV := Lib.hid he
    rw [he] at hv
    clear he hE
    have hv2 : (e == 0) = false := by simpa using hv
    have hv3 : decide (e = 0) = false := by simpa using hv
    go_enter Try.func8, Try.ntmps8
    go_wp2_with (go_at_call 15; refine (cval_any _ _ _ _ _ _ _ _ hn HM.out).mono ?_; rintro e w1 ⟨rfl, rfl⟩; rw [HV.out])
    refine bodyPost_ret (by simp only [results, Try.results8]; go_simp; rfl) rfl ?_
    exact ⟨rfl, by (repeat (first | exact Kept.refl _ | assumption | refine Kept.alloc ?_ _ | refine Kept.ext ?_ _ | refine Kept.drew ?_ | refine Kept.drewN ?_ _))⟩
set_option maxRecDepth 100000 in
set_option maxHeartbeats 8000000 in
theorem cProdok_any (A : Option Addr) (n cap : Nat) (B : Nat → Option Addr) (m cp : Nat → Nat) (f : Nat → Nat → Int) (XA : Option Addr) (xl xc : Nat) (X : Nat → Nat → Int) (w : World) (hn : n ≤ 9223372036854775807) (hxl : xl ≤ 9223372036854775807) (h : MatAt w A n B m cp f) (hX : RowsAt w XA xl 1 X) (hE : prodE n m f xl X = 0) :
    Calls Try.prog 8 #[.slice A n cap, .slice XA xl xc] w fun e w' => ∃ v, e = .returned (.tuple #[v, .int .i64 0]) ∧ Kept w w' ∧ w'.ownsRow w.heap.size 3 1 v n (rowC 1 (fun k _ => pV f X (m 0) k) n) := by
  have HM := Lib.hid h
  have HX := Lib.hid hX
  clear h hX
  obtain ⟨hv, hf⟩ := prodE_0 hE
  obtain ⟨hn1, hm1, hmm, hff⟩ := valE_0 hv
  obtain ⟨hxe, hxb⟩ := facB_at hf
  have HV := Lib.hid hv
  have HF := Lib.hid hf
  have HMM := Lib.hid hmm
  have HXE := Lib.hid hxe
  clear hv hf hE hmm hff hxb hxe
  obtain ⟨n1, n6⟩ := hn1
  obtain ⟨m1, m6⟩ := hm1
  have hm2 := mk_I n n6
  go_enter Try.func8, Try.ntmps8
  go_wp2_with (first | (go_at_call 15; refine (cval_any _ _ _ _ _ _ _ _ hn HM.out).mono ?_; rintro e w1 ⟨rfl, rfl⟩; rw [HV.out]) | (go_at_call 23; refine (cfac_any _ _ _ _ _ _ _ _ _ _ _ _ ⟨n1, n6⟩ m6 hxl HM.out HX.out).mono ?_; rintro e w1 ⟨rfl, rfl⟩; rw [HF.out]))
  obtain ⟨g, hg⟩ : ∃ g, w.heap.size = g := ⟨_, rfl⟩
  have h0 : (w.alloc (.cells (madeCells #[.int .i64 0] n) 3)).ownsRow w.heap.size 3 1 (.slice (some ⟨w.heap.size, 0, none⟩) n n) n (rowC 1 (fun _ _ => (0 : Int)) n) := by
    rw [rowC_zero, ← made_list]
    exact World.ownsRow_lit w _ n (Nat.le_refl _) (by unfold maxLen; omega) (by rw [size_madeCells, Nat.mul_one])
  rw [hg] at h0 ⊢
  have H0 := Lib.hid h0
  have HG := Lib.hid hg
  clear h0 hm2
  go_loopw [26] (fun i wr => ∃ k : Nat, k ≤ n ∧ i = .int .i64 k ∧ Kept w wr ∧ wr.ownsRow g 3 1 (.slice (some ⟨g, 0, none⟩) n n) n (rowC 1 (fun a _ => if a < k then pV f X (m 0) a else 0) n)) (fun i _ => n - (intOf i).toNat)
  case atStart => exact ⟨0, by omega, rfl, by (repeat (first | exact Kept.refl _ | assumption | refine Kept.alloc ?_ _ | refine Kept.ext ?_ _ | refine Kept.drew ?_ | refine Kept.drewN ?_ _)), by rw [rowC_ext (g := fun _ _ => 0) (fun k _ => if_neg (by omega))]; exact H0.out⟩
  case round =>
    obtain ⟨k, hk, rfl, hkw, hO⟩ := hrel
    by_cases hlt : k < n
    · obtain ⟨ab, ao, rfl, hab, c1⟩ := (HM.out.of hkw).at hlt
      have hmk := HMM.out k hlt
      obtain ⟨bb, bo, hB, hbb, -, -⟩ := rows1 (k := 0) ((HM.out.of hkw).el k hlt) (by omega)
      rw [hB, hmk] at c1
      have hcap := HM.out.cap k hlt
      have LA : Lower ab wr.heap.size := ⟨hab⟩
      have HO := Lib.hid hO
      have HKW := Lib.hid hkw
      clear hO hkw
      go_wp2
      go_loopw [33] (fun i w2 => ∃ q : Nat, q ≤ m 0 ∧ i = .int .i64 q ∧ Kept w w2 ∧ w2.ownsRow g 3 1 (.slice (some ⟨g, 0, none⟩) n n) n (rowC 1 (fun a _ => if a < k then pV f X (m 0) a else if a = k then sumZ (pTerm f X k) q else 0) n)) (fun i _ => m 0 - (intOf i).toNat)
      case atStart => exact ⟨0, by omega, rfl, HKW.out, by rw [rowC_ext (g := fun a _ => if a < k then pV f X (m 0) a else 0) (fun a _ => by by_cases e : a = k <;> simp [e, sumZ])]; exact HO.out⟩
      case round =>
        obtain ⟨q, hq, rfl, hkw, hO2⟩ := hrel
        by_cases hlq : q < m 0
        · obtain ⟨bb2, bo2, hB2, hbb2, c2, -⟩ := rows1 (k := q) ((HM.out.of hkw).el k hlt) (by omega)
          rw [hB] at hB2
          cases hB2
          obtain ⟨xb, xo, rfl, hxb, c3, -⟩ := rows1 (k := q) (HX.out.of hkw) (by have := HXE.out; omega)
          have c4 := hO2.cellAt k (by omega)
          have e4 := rowC_get 1 (fun a (_ : Nat) => if a < k then pV f X (m 0) a else if a = k then sumZ (pTerm f X k) q else 0) hlt (show 0 < 1 by omega)
          rw [Nat.mul_one, Nat.add_zero, if_neg (by omega), if_pos rfl] at e4
          rw [e4] at c4
          have c5 := hO2.frozenAt k
          have hgl : g < wr.heap.size := own_lt hO2 rfl
          have b1 := pTerm_bd HV.out HF.out hlt hlq
          have b2 := pSum_bd HV.out HF.out hlt (q := q) (by omega)
          obtain ⟨S, hS⟩ : ∃ x, sumZ (pTerm f X k) q = x := ⟨_, rfl⟩
          obtain ⟨tt, htt⟩ : ∃ x, f k q * X q 0 = x := ⟨_, rfl⟩
          have hS2 : sumZ (pTerm f X k) (q + 1) = S + tt := by rw [← hS, ← htt]; rfl
          have hset := own_set hO2 hlt (show 0 < 1 by omega) (S + tt)
          rw [Nat.mul_one, Nat.add_zero] at hset
          rw [hS] at c4 b2
          rw [htt] at b1
          have LB : Lower bb wr.heap.size := ⟨hbb2⟩
          have LX : Lower xb wr.heap.size := ⟨hxb⟩
          have LG : Lower g wr.heap.size := ⟨hgl⟩
          have HS2 := Lib.hid hS2
          have HSET := Lib.hid hset
          have HKW2 := Lib.hid hkw
          have hqx : q < xl := by have := HXE.out; omega
          clear hO2 e4 hS hS2 hset hkw
          go_wp2
          ((first | (with_reducible refine wp_region_tail2 12 (by kernel_rfl) (by kernel_rfl) ?_) | refine wp_region_tail 12 (by kernel_rfl) (by kernel_rfl) ?_); simp only [List.take_succ_cons, List.take_zero, List.drop_succ_cons, List.drop_zero]; (repeat (go_big_quiet_step (first | fail))); refine wpQuiet_nil ?_; intro x)
          go_wp2
          go_roundw
          case rel =>
            have hset := HSET.out.1
            rw [rowC_ext (g := fun a _ => if a < k then pV f X (m 0) a else if a = k then sumZ (pTerm f X k) (q + 1) else 0) (fun a _ => by
              unfold setF
              by_cases e : a = k
              · subst e; simp [HS2.out]
              · simp [e])] at hset
            exact ⟨q + 1, by omega, by go_num, (kept_by HKW2.out (by rw [HG.out]; exact Nat.le_refl _) HSET.out.2).trans (by (repeat (first | exact Kept.refl _ | assumption | refine Kept.alloc ?_ _ | refine Kept.ext ?_ _ | refine Kept.drew ?_ | refine Kept.drewN ?_ _))), owns_kept hset (by (repeat (first | exact Kept.refl _ | assumption | refine Kept.alloc ?_ _ | refine Kept.ext ?_ _ | refine Kept.drew ?_ | refine Kept.drewN ?_ _)))⟩
          case measure => simp [intOf]; omega
        · obtain rfl : q = m 0 := by omega
          have HO2 := Lib.hid hO2
          have HKW2 := Lib.hid hkw
          clear hO2 hkw
          go_wp2
          go_roundw
          case rel =>
            refine ⟨k + 1, by omega, by go_num, HKW2.out, ?_⟩
            rw [rowC_ext (g := fun a _ => if a < k then pV f X (m 0) a else if a = k then sumZ (pTerm f X k) (m 0) else 0) (fun a _ => by
              by_cases e : a = k
              · subst e; simp [pV]
              · by_cases e2 : a < k
                · simp [e2, show a < k + 1 by omega]
                · simp [e, e2, show ¬ a < k + 1 by omega])]
            exact HO2.out
          case measure => simp [intOf]; omega
    · obtain rfl : k = n := by omega
      have HO := Lib.hid hO
      have HKW := Lib.hid hkw
      clear hO hkw
      go_wp2
      refine bodyPost_ret (by simp only [results, Try.results8]; go_simp; rfl) rfl ?_
      rw [HG.out]
      refine ⟨_, rfl, HKW.out, ?_⟩
      rw [rowC_ext (g := fun a _ => if a < k then pV f X (m 0) a else 0) (fun a ha => (if_pos ha).symm)]
      exact HO.out
end Go.Proofs.Ytjadpehpempjoaa
namespace Go.Proofs.Ytjadpehpempjoaa
set_option linter.unusedVariables false
set_option linter.unusedSimpArgs false
open Go.RowKit Go.Deep
theorem rows_lit2 {X : World} (z : Int) (hz : I64 z) {s : Nat} (hs : X.heap.size = s) : RowsAt (X.alloc (.cells #[.int .i64 z] 3)) (some ⟨s, 0, none⟩) 1 1 (fun _ _ => z) := hs ▸ rows_lit1 X z hz
end Go.Proofs.Ytjadpehpempjoaa
