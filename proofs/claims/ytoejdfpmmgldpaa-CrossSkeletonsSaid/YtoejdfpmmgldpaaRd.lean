/- Contract: the determinant of some rows and columns along the first row, of the reference. Conditions: at most six of each, elements to 100. -/
import Derived.Test.YtoejdfpmmgldpaaWo
import Derived.Test.YtoejdfpmmgldpaaSwp
namespace Go.Proofs.Ytoejdfpmmgldpaa
set_option linter.unusedVariables false
set_option linter.unusedSimpArgs false
open Go.RowKit Go.Deep
/-- The matrix of some rows and columns. -/
def subF (f R C : Nat → Nat → Int) : Nat → Nat → Int := fun i j => f (R i 0).toNat (C j 0).toNat
/-- The summands of a determinant along its first row. -/
def dTerm (n : Nat) (X : Nat → Nat → Int) (k : Nat) : Int := sg k * X 0 k * D n (fun i j => X (i + 1) (skip k j))
theorem D_sum (n : Nat) (X : Nat → Nat → Int) : D (n + 1) X = sumZ (dTerm n X) (n + 1) := rfl
theorem dTerm_bd {n k : Nat} {X : Nat → Nat → Int} (h : Sml (n + 1) X) (hn : n + 1 ≤ 6) (hk : k < n + 1) : -(100 * fb 100 n) ≤ dTerm n X k ∧ dTerm n X k ≤ 100 * fb 100 n :=
  D_term (c := 100) (by decide) (h 0 (by omega) k hk) (D_bd (by decide) fun i hi j hj => h (i + 1) (by omega) _ (skip_lt hj))
theorem dSum_bd {n k : Nat} {X : Nat → Nat → Int} (h : Sml (n + 1) X) (hn : n + 1 ≤ 6) (hk : k ≤ n + 1) : -720000000000000 ≤ sumZ (dTerm n X) k ∧ sumZ (dTerm n X) k ≤ 720000000000000 := by
  have h1 := sumZ_bd (f := dTerm n X) (b := 100 * fb 100 n) (n := k) fun q hq => dTerm_bd h hn (by omega)
  have h2 : (k : Int) * (100 * fb 100 n) ≤ ((n + 1 : Nat) : Int) * (100 * fb 100 n) := Int.mul_le_mul_of_nonneg_right (by omega) (Int.mul_nonneg (by decide) (fb_pos (by decide) n))
  have h3 := fb_le (n + 1) hn
  have h4 : fb 100 (n + 1) = ((n + 1 : Nat) : Int) * (100 * fb 100 n) := by
    show ((n : Int) + 1) * (100 * fb 100 n) = _
    rw [show ((n + 1 : Nat) : Int) = (n : Int) + 1 by omega]
  omega
/-- A list of ints of the call's own can be read. -/
theorem own_read {w : World} {base n : Nat} {v : Value} {g : Nat → Nat → Int} (h : w.ownsRow base 3 1 v n (rowC 1 g n)) (hI : ∀ k, k < n → I64 (g k 0)) : ∃ A cp, v = .slice A n cp ∧ (n ≤ cp ∧ cp ≤ maxLen) ∧ RowsAt w A n 1 g := by
  rcases h.2 with ⟨rfl, rfl⟩ | ⟨g', cap, cur, rfl, hb, hg, h1, h2, h3, h4⟩
  · exact ⟨none, 0, rfl, ⟨Nat.le_refl _, Nat.zero_le _⟩, fun h0 => absurd h0 (by omega)⟩
  · exact ⟨_, cap, rfl, ⟨h1, h2⟩, rows_of_owns h (fun k hk j hj => by obtain rfl : j = 0 := by omega
                                                                      exact hI k hk)⟩
theorem own_low {w : World} {base base' size n : Nat} {e : TypeId} {v : Value} {xs : List Value} (h : w.ownsRow base e size v n xs) (hb : base' ≤ base) : w.ownsRow base' e size v n xs := by
  refine ⟨h.1, ?_⟩
  rcases h.2 with h0 | ⟨g, cap, cur, e1, h1, h2⟩
  · exact .inl h0
  · exact .inr ⟨g, cap, cur, e1, Nat.le_trans hb h1, h2⟩
set_option maxRecDepth 100000 in
set_option maxHeartbeats 16000000 in
theorem r6det_any : ∀ (d : Nat) (A : Option Addr) (n cap : Nat) (B : Nat → Option Addr) (m cp : Nat → Nat) (f : Nat → Nat → Int) (RA : Option Addr) (rc : Nat) (R : Nat → Nat → Int) (CA : Option Addr) (cc : Nat) (C : Nat → Nat → Int) (w : World),
    n ≤ 6 → d ≤ 6 → MatAt w A n B m cp f → RowsAt w RA d 1 R → RowsAt w CA d 1 C → (d ≤ rc ∧ rc ≤ maxLen) → (d ≤ cc ∧ cc ≤ maxLen) → (∀ i, i < d → 0 ≤ R i 0 ∧ R i 0 < n) → (∀ k, k < n → m k = m 0) → (∀ i, i < d → 0 ≤ C i 0 ∧ C i 0 < m 0) → (m 0 ≤ 6) → Sml d (subF f R C) →
    Calls Try.prog 64 #[.slice A n cap, .slice RA d rc, .slice CA d cc] w fun e w' => e = .returned (.int .i64 (D d (subF f R C))) ∧ Kept w w' := by
  intro d
  induction d with
  | zero =>
    intro A n cap B m cp f RA rc R CA cc C w hn hd hM hR hC hrc hcc hRb hm hCb hm6 hS
    go_enter Try.func64, Try.ntmps64
    go_wp2
    go_ret
    exact ⟨rfl, by (repeat (first | exact Kept.refl _ | assumption | refine Kept.alloc ?_ _ | refine Kept.ext ?_ _ | refine Kept.drew ?_ | refine Kept.drewN ?_ _))⟩
  | succ d ih =>
    intro A n cap B m cp f RA rc R CA cc C w hn hd hM hR hC hrc hcc hRb hm hCb hm6 hS
    have HM := Lib.hid hM
    have HR := Lib.hid hR
    have HC := Lib.hid hC
    have HRB := Lib.hid hRb
    have HCB := Lib.hid hCb
    have HMM := Lib.hid hm
    have HSM := Lib.hid hS
    have IH := Lib.hid ih
    clear hM hR hC hRb hCb hm hS ih
    obtain ⟨rb, ro, rfl, hrb, c0, -⟩ := rows1 (k := 0) HR.out (by omega)
    have hr0 := HRB.out 0 (by omega)
    obtain ⟨r, hr⟩ : ∃ r : Nat, R 0 0 = r := ⟨(R 0 0).toNat, by omega⟩
    rw [hr] at c0 hr0
    rw [Nat.add_zero] at c0
    have HRK := Lib.hid hr
    clear hr
    obtain ⟨ab, ao, rfl, hab, c1⟩ := HM.out.at (k := r) (by omega)
    have hmr := HMM.out r (by omega)
    obtain ⟨cb, co, rfl, hcb, -, -⟩ := rows1 (k := 0) HC.out (by omega)
    have hc00 := HCB.out 0 (by omega)
    obtain ⟨bb, bo, hB, hbb, -, -⟩ := rows1 (k := 0) (HM.out.el r (by omega)) (by omega)
    rw [hB] at c1
    have hcap := HM.out.cap r (by omega)
    have LR : Lower rb w.heap.size := ⟨hrb⟩
    have LA : Lower ab w.heap.size := ⟨hab⟩
    have LC : Lower cb w.heap.size := ⟨hcb⟩
    have LB : Lower bb w.heap.size := ⟨hbb⟩
    have hrc63 : rc ≤ 9223372036854775807 := by have := hrc.2; unfold maxLen at this; omega
    have hcc63 : cc ≤ 9223372036854775807 := by have := hcc.2; unfold maxLen at this; omega
    go_enter Try.func64, Try.ntmps64
    go_wp2
    go_loopw [7, 8, 9] (fun s g i wr => ∃ k : Nat, k ≤ d + 1 ∧ i = .int .i64 k ∧ s = .int .i64 (sumZ (dTerm d (subF f R C)) k) ∧ g = .int .i64 (sg k) ∧ ∃ y, wr = ext w y) (fun _ _ i _ => d + 1 - (intOf i).toNat)
    case atStart => exact ⟨0, by omega, rfl, rfl, rfl, show Kept _ _ by (repeat (first | exact Kept.refl _ | assumption | refine Kept.alloc ?_ _ | refine Kept.ext ?_ _ | refine Kept.drew ?_ | refine Kept.drewN ?_ _))⟩
    case round =>
      obtain ⟨k, hk, rfl, rfl, rfl, y, rfl⟩ := hrel
      by_cases hlt : k < d + 1
      · obtain ⟨cb', co', e, -, c2, -⟩ := rows1 (k := k) HC.out hlt
        cases e
        have hck := HCB.out k hlt
        obtain ⟨c, hcc2⟩ : ∃ c : Nat, C k 0 = c := ⟨(C k 0).toNat, by omega⟩
        rw [hcc2] at c2 hck
        obtain ⟨bb', bo', e2, -, c3, i3⟩ := rows1 (k := c) (HM.out.el r (by omega)) (by omega)
        rw [hB] at e2
        cases e2
        have x1 : c < m r := by omega
        have x2 : r < n := by omega
        have HCK := Lib.hid hcc2
        clear hcc2
        have b1 := HSM.out 0 (by omega) k hlt
        have e1 : subF f R C 0 k = f r c := by unfold subF; rw [HRK.out, HCK.out]; rfl
        rw [e1] at b1
        have b2 := dTerm_bd HSM.out (by omega) hlt
        have b3 := dSum_bd HSM.out (k := k) (by omega) (by omega)
        have b4 := dSum_bd HSM.out (k := k + 1) (by omega) (by omega)
        have b5 := sg_bd k
        obtain ⟨dk, hdk⟩ : ∃ x, D d (fun i j => subF f R C (i + 1) (skip k j)) = x := ⟨_, rfl⟩
        obtain ⟨sk, hsk⟩ : ∃ x, sg k = x := ⟨_, rfl⟩
        obtain ⟨z, hz⟩ : ∃ x, f r c = x := ⟨_, rfl⟩
        obtain ⟨S, hS⟩ : ∃ x, sumZ (dTerm d (subF f R C)) k = x := ⟨_, rfl⟩
        have hT : dTerm d (subF f R C) k = sk * z * dk := by unfold dTerm; rw [hdk, hsk, e1, hz]
        have hS2 : sumZ (dTerm d (subF f R C)) (k + 1) = S + sk * z * dk := by
          show sumZ (dTerm d (subF f R C)) k + dTerm d (subF f R C) k = _
          rw [hS, hT]
        have b6 := fb_le (d + 1) (by omega)
        have b7 : fb 100 (d + 1) = ((d : Int) + 1) * (100 * fb 100 d) := rfl
        have b8 : (100 * fb 100 d) ≤ ((d : Int) + 1) * (100 * fb 100 d) := by
          have := fb_pos (c := 100) (by decide) d
          have := Int.mul_le_mul_of_nonneg_right (show (1 : Int) ≤ (d : Int) + 1 by omega) (show 0 ≤ 100 * fb 100 d by omega)
          rwa [Int.one_mul] at this
        rw [hT] at b2
        rw [hS] at b3
        rw [hS2] at b4
        rw [hz] at b1 c3
        rw [hsk] at b5
        have b9 : -100 ≤ sk * z ∧ sk * z ≤ 100 := by rcases b5 with e | e <;> rw [e] <;> omega
        have b10 : -720000000000000 ≤ sk * z * dk ∧ sk * z * dk ≤ 720000000000000 := by omega
        have b11 : -1 ≤ sk ∧ sk ≤ 1 := by omega
        have HDK := Lib.hid hdk
        obtain ⟨pz, hpz⟩ : ∃ x, sk * z * dk = x := ⟨_, rfl⟩
        rw [hpz] at hS2
        have HS2 := Lib.hid hS2
        have HSK := Lib.hid hsk
        rw [hS, hsk]
        clear hdk hsk hz hS hT hS2 b2 b5 b6 b7 b8 e1
        rw [hpz] at b10 b4
        go_wp2
        have hB : rtB [.q, .q, .q, .q, .q, .q, .q, .q, .q, .q, .q, .q, .q, .q, .q, .q, .q, .q, .q, .q, .s, .k (.int .i64 dk), .q, .q, .q] [⟨none, 20, none, d, rowC 1 (fun q _ => C (skip k q) 0) d⟩] = true := by kernel_rfl
        refine wp_region_tellC (C := fun W' => Kept w W') [.q, .q, .q, .q, .q, .q, .q, .q, .q, .q, .q, .q, .q, .q, .q, .q, .q, .q, .q, .q, .s, .k (.int .i64 dk), .q, .q, .q] (RtI w w.heap.size [⟨none, 20, none, d, rowC 1 (fun q _ => C (skip k q) 0) d⟩]) (by kernel_rfl) (by kernel_rfl) (fun b => by kernel_rfl) ?_ ?_ ?_ ?_
        · intro b'
          refine RtI.start (by (repeat (first | exact Kept.refl _ | assumption | refine Kept.alloc ?_ _ | refine Kept.ext ?_ _ | refine Kept.drew ?_ | refine Kept.drewN ?_ _))) (fun k r hr v hv => ?_) (fun k k2 r s hr _ _ v _ hv _ => ?_)
          · rcases k with _ | k <;> simp at hr <;> subst hr <;> cases hv
          · rcases k with _ | k <;> simp at hr <;> subst hr <;> cases hv
        · intro i L b w' w'' hs hI hk
          exact (hI.on hk).other hB hs
        · exact fun L b w' h => h.kept
        apply Exists.intro
        refine ⟨?_, ?_, ?_, ?_⟩
        · rintro bb W ⟨x, rfl⟩
          simp only [swapL, Nat.reduceAdd]
          repeat (go_big_quiet_step (fail))
          refine wpQuiet_nil ?_
          rfl
        · simp only [EachS, and_true]
          refine ⟨?_, ?_⟩
          · intro L b' w' hd hL hI
            have hcall := r6without_any (some ⟨cb, co, none⟩) (d + 1) cc k C w' (by omega) (by omega) hlt (HC.out.of hI.kept)
            rw [Nat.add_sub_cancel] at hcall
            have HCALL := Lib.hid hcall
            clear hcall
            go_simp
            refine HCALL.out.mono ?_
            rintro e w'' ⟨v, rfl, ho, hk2⟩
            refine ⟨v, rfl, rfl, RtI.step (u := v) hB (k := 0) rfl rfl hI (hI.kept.trans hk2) (own_low ho (kept_le hI.kept)) (fun l s hs hlk => ?_)⟩
            rcases l with _ | l
            · exact absurd rfl hlk
            · simp at hs
          · intro L b' w' hd2 hL hI
            have d20 : L 20 = true := hd2 { on := 20, ground := .data } (by simp) rfl
            have hown : w'.ownsRow w.heap.size 3 1 (b' 20) d (rowC 1 (fun q _ => C (skip k q) 0) d) := hI.own 0 _ rfl (up_of (.inr d20) (fun j hj => by cases hj))
            obtain ⟨A2, cp2, hv, hcap2, hrow2⟩ := own_read hown (fun q hq => by
              obtain ⟨-, -, -, -, -, i⟩ := rows1 (k := skip k q) HC.out (skip_lt hq)
              exact i)
            have hrow1 : RowsAt w' (if rc = 1 then some ⟨rb, ro, none⟩ else some ⟨rb, ro + 1, none⟩) d 1 (fun q j => R (1 + q) j) := by
              have hf := (HR.out.of hI.kept).from (k := 1) (by omega)
              rw [Nat.add_sub_cancel] at hf
              split
              · intro h0; omega
              · exact hf
            have hDe : D d (subF f (fun q j => R (1 + q) j) (fun q _ => C (skip k q) 0)) = dk := by
              rw [← HDK.out]
              refine D_congr fun i _ j _ => ?_
              show f (R (1 + i) 0).toNat (C (skip k j) 0).toNat = f (R (i + 1) 0).toNat (C (skip k j) 0).toNat
              rw [Nat.add_comm]
            have hcall := IH.out (some ⟨ab, ao, none⟩) n cap B m cp f (if rc = 1 then some ⟨rb, ro, none⟩ else some ⟨rb, ro + 1, none⟩) (rc - 1) (fun q j => R (1 + q) j) A2 cp2 (fun q _ => C (skip k q) 0) w' hn (by omega) (HM.out.of hI.kept) hrow1 hrow2 ⟨by omega, by omega⟩ hcap2
              (fun i hi => HRB.out (1 + i) (by omega)) HMM.out (fun i hi => HCB.out _ (skip_lt hi)) hm6 (fun i hi j hj => by
                show -100 ≤ f (R (1 + i) 0).toNat (C (skip k j) 0).toNat ∧ f (R (1 + i) 0).toNat (C (skip k j) 0).toNat ≤ 100
                exact HSM.out (1 + i) (by omega) _ (skip_lt hj))
            rw [hDe, ← hv] at hcall
            have HCALL := Lib.hid hcall
            clear hcall hv hcap2 hrow2 hrow1 hDe hown
            go_simp
            refine HCALL.out.mono ?_
            rintro e w'' ⟨rfl, hk2⟩
            refine ⟨_, rfl, rfl, (hI.on hk2).pass _ (fun q r hr => ?_)⟩
            rcases q with _ | q
            · simp at hr
              subst hr
              exact ⟨.inr (show (21 : Nat) ≠ 20 by decide), fun j hj => by cases hj⟩
            · simp at hr
        · intro b1 b2 d hd
          simp [callSlots, dullOp] at hd
        · intro L b' w' hL hI
          obtain ⟨y2, rfl⟩ := hI.kept
          clear hI hL hB
          go_wp2
          all_goals go_roundw
          case rel => exact ⟨k + 1, by omega, by go_num, by rw [HS2.out], by rw [sg_succ, HSK.out], show Kept _ _ by (repeat (first | exact Kept.refl _ | assumption | refine Kept.alloc ?_ _ | refine Kept.ext ?_ _ | refine Kept.drew ?_ | refine Kept.drewN ?_ _))⟩
          case measure => simp [intOf]; omega
      · obtain rfl : k = d + 1 := by omega
        rw [← D_sum]
        go_wp2
        go_ret
        exact ⟨rfl, by (repeat (first | exact Kept.refl _ | assumption | refine Kept.alloc ?_ _ | refine Kept.ext ?_ _ | refine Kept.drew ?_ | refine Kept.drewN ?_ _))⟩
end Go.Proofs.Ytoejdfpmmgldpaa
