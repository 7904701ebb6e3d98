/- Contracts: a mesh or its error, of the program and of the reference; whether lists are long. Conditions: the lists' lengths are ints. Contract: 24 times the integral of the position, of the program. Conditions: the lists' lengths are ints. -/
import Derived.Test.YtbhcjdgfcinpcaaGrv
namespace Go.Proofs.Ytbhcjdgfcinpcaa
set_option linter.unusedVariables false
set_option linter.unusedSimpArgs false
open Go.RowKit
/-- The length of a list of a mesh that is returned with error e. -/
def okN (e : Int) (n : Nat) : Nat := if e = 0 then n else 0
theorem okN_le (e : Int) (n : Nat) : okN e n ≤ n := by unfold okN; split <;> omega
theorem RowsAt.nil0 {w : World} {A : Option Addr} {c : Nat} {f : Nat → Nat → Int} : RowsAt w A 0 c f := fun h => absurd h (by omega)
theorem RowsAt.congr {w : World} {A : Option Addr} {n c : Nat} {f g : Nat → Nat → Int} (h : RowsAt w A n c f) (e : ∀ i, i < n → ∀ j, j < c → f i j = g i j) : RowsAt w A n c g := by
  intro h0
  obtain ⟨b, off, rfl, hb, hc⟩ := h h0
  exact ⟨b, off, rfl, hb, fun k hk j hj => by rw [← e k hk j hj]; exact hc k hk j hj⟩
/-- What a function that makes a mesh returns. -/
def MeshR (w w' : World) (r : Ending) (e : Int) (n : Nat) (P : Nat → Nat → Int) (m : Nat) (F : Nat → Nat → Int) : Prop :=
  ∃ A cap B cap2, r = .returned (.tuple #[.agg #[.slice A (okN e n) cap, .slice B (okN e m) cap2], .int .i64 e]) ∧ Kept w w' ∧ RowsAt w' A (okN e n) 3 P ∧ RowsAt w' B (okN e m) 3 F
set_option maxRecDepth 100000 in
theorem sresult_any (A B : Option Addr) (n cap m cap2 : Nat) (P F : Nat → Nat → Int) (w : World) (hn : n ≤ 9223372036854775807 ∧ m ≤ 9223372036854775807) (hP : RowsAt w A n 3 P) (hF : RowsAt w B m 3 F) :
    Calls Try.prog 23 #[.agg #[.slice A n cap, .slice B m cap2]] w fun r w' => MeshR w w' r (validE n P m F) n P m F := by
  have HP := Lib.hid hP
  have HF := Lib.hid hF
  clear hP hF
  unfold MeshR
  by_cases hv : validE n P m F = 0
  · have HV := Lib.hid hv
    clear hv
    go_enter Try.func23, Try.ntmps23
    go_wp2_with (go_at_call 24; refine (svalidate_any _ _ _ _ _ _ P F _ hn (HP.out.of (by (repeat (first | exact Kept.refl _ | assumption | refine Kept.alloc ?_ _ | refine Kept.ext ?_ _ | refine Kept.drew ?_ | refine Kept.drewN ?_ _)))) (HF.out.of (by (repeat (first | exact Kept.refl _ | assumption | refine Kept.alloc ?_ _ | refine Kept.ext ?_ _ | refine Kept.drew ?_ | refine Kept.drewN ?_ _))))).mono ?_; rintro e w1 ⟨rfl, x, rfl⟩; rw [HV.out])
    refine bodyPost_ret (by simp only [results, Try.results23]; go_simp; rfl) rfl ?_
    rw [HV.out]
    exact ⟨A, cap, B, cap2, rfl, by (repeat (first | exact Kept.refl _ | assumption | refine Kept.alloc ?_ _ | refine Kept.ext ?_ _ | refine Kept.drew ?_ | refine Kept.drewN ?_ _)), HP.out.of (by (repeat (first | exact Kept.refl _ | assumption | refine Kept.alloc ?_ _ | refine Kept.ext ?_ _ | refine Kept.drew ?_ | refine Kept.drewN ?_ _))), HF.out.of (by (repeat (first | exact Kept.refl _ | assumption | refine Kept.alloc ?_ _ | refine Kept.ext ?_ _ | refine Kept.drew ?_ | refine Kept.drewN ?_ _)))⟩
  · obtain ⟨e, he⟩ : ∃ e, validE n P m F = e := ⟨_, rfl⟩
    rw [he] at hv
    have HV := Lib.hid he
    clear he
    have hv2 : (e == 0) = false := by simpa using hv
    have hv3 : decide (e = 0) = false := by simpa using hv
    go_enter Try.func23, Try.ntmps23
    go_wp2_with (go_at_call 24; refine (svalidate_any _ _ _ _ _ _ P F _ hn (HP.out.of (by (repeat (first | exact Kept.refl _ | assumption | refine Kept.alloc ?_ _ | refine Kept.ext ?_ _ | refine Kept.drew ?_ | refine Kept.drewN ?_ _)))) (HF.out.of (by (repeat (first | exact Kept.refl _ | assumption | refine Kept.alloc ?_ _ | refine Kept.ext ?_ _ | refine Kept.drew ?_ | refine Kept.drewN ?_ _))))).mono ?_; rintro e w1 ⟨rfl, x, rfl⟩; rw [HV.out])
    refine bodyPost_ret (by simp only [results, Try.results23]; go_simp; rfl) rfl ?_
    rw [HV.out]
    have ek : ∀ n, okN e n = 0 := fun n => if_neg hv
    rw [ek, ek]
    exact ⟨none, 0, none, 0, rfl, by (repeat (first | exact Kept.refl _ | assumption | refine Kept.alloc ?_ _ | refine Kept.ext ?_ _ | refine Kept.drew ?_ | refine Kept.drewN ?_ _)), RowsAt.nil0, RowsAt.nil0⟩
theorem long_any (A B : Option Addr) (n cap m cap2 : Nat) (w : World) :
    Calls Try.prog 6 #[.agg #[.slice A n cap, .slice B m cap2]] w fun r w' => r = .returned (.bool (decide (200 < n) || decide (300 < m))) ∧ Kept w w' := by
  by_cases h1 : 200 < n
  · rw [show (decide (200 < n) || decide (300 < m)) = true by simp [h1]]
    go_enter Try.func6, Try.ntmps6
    go_wp2
    go_ret
    exact ⟨rfl, by (repeat (first | exact Kept.refl _ | assumption | refine Kept.alloc ?_ _ | refine Kept.ext ?_ _ | refine Kept.drew ?_ | refine Kept.drewN ?_ _))⟩
  by_cases h2 : 300 < m
  · rw [show (decide (200 < n) || decide (300 < m)) = true by simp [h2]]
    go_enter Try.func6, Try.ntmps6
    go_wp2
    go_ret
    exact ⟨ret_bool (by simp; omega), by (repeat (first | exact Kept.refl _ | assumption | refine Kept.alloc ?_ _ | refine Kept.ext ?_ _ | refine Kept.drew ?_ | refine Kept.drewN ?_ _))⟩
  · rw [show (decide (200 < n) || decide (300 < m)) = false by simp; omega]
    go_enter Try.func6, Try.ntmps6
    go_wp2
    go_ret
    exact ⟨ret_bool (by simp; omega), by (repeat (first | exact Kept.refl _ | assumption | refine Kept.alloc ?_ _ | refine Kept.ext ?_ _ | refine Kept.drew ?_ | refine Kept.drewN ?_ _))⟩
end Go.Proofs.Ytbhcjdgfcinpcaa
namespace Go.Proofs.Ytbhcjdgfcinpcaa
set_option linter.unusedVariables false
set_option linter.unusedSimpArgs false
open Go.RowKit
/-- What the first faces give to coordinate c of the center. -/
def cen (P F : Nat → Nat → Int) (c : Nat) : Nat → Int
  | 0 => 0
  | m + 1 => cen P F c m + prF P F m * (co P F m 0 c + co P F m 1 c + co P F m 2 c)
theorem tri_bd {P F : Nat → Nat → Int} {n i c : Nat} (hb : ptsBad P n = false) (hF : cornB n F i = true) (hc : c < 3) : -192 ≤ co P F i 0 c + co P F i 1 c + co P F i 2 c ∧ co P F i 0 c + co P F i 1 c + co P F i 2 c ≤ 192 := by
  obtain ⟨c0, c1, c2⟩ := cornB_true hF
  have b0 := co_bd hb c0
  have b1 := co_bd hb c1
  have b2 := co_bd hb c2
  rcases (show c = 0 ∨ c = 1 ∨ c = 2 by omega) with rfl | rfl | rfl <;> omega
theorem cen_step {P F : Nat → Nat → Int} {n i c : Nat} (hb : ptsBad P n = false) (hF : cornB n F i = true) (hc : c < 3) : -301989888 ≤ prF P F i * (co P F i 0 c + co P F i 1 c + co P F i 2 c) ∧ prF P F i * (co P F i 0 c + co P F i 1 c + co P F i 2 c) ≤ 301989888 :=
  mul_bd 301989888 (prF_bd hb hF) (tri_bd hb hF hc) rfl
theorem cen_bd {P F : Nat → Nat → Int} {n m c : Nat} (hb : ptsBad P n = false) (hF : ∀ i, i < m → cornB n F i = true) (hc : c < 3) : ∀ k, k ≤ m → -301989888 * (k : Int) ≤ cen P F c k ∧ cen P F c k ≤ 301989888 * (k : Int)
  | 0, _ => by simp [cen]
  | k + 1, hk => by
    have h1 := cen_bd hb hF hc k (by omega)
    have h2 := cen_step hb (hF k (by omega)) hc
    unfold cen
    omega
/-- The center, or 0 with an error. -/
def cenV (n : Nat) (P : Nat → Nat → Int) (m : Nat) (F : Nat → Nat → Int) (c : Nat) : Int := if validE n P m F = 0 then cen P F c m else 0
theorem validE_ok {n m : Nat} {P F : Nat → Nat → Int} (h : validE n P m F = 0) : n ≤ 64 ∧ (1 ≤ m ∧ m ≤ 96) ∧ ptsBad P n = false ∧ facesE n P F m = 0 ∧ openB F m = false ∧ looseB F m n = false ∧ 0 < vol P F m := by
  unfold validE at h
  by_cases h1 : largeB n m = true
  · rw [if_pos h1] at h; cases h
  rw [if_neg h1] at h
  have h1' : n ≤ 64 ∧ (1 ≤ m ∧ m ≤ 96) := by
    unfold largeB at h1
    simp only [Bool.or_eq_true, decide_eq_true_eq, Bool.not_eq_true', decide_eq_false_iff_not, not_or, Decidable.not_not] at h1
    omega
  by_cases h2 : ptsBad P n = true
  · rw [if_pos h2] at h; cases h
  rw [if_neg h2] at h
  by_cases h3 : facesE n P F m = 0
  · rw [if_neg (by simpa using h3)] at h
    by_cases h4 : openB F m = true
    · rw [if_pos h4] at h; cases h
    rw [if_neg h4] at h
    by_cases h5 : looseB F m n = true
    · rw [if_pos h5] at h; cases h
    rw [if_neg h5] at h
    by_cases h6 : vol P F m ≤ 0
    · rw [if_pos h6] at h; cases h
    exact ⟨h1'.1, h1'.2, by simpa using h2, h3, by simpa using h4, by simpa using h5, by omega⟩
  · rw [if_pos h3] at h; exact absurd h h3
theorem corn_of {n m : Nat} {P F : Nat → Nat → Int} (h : facesE n P F m = 0) : ∀ i, i < m → cornB n F i = true := fun i hi => (faceE_0 (facesE_at h i hi)).1
theorem cells3 {V : World} {g : Nat} {T : TypeId} {a b c : Value} (h : V.heap[g]? = some (.cells #[a, b, c] T (0, 0))) : V.cell? ⟨g, 0, none⟩ = some a ∧ V.cell? ⟨g, 1, none⟩ = some b ∧ V.cell? ⟨g, 2, none⟩ = some c := by
  refine ⟨?_, ?_, ?_⟩ <;> (unfold World.cell?; simp only [h]; rfl)
theorem RowsAt.grown {w w' : World} {A : Option Addr} {n c g : Nat} {f : Nat → Nat → Int} (h : RowsAt w A n c f) (hg : w.grownBy w' (some g)) (hne : ∀ b off, A = some ⟨b, off, none⟩ → b ≠ g) : RowsAt w' A n c f := by
  intro h0
  obtain ⟨b, off, rfl, hb, hc⟩ := h h0
  refine ⟨b, off, rfl, Nat.lt_of_lt_of_le hb hg.size, fun k hk j hj => ⟨?_, (hc k hk j hj).2⟩⟩
  rw [World.cell?_of_block (hg.block b hb (fun e => hne b off rfl (Option.some.inj e)))]
  exact (hc k hk j hj).1
theorem grown_setRow (w : World) (g : Nat) (cs : Array Value) : w.grownBy (w.setRow g cs) (some g) :=
  ⟨rfl, rfl, rfl, by simp, fun k _ hk => setRow_other w g k _ (fun e => hk (by simp [e]))⟩
/-- The state of the loop: the sums in block sb, nothing yet in the result's block rb, and the panels. -/
def CenI (w : World) (sb rb : Nat) (A2 : Option Addr) (m : Nat) (P F : Nat → Nat → Int) (k : Nat) (wr : World) : Prop :=
  Kept w wr ∧ wr.heap[sb]? = some (.cells #[.int .i64 (cen P F 0 k), .int .i64 (cen P F 1 k), .int .i64 (cen P F 2 k)] 27 (0, 0)) ∧ wr.heap[rb]? = some (.cells #[.int .i64 0, .int .i64 0, .int .i64 0] 27 (0, 0)) ∧ RowsAt wr A2 m 9 (pnF P F)
set_option maxRecDepth 100000 in
set_option maxHeartbeats 16000000 in
theorem scenter_any (A B : Option Addr) (n cap m cap2 : Nat) (P F : Nat → Nat → Int) (w : World) (hn : n ≤ 9223372036854775807 ∧ m ≤ 9223372036854775807) (hP : RowsAt w A n 3 P) (hF : RowsAt w B m 3 F) :
    Calls Try.prog 8 #[.agg #[.slice A n cap, .slice B m cap2]] w fun r w' => r = .returned (.tuple #[.agg #[.int .i64 (cenV n P m F 0), .int .i64 (cenV n P m F 1), .int .i64 (cenV n P m F 2)], .int .i64 (validE n P m F)]) ∧ Kept w w' := by
  have HP := Lib.hid hP
  have HF := Lib.hid hF
  clear hP hF
  by_cases hv : validE n P m F = 0
  case neg =>
    have c0 : ∀ c, cenV n P m F c = 0 := fun c => if_neg hv
    rw [c0, c0, c0]
    clear c0
    obtain ⟨e, he⟩ : ∃ e, validE n P m F = e := ⟨_, rfl⟩
    rw [he] at hv
    have HV := Lib.hid he
    clear he
    have hv2 : (e == 0) = false := by simpa using hv
    have hv3 : decide (e = 0) = false := by simpa using hv
    go_enter Try.func8, Try.ntmps8
    go_wp2_with (go_at_call 24; refine (svalidate_any _ _ _ _ _ _ P F _ hn (HP.out.of (by (repeat (first | exact Kept.refl _ | assumption | refine Kept.alloc ?_ _ | refine Kept.ext ?_ _ | refine Kept.drew ?_ | refine Kept.drewN ?_ _)))) (HF.out.of (by (repeat (first | exact Kept.refl _ | assumption | refine Kept.alloc ?_ _ | refine Kept.ext ?_ _ | refine Kept.drew ?_ | refine Kept.drewN ?_ _))))).mono ?_; rintro e w1 ⟨rfl, x, rfl⟩; rw [HV.out])
    refine bodyPost_ret (by simp only [results, Try.results8]; go_simp; rfl) rfl ?_
    rw [HV.out]
    exact ⟨rfl, by (repeat (first | exact Kept.refl _ | assumption | refine Kept.alloc ?_ _ | refine Kept.ext ?_ _ | refine Kept.drew ?_ | refine Kept.drewN ?_ _))⟩
  have HV := Lib.hid hv
  have c0 : ∀ c, cenV n P m F c = cen P F c m := fun c => if_pos hv
  rw [c0, c0, c0]
  obtain ⟨n64, m96, hb, hf, -⟩ := validE_ok hv
  have HB := Lib.hid hb
  have HC := Lib.hid (corn_of hf)
  clear c0 hv hb hf
  go_enter Try.func8, Try.ntmps8
  go_wp2_with (first | (go_at_call 24; refine (svalidate_any _ _ _ _ _ _ P F _ hn (HP.out.of (by (repeat (first | exact Kept.refl _ | assumption | refine Kept.alloc ?_ _ | refine Kept.ext ?_ _ | refine Kept.drew ?_ | refine Kept.drewN ?_ _)))) (HF.out.of (by (repeat (first | exact Kept.refl _ | assumption | refine Kept.alloc ?_ _ | refine Kept.ext ?_ _ | refine Kept.drew ?_ | refine Kept.drewN ?_ _))))).mono ?_; rintro e w1 ⟨rfl, x0, rfl⟩; rw [HV.out]) | fail)
  refine (spanels_any _ _ _ _ _ _ P F _ (by omega) (by omega) HC.out (HP.out.of (by (repeat (first | exact Kept.refl _ | assumption | refine Kept.alloc ?_ _ | refine Kept.ext ?_ _ | refine Kept.drew ?_ | refine Kept.drewN ?_ _)))) (HF.out.of (by (repeat (first | exact Kept.refl _ | assumption | refine Kept.alloc ?_ _ | refine Kept.ext ?_ _ | refine Kept.drew ?_ | refine Kept.drewN ?_ _))))).mono ?_
  rintro r w1 ⟨v, rfl, ⟨x1, rfl⟩, hown⟩
  obtain ⟨A2, cp, rfl, hcp⟩ := own_sl hown
  have HR := Lib.hid (rows_of_owns hown (pnF_I (rows_I HP.out) HC.out))
  have hown2 := hown
  clear hown
  have hnb : ∀ b off, A2 = some ⟨b, off, none⟩ → b ≠ adv (w.heap.size + 1 + 1) x0.obs.size := by
    intro b off e q
    subst e
    rcases hown2.2 with ⟨h, -⟩ | ⟨g, cap', cur, h, hb, -⟩
    · cases h
    · simp only [Value.slice.injEq, Option.some.injEq, Addr.mk.injEq, and_true] at h
      rw [World.size_alloc, ext_size, World.size_alloc, World.size_alloc] at hb
      omega
  have HNB := Lib.hid hnb
  clear hnb hown2
  go_wp2_with fail
  go_loopw [17] (fun i wr => ∃ k : Nat, k ≤ m ∧ i = .int .i64 k ∧ CenI w (adv (w.heap.size + 1 + 1) x0.obs.size) (w.heap.size + 1) A2 m P F k wr) (fun i _ => m - (intOf i).toNat)
  case atStart => exact ⟨0, by omega, rfl, by (repeat (first | exact Kept.refl _ | assumption | refine Kept.alloc ?_ _ | refine Kept.ext ?_ _ | refine Kept.drew ?_ | refine Kept.drewN ?_ _)), by
    rw [ext_block _ _ _ (by simp)]
    exact alloc_now _ _ _, by
    rw [ext_block _ _ _ (by simp [adv]; omega)]
    rw [(MapKept.heap_alloc _ _).2 _ (by simp [adv]; omega)]
    rw [ext_block _ _ _ (by simp)]
    exact alloc_now _ _ _, HR.out⟩
  case round =>
    obtain ⟨k, hk, rfl, hI⟩ := hrel
    obtain ⟨hkw, hsb, hrb, hR⟩ := hI
    have HSB := Lib.hid hsb
    have HRB := Lib.hid hrb
    have HK := Lib.hid hkw
    have HRR := Lib.hid hR
    obtain ⟨s0, s1, s2⟩ := cells3 hsb
    have LS : Lower (adv (w.heap.size + 1 + 1) x0.obs.size) wr.heap.size := ⟨cell_lt s0⟩
    by_cases hlt : k < m
    · obtain ⟨fb, off, rfl, hfb, f0, f1, f2, f3, f4, f5, f6, f7, f8⟩ := panel_at hR hlt
      have LB : Lower fb wr.heap.size := ⟨hfb⟩
      clear hsb hrb hkw hR
      obtain ⟨c0, c1, c2⟩ := cornB_true (HC.out k hlt)
      have b0 := co_bd HB.out c0
      have b1 := co_bd HB.out c1
      have b2 := co_bd HB.out c2
      have b3 := prF_bd HB.out (HC.out k hlt)
      have d0 := cen_bd HB.out HC.out (show 0 < 3 by omega) k hk
      have d1 := cen_bd HB.out HC.out (show 1 < 3 by omega) k hk
      have d2 := cen_bd HB.out HC.out (show 2 < 3 by omega) k hk
      have e0 := cen_step HB.out (HC.out k hlt) (show 0 < 3 by omega)
      have e1 := cen_step HB.out (HC.out k hlt) (show 1 < 3 by omega)
      have e2 := cen_step HB.out (HC.out k hlt) (show 2 < 3 by omega)
      obtain ⟨q0, g0⟩ : ∃ q, q = cen P F 0 k := ⟨_, rfl⟩
      obtain ⟨q1, g1⟩ : ∃ q, q = cen P F 1 k := ⟨_, rfl⟩
      obtain ⟨q2, g2⟩ : ∃ q, q = cen P F 2 k := ⟨_, rfl⟩
      have HN0 := Lib.hid (show cen P F 0 (k + 1) = q0 + prF P F k * (co P F k 0 0 + co P F k 1 0 + co P F k 2 0) by rw [g0]; rfl)
      have HN1 := Lib.hid (show cen P F 1 (k + 1) = q1 + prF P F k * (co P F k 0 1 + co P F k 1 1 + co P F k 2 1) by rw [g1]; rfl)
      have HN2 := Lib.hid (show cen P F 2 (k + 1) = q2 + prF P F k * (co P F k 0 2 + co P F k 1 2 + co P F k 2 2) by rw [g2]; rfl)
      rw [← g0] at d0 s0
      rw [← g1] at d1 s1
      rw [← g2] at d2 s2
      clear c0 c1 c2 hfb g0 g1 g2
      unfold prF at b3 e0 e1 e2 HN0 HN1 HN2
      go_wp2_with fail
      ((first | refine wp_region_tail 12 (by kernel_rfl) (by kernel_rfl) ?_); simp only [List.take_succ_cons, List.take_zero, List.drop_succ_cons, List.drop_zero]; (repeat (go_big_quiet_step (first | (go_at_call 28; exact Calls.kept_of (sproduct_any _ _ _ _ _ _ _ _ _ _ (by omega))) | (go_at_call 27; exact Calls.kept_of (splus_any _ _ _ _ _ _ _ _ (by omega) (by omega)))))); refine wpQuiet_nil ?_; intro x)
      refine wpList_store_row rfl 27 (.tmp 5) (.tmp 32) rfl (adv (w.heap.size + 1 + 1) x0.obs.size) _ rfl rfl _ _ (fr_kept HSB.out (by (repeat (first | exact Kept.refl _ | assumption | refine Kept.alloc ?_ _ | refine Kept.ext ?_ _ | refine Kept.drew ?_ | refine Kept.drewN ?_ _)))) (by kernel_rfl) rfl (by simp [Value.oneCell']) ?_
      go_wp2_with fail
      go_roundw
      case rel =>
        refine ⟨k + 1, by omega, by go_num, ?_, ?_, ?_, ?_⟩
        · exact Kept.map_store (HK.out.trans (by (repeat (first | exact Kept.refl _ | assumption | refine Kept.alloc ?_ _ | refine Kept.ext ?_ _ | refine Kept.drew ?_ | refine Kept.drewN ?_ _)))) (by simp [adv]; omega) (grown_setRow _ _ _)
        · rw [setRow_heap _ _ _ _ _ _ (fr_kept HSB.out (by (repeat (first | exact Kept.refl _ | assumption | refine Kept.alloc ?_ _ | refine Kept.ext ?_ _ | refine Kept.drew ?_ | refine Kept.drewN ?_ _)))), HN0.out, HN1.out, HN2.out]
        · rw [setRow_other _ _ _ _ (by simp [adv]; omega)]
          exact fr_kept HRB.out (by (repeat (first | exact Kept.refl _ | assumption | refine Kept.alloc ?_ _ | refine Kept.ext ?_ _ | refine Kept.drew ?_ | refine Kept.drewN ?_ _)))
        · exact (HRR.out.of (by (repeat (first | exact Kept.refl _ | assumption | refine Kept.alloc ?_ _ | refine Kept.ext ?_ _ | refine Kept.drew ?_ | refine Kept.drewN ?_ _)))).grown (grown_setRow _ _ _) HNB.out
      case measure => simp [intOf]; omega
    · obtain rfl : k = m := by omega
      clear hsb hkw hR
      obtain ⟨r0, r1, r2⟩ := cells3 hrb
      have fr : ∀ j, wr.frozen? ⟨w.heap.size + 1, j, none⟩ = false := fun j => by unfold World.frozen?; simp only [hrb]; simp
      have fr0 := fr 0
      have fr1 := fr 1
      have fr2 := fr 2
      clear fr hrb
      have LR : Lower (w.heap.size + 1) wr.heap.size := ⟨cell_lt r0⟩
      go_wp2_with fail
      refine bodyPost_ret (by simp only [results, Try.results8]; go_simp; rfl) rfl ?_
      rw [HV.out]
      exact ⟨rfl, ((HK.out.setCell (by simp) _).setCell (by simp) _).setCell (by simp) _⟩
end Go.Proofs.Ytbhcjdgfcinpcaa
