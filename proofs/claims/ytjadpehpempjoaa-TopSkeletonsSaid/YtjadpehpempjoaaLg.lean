/- Contracts: elements of residuals, of the program and of the reference. Conditions: the lists' lengths are ints. Contract: the document's example. No conditions. Contracts: whether a matrix or a choice is long. Conditions: the number of rows is an int. -/
import Derived.Test.YtjadpehpempjoaaRe
import Derived.Test.YtjadpehpempjoaaOpm
namespace Go.Proofs.Ytjadpehpempjoaa
set_option linter.unusedVariables false
set_option linter.unusedSimpArgs false
open Go.RowKit Go.Deep
theorem res_in {n : Nat} {m : Nat → Nat} {f : Nat → Nat → Int} {rl : Nat} {R : Nat → Nat → Int} {cl : Nat} {C : Nat → Nat → Int} {i j : Int} (h : opnE n m f rl R cl C = 0) (hi : 0 ≤ i ∧ i ≤ (n : Int) - 1) (hj : 0 ≤ j ∧ j ≤ (m 0 : Int) - 1) :
    resE n m f rl R cl C i j = 0 ∧ resN n m f rl R cl C i j = frN (leftV f rl R C i j) (D rl (subF f R C)) ∧ resD n m f rl R cl C i j = frD (leftV f rl R C i j) (D rl (subF f R C)) := by
  have e : resE n m f rl R cl C i j = 0 := by unfold resE; rw [if_pos h, if_pos ⟨hi, hj⟩]
  exact ⟨e, if_pos e, if_pos e⟩
theorem res_no {n : Nat} {m : Nat → Nat} {f : Nat → Nat → Int} {rl : Nat} {R : Nat → Nat → Int} {cl : Nat} {C : Nat → Nat → Int} {i j e : Int} (h : resE n m f rl R cl C i j = e) (he : e ≠ 0) :
    resN n m f rl R cl C i j = 0 ∧ resD n m f rl R cl C i j = 0 := by
  subst h
  exact ⟨if_neg he, if_neg he⟩
set_option maxRecDepth 100000 in
set_option maxHeartbeats 8000000 in
theorem cRes_any (A : Option Addr) (n cap : Nat) (B : Nat → Option Addr) (m cp : Nat → Nat) (f : Nat → Nat → Int) (RA : Option Addr) (rl rc : Nat) (R : Nat → Nat → Int) (CA : Option Addr) (cl cc : Nat) (C : Nat → Nat → Int) (i j : Int) (w : World)
    (hn : n ≤ 9223372036854775807) (hrl : rl ≤ 9223372036854775807) (hcl : cl ≤ 9223372036854775807) (h : MatAt w A n B m cp f) (hR : RowsAt w RA rl 1 R) (hC : RowsAt w CA cl 1 C) :
    Calls Try.prog 10 #[.slice A n cap, .slice RA rl rc, .slice CA cl cc, .int .i64 i, .int .i64 j] w fun e w' => e = .returned (.tuple #[.agg #[.int .i64 (resN n m f rl R cl C i j), .int .i64 (resD n m f rl R cl C i j)], .int .i64 (resE n m f rl R cl C i j)]) ∧ Kept w w' := by
  have HM := Lib.hid h
  have HR := Lib.hid hR
  have HC := Lib.hid hC
  clear h hR hC
  by_cases hv : opnE n m f rl R cl C = 0
  · obtain ⟨hc, hd⟩ := opnE_0 hv
    obtain ⟨-, hs, -, -⟩ := choE_0 hc
    obtain ⟨rfl, hk⟩ := Mok.of hc
    have hdb := hk.bd
    obtain ⟨dd, hdd⟩ : ∃ x, D rl (subF f R C) = x := ⟨_, rfl⟩
    obtain ⟨lv, hlv⟩ : ∃ x, leftV f rl R C i j = x := ⟨_, rfl⟩
    obtain ⟨b, off, rfl, hb, c00⟩ := HM.out.at (k := 0) (by have := hk.n1; omega)
    have LB : Lower b w.heap.size := ⟨hb⟩
    rw [Nat.add_zero] at c00
    have hn6 := hk.n1
    have hm6 := hk.m1
    have HO := Lib.hid hv
    have HK := Lib.hid hk
    have HS := Lib.hid hs
    have HD := Lib.hid hdd
    have HL := Lib.hid hlv
    by_cases hi : 0 ≤ i ∧ i ≤ (n : Int) - 1
    · have f1 : decide (0 ≤ i ∧ i ≤ (n : Int) - 1) = true := decide_eq_true hi
      by_cases hj : 0 ≤ j ∧ j ≤ (m 0 : Int) - 1
      · have f2 : decide (0 ≤ j ∧ j ≤ (m 0 : Int) - 1) = true := decide_eq_true hj
        obtain ⟨e1, e2, e3⟩ := res_in hv hi hj
        rw [e1, e2, e3, hdd, hlv]
        have hlb := leftV_bd hk hs (show 0 ≤ i ∧ i < n by omega) (show 0 ≤ j ∧ j < m 0 by omega)
        rw [hlv] at hlb
        rw [hdd] at hd hdb
        have hleft : ∀ w', Kept w w' → Calls Try.prog 25 #[.agg #[.slice (some ⟨b, off, none⟩) n cap, .slice RA rl rc, .slice CA rl cc, .int .i64 dd], .int .i64 i, .int .i64 j] w' fun e w'' => e = .returned (.int .i64 lv) ∧ Kept w' w'' := fun w' hk => by
          have := cleft_any (some ⟨b, off, none⟩) n cap B m cp f RA rl rc R CA cc C dd i j w' HK.out HS.out (by omega) (by omega) (HM.out.of hk) (HR.out.of hk) (HC.out.of hk)
          rwa [HL.out] at this
        have HLEFT := Lib.hid hleft
        have HI := Lib.hid hi
        have HJ := Lib.hid hj
        clear hleft hk hs hv hc hdd hlv e1 e2 e3 hi hj
        go_enter Try.func10, Try.ntmps10
        go_wp2_with (first | (go_at_call 20; refine (copenok_any _ _ _ _ _ _ _ _ _ _ _ _ _ _ _ _ hn hrl hcl (HM.out.of (by (repeat (first | exact Kept.refl _ | assumption | refine Kept.alloc ?_ _ | refine Kept.ext ?_ _ | refine Kept.drew ?_ | refine Kept.drewN ?_ _)))) (HR.out.of (by (repeat (first | exact Kept.refl _ | assumption | refine Kept.alloc ?_ _ | refine Kept.ext ?_ _ | refine Kept.drew ?_ | refine Kept.drewN ?_ _)))) (HC.out.of (by (repeat (first | exact Kept.refl _ | assumption | refine Kept.alloc ?_ _ | refine Kept.ext ?_ _ | refine Kept.drew ?_ | refine Kept.drewN ?_ _)))) HO.out).mono ?_; rintro e w1 ⟨rfl, x, rfl⟩; rw [HD.out]) | (go_at_call 27; refine (from_any _ _ _ _).mono ?_; rintro e w1 ⟨rfl, rfl⟩))
        ((first | (with_reducible refine wp_region_tail2 7 (by kernel_rfl) (by kernel_rfl) ?_) | refine wp_region_tail 7 (by kernel_rfl) (by kernel_rfl) ?_); simp only [List.take_succ_cons, List.take_zero, List.drop_succ_cons, List.drop_zero]; (repeat (go_big_quiet_step (first | (go_at_call 25; exact Calls.kept_of (HLEFT.out _ (by (repeat (first | exact Kept.refl _ | assumption | refine Kept.alloc ?_ _ | refine Kept.ext ?_ _ | refine Kept.drew ?_ | refine Kept.drewN ?_ _))))) | (go_at_call 26; exact Calls.kept_of (fraction_any _ _ _ (by omega) (by omega)))))); refine wpQuiet_nil ?_; intro x)
        go_wp2
        refine bodyPost_ret (by simp only [results, Try.results10]; go_simp; rfl) rfl ?_
        exact ⟨rfl, by (repeat (first | exact Kept.refl _ | assumption | refine Kept.alloc ?_ _ | refine Kept.ext ?_ _ | refine Kept.drew ?_ | refine Kept.drewN ?_ _))⟩
      · have f2 : decide (0 ≤ j ∧ j ≤ (m 0 : Int) - 1) = false := decide_eq_false hj
        have e1 : resE n m f rl R rl C i j = 5 := by unfold resE; rw [if_pos hv, if_neg (fun q => hj q.2)]
        obtain ⟨e2, e3⟩ := res_no e1 (by decide)
        rw [e1, e2, e3]
        have HJ := Lib.hid hj
        clear hk hs hv hc hdd hlv e1 e2 e3 hj
        go_enter Try.func10, Try.ntmps10
        go_wp2_with (first | (go_at_call 20; refine (copenok_any _ _ _ _ _ _ _ _ _ _ _ _ _ _ _ _ hn hrl hcl (HM.out.of (by (repeat (first | exact Kept.refl _ | assumption | refine Kept.alloc ?_ _ | refine Kept.ext ?_ _ | refine Kept.drew ?_ | refine Kept.drewN ?_ _)))) (HR.out.of (by (repeat (first | exact Kept.refl _ | assumption | refine Kept.alloc ?_ _ | refine Kept.ext ?_ _ | refine Kept.drew ?_ | refine Kept.drewN ?_ _)))) (HC.out.of (by (repeat (first | exact Kept.refl _ | assumption | refine Kept.alloc ?_ _ | refine Kept.ext ?_ _ | refine Kept.drew ?_ | refine Kept.drewN ?_ _)))) HO.out).mono ?_; rintro e w1 ⟨rfl, x, rfl⟩; rw [HD.out]) | (go_at_call 27; refine (from_any _ _ _ _).mono ?_; rintro e w1 ⟨rfl, rfl⟩))
        refine bodyPost_ret (by simp only [results, Try.results10]; go_simp; rfl) rfl ?_
        exact ⟨rfl, by (repeat (first | exact Kept.refl _ | assumption | refine Kept.alloc ?_ _ | refine Kept.ext ?_ _ | refine Kept.drew ?_ | refine Kept.drewN ?_ _))⟩
    · have f1 : decide (0 ≤ i ∧ i ≤ (n : Int) - 1) = false := decide_eq_false hi
      have e1 : resE n m f rl R rl C i j = 5 := by unfold resE; rw [if_pos hv, if_neg (fun q => hi q.1)]
      obtain ⟨e2, e3⟩ := res_no e1 (by decide)
      rw [e1, e2, e3]
      have HI := Lib.hid hi
      clear hk hs hv hc hdd hlv e1 e2 e3 hi
      go_enter Try.func10, Try.ntmps10
      go_wp2_with (first | (go_at_call 20; refine (copenok_any _ _ _ _ _ _ _ _ _ _ _ _ _ _ _ _ hn hrl hcl (HM.out.of (by (repeat (first | exact Kept.refl _ | assumption | refine Kept.alloc ?_ _ | refine Kept.ext ?_ _ | refine Kept.drew ?_ | refine Kept.drewN ?_ _)))) (HR.out.of (by (repeat (first | exact Kept.refl _ | assumption | refine Kept.alloc ?_ _ | refine Kept.ext ?_ _ | refine Kept.drew ?_ | refine Kept.drewN ?_ _)))) (HC.out.of (by (repeat (first | exact Kept.refl _ | assumption | refine Kept.alloc ?_ _ | refine Kept.ext ?_ _ | refine Kept.drew ?_ | refine Kept.drewN ?_ _)))) HO.out).mono ?_; rintro e w1 ⟨rfl, x, rfl⟩; rw [HD.out]) | (go_at_call 27; refine (from_any _ _ _ _).mono ?_; rintro e w1 ⟨rfl, rfl⟩))
      refine bodyPost_ret (by simp only [results, Try.results10]; go_simp; rfl) rfl ?_
      exact ⟨rfl, by (repeat (first | exact Kept.refl _ | assumption | refine Kept.alloc ?_ _ | refine Kept.ext ?_ _ | refine Kept.drew ?_ | refine Kept.drewN ?_ _))⟩
  · have e1 : resE n m f rl R cl C i j = opnE n m f rl R cl C := if_neg hv
    obtain ⟨e, he⟩ : ∃ e, opnE n m f rl R cl C = e := ⟨_, rfl⟩
    rw [he] at e1
    have hv' := hv
    rw [he] at hv
    obtain ⟨e2, e3⟩ := res_no e1 hv
    rw [e1, e2, e3]
    have HO := Lib.hid he
    have HV := Lib.hid hv'
    clear he hv' e1 e2 e3
    have hv2 : (e == 0) = false := by simpa using hv
    have hv3 : decide (e = 0) = false := by simpa using hv
    go_enter Try.func10, Try.ntmps10
    go_wp2_with (go_at_call 20; refine (copenno_any _ _ _ _ _ _ _ _ _ _ _ _ _ _ _ _ hn hrl hcl (HM.out.of (by (repeat (first | exact Kept.refl _ | assumption | refine Kept.alloc ?_ _ | refine Kept.ext ?_ _ | refine Kept.drew ?_ | refine Kept.drewN ?_ _)))) (HR.out.of (by (repeat (first | exact Kept.refl _ | assumption | refine Kept.alloc ?_ _ | refine Kept.ext ?_ _ | refine Kept.drew ?_ | refine Kept.drewN ?_ _)))) (HC.out.of (by (repeat (first | exact Kept.refl _ | assumption | refine Kept.alloc ?_ _ | refine Kept.ext ?_ _ | refine Kept.drew ?_ | refine Kept.drewN ?_ _)))) HV.out).mono ?_; rintro e w1 ⟨rfl, x, rfl⟩; rw [HO.out])
    refine bodyPost_ret (by simp only [results, Try.results10]; go_simp; rfl) rfl ?_
    exact ⟨rfl, by (repeat (first | exact Kept.refl _ | assumption | refine Kept.alloc ?_ _ | refine Kept.ext ?_ _ | refine Kept.drew ?_ | refine Kept.drewN ?_ _))⟩
end Go.Proofs.Ytjadpehpempjoaa
namespace Go.Proofs.Ytjadpehpempjoaa
set_option linter.unusedVariables false
set_option linter.unusedSimpArgs false
open Go.RowKit Go.Deep
def exF : Nat → Nat → Int := fun k j => if k = 0 ∧ j = 0 then 2 else 1
theorem ex_res : resN 2 (fun _ => 2) exF 1 (fun _ _ => 0) 1 (fun _ _ => 0) 1 1 = 1 ∧ resD 2 (fun _ => 2) exF 1 (fun _ _ => 0) 1 (fun _ _ => 0) 1 1 = 2 ∧ resE 2 (fun _ => 2) exF 1 (fun _ _ => 0) 1 (fun _ _ => 0) 1 1 = 0 := by decide
theorem lit_rows (W : World) {g : Nat} {cs : Array Value} {T : TypeId} {l : Nat} {x : Nat → Int} (h : W.heap[g]? = some (.cells cs T (0, 0))) (hc : ∀ k, k < l → cs[k]? = some (.int .i64 (x k)) ∧ I64 (x k)) : RowsAt W (some ⟨g, 0, none⟩) l 1 (fun k _ => x k) := by
  intro _
  refine ⟨g, 0, rfl, (Array.getElem?_eq_some_iff.1 h).1, fun k hk j hj => ?_⟩
  obtain rfl : j = 0 := by omega
  refine ⟨?_, (hc k hk).2⟩
  unfold World.cell?
  simp only [h]
  rw [show 0 + k * 1 + 0 = k by omega]
  exact (hc k hk).1
theorem ex_mat (W : World) {g0 g1 g2 : Nat} {T0 T1 T2 : TypeId} (h0 : W.heap[g0]? = some (.cells #[.int .i64 2, .int .i64 1] T0 (0, 0))) (h1 : W.heap[g1]? = some (.cells #[.int .i64 1, .int .i64 1] T1 (0, 0))) (h2 : W.heap[g2]? = some (.cells #[.slice (some ⟨g0, 0, none⟩) 2 2, .slice (some ⟨g1, 0, none⟩) 2 2] T2 (0, 0))) :
    MatAt W (some ⟨g2, 0, none⟩) 2 (fun k => if k = 0 then some ⟨g0, 0, none⟩ else some ⟨g1, 0, none⟩) (fun _ => 2) (fun _ => 2) exF := by
  refine ⟨fun _ => ⟨g2, 0, rfl, (Array.getElem?_eq_some_iff.1 h2).1, fun k hk => ?_⟩, fun k _ => ⟨by omega, by unfold maxLen; omega⟩, fun k hk => ?_⟩
  · unfold World.cell?
    simp only [h2]
    rcases (show k = 0 ∨ k = 1 by omega) with rfl | rfl <;> rfl
  · rcases (show k = 0 ∨ k = 1 by omega) with rfl | rfl
    · refine lit_rows W h0 (fun j hj => ?_)
      rcases (show j = 0 ∨ j = 1 by omega) with rfl | rfl
      · exact ⟨rfl, by unfold I64 exF; decide⟩
      · exact ⟨rfl, by unfold I64 exF; decide⟩
    · refine lit_rows W h1 (fun j hj => ?_)
      rcases (show j = 0 ∨ j = 1 by omega) with rfl | rfl
      · exact ⟨rfl, by unfold I64 exF; decide⟩
      · exact ⟨rfl, by unfold I64 exF; decide⟩
end Go.Proofs.Ytjadpehpempjoaa
namespace Go.Proofs.Ytjadpehpempjoaa
set_option linter.unusedVariables false
set_option linter.unusedSimpArgs false
open Go.RowKit Go.Deep
def longB (n : Nat) (m : Nat → Nat) : Bool := decide (20 < n) || (List.range n).any fun k => decide (20 < m k)
set_option maxRecDepth 100000 in
theorem long6_any (A : Option Addr) (n cap : Nat) (B : Nat → Option Addr) (m cp : Nat → Nat) (f : Nat → Nat → Int) (w : World) (hn : n ≤ 9223372036854775807) (h : MatAt w A n B m cp f) :
    Calls Try.prog 5 #[.slice A n cap] w fun e w' => e = .returned (.bool (longB n m)) ∧ w = w' := by
  have HM := Lib.hid h
  clear h
  obtain ⟨r, hr⟩ : ∃ r, longB n m = r := ⟨_, rfl⟩
  rw [hr]
  unfold longB at hr
  by_cases h20 : 20 < n
  · rw [decide_eq_true h20] at hr
    have g1 : decide (20 < n) = true := decide_eq_true h20
    have HR := Lib.hid hr
    clear hr
    go_enter Try.func5, Try.ntmps5
    go_wp2
    go_ret
    exact ⟨ret_bool HR.out, rfl⟩
  · rw [decide_eq_false h20, Bool.false_or] at hr
    have g1 : decide (20 < n) = false := decide_eq_false h20
    have HR := Lib.hid hr
    clear hr
    go_enter Try.func5, Try.ntmps5
    go_wp2
    go_loopw [3] (fun i1 wr => ∃ k : Nat, k ≤ n ∧ i1 = .int .i64 k ∧ (∀ j, j < k → decide (20 < m j) = false) ∧ w = wr) (fun i1 _ => n - (intOf i1).toNat)
    case atStart => exact ⟨0, by omega, rfl, fun j hj => absurd hj (by omega), by first | rfl | trivial⟩
    case round =>
      obtain ⟨k, hk, rfl, hno, rfl⟩ := hrel
      have HNO := Lib.hid hno
      clear hno
      by_cases hlt : k < n
      · obtain ⟨b, off, rfl, hb, c0⟩ := HM.out.at hlt
        have LB : Lower b w.heap.size := ⟨hb⟩
        by_cases he : 20 < m k
        · have g2 : decide (20 < m k) = true := decide_eq_true he
          go_wp2
          go_ret
          exact ⟨ret_bool (by rw [← HR.out]; exact (any_range.2 ⟨k, hlt, g2⟩).symm), rfl⟩
        · have g2 : decide (20 < m k) = false := decide_eq_false he
          go_wp2
          go_roundw
          case rel =>
            refine ⟨k + 1, by omega, by go_num, fun j hj => ?_, by first | rfl | trivial⟩
            by_cases e : j = k
            · rw [e]; exact g2
            · exact HNO.out j (by omega)
          case measure => simp [intOf]; omega
      · obtain rfl : k = n := by omega
        go_wp2
        go_ret
        exact ⟨ret_bool (by rw [← HR.out]; exact (any_range_false.2 HNO.out).symm), rfl⟩
def manyB (rl cl : Nat) : Bool := decide ((40 : Int) < rl) || decide ((40 : Int) < cl)
end Go.Proofs.Ytjadpehpempjoaa
