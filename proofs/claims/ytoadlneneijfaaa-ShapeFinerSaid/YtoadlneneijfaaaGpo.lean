/- Contracts: the error of the points of a mesh, by a map. Conditions: no more than 64 points. -/
import Derived.Test.YtoadlneneijfaaaGcn
namespace Go.Proofs.Ytoadlneneijfaaa
set_option linter.unusedVariables false
set_option linter.unusedSimpArgs false
open Go.RowKit Go.Maps
abbrev MapP (w : World) (b n : Nat) (c : Int × Int × Int → Bool) : Prop := MapB Try.prog 34 4 ptV ptOk w b n c
/-- The points seen so far. -/
def seenF (P : Nat → Nat → Int) (k : Nat) (s : Int × Int × Int) : Bool := (List.range k).any fun i => decide (s = (P i 0, P i 1, P i 2))
theorem seenF_eq (P : Nat → Nat → Int) (k : Nat) : seenF P k (P k 0, P k 1, P k 2) = (List.range k).any fun i => eqPt P k i := by
  unfold seenF
  congr 1
  funext i
  unfold eqPt
  rw [Bool.eq_iff_iff]
  simp
theorem seenF_succ (P : Nat → Nat → Int) (k : Nat) : (fun j => if j = (P k 0, P k 1, P k 2) then true else seenF P k j) = seenF P (k + 1) := by
  funext j
  unfold seenF
  rw [List.range_succ, List.any_append]
  by_cases h : j = (P k 0, P k 1, P k 2)
  · rw [if_pos h]; simp [h]
  · rw [if_neg h]; simp [h]
def ptsE (P : Nat → Nat → Int) (n : Nat) : Int := if ptsBad P n = true then 1 else 0
theorem ptsE_bad {P : Nat → Nat → Int} {n k : Nat} (hk : k < n) (h : ptBad P k = true) : ptsE P n = 1 := if_pos (any_true hk h)
theorem ptsE_ok {P : Nat → Nat → Int} {n : Nat} (h : ∀ k, k < n → ptBad P k = false) : ptsE P n = 0 := if_neg (by unfold ptsBad; rw [any_false h]; simp)
set_option maxRecDepth 100000 in
set_option maxHeartbeats 16000000 in
theorem spoints_any (A B : Option Addr) (n cap m cap2 : Nat) (P : Nat → Nat → Int) (w : World) (hn : n ≤ 64) (hP : RowsAt w A n 3 P) :
    Calls Try.prog 74 #[.agg #[.slice A n cap, .slice B m cap2]] w fun r w' => r = .returned (.int .i64 (ptsE P n)) ∧ Kept w w' := by
  have HP := Lib.hid hP
  have IP : ∀ k, k < n → ∀ j, j < 3 → I64 (P k j) := fun k hk j hj => by
    obtain ⟨b, off, -, -, hc⟩ := hP (by omega)
    exact (hc k hk j hj).2
  clear hP
  have hmm := @run_makeMap Try.prog
  go_enter Try.func74, Try.ntmps74
  go_wp2_with fail
  clear hmm
  go_loopw [10] (fun i wr => ∃ k : Nat, k ≤ n ∧ i = .int .i64 k ∧ (∀ i, i < k → ptBad P i = false) ∧ (∃ y, wr = ext (w.alloc (.cells #[.slice A n cap, .slice B m cap2] 25)) y) ∧ MapP wr (w.heap.size + 1) k (seenF P k)) (fun i _ => n - (intOf i).toNat)
  case atStart => exact ⟨0, by omega, rfl, fun i h => by omega, show Kept _ _ by (repeat (first | exact Kept.refl _ | assumption | refine Kept.alloc ?_ _ | refine Kept.ext ?_ _ | refine Kept.drew ?_ | refine Kept.drewN ?_ _)), by
    have := MapB.made (P := Try.prog) (k := 34) (e := 4) (kv := ptV) (ok := ptOk) (w.alloc (.cells #[.slice A n cap, .slice B m cap2] 25))
    rw [World.size_alloc] at this
    exact this⟩
  case round =>
    obtain ⟨k, hk, rfl, hgood, ⟨y, rfl⟩, hM⟩ := hrel
    have HM := Lib.hid hM
    have HG := Lib.hid hgood
    clear hM hgood
    by_cases hlt : k < n
    · obtain ⟨fb, off, rfl, hb, f0, f1, f2⟩ := rows3 HP.out hlt
      have LB : Lower fb w.heap.size := ⟨hb⟩
      have hok : ptOk (P k 0, P k 1, P k 2) := ⟨IP k hlt 0 (by omega), IP k hlt 1 (by omega), IP k hlt 2 (by omega)⟩
      cases hin : inB (P k 0) (P k 1) (P k 2) 64
      · have hbad := ptsE_bad (n := n) hlt (show ptBad P k = true by unfold ptBad; rw [hin]; rfl)
        go_wp2_with (first | (go_at_call 69; refine (inRange_any _ _ _ _ _ (by omega)).mono ?_; rintro e w1 ⟨rfl, x, rfl⟩))
        go_ret
        rw [hbad]
        exact ⟨rfl, by (repeat (first | exact Kept.refl _ | assumption | refine Kept.alloc ?_ _ | refine Kept.ext ?_ _ | refine Kept.drew ?_ | refine Kept.drewN ?_ _))⟩
      · cases hs : seenF P k (P k 0, P k 1, P k 2)
        · go_wp2_with (first | (go_at_call 69; refine (inRange_any _ _ _ _ _ (by omega)).mono ?_; rintro e w1 ⟨rfl, x, rfl⟩) | (at_lookup; refine wp_lookB _ rfl _ _ _ rfl (Keyed.of_law lawPoint) Try.underlying109 Try.underlying4 (zeroBool _) (w.heap.size + 1) k (seenF P k) (HM.out.kept (by (repeat (first | exact Kept.refl _ | assumption | refine Kept.alloc ?_ _ | refine Kept.ext ?_ _ | refine Kept.drew ?_ | refine Kept.drewN ?_ _)))) (P k 0, P k 1, P k 2) rfl rfl hok (keyOf_pt _ hok) ?_; simp only [hs]) | (at_mapUpdate; refine wp_putB _ rfl _ _ _ _ rfl (Keyed.of_law lawPoint) Try.underlying109 Try.underlying4 (w.heap.size + 1) k (seenF P k) (HM.out.kept (by (repeat (first | exact Kept.refl _ | assumption | refine Kept.alloc ?_ _ | refine Kept.ext ?_ _ | refine Kept.drew ?_ | refine Kept.drewN ?_ _)))) (by unfold maxLen; omega) (P k 0, P k 1, P k 2) true rfl rfl rfl (keyOf_pt _ hok) (fun j e => ptV_inj _ _ e) ?_; intro w2 hM2 hg2))
          rw [seenF_succ] at hM2
          have hk2 : Kept (w.alloc (.cells #[.slice (some ⟨fb, off, none⟩) n cap, .slice B m cap2] 25)) w2 := Kept.map_store (by (repeat (first | exact Kept.refl _ | assumption | refine Kept.alloc ?_ _ | refine Kept.ext ?_ _ | refine Kept.drew ?_ | refine Kept.drewN ?_ _))) (by simp) hg2
          go_roundw
          case rel => exact ⟨k + 1, by omega, by go_num, fun i hi => by
            by_cases e : i = k
            · subst e
              unfold ptBad
              rw [hin, ← seenF_eq, hs]
              rfl
            · exact HG.out i (by omega), hk2, hM2⟩
          case measure => simp [intOf]; omega
        · have hbad := ptsE_bad (n := n) hlt (show ptBad P k = true by unfold ptBad; rw [hin, ← seenF_eq, hs]; rfl)
          go_wp2_with (first | (go_at_call 69; refine (inRange_any _ _ _ _ _ (by omega)).mono ?_; rintro e w1 ⟨rfl, x, rfl⟩) | (at_lookup; refine wp_lookB _ rfl _ _ _ rfl (Keyed.of_law lawPoint) Try.underlying109 Try.underlying4 (zeroBool _) (w.heap.size + 1) k (seenF P k) (HM.out.kept (by (repeat (first | exact Kept.refl _ | assumption | refine Kept.alloc ?_ _ | refine Kept.ext ?_ _ | refine Kept.drew ?_ | refine Kept.drewN ?_ _)))) (P k 0, P k 1, P k 2) rfl rfl hok (keyOf_pt _ hok) ?_; simp only [hs]))
          go_ret
          rw [hbad]
          exact ⟨rfl, by (repeat (first | exact Kept.refl _ | assumption | refine Kept.alloc ?_ _ | refine Kept.ext ?_ _ | refine Kept.drew ?_ | refine Kept.drewN ?_ _))⟩
    · obtain rfl : k = n := by omega
      have hgood := ptsE_ok HG.out
      go_wp2_with fail
      go_ret
      rw [hgood]
      exact ⟨rfl, by (repeat (first | exact Kept.refl _ | assumption | refine Kept.alloc ?_ _ | refine Kept.ext ?_ _ | refine Kept.drew ?_ | refine Kept.drewN ?_ _))⟩
end Go.Proofs.Ytoadlneneijfaaa
