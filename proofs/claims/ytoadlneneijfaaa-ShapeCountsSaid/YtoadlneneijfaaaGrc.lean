/- Contracts: which faces are asked for, and which sides count. Conditions: those of each theorem. -/
import Derived.Test.YtoadlneneijfaaaBase
namespace Go.Proofs.Ytoadlneneijfaaa
set_option linter.unusedVariables false
set_option linter.unusedSimpArgs false
open Go.RowKit
set_option maxRecDepth 100000 in
theorem gAll_any (f0 f1 f2 : Int) (w : World) : Calls Try.prog 121 #[.agg #[.int .i64 f0, .int .i64 f1, .int .i64 f2]] w fun r w' => r = .returned (.bool true) ∧ Kept w w' := by
  go_enter Try.func121, Try.ntmps121
  go_wp2_with fail
  refine bodyPost_ret (by simp only [results, Try.results121]; go_simp; rfl) rfl ?_
  exact ⟨rfl, by (repeat (first | exact Kept.refl _ | assumption | refine Kept.alloc ?_ _ | refine Kept.ext ?_ _ | refine Kept.drew ?_ | refine Kept.drewN ?_ _))⟩
set_option maxRecDepth 100000 in
theorem gEach_any (a b : Int) (w : World) : Calls Try.prog 122 #[.agg #[.int .i64 a, .int .i64 b]] w fun r w' => r = .returned (.bool true) ∧ Kept w w' := by
  go_enter Try.func122, Try.ntmps122
  go_wp2_with fail
  refine bodyPost_ret (by simp only [results, Try.results122]; go_simp; rfl) rfl ?_
  exact ⟨rfl, by (repeat (first | exact Kept.refl _ | assumption | refine Kept.alloc ?_ _ | refine Kept.ext ?_ _ | refine Kept.drew ?_ | refine Kept.drewN ?_ _))⟩
set_option maxRecDepth 100000 in
set_option maxHeartbeats 4000000 in
theorem gIn_any (f0 f1 f2 p : Int) (g : Nat) (w : World) (hp : w.cell? ⟨g, 0, none⟩ = some (.int .i64 p)) (hg : g < w.heap.size) :
    Calls Try.prog 123 #[.agg #[.int .i64 f0, .int .i64 f1, .int .i64 f2], .pointer (some ⟨g, 0, none⟩)] w fun r w' => r = .returned (.bool (f0 == p || (f1 == p || f2 == p))) ∧ Kept w w' := by
  have L : Lower g w.heap.size := ⟨hg⟩
  by_cases h0 : f0 = p
  · have e0 : (f0 == p) = true := by simp [h0]
    go_enter Try.func123, Try.ntmps123
    go_wp2_with fail
    refine bodyPost_ret (by simp only [results, Try.results123]; go_simp; rfl) rfl ?_
    exact ⟨by simp [e0], by (repeat (first | exact Kept.refl _ | assumption | refine Kept.alloc ?_ _ | refine Kept.ext ?_ _ | refine Kept.drew ?_ | refine Kept.drewN ?_ _))⟩
  · have e0 : (f0 == p) = false := by simp [h0]
    by_cases h1 : f1 = p
    · have e1 : (f1 == p) = true := by simp [h1]
      go_enter Try.func123, Try.ntmps123
      go_wp2_with fail
      refine bodyPost_ret (by simp only [results, Try.results123]; go_simp; rfl) rfl ?_
      exact ⟨by simp [e0, e1], by (repeat (first | exact Kept.refl _ | assumption | refine Kept.alloc ?_ _ | refine Kept.ext ?_ _ | refine Kept.drew ?_ | refine Kept.drewN ?_ _))⟩
    · have e1 : (f1 == p) = false := by simp [h1]
      go_enter Try.func123, Try.ntmps123
      go_wp2_with fail
      refine bodyPost_ret (by simp only [results, Try.results123]; go_simp; rfl) rfl ?_
      exact ⟨by simp [e0, e1], by (repeat (first | exact Kept.refl _ | assumption | refine Kept.alloc ?_ _ | refine Kept.ext ?_ _ | refine Kept.drew ?_ | refine Kept.drewN ?_ _))⟩
set_option maxRecDepth 100000 in
set_option maxHeartbeats 4000000 in
theorem gOn_any (a b p : Int) (g : Nat) (w : World) (hp : w.cell? ⟨g, 0, none⟩ = some (.int .i64 p)) (hg : g < w.heap.size) :
    Calls Try.prog 124 #[.agg #[.int .i64 a, .int .i64 b], .pointer (some ⟨g, 0, none⟩)] w fun r w' => r = .returned (.bool (a == p || b == p)) ∧ Kept w w' := by
  have L : Lower g w.heap.size := ⟨hg⟩
  by_cases h0 : a = p
  · have e0 : (a == p) = true := by simp [h0]
    go_enter Try.func124, Try.ntmps124
    go_wp2_with fail
    refine bodyPost_ret (by simp only [results, Try.results124]; go_simp; rfl) rfl ?_
    exact ⟨by simp [e0], by (repeat (first | exact Kept.refl _ | assumption | refine Kept.alloc ?_ _ | refine Kept.ext ?_ _ | refine Kept.drew ?_ | refine Kept.drewN ?_ _))⟩
  · have e0 : (a == p) = false := by simp [h0]
    go_enter Try.func124, Try.ntmps124
    go_wp2_with fail
    refine bodyPost_ret (by simp only [results, Try.results124]; go_simp; rfl) rfl ?_
    exact ⟨by simp [e0], by (repeat (first | exact Kept.refl _ | assumption | refine Kept.alloc ?_ _ | refine Kept.ext ?_ _ | refine Kept.drew ?_ | refine Kept.drewN ?_ _))⟩
end Go.Proofs.Ytoadlneneijfaaa
