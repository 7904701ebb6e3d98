/- Contract: the document's example. No conditions. -/
import Derived.Test.YtoejdfpmmgldpaaRs
namespace Go.Proofs.Ytoejdfpmmgldpaa
set_option linter.unusedVariables false
set_option linter.unusedSimpArgs false
open Go.RowKit Go.Deep
def exF : Nat → Nat → Int := fun k j => if k = 0 ∧ j = 0 then 2 else 1
theorem ex_res : resN 2 (fun _ => 2) exF 1 (fun _ _ => 0) 1 (fun _ _ => 0) 1 1 = 1 ∧ resD 2 (fun _ => 2) exF 1 (fun _ _ => 0) 1 (fun _ _ => 0) 1 1 = 2 ∧ resE 2 (fun _ => 2) exF 1 (fun _ _ => 0) 1 (fun _ _ => 0) 1 1 = 0 := by decide
theorem lit_rows (W : World) {g : Nat} {cs : Array Value} {T : TypeId} {l : Nat} {x : Nat → Int} (h : W.heap[g]? = some (.cells cs T (0, 0))) (hc : ∀ k, k < l → cs[k]? = some (.int .i64 (x k)) ∧ I64 (x k)) : RowsAt W (some ⟨g, 0, none⟩) l 1 (fun k _ => x k) := by
  intro _
  refine ⟨g, 0, rfl, (Array.getElem?_eq_some_iff.1 h).1, fun k hk j hj => ?_⟩
  obtain rfl : j = 0 := by omega
  refine ⟨?_, (hc k hk).2⟩
  unfold World.cell?
  simp only [h]
  rw [show 0 + k * 1 + 0 = k by omega]
  exact (hc k hk).1
theorem ex_mat (W : World) {g0 g1 g2 : Nat} {T0 T1 T2 : TypeId} (h0 : W.heap[g0]? = some (.cells #[.int .i64 2, .int .i64 1] T0 (0, 0))) (h1 : W.heap[g1]? = some (.cells #[.int .i64 1, .int .i64 1] T1 (0, 0))) (h2 : W.heap[g2]? = some (.cells #[.slice (some ⟨g0, 0, none⟩) 2 2, .slice (some ⟨g1, 0, none⟩) 2 2] T2 (0, 0))) :
    MatAt W (some ⟨g2, 0, none⟩) 2 (fun k => if k = 0 then some ⟨g0, 0, none⟩ else some ⟨g1, 0, none⟩) (fun _ => 2) (fun _ => 2) exF := by
  refine ⟨fun _ => ⟨g2, 0, rfl, (Array.getElem?_eq_some_iff.1 h2).1, fun k hk => ?_⟩, fun k _ => ⟨by omega, by unfold maxLen; omega⟩, fun k hk => ?_⟩
  · unfold World.cell?
    simp only [h2]
    rcases (show k = 0 ∨ k = 1 by omega) with rfl | rfl <;> rfl
  · rcases (show k = 0 ∨ k = 1 by omega) with rfl | rfl
    · refine lit_rows W h0 (fun j hj => ?_)
      rcases (show j = 0 ∨ j = 1 by omega) with rfl | rfl
      · exact ⟨rfl, by unfold I64 exF; decide⟩
      · exact ⟨rfl, by unfold I64 exF; decide⟩
    · refine lit_rows W h1 (fun j hj => ?_)
      rcases (show j = 0 ∨ j = 1 by omega) with rfl | rfl
      · exact ⟨rfl, by unfold I64 exF; decide⟩
      · exact ⟨rfl, by unfold I64 exF; decide⟩
set_option maxRecDepth 100000 in
set_option maxHeartbeats 4000000 in
theorem known6_any (w : World) : Calls Try.prog 17 #[] w fun e w' => e = .returned (.bool true) ∧ Kept w w' := by
  obtain ⟨r1, r2, r3⟩ := ex_res
  have R1 := Lib.hid r1
  have R2 := Lib.hid r2
  have R3 := Lib.hid r3
  clear r1 r2 r3
  go_enter Try.func17, Try.ntmps17
  go_wp2_with fail
  have h0 : (((((w.alloc (.cells #[.int .i64 2, .int .i64 1] 3)).alloc (.cells #[.int .i64 1, .int .i64 1] 3)).alloc (.cells #[.slice (some ⟨w.heap.size, 0, none⟩) 2 2, .slice (some ⟨w.heap.size + 1, 0, none⟩) 2 2] 23)).alloc (.cells #[.int .i64 0] 3)).alloc (.cells #[.int .i64 0] 3)).heap[w.heap.size]? = some (.cells #[.int .i64 2, .int .i64 1] 3) := fr_kept (w := (w.alloc (.cells #[.int .i64 2, .int .i64 1] 3))) (alloc_at2 w (.cells #[.int .i64 2, .int .i64 1] 3) (w.heap.size)) (by (repeat (first | exact Kept.refl _ | assumption | refine Kept.alloc ?_ _ | refine Kept.ext ?_ _ | refine Kept.drew ?_ | refine Kept.drewN ?_ _)))
  have h1 : (((((w.alloc (.cells #[.int .i64 2, .int .i64 1] 3)).alloc (.cells #[.int .i64 1, .int .i64 1] 3)).alloc (.cells #[.slice (some ⟨w.heap.size, 0, none⟩) 2 2, .slice (some ⟨w.heap.size + 1, 0, none⟩) 2 2] 23)).alloc (.cells #[.int .i64 0] 3)).alloc (.cells #[.int .i64 0] 3)).heap[w.heap.size + 1]? = some (.cells #[.int .i64 1, .int .i64 1] 3) := fr_kept (w := ((w.alloc (.cells #[.int .i64 2, .int .i64 1] 3)).alloc (.cells #[.int .i64 1, .int .i64 1] 3))) (alloc_at2 (w.alloc (.cells #[.int .i64 2, .int .i64 1] 3)) (.cells #[.int .i64 1, .int .i64 1] 3) (w.heap.size + 1)) (by (repeat (first | exact Kept.refl _ | assumption | refine Kept.alloc ?_ _ | refine Kept.ext ?_ _ | refine Kept.drew ?_ | refine Kept.drewN ?_ _)))
  have h2 : (((((w.alloc (.cells #[.int .i64 2, .int .i64 1] 3)).alloc (.cells #[.int .i64 1, .int .i64 1] 3)).alloc (.cells #[.slice (some ⟨w.heap.size, 0, none⟩) 2 2, .slice (some ⟨w.heap.size + 1, 0, none⟩) 2 2] 23)).alloc (.cells #[.int .i64 0] 3)).alloc (.cells #[.int .i64 0] 3)).heap[w.heap.size + 1 + 1]? = some (.cells #[.slice (some ⟨w.heap.size, 0, none⟩) 2 2, .slice (some ⟨w.heap.size + 1, 0, none⟩) 2 2] 23) := fr_kept (w := (((w.alloc (.cells #[.int .i64 2, .int .i64 1] 3)).alloc (.cells #[.int .i64 1, .int .i64 1] 3)).alloc (.cells #[.slice (some ⟨w.heap.size, 0, none⟩) 2 2, .slice (some ⟨w.heap.size + 1, 0, none⟩) 2 2] 23))) (alloc_at2 ((w.alloc (.cells #[.int .i64 2, .int .i64 1] 3)).alloc (.cells #[.int .i64 1, .int .i64 1] 3)) (.cells #[.slice (some ⟨w.heap.size, 0, none⟩) 2 2, .slice (some ⟨w.heap.size + 1, 0, none⟩) 2 2] 23) (w.heap.size + 1 + 1)) (by (repeat (first | exact Kept.refl _ | assumption | refine Kept.alloc ?_ _ | refine Kept.ext ?_ _ | refine Kept.drew ?_ | refine Kept.drewN ?_ _)))
  have h3 : (((((w.alloc (.cells #[.int .i64 2, .int .i64 1] 3)).alloc (.cells #[.int .i64 1, .int .i64 1] 3)).alloc (.cells #[.slice (some ⟨w.heap.size, 0, none⟩) 2 2, .slice (some ⟨w.heap.size + 1, 0, none⟩) 2 2] 23)).alloc (.cells #[.int .i64 0] 3)).alloc (.cells #[.int .i64 0] 3)).heap[w.heap.size + 1 + 1 + 1]? = some (.cells #[.int .i64 0] 3) := fr_kept (w := ((((w.alloc (.cells #[.int .i64 2, .int .i64 1] 3)).alloc (.cells #[.int .i64 1, .int .i64 1] 3)).alloc (.cells #[.slice (some ⟨w.heap.size, 0, none⟩) 2 2, .slice (some ⟨w.heap.size + 1, 0, none⟩) 2 2] 23)).alloc (.cells #[.int .i64 0] 3))) (alloc_at2 (((w.alloc (.cells #[.int .i64 2, .int .i64 1] 3)).alloc (.cells #[.int .i64 1, .int .i64 1] 3)).alloc (.cells #[.slice (some ⟨w.heap.size, 0, none⟩) 2 2, .slice (some ⟨w.heap.size + 1, 0, none⟩) 2 2] 23)) (.cells #[.int .i64 0] 3) (w.heap.size + 1 + 1 + 1)) (by (repeat (first | exact Kept.refl _ | assumption | refine Kept.alloc ?_ _ | refine Kept.ext ?_ _ | refine Kept.drew ?_ | refine Kept.drewN ?_ _)))
  have h4 : (((((w.alloc (.cells #[.int .i64 2, .int .i64 1] 3)).alloc (.cells #[.int .i64 1, .int .i64 1] 3)).alloc (.cells #[.slice (some ⟨w.heap.size, 0, none⟩) 2 2, .slice (some ⟨w.heap.size + 1, 0, none⟩) 2 2] 23)).alloc (.cells #[.int .i64 0] 3)).alloc (.cells #[.int .i64 0] 3)).heap[w.heap.size + 1 + 1 + 1 + 1]? = some (.cells #[.int .i64 0] 3) := alloc_at2 ((((w.alloc (.cells #[.int .i64 2, .int .i64 1] 3)).alloc (.cells #[.int .i64 1, .int .i64 1] 3)).alloc (.cells #[.slice (some ⟨w.heap.size, 0, none⟩) 2 2, .slice (some ⟨w.heap.size + 1, 0, none⟩) 2 2] 23)).alloc (.cells #[.int .i64 0] 3)) (.cells #[.int .i64 0] 3) (w.heap.size + 1 + 1 + 1 + 1)
  have z0 : ∀ k, k < 1 → (#[Value.int .i64 0] : Array Value)[k]? = some (.int .i64 0) ∧ I64 0 := fun k hk => by
    obtain rfl : k = 0 := by omega
    exact ⟨rfl, by unfold I64; omega⟩
  have hcall := cRes_any (some ⟨w.heap.size + 1 + 1, 0, none⟩) 2 2 _ (fun _ => 2) (fun _ => 2) exF (some ⟨w.heap.size + 1 + 1 + 1, 0, none⟩) 1 1 (fun _ _ => 0) (some ⟨w.heap.size + 1 + 1 + 1 + 1, 0, none⟩) 1 1 (fun _ _ => 0) 1 1 _ (by omega) (by omega) (by omega) (ex_mat _ h0 h1 h2) (lit_rows _ (x := fun _ => 0) h3 z0) (lit_rows _ (x := fun _ => 0) h4 z0)
  rw [R1.out, R2.out, R3.out] at hcall
  have HCALL := Lib.hid hcall
  clear h0 h1 h2 h3 h4 z0 hcall
  refine HCALL.out.mono ?_
  rintro e w1 ⟨rfl, x, rfl⟩
  go_wp2_with fail
  go_ret
  exact ⟨rfl, by (repeat (first | exact Kept.refl _ | assumption | refine Kept.alloc ?_ _ | refine Kept.ext ?_ _ | refine Kept.drew ?_ | refine Kept.drewN ?_ _))⟩
end Go.Proofs.Ytoejdfpmmgldpaa
