/- Contract: the mean of 1/r over a panel, seen from a point, of the program. Conditions: bounds on numbers. -/
import Derived.Test.YtodmdicegkjicaaZj
import Derived.Test.YtodmdicegkjicaaZl
import Derived.Test.YtodmdicegkjicaaZm
import Derived.Test.YtodmdicegkjicaaZe
namespace Go.Proofs.Ytodmdicegkjicaa
set_option linter.unusedVariables false
set_option linter.unusedSimpArgs false
open Go.RowKit Go.Shelf
attribute [local go_sem] Oper.semAt_some
set_option maxRecDepth 100000 in
set_option maxHeartbeats 16000000 in
theorem fmean_inv (p : Pn) (x0 x1 x2 : Int) (d : Nat) (w : World) (hd : d ≤ 3) (hp : p.bd 64) (hx0 : -256 ≤ x0 ∧ x0 ≤ 256) (hx1 : -256 ≤ x1 ∧ x1 ≤ 256) (hx2 : -256 ≤ x2 ∧ x2 ≤ 256) :
    Calls Try.prog 35 #[p.val, .agg #[.int .i64 x0, .int .i64 x1, .int .i64 x2], .int .i64 d, .func (.func 36) #[] #[]] w fun e w' => e = .returned (.tuple #[.agg #[.int .i64 (meanX d x0 x1 x2 p).lo, .int .i64 (meanX d x0 x1 x2 p).hi], .int .i64 (meanX d x0 x1 x2 p).e]) ∧ Kept w w' := by
  have HP := Lib.hid hp
  have hpw : wrap64 (2 ^ d) = 2 ^ d := by rcases (show d = 0 ∨ d = 1 ∨ d = 2 ∨ d = 3 by omega) with rfl | rfl | rfl | rfl <;> (unfold wrap64; decide)
  obtain ⟨X0, hX0⟩ : ∃ X, (2 : Int) ^ d * x0 = X := ⟨_, rfl⟩
  obtain ⟨X1, hX1⟩ : ∃ X, (2 : Int) ^ d * x1 = X := ⟨_, rfl⟩
  obtain ⟨X2, hX2⟩ : ∃ X, (2 : Int) ^ d * x2 = X := ⟨_, rfl⟩
  have hs := pow_d hd
  have sb : ∀ x : Int, -256 ≤ x ∧ x ≤ 256 → -2048 ≤ 2 ^ d * x ∧ 2 ^ d * x ≤ 2048 := fun x hx => by
    have k1 := Int.mul_le_mul_of_nonneg_left hx.1 (show (0 : Int) ≤ 2 ^ d by omega)
    have k2 := Int.mul_le_mul_of_nonneg_left hx.2 (show (0 : Int) ≤ 2 ^ d by omega)
    omega
  have b0 := sb x0 hx0
  have b1 := sb x1 hx1
  have b2 := sb x2 hx2
  rw [hX0] at b0
  rw [hX1] at b1
  rw [hX2] at b2
  have htim : ∀ w', Calls Try.prog 49 #[.agg #[.int .i64 x0, .int .i64 x1, .int .i64 x2], .int .i64 (2 ^ d)] w' fun e w'' => e = .returned (.agg #[.int .i64 X0, .int .i64 X1, .int .i64 X2]) ∧ Kept w' w'' := fun w' => by
    have := ftimes_any x0 x1 x2 (2 ^ d) w' (by omega)
    rw [hX0, hX1, hX2] at this
    exact this
  have HTIM := Lib.hid htim
  have hcut : ∀ w', _ := fun w' => fcut_any p.a0 p.a1 p.a2 p.b0 p.b1 p.b2 p.c0 p.c1 p.c2 d w'
  have HCUT := Lib.hid hcut
  have HX0 := Lib.hid hX0
  have HX1 := Lib.hid hX1
  have HX2 := Lib.hid hX2
  have HS := Lib.hid hs
  have HB := Lib.hid (And.intro b0 (And.intro b1 b2))
  have HXB := Lib.hid (And.intro hx0 (And.intro hx1 hx2))
  clear hp htim hcut hX0 hX1 hX2 hs sb b0 b1 b2 hx0 hx1 hx2
  unfold Pn.val at *
  refine (callsIn_wide (n := 9)).1 ?_
  refine callsIn_of_wp_marks Try.func35 rfl trivial ?_ rfl
  simp only [Try.ntmps35, List.size_toArray, List.length_cons, List.length_nil, Nat.reduceAdd, Nat.reduceSub, Array.replicate_succ, Array.replicate_zero, List.push_toArray, List.append_toArray, List.nil_append, List.cons_append]
  refine wpIn_wide.2 ?_
  go_wp2_with (first | (go_at_call 49; (with_reducible refine (HTIM.out _).mono ?_); rintro e w2 ⟨rfl, y2, rfl⟩) | (go_at_call 50; refine (HCUT.out _).mono ?_; rintro e w3 ⟨rfl, rfl⟩))
  refine wp_gen (fun W2 hW2 => ?_)
  have hOf : W2.heap[w.heap.size + 1 + 1]? = some (.cells #[.func (.func 36) #[] #[]] 80 (0, 0)) := by rw [hW2]; exact heap_kp (alloc_now ((w.alloc (.cells #[.int .i64 p.a0, .int .i64 p.a1, .int .i64 p.a2, .int .i64 p.b0, .int .i64 p.b1, .int .i64 p.b2, .int .i64 p.c0, .int .i64 p.c1, .int .i64 p.c2] 49)).alloc (.cells #[.int .i64 x0, .int .i64 x1, .int .i64 x2] 24)) _ (w.heap.size + 1 + 1)) (by (repeat (first | exact Kept.refl _ | assumption | refine Kept.alloc ?_ _ | refine Kept.ext ?_ _ | refine Kept.drew ?_ | refine Kept.drewN ?_ _)))
  have hRB : W2.heap[w.heap.size + 1 + 1 + 1]? = some (.cells #[.int .i64 0, .int .i64 0] 39 (0, 0)) := by rw [hW2]; exact heap_kp (alloc_now (((w.alloc (.cells #[.int .i64 p.a0, .int .i64 p.a1, .int .i64 p.a2, .int .i64 p.b0, .int .i64 p.b1, .int .i64 p.b2, .int .i64 p.c0, .int .i64 p.c1, .int .i64 p.c2] 49)).alloc (.cells #[.int .i64 x0, .int .i64 x1, .int .i64 x2] 24)).alloc (.cells #[.func (.func 36) #[] #[]] 80)) _ (w.heap.size + 1 + 1 + 1)) (by (repeat (first | exact Kept.refl _ | assumption | refine Kept.alloc ?_ _ | refine Kept.ext ?_ _ | refine Kept.drew ?_ | refine Kept.drewN ?_ _)))
  have hEB : W2.heap[w.heap.size + 1 + 1 + 1 + 1]? = some (.cells #[.int .i64 0] 32 (0, 0)) := by rw [hW2]; exact heap_kp (alloc_now ((((w.alloc (.cells #[.int .i64 p.a0, .int .i64 p.a1, .int .i64 p.a2, .int .i64 p.b0, .int .i64 p.b1, .int .i64 p.b2, .int .i64 p.c0, .int .i64 p.c1, .int .i64 p.c2] 49)).alloc (.cells #[.int .i64 x0, .int .i64 x1, .int .i64 x2] 24)).alloc (.cells #[.func (.func 36) #[] #[]] 80)).alloc (.cells #[.int .i64 0, .int .i64 0] 39)) _ (w.heap.size + 1 + 1 + 1 + 1)) (by (repeat (first | exact Kept.refl _ | assumption | refine Kept.alloc ?_ _ | refine Kept.ext ?_ _ | refine Kept.drew ?_ | refine Kept.drewN ?_ _)))
  have hS : W2.heap[w.heap.size + 1 + 1 + 1 + 1 + 1]? = some (.cells #[.int .i64 (2 ^ d)] 3 (0, 0)) := by rw [hW2]; exact heap_kp (alloc_now (((((w.alloc (.cells #[.int .i64 p.a0, .int .i64 p.a1, .int .i64 p.a2, .int .i64 p.b0, .int .i64 p.b1, .int .i64 p.b2, .int .i64 p.c0, .int .i64 p.c1, .int .i64 p.c2] 49)).alloc (.cells #[.int .i64 x0, .int .i64 x1, .int .i64 x2] 24)).alloc (.cells #[.func (.func 36) #[] #[]] 80)).alloc (.cells #[.int .i64 0, .int .i64 0] 39)).alloc (.cells #[.int .i64 0] 32)) _ (w.heap.size + 1 + 1 + 1 + 1 + 1)) (by (repeat (first | exact Kept.refl _ | assumption | refine Kept.alloc ?_ _ | refine Kept.ext ?_ _ | refine Kept.drew ?_ | refine Kept.drewN ?_ _)))
  have hT : W2.heap[(adv (w.heap.size + 1 + 1 + 1 + 1 + 1 + 1) y2.obs.size)]? = some (.cells #[.int .i64 X0, .int .i64 X1, .int .i64 X2] 24 (0, 0)) := by rw [hW2]; exact heap_kp (alloc_now (ext ((((((w.alloc (.cells #[.int .i64 p.a0, .int .i64 p.a1, .int .i64 p.a2, .int .i64 p.b0, .int .i64 p.b1, .int .i64 p.b2, .int .i64 p.c0, .int .i64 p.c1, .int .i64 p.c2] 49)).alloc (.cells #[.int .i64 x0, .int .i64 x1, .int .i64 x2] 24)).alloc (.cells #[.func (.func 36) #[] #[]] 80)).alloc (.cells #[.int .i64 0, .int .i64 0] 39)).alloc (.cells #[.int .i64 0] 32)).alloc (.cells #[.int .i64 (2 ^ d)] 3)) y2) _ ((adv (w.heap.size + 1 + 1 + 1 + 1 + 1 + 1) y2.obs.size))) (by (repeat (first | exact Kept.refl _ | assumption | refine Kept.alloc ?_ _ | refine Kept.ext ?_ _ | refine Kept.drew ?_ | refine Kept.drewN ?_ _)))
  have hQ : W2.heap[(adv (w.heap.size + 1 + 1 + 1 + 1 + 1 + 1) y2.obs.size) + 1]? = some (.cells #[.slice (some ⟨(adv (w.heap.size + 1 + 1 + 1 + 1 + 1 + 1) y2.obs.size), 0, none⟩) 1 1] 89 (0, 0)) := by rw [hW2]; exact heap_kp (alloc_now (World.alloc (ext ((((((w.alloc (.cells #[.int .i64 p.a0, .int .i64 p.a1, .int .i64 p.a2, .int .i64 p.b0, .int .i64 p.b1, .int .i64 p.b2, .int .i64 p.c0, .int .i64 p.c1, .int .i64 p.c2] 49)).alloc (.cells #[.int .i64 x0, .int .i64 x1, .int .i64 x2] 24)).alloc (.cells #[.func (.func 36) #[] #[]] 80)).alloc (.cells #[.int .i64 0, .int .i64 0] 39)).alloc (.cells #[.int .i64 0] 32)).alloc (.cells #[.int .i64 (2 ^ d)] 3)) y2) (.cells #[.int .i64 X0, .int .i64 X1, .int .i64 X2] 24)) _ ((adv (w.heap.size + 1 + 1 + 1 + 1 + 1 + 1) y2.obs.size) + 1)) (by (repeat (first | exact Kept.refl _ | assumption | refine Kept.alloc ?_ _ | refine Kept.ext ?_ _ | refine Kept.drew ?_ | refine Kept.drewN ?_ _)))
  have hL : W2.heap[(adv (w.heap.size + 1 + 1 + 1 + 1 + 1 + 1) y2.obs.size) + 1 + 1]? = some (.cells #[.int .i64 0] 3 (0, 0)) := by rw [hW2]; exact heap_kp (alloc_now (World.alloc (World.alloc (ext ((((((w.alloc (.cells #[.int .i64 p.a0, .int .i64 p.a1, .int .i64 p.a2, .int .i64 p.b0, .int .i64 p.b1, .int .i64 p.b2, .int .i64 p.c0, .int .i64 p.c1, .int .i64 p.c2] 49)).alloc (.cells #[.int .i64 x0, .int .i64 x1, .int .i64 x2] 24)).alloc (.cells #[.func (.func 36) #[] #[]] 80)).alloc (.cells #[.int .i64 0, .int .i64 0] 39)).alloc (.cells #[.int .i64 0] 32)).alloc (.cells #[.int .i64 (2 ^ d)] 3)) y2) (.cells #[.int .i64 X0, .int .i64 X1, .int .i64 X2] 24)) (.cells #[.slice (some ⟨(adv (w.heap.size + 1 + 1 + 1 + 1 + 1 + 1) y2.obs.size), 0, none⟩) 1 1] 89)) _ ((adv (w.heap.size + 1 + 1 + 1 + 1 + 1 + 1) y2.obs.size) + 1 + 1)) (by (repeat (first | exact Kept.refl _ | assumption | refine Kept.alloc ?_ _ | refine Kept.ext ?_ _ | refine Kept.drew ?_ | refine Kept.drewN ?_ _)))
  have hH : W2.heap[(adv (w.heap.size + 1 + 1 + 1 + 1 + 1 + 1) y2.obs.size) + 1 + 1 + 1]? = some (.cells #[.int .i64 0] 3 (0, 0)) := by rw [hW2]; exact heap_kp (alloc_now (World.alloc (World.alloc (World.alloc (ext ((((((w.alloc (.cells #[.int .i64 p.a0, .int .i64 p.a1, .int .i64 p.a2, .int .i64 p.b0, .int .i64 p.b1, .int .i64 p.b2, .int .i64 p.c0, .int .i64 p.c1, .int .i64 p.c2] 49)).alloc (.cells #[.int .i64 x0, .int .i64 x1, .int .i64 x2] 24)).alloc (.cells #[.func (.func 36) #[] #[]] 80)).alloc (.cells #[.int .i64 0, .int .i64 0] 39)).alloc (.cells #[.int .i64 0] 32)).alloc (.cells #[.int .i64 (2 ^ d)] 3)) y2) (.cells #[.int .i64 X0, .int .i64 X1, .int .i64 X2] 24)) (.cells #[.slice (some ⟨(adv (w.heap.size + 1 + 1 + 1 + 1 + 1 + 1) y2.obs.size), 0, none⟩) 1 1] 89)) (.cells #[.int .i64 0] 3)) _ ((adv (w.heap.size + 1 + 1 + 1 + 1 + 1 + 1) y2.obs.size) + 1 + 1 + 1)) (by (repeat (first | exact Kept.refl _ | assumption | refine Kept.alloc ?_ _ | refine Kept.ext ?_ _ | refine Kept.drew ?_ | refine Kept.drewN ?_ _)))
  have hPB : W2.heap[(adv (w.heap.size + 1 + 1 + 1 + 1 + 1 + 1) y2.obs.size) + 1 + 1 + 1 + 1]? = some (.cells #[.int .i64 p.a0, .int .i64 p.a1, .int .i64 p.a2, .int .i64 p.b0, .int .i64 p.b1, .int .i64 p.b2, .int .i64 p.c0, .int .i64 p.c1, .int .i64 p.c2] 49 (0, 0)) := by rw [hW2]; exact heap_kp (alloc_now (World.alloc (World.alloc (World.alloc (World.alloc (ext ((((((w.alloc (.cells #[.int .i64 p.a0, .int .i64 p.a1, .int .i64 p.a2, .int .i64 p.b0, .int .i64 p.b1, .int .i64 p.b2, .int .i64 p.c0, .int .i64 p.c1, .int .i64 p.c2] 49)).alloc (.cells #[.int .i64 x0, .int .i64 x1, .int .i64 x2] 24)).alloc (.cells #[.func (.func 36) #[] #[]] 80)).alloc (.cells #[.int .i64 0, .int .i64 0] 39)).alloc (.cells #[.int .i64 0] 32)).alloc (.cells #[.int .i64 (2 ^ d)] 3)) y2) (.cells #[.int .i64 X0, .int .i64 X1, .int .i64 X2] 24)) (.cells #[.slice (some ⟨(adv (w.heap.size + 1 + 1 + 1 + 1 + 1 + 1) y2.obs.size), 0, none⟩) 1 1] 89)) (.cells #[.int .i64 0] 3)) (.cells #[.int .i64 0] 3)) _ ((adv (w.heap.size + 1 + 1 + 1 + 1 + 1 + 1) y2.obs.size) + 1 + 1 + 1 + 1)) (by (repeat (first | exact Kept.refl _ | assumption | refine Kept.alloc ?_ _ | refine Kept.ext ?_ _ | refine Kept.drew ?_ | refine Kept.drewN ?_ _)))
  have hDB : W2.heap[(adv (w.heap.size + 1 + 1 + 1 + 1 + 1 + 1) y2.obs.size) + 1 + 1 + 1 + 1 + 1]? = some (.cells #[.int .i64 d] 3 (0, 0)) := by rw [hW2]; exact heap_kp (alloc_now (World.alloc (World.alloc (World.alloc (World.alloc (World.alloc (ext ((((((w.alloc (.cells #[.int .i64 p.a0, .int .i64 p.a1, .int .i64 p.a2, .int .i64 p.b0, .int .i64 p.b1, .int .i64 p.b2, .int .i64 p.c0, .int .i64 p.c1, .int .i64 p.c2] 49)).alloc (.cells #[.int .i64 x0, .int .i64 x1, .int .i64 x2] 24)).alloc (.cells #[.func (.func 36) #[] #[]] 80)).alloc (.cells #[.int .i64 0, .int .i64 0] 39)).alloc (.cells #[.int .i64 0] 32)).alloc (.cells #[.int .i64 (2 ^ d)] 3)) y2) (.cells #[.int .i64 X0, .int .i64 X1, .int .i64 X2] 24)) (.cells #[.slice (some ⟨(adv (w.heap.size + 1 + 1 + 1 + 1 + 1 + 1) y2.obs.size), 0, none⟩) 1 1] 89)) (.cells #[.int .i64 0] 3)) (.cells #[.int .i64 0] 3)) (.cells #[.int .i64 p.a0, .int .i64 p.a1, .int .i64 p.a2, .int .i64 p.b0, .int .i64 p.b1, .int .i64 p.b2, .int .i64 p.c0, .int .i64 p.c1, .int .i64 p.c2] 49)) _ ((adv (w.heap.size + 1 + 1 + 1 + 1 + 1 + 1) y2.obs.size) + 1 + 1 + 1 + 1 + 1)) (by (repeat (first | exact Kept.refl _ | assumption | refine Kept.alloc ?_ _ | refine Kept.ext ?_ _ | refine Kept.drew ?_ | refine Kept.drewN ?_ _)))
  have hkw : Kept w W2 := by rw [hW2]; (repeat (first | exact Kept.refl _ | assumption | refine Kept.alloc ?_ _ | refine Kept.ext ?_ _ | refine Kept.drew ?_ | refine Kept.drewN ?_ _))
  have lz : w.heap.size + 1 + 1 + 1 + 1 + 1 + 1 ≤ (adv (w.heap.size + 1 + 1 + 1 + 1 + 1 + 1) y2.obs.size) := adv_le _ _
  have bl := (Array.getElem?_eq_some_iff.1 hL).1
  have bh := (Array.getElem?_eq_some_iff.1 hH).1
  clear hW2
  revert hT hQ hL hH hPB hDB lz bl bh
  generalize (adv (w.heap.size + 1 + 1 + 1 + 1 + 1 + 1) y2.obs.size) = bt
  intro hT hQ hL hH hPB hDB lz bl bh
  refine (wpIn_wide (n := 9)).1 ?_
  have hcs := cut_stops (n := 8) (G := fun x => x ∈ cutL d p) (rndS (e1 := bt + 1 + 1) (e2 := bt + 1 + 1 + 1) (n0 := W2.heap.size) bl bh) (bt + 1 + 1 + 1 + 1) (bt + 1 + 1 + 1 + 1 + 1) d p 64 W2 (fun x h => h) hd HP.out (by have := HS.out; omega) (Nat.le_refl _) hPB hDB
  refine range_parts (sx := 14) (sy := 30) (G := fun x => x ∈ cutL d p) (Kp := KpS (bt + 1 + 1) (bt + 1 + 1 + 1)) rfl hcs (by omega) (fun h k => h.trans k) (fun W l o o' _ h hc _ => kpS_b W l o o' h hc) (Below.refl _ _)
    (fun pre W => W.heap[bt + 1 + 1]? = some (.cells #[.int .i64 (sumP (lowX d X0 X1 X2) (valsP pre))] 3 (0, 0)) ∧ W.heap[bt + 1 + 1 + 1]? = some (.cells #[.int .i64 (sumP (higX d X0 X1 X2) (valsP pre))] 3 (0, 0)) ∧ KpS (bt + 1 + 1) (bt + 1 + 1 + 1) W2 W ∧ Below w.heap.size w W ∧ W.heap[w.heap.size + 1 + 1 + 1]? = some (.cells #[.int .i64 0, .int .i64 0] 39 (0, 0)) ∧ ∀ P ∈ valsP pre, ¬ nearP P.at 3 (ptF X0 X1 X2) 1 = 0)
    (fun c _ W => c = .ret ∧ Below w.heap.size w W ∧ W.heap[w.heap.size + 1 + 1 + 1]? = some (.cells #[.int .i64 0, .int .i64 0] 39 (0, 0)) ∧ W.heap[w.heap.size + 1 + 1 + 1 + 1]? = some (.cells #[.int .i64 10] 32 (0, 0)) ∧ ∃ P, P ∈ cutL d p ∧ nearP P.at 3 (ptF X0 X1 X2) 1 = 0)
    (fun s A B row hs hg hr => ⟨heap_from hg hr hs.1 rfl, heap_from hg hr hs.2.1 rfl, hs.2.2.1.from hg hr, below_from hs.2.2.2.1 (Nat.le_refl _) hkw.below.size hg hr, heap_from hg hr hs.2.2.2.2.1 rfl, hs.2.2.2.2.2⟩)
    (fun c s A B row hs hg hr => ⟨hs.1, below_from hs.2.1 (Nat.le_refl _) hkw.below.size hg hr, heap_from hg hr hs.2.2.1 rfl, heap_from hg hr hs.2.2.2.1 rfl, hs.2.2.2.2⟩)
    ⟨hL, hH, KpS.refl _ _ _, hkw.below, hRB, fun P hP => absurd hP (by simp [valsP])⟩ ?assign ?body ?done ?stop
  case stop =>
    rintro D c pre W h1 _ ⟨rfl, h2, h3, h4, h5⟩ h6
    have HIT : hitB d x0 x1 x2 p = true := by
      obtain ⟨P, hP1, hP2⟩ := h5
      unfold hitB
      rw [HX0.out, HX1.out, HX2.out]
      exact List.any_eq_true.2 ⟨P, hP1, decide_eq_true hP2⟩
    have eM : meanX d x0 x1 x2 p = ⟨0, 0, 10⟩ := if_pos HIT
    have EM := Lib.hid eM
    have lD := hkw.below.size
    have p5 := (World.putObj_heap_other (o := .deferred none) (show w.heap.size + 1 + 1 + 1 ≠ D by omega)).trans h3
    have p6 := (World.putObj_heap_other (o := .deferred none) (show w.heap.size + 1 + 1 + 1 + 1 ≠ D by omega)).trans h4
    have q1 := cell_blk (o := 0) p5 rfl
    have q2 := cell_blk (o := 1) p5 rfl
    have q3 := cell_blk (o := 0) p6 rfl
    clear h3 h4 h5 HIT eM hT hQ hL hH hPB hDB hcs
    apply wpIn_ret
    refine ⟨by simp, .inl ⟨_, _, rfl, run_takeDeferred h6, ?_⟩⟩
    rw [EM.out]
    refine ⟨_, ?_, rfl, ?_⟩
    · simp only [results, Try.results35]
      go_simp
    · refine Kept.of_below (h2.grown (grownBy_putObj' _ D (.deferred none)) ?_ ?_)
      · exact h2.size
      · intro k e
        cases e
        omega
  case assign =>
    rintro l pre x W K ⟨i1, i2, i3, i4, i5, i6⟩ hK
    have hK2 := hK W.heap.size (W.alloc (.cells x.1.cells 49)) ((KeepsOthers.alloc _ _).from _) ((KpS.refl _ _ _).alloc _) ⟨heap_kp i1 (by (repeat (first | exact Kept.refl _ | assumption | refine Kept.alloc ?_ _ | refine Kept.ext ?_ _ | refine Kept.drew ?_ | refine Kept.drewN ?_ _))), heap_kp i2 (by (repeat (first | exact Kept.refl _ | assumption | refine Kept.alloc ?_ _ | refine Kept.ext ?_ _ | refine Kept.drew ?_ | refine Kept.drewN ?_ _))), i3.alloc _, i4.alloc (Nat.le_trans hkw.below.size i3.size) _, heap_kp i5 (by (repeat (first | exact Kept.refl _ | assumption | refine Kept.alloc ?_ _ | refine Kept.ext ?_ _ | refine Kept.drew ?_ | refine Kept.drewN ?_ _))), i6⟩ (alloc_now W _ _) i3.size
    dsimp only [Pn.val]
    gi_wp2
    exact hK2
  case body =>
    rintro l pre x Bx W hl ⟨i1, i2, i3, i4, i5, i6⟩ hX hBx hlen
    have hx := x.2
    have xb := cutL_bd d p 64 HP.out x.1 hx
    have pb := part_bdX (x0 := x0) (x1 := x1) (x2 := x2) hd HP.out (by have := HXB.out; omega) (by have := HXB.out; omega) (by have := HXB.out; omega) hx
    rw [HX0.out, HX1.out, HX2.out] at pb
    have sb := sumP_bd (g := lowX d X0 X1 X2) (h := higX d X0 X1 X2) (t := 8388609) (l := valsP pre) (fun y hy => by
      have hy2 : y ∈ cutL d p := by
        unfold valsP at hy
        obtain ⟨z, -, rfl⟩ := List.mem_map.1 hy
        exact z.2
      have pb := part_bdX (x0 := x0) (x1 := x1) (x2 := x2) hd HP.out (by have := HXB.out; omega) (by have := HXB.out; omega) (by have := HXB.out; omega) hy2
      rw [HX0.out, HX1.out, HX2.out] at pb
      have := i6 y hy
      exact low_high hd (by omega) pb.2)
    have hl64 : (valsP pre).length ≤ 64 := by
      have := HS.out
      simp only [valsP, List.length_map]
      omega
    obtain ⟨z, hz⟩ := x
    simp only at hX hx pb xb ⊢
    have hT1 := i3.cells _ _ _ _ hT (by omega) (by omega) (by decide)
    have hS1 := i3.cells _ _ _ _ hS (by omega) (by omega) (by decide)
    have hQ1 := i3.cells _ _ _ _ hQ (by omega) (by omega) (by decide)
    have hO1 := i3.cells _ _ _ _ hOf (by omega) (by omega) (by decide)
    have hE1 := i3.cells _ _ _ _ hEB (by omega) (by omega) (by decide)
    obtain ⟨sl, esl⟩ : ∃ y, sumP (lowX d X0 X1 X2) (valsP pre) = y := ⟨_, rfl⟩
    obtain ⟨sh, esh⟩ : ∃ y, sumP (higX d X0 X1 X2) (valsP pre) = y := ⟨_, rfl⟩
    rw [esl] at i1 sb
    rw [esh] at i2 sb
    have sb2 : (0 ≤ sl ∧ sl ≤ 536870976) ∧ (0 ≤ sh ∧ sh ≤ 536870976) := by omega
    have nZ : Near1 z.at 3 := by
      have hq := HS.out
      refine Pn.near1 xb (by omega)
    have nQ : Near1 (ptF X0 X1 X2) 1 := fun k hk => by
      have := HB.out
      show (-4096 ≤ X0 ∧ X0 ≤ 4096) ∧ (-4096 ≤ X1 ∧ X1 ≤ 4096) ∧ (-4096 ≤ X2 ∧ X2 ≤ 4096)
      omega
    obtain ⟨f, ef⟩ : ∃ y, farI z.at (ptF X0 X1 X2) 1 3 = y := ⟨_, rfl⟩
    obtain ⟨nn, en⟩ : ∃ y, nearP z.at 3 (ptF X0 X1 X2) 1 = y := ⟨_, rfl⟩
    have elow : lowX d X0 X1 X2 z = (inverseS f (2 ^ d)).lo := by unfold lowX; rw [ef]
    have ehig : higX d X0 X1 X2 z = (inverseS nn (2 ^ d)).hi := by unfold higX; rw [en]
    rw [ef, en] at pb
    have xb1 : z.bd 1024 := by
      have hq := HS.out
      obtain ⟨⟨a, b, c⟩, ⟨e, f, g⟩, h, i, j⟩ := xb
      exact ⟨⟨by omega, by omega, by omega⟩, ⟨by omega, by omega, by omega⟩, by omega, by omega, by omega⟩
    have EF := Lib.hid ef
    have EN := Lib.hid en
    have XB := Lib.hid xb1
    have NZ := Lib.hid nZ
    have NQ := Lib.hid nQ
    have PB := Lib.hid pb
    have EL := Lib.hid elow
    have EH := Lib.hid ehig
    have ESL := Lib.hid esl
    have ESH := Lib.hid esh
    have HZ := Lib.hid hx
    have I6 := Lib.hid i6
    have s0 : W.cell? ⟨w.heap.size + 1 + 1 + 1 + 1 + 1, 0, none⟩ = some (.int .i64 (2 ^ d)) := cell_blk hS1 rfl
    have o0 : W.cell? ⟨w.heap.size + 1 + 1, 0, none⟩ = some (.func (.func 36) #[] #[]) := cell_blk hO1 rfl
    have t0 : W.cell? ⟨bt + 1, 0, none⟩ = some (.slice (some ⟨bt, 0, none⟩) 1 1) := cell_blk hQ1 rfl
    haveI : Lower (w.heap.size + 1 + 1 + 1 + 1 + 1) W.heap.size := ⟨cell_lt s0⟩
    haveI : Lower (w.heap.size + 1 + 1) W.heap.size := ⟨cell_lt o0⟩
    haveI : Lower (bt + 1) W.heap.size := ⟨cell_lt t0⟩
    haveI : Lower bt W.heap.size := ⟨(Array.getElem?_eq_some_iff.1 hT1).1⟩
    haveI : Lower Bx W.heap.size := ⟨(Array.getElem?_eq_some_iff.1 hX).1⟩
    have f0 : W.cell? ⟨Bx, 0, none⟩ = some (.int .i64 z.a0) := cell_blk hX rfl
    have f1 : W.cell? ⟨Bx, 1, none⟩ = some (.int .i64 z.a1) := cell_blk hX rfl
    have f2 : W.cell? ⟨Bx, 2, none⟩ = some (.int .i64 z.a2) := cell_blk hX rfl
    have f3 : W.cell? ⟨Bx, 3, none⟩ = some (.int .i64 z.b0) := cell_blk hX rfl
    have f4 : W.cell? ⟨Bx, 4, none⟩ = some (.int .i64 z.b1) := cell_blk hX rfl
    have f5 : W.cell? ⟨Bx, 5, none⟩ = some (.int .i64 z.b2) := cell_blk hX rfl
    have f6 : W.cell? ⟨Bx, 6, none⟩ = some (.int .i64 z.c0) := cell_blk hX rfl
    have f7 : W.cell? ⟨Bx, 7, none⟩ = some (.int .i64 z.c1) := cell_blk hX rfl
    have f8 : W.cell? ⟨Bx, 8, none⟩ = some (.int .i64 z.c2) := cell_blk hX rfl
    have I1 := Lib.hid i1
    have I2 := Lib.hid i2
    have I3 := Lib.hid i3
    have I4 := Lib.hid i4
    have I5 := Lib.hid i5
    have T1 := Lib.hid hT1
    have Q1 := Lib.hid hQ1
    have S1 := Lib.hid hS1
    have O1 := Lib.hid hO1
    have E1 := Lib.hid hE1
    have BS := Lib.hid sb2
    clear i1 i2 i3 i4 i5 i6 hT1 hQ1 hS1 hO1 hE1 hX elow ehig ef en esl esh nZ nQ xb xb1 sb sb2 hx hT hQ hL hH hPB hDB hcs hOf hRB hEB hS hl64
    dsimp only [Pn.val]
    gi_wp2_with (refine ⟨trivial, ?_⟩; gi_at_call 51; refine (CallsIn.inRound l (callsIn_wide.2 (fcorners_any _ _ _ _ _ _ _ _ _ _))).mono ?_; rintro e w2 ⟨rfl, x5, rfl⟩)
    refine wpIn_gen (fun W5 hW5 => ?_)
    have hk5 : Kept W W5 := by rw [hW5]; (repeat (first | exact Kept.refl _ | assumption | refine Kept.alloc ?_ _ | refine Kept.ext ?_ _ | refine Kept.drew ?_ | refine Kept.drewN ?_ _))
    have hZ5 : W5.heap[adv W.heap.size x5.obs.size]? = some (.cells z.cells 58 (0, 0)) := by rw [hW5]; exact alloc_now _ _ _
    have hz5 : W.heap.size ≤ adv W.heap.size x5.obs.size := adv_le _ _
    clear hW5
    revert hZ5 hz5
    generalize adv W.heap.size x5.obs.size = bz
    intro hZ5 hz5
    have hT5 := heap_kp T1.out hk5
    have hRT : ∀ w', Kept W5 w' → RowsAt w' (some ⟨bt, 0, none⟩) 1 3 (ptF X0 X1 X2) := fun w' hk _ => by
      have h := heap_kp hT5 hk
      refine ⟨bt, 0, rfl, (Array.getElem?_eq_some_iff.1 h).1, fun k hk j hj => ?_⟩
      have := HB.out
      obtain rfl : k = 0 := by omega
      rcases (show j = 0 ∨ j = 1 ∨ j = 2 by omega) with rfl | rfl | rfl <;> (refine ⟨cell_blk h rfl, ?_⟩; simp only [ptF]; unfold I64; simp; omega)
    have hRZ : ∀ w', Kept W5 w' → RowsAt w' (some ⟨bz, 0, none⟩) 3 3 z.at := fun w' hk => rows_pn (heap_kp hZ5 hk) XB.out
    have hnear : ∀ w', Kept W5 w' → _ := fun w' hk => fnear_any (some ⟨bz, 0, none⟩) (some ⟨bt, 0, none⟩) 3 3 1 1 z.at (ptF X0 X1 X2) w' (by omega) (hRZ w' hk) (hRT w' hk) NZ.out NQ.out
    rw [EN.out] at hnear
    have hfar : ∀ w', Kept W5 w' → _ := fun w' hk => ffar_any (some ⟨bz, 0, none⟩) (some ⟨bt, 0, none⟩) 3 3 1 1 z.at (ptF X0 X1 X2) w' (by omega) (hRZ w' hk) (hRT w' hk) NZ.out NQ.out
    rw [EF.out] at hfar
    have s5 : W5.cell? ⟨w.heap.size + 1 + 1 + 1 + 1 + 1, 0, none⟩ = some (.int .i64 (2 ^ d)) := kp_cell s0 hk5
    have o5 : W5.cell? ⟨w.heap.size + 1 + 1, 0, none⟩ = some (.func (.func 36) #[] #[]) := kp_cell o0 hk5
    have t5 : W5.cell? ⟨bt + 1, 0, none⟩ = some (.slice (some ⟨bt, 0, none⟩) 1 1) := kp_cell t0 hk5
    haveI : Lower (w.heap.size + 1 + 1 + 1 + 1 + 1) W5.heap.size := ⟨cell_lt s5⟩
    haveI : Lower (w.heap.size + 1 + 1) W5.heap.size := ⟨cell_lt o5⟩
    haveI : Lower (bt + 1) W5.heap.size := ⟨cell_lt t5⟩
    haveI : Lower bt W5.heap.size := ⟨(Array.getElem?_eq_some_iff.1 hT5).1⟩
    haveI : Lower bz W5.heap.size := ⟨(Array.getElem?_eq_some_iff.1 hZ5).1⟩
    have Z5 := Lib.hid hZ5
    have K5 := Lib.hid hk5
    have HNEAR := Lib.hid hnear
    have HFAR := Lib.hid hfar
    clear hk5 hZ5 hT5 hRT hRZ hnear hfar f0 f1 f2 f3 f4 f5 f6 f7 f8 s0 o0 t0
    refine wpIn_round_kept (by kernel_rfl) (by kernel_rfl) (by kernel_rfl) (by rintro ⟨_, _, h⟩; exact h) ?_
    repeat (go_big_quiet_step (first | (go_at_call 52; exact Calls.kept_of (HNEAR.out _ (by (repeat (first | exact Kept.refl _ | assumption | refine Kept.alloc ?_ _ | refine Kept.ext ?_ _ | refine Kept.drew ?_ | refine Kept.drewN ?_ _)))))))
    refine wpQuiet_nil ?_
    intro x6
    have v1 : bt + 1 + 1 < W.heap.size := (Array.getElem?_eq_some_iff.1 I1.out).1
    have v2 : bt + 1 + 1 + 1 < W.heap.size := (Array.getElem?_eq_some_iff.1 I2.out).1
    have v0 : w.heap.size ≤ W.heap.size := Nat.le_trans hkw.below.size I3.out.size
    by_cases hn0 : nn = 0
    · have e1 : (nn == 0) = true := by simpa using hn0
      have HN0 := Lib.hid hn0
      clear hn0
      generalize hW6 : ext W5 x6 = W6
      have k6 : Kept W W6 := by rw [← hW6]; exact K5.out.trans (by (repeat (first | exact Kept.refl _ | assumption | refine Kept.alloc ?_ _ | refine Kept.ext ?_ _ | refine Kept.drew ?_ | refine Kept.drewN ?_ _)))
      have r6 := heap_kp I5.out k6
      have g6 := heap_kp E1.out k6
      have b3 : W6.cell? ⟨w.heap.size + 1 + 1 + 1, 0, none⟩ = some (.int .i64 0) := cell_blk r6 rfl
      have b4 : W6.cell? ⟨w.heap.size + 1 + 1 + 1, 1, none⟩ = some (.int .i64 0) := cell_blk r6 rfl
      have b5 : W6.frozen? ⟨w.heap.size + 1 + 1 + 1, 0, none⟩ = false := frozen_blk r6
      have b6 : W6.frozen? ⟨w.heap.size + 1 + 1 + 1, 1, none⟩ = false := frozen_blk r6
      have b7 : W6.cell? ⟨w.heap.size + 1 + 1 + 1 + 1, 0, none⟩ = some (.int .i64 0) := cell_blk g6 rfl
      have b8 : W6.frozen? ⟨w.heap.size + 1 + 1 + 1 + 1, 0, none⟩ = false := frozen_blk g6
      haveI : Lower (w.heap.size + 1 + 1 + 1) W6.heap.size := ⟨cell_lt b3⟩
      haveI : Lower (w.heap.size + 1 + 1 + 1 + 1) W6.heap.size := ⟨cell_lt b7⟩
      have R6 := Lib.hid r6
      have G6 := Lib.hid g6
      have KK := Lib.hid k6
      clear hW6 r6 g6 k6 s5 o5 t5
      gi_wp2_with fail
      have z2 := pair_put R6.out (.int .i64 0) (.int .i64 0)
      have z3 := box_other (c := w.heap.size + 1 + 1 + 1 + 1) (i := 0) (u := .int .i64 10) z2 (by omega)
      have z4 := box_put (box_other (c := w.heap.size + 1 + 1 + 1) (i := 1) (u := .int .i64 0) (box_other (c := w.heap.size + 1 + 1 + 1) (i := 0) (u := .int .i64 0) G6.out (by omega)) (by omega)) (.int .i64 10)
      refine ⟨?_, rfl, ?_, ?_, ?_, z, hz, ?_⟩
      · exact ((((others_kept KK.out).trans (KeepsOthers.setCell _ _ _)).trans (KeepsOthers.setCell _ _ _)).trans (KeepsOthers.setCell _ _ _)).from _
      · exact (((I4.out.trans (KK.out.below.mono v0)).setCell (p := ⟨w.heap.size + 1 + 1 + 1, 0, none⟩) (show w.heap.size ≤ w.heap.size + 1 + 1 + 1 by omega) _).setCell (p := ⟨w.heap.size + 1 + 1 + 1, 1, none⟩) (show w.heap.size ≤ w.heap.size + 1 + 1 + 1 by omega) _).setCell (p := ⟨w.heap.size + 1 + 1 + 1 + 1, 0, none⟩) (show w.heap.size ≤ w.heap.size + 1 + 1 + 1 + 1 by omega) _
      · exact z3
      · exact z4
      · rw [EN.out]; exact HN0.out
    · have e1 : (nn == 0) = false := by simpa using hn0
      have HN0 := Lib.hid hn0
      clear hn0
      obtain ⟨vlo, evl⟩ : ∃ y, (inverseS f (2 ^ d)).lo = y := ⟨_, rfl⟩
      obtain ⟨vhi, evh⟩ : ∃ y, (inverseS f (2 ^ d)).hi = y := ⟨_, rfl⟩
      obtain ⟨ve, eve⟩ : ∃ y, (inverseS f (2 ^ d)).e = y := ⟨_, rfl⟩
      obtain ⟨wlo, ewl⟩ : ∃ y, (inverseS nn (2 ^ d)).lo = y := ⟨_, rfl⟩
      obtain ⟨whi, ewh⟩ : ∃ y, (inverseS nn (2 ^ d)).hi = y := ⟨_, rfl⟩
      obtain ⟨we, ewe⟩ : ∃ y, (inverseS nn (2 ^ d)).e = y := ⟨_, rfl⟩
      have hinv : ∀ w', _ := fun w' => spanInv_any f (2 ^ d) w'
      have hinv2 : ∀ w', _ := fun w' => spanInv_any nn (2 ^ d) w'
      rw [evl, evh, eve] at hinv
      rw [ewl, ewh, ewe] at hinv2
      have hlh := low_high (x0 := X0) (x1 := X1) (x2 := X2) (P := z) hd (by rw [EN.out]; have := PB.out.1; have := HN0.out; omega) (by rw [EF.out]; exact PB.out.2)
      rw [EL.out, EH.out, evl, ewh] at hlh
      have EVL := Lib.hid evl
      have EWH := Lib.hid ewh
      have HINV := Lib.hid hinv
      have HI2 := Lib.hid hinv2
      clear hinv hinv2 evl evh eve ewl ewh ewe
      generalize hW6 : ext W5 x6 = W6
      have k6 : Kept W5 W6 := by rw [← hW6]; (repeat (first | exact Kept.refl _ | assumption | refine Kept.alloc ?_ _ | refine Kept.ext ?_ _ | refine Kept.drew ?_ | refine Kept.drewN ?_ _))
      have hf6 : ∀ w', Kept W6 w' → _ := fun w' hk => HFAR.out w' (k6.trans hk)
      have HF6 := Lib.hid hf6
      have s6 := kp_cell s5 k6
      have o6 := kp_cell o5 k6
      have t6 := kp_cell t5 k6
      have z6 := heap_kp Z5.out k6
      haveI : Lower (w.heap.size + 1 + 1 + 1 + 1 + 1) W6.heap.size := ⟨cell_lt s6⟩
      haveI : Lower (w.heap.size + 1 + 1) W6.heap.size := ⟨cell_lt o6⟩
      haveI : Lower (bt + 1) W6.heap.size := ⟨cell_lt t6⟩
      haveI : Lower bz W6.heap.size := ⟨(Array.getElem?_eq_some_iff.1 z6).1⟩
      have K6 := Lib.hid k6
      clear hW6 hf6 k6 z6 s5 o5 t5
      gi_wp2_with fail
      have hF : frsB [.q, .q, .q, .q, .q, .q, .q, .q, .q, .s, .s, .q] [⟨9, 10, 39, #[.int .i64 0, .int .i64 0], #[.int .i64 vlo, .int .i64 vhi]⟩] = true := by kernel_rfl
      refine wpIn_round_frs _ _ (by kernel_rfl) (by kernel_rfl) (by kernel_rfl) hF (fun b => by kernel_rfl) (by rintro ⟨_, _, h⟩; exact h) ?_
      apply Exists.intro
      refine ⟨?_, ?_, ?_, ?_⟩
      · rintro b' W9 ⟨yy, rfl⟩
        simp only [swapL, Nat.reduceAdd]
        repeat (go_big_quiet_step (first | (go_at_call 53; exact Calls.kept_of (HF6.out _ (by (repeat (first | exact Kept.refl _ | assumption | refine Kept.alloc ?_ _ | refine Kept.ext ?_ _ | refine Kept.drew ?_ | refine Kept.drewN ?_ _))))) | (go_at_call 36; exact Calls.kept_of (HINV.out _))))
        refine wpQuiet_nil ?_
        rfl
      · simp only [EachS, and_true]
        refine ⟨?_, ?_⟩
        · exact fun L b' w' hd hL hI => FI.tells_alloc hF 0 rfl hI hL (by go_simp)
        · exact fun L b' w' hd hL hI => FI.tells_store hF 0 rfl hI hL (hd { on := 9, ground := .data } (by simp) rfl) 39 (.tmp 17) (.tmp 46) rfl rfl rfl (by kernel_rfl) rfl (by kernel_rfl)
      · intro b1 b2 d9 hd
        simp [callSlots, dullOp] at hd
        all_goals (first | (rcases hd with rfl | rfl <;> rfl) | (subst hd; rfl))
      intro L b' w9 hL hI
      obtain ⟨kl, ekl, lkl, hk1x⟩ := hI.ends 0 rfl (hL 9 (by decide)) (hL 10 (by decide))
      have ekl' : b' 9 = _ := ekl
      clear hF
      have hk1 := hI.kept
      clear hI hL ekl
      simp only [ekl']
      clear ekl'
      have kl' : Kept W w9 := K5.out.trans (K6.out.trans hk1)
      have j1 := heap_kp I1.out kl'
      have j2 := heap_kp I2.out kl'
      have jS := heap_kp S1.out kl'
      have jO := heap_kp O1.out kl'
      have c1 : w9.cell? ⟨bt + 1 + 1, 0, none⟩ = some (.int .i64 sl) := cell_blk j1 rfl
      have c2 : w9.cell? ⟨bt + 1 + 1 + 1, 0, none⟩ = some (.int .i64 sh) := cell_blk j2 rfl
      have c3 : w9.cell? ⟨w.heap.size + 1 + 1 + 1 + 1 + 1, 0, none⟩ = some (.int .i64 (2 ^ d)) := cell_blk jS rfl
      have c4 : w9.cell? ⟨w.heap.size + 1 + 1, 0, none⟩ = some (.func (.func 36) #[] #[]) := cell_blk jO rfl
      have c5 : w9.cell? ⟨kl, 0, none⟩ = some (.int .i64 vlo) := cell_blk hk1x rfl
      have g1 : w9.frozen? ⟨bt + 1 + 1, 0, none⟩ = false := frozen_blk j1
      have g2 : w9.frozen? ⟨bt + 1 + 1 + 1, 0, none⟩ = false := frozen_blk j2
      haveI : Lower (bt + 1 + 1) w9.heap.size := ⟨cell_lt c1⟩
      haveI : Lower (bt + 1 + 1 + 1) w9.heap.size := ⟨cell_lt c2⟩
      haveI : Lower (w.heap.size + 1 + 1 + 1 + 1 + 1) w9.heap.size := ⟨cell_lt c3⟩
      haveI : Lower (w.heap.size + 1 + 1) w9.heap.size := ⟨cell_lt c4⟩
      haveI : Lower kl w9.heap.size := ⟨cell_lt c5⟩
      have KL := Lib.hid kl'
      have J1 := Lib.hid j1
      have J2 := Lib.hid j2
      have bs := BS.out
      have kk := K5.out.below.size
      have kk2 := K6.out.below.size
      clear jS jO kl' j1 j2 hk1x s6 o6 t6
      gi_wp2_with (refine ⟨trivial, ?_⟩; gi_at_call 36; refine (CallsIn.inRound l (callsIn_wide.2 (HI2.out _))).mono ?_; rintro e w7 ⟨rfl, x7, rfl⟩)
      refine ⟨?_, ?_, ?_, ?_, ?_, ?_, ?_, ?_⟩
      · exact ((((others_kept KL.out).trans (KeepsOthers.setCell _ _ _)).trans (KeepsOthers.setCell _ _ _)).trans (others_kept (show Kept ((w9.setCell ⟨bt + 1 + 1, 0, none⟩ (.int .i64 (sl + vlo))).setCell ⟨bt + 1 + 1 + 1, 0, none⟩ (.int .i64 (sh + whi))) _ by (repeat (first | exact Kept.refl _ | assumption | refine Kept.alloc ?_ _ | refine Kept.ext ?_ _ | refine Kept.drew ?_ | refine Kept.drewN ?_ _))))).from _
      · exact ((((KpS.kept KL.out).put (p := ⟨bt + 1 + 1, 0, none⟩) (.inl rfl) _).put (p := ⟨bt + 1 + 1 + 1, 0, none⟩) (.inr rfl) _).on (show Kept ((w9.setCell ⟨bt + 1 + 1, 0, none⟩ (.int .i64 (sl + vlo))).setCell ⟨bt + 1 + 1 + 1, 0, none⟩ (.int .i64 (sh + whi))) _ by (repeat (first | exact Kept.refl _ | assumption | refine Kept.alloc ?_ _ | refine Kept.ext ?_ _ | refine Kept.drew ?_ | refine Kept.drewN ?_ _))))
      · have e : sumP (lowX d X0 X1 X2) (valsP (pre ++ [⟨z, hz⟩])) = sl + vlo := by rw [vals_snoc, sumP_snoc, ESL.out, EL.out, EVL.out]
        rw [e]
        exact heap_kp (box_other (c := bt + 1 + 1 + 1) (i := 0) (u := .int .i64 (sh + whi)) (box_put J1.out (.int .i64 (sl + vlo))) (by omega)) (by (repeat (first | exact Kept.refl _ | assumption | refine Kept.alloc ?_ _ | refine Kept.ext ?_ _ | refine Kept.drew ?_ | refine Kept.drewN ?_ _)))
      · have e : sumP (higX d X0 X1 X2) (valsP (pre ++ [⟨z, hz⟩])) = sh + whi := by rw [vals_snoc, sumP_snoc, ESH.out, EH.out, EWH.out]
        rw [e]
        exact heap_kp (box_put (box_other (c := bt + 1 + 1) (i := 0) (u := .int .i64 (sl + vlo)) J2.out (by omega)) (.int .i64 (sh + whi))) (by (repeat (first | exact Kept.refl _ | assumption | refine Kept.alloc ?_ _ | refine Kept.ext ?_ _ | refine Kept.drew ?_ | refine Kept.drewN ?_ _)))
      · exact I3.out.trans ((((KpS.kept KL.out).put (p := ⟨bt + 1 + 1, 0, none⟩) (.inl rfl) _).put (p := ⟨bt + 1 + 1 + 1, 0, none⟩) (.inr rfl) _).on (show Kept ((w9.setCell ⟨bt + 1 + 1, 0, none⟩ (.int .i64 (sl + vlo))).setCell ⟨bt + 1 + 1 + 1, 0, none⟩ (.int .i64 (sh + whi))) _ by (repeat (first | exact Kept.refl _ | assumption | refine Kept.alloc ?_ _ | refine Kept.ext ?_ _ | refine Kept.drew ?_ | refine Kept.drewN ?_ _))))
      · exact (((I4.out.trans (KL.out.below.mono v0)).setCell (p := ⟨bt + 1 + 1, 0, none⟩) (show w.heap.size ≤ bt + 1 + 1 by omega) _).setCell (p := ⟨bt + 1 + 1 + 1, 0, none⟩) (show w.heap.size ≤ bt + 1 + 1 + 1 by omega) _).trans ((show Kept ((w9.setCell ⟨bt + 1 + 1, 0, none⟩ (.int .i64 (sl + vlo))).setCell ⟨bt + 1 + 1 + 1, 0, none⟩ (.int .i64 (sh + whi))) _ by (repeat (first | exact Kept.refl _ | assumption | refine Kept.alloc ?_ _ | refine Kept.ext ?_ _ | refine Kept.drew ?_ | refine Kept.drewN ?_ _))).below.mono (by rw [World.size_setCell, World.size_setCell]; have := KL.out.below.size; omega))
      · exact heap_kp (box_other (c := bt + 1 + 1 + 1) (i := 0) (u := .int .i64 (sh + whi)) (box_other (c := bt + 1 + 1) (i := 0) (u := .int .i64 (sl + vlo)) (heap_kp I5.out KL.out) (by omega)) (by omega)) (by (repeat (first | exact Kept.refl _ | assumption | refine Kept.alloc ?_ _ | refine Kept.ext ?_ _ | refine Kept.drew ?_ | refine Kept.drewN ?_ _)))
      · intro P hP
        rw [vals_snoc] at hP
        rcases List.mem_append.1 hP with q | q
        · exact I6.out P q
        · rw [List.mem_singleton] at q
          subst q
          rw [EN.out]
          exact HN0.out
  case done =>
    rintro D ys W hD hS ⟨i1, i2, i3, i4, i5, i6⟩ hK
    have b1 : W.cell? ⟨bt + 1 + 1, 0, none⟩ = some (.int .i64 (sumP (lowX d X0 X1 X2) (valsP ys))) := cell_blk i1 rfl
    have b2 : W.cell? ⟨bt + 1 + 1 + 1, 0, none⟩ = some (.int .i64 (sumP (higX d X0 X1 X2) (valsP ys))) := cell_blk i2 rfl
    haveI : Lower (bt + 1 + 1) W.heap.size := ⟨cell_lt b1⟩
    haveI : Lower (bt + 1 + 1 + 1) W.heap.size := ⟨cell_lt b2⟩
    have hE5 := i3.cells _ _ _ _ hEB (by omega) (by omega) (by decide)
    have b3 : W.cell? ⟨w.heap.size + 1 + 1 + 1, 0, none⟩ = some (.int .i64 0) := cell_blk i5 rfl
    have b4 : W.cell? ⟨w.heap.size + 1 + 1 + 1, 1, none⟩ = some (.int .i64 0) := cell_blk i5 rfl
    have b5 : W.frozen? ⟨w.heap.size + 1 + 1 + 1, 0, none⟩ = false := frozen_blk i5
    have b6 : W.frozen? ⟨w.heap.size + 1 + 1 + 1, 1, none⟩ = false := frozen_blk i5
    have b7 : W.cell? ⟨w.heap.size + 1 + 1 + 1 + 1, 0, none⟩ = some (.int .i64 0) := cell_blk hE5 rfl
    have b8 : W.frozen? ⟨w.heap.size + 1 + 1 + 1 + 1, 0, none⟩ = false := frozen_blk hE5
    haveI : Lower (w.heap.size + 1 + 1 + 1) W.heap.size := ⟨cell_lt b3⟩
    haveI : Lower (w.heap.size + 1 + 1 + 1 + 1) W.heap.size := ⟨cell_lt b7⟩
    have hYS : valsP ys = cutL d p := hS
    have HIT : hitB d x0 x1 x2 p = false := by
      unfold hitB
      rw [HX0.out, HX1.out, HX2.out]
      refine List.any_eq_false.2 fun P hP => ?_
      have := i6 P (by rw [hYS]; exact hP)
      simpa using this
    have eM : meanX d x0 x1 x2 p = _ := if_neg (by rw [HIT]; exact Bool.false_ne_true)
    rw [HX0.out, HX1.out, HX2.out, ← hYS] at eM
    have I4 := Lib.hid i4
    have I5 := Lib.hid i5
    have E5 := Lib.hid hE5
    have HK := Lib.hid hK
    have EM := Lib.hid eM
    have hp4 : wrap64 (2 ^ (2 * d)) = (4 : Int) ^ d := by rcases (show d = 0 ∨ d = 1 ∨ d = 2 ∨ d = 3 by omega) with rfl | rfl | rfl | rfl <;> (unfold wrap64; decide)
    have HP4 := Lib.hid hp4
    clear i1 i2 i3 i4 i5 i6 hK hS hE5 eM hYS HIT hp4 hT hQ hL hH hPB hDB hcs
    go_wp2_with fail
    refine wp_region_tail 6 (by kernel_rfl) (by kernel_rfl) ?_
    simp only [List.take_succ_cons, List.take_zero, List.drop_succ_cons, List.drop_zero]
    repeat (go_big_quiet_step (first | (go_at_call 54; exact Calls.kept_of (favg_any _ _ _ _))))
    refine wpQuiet_nil ?_
    intro x9
    go_wp2_with fail
    have p1 := box_other (c := w.heap.size + 1 + 1 + 1 + 1) (i := 0) (u := .int .i64 0) (box_other (c := w.heap.size + 1 + 1 + 1) (i := 1) (u := .int .i64 (partS (sumP (lowX d X0 X1 X2) (valsP ys)) (sumP (higX d X0 X1 X2) (valsP ys)) (wrap64 (2 ^ (2 * d)))).hi) (box_other (c := w.heap.size + 1 + 1 + 1) (i := 0) (u := .int .i64 (partS (sumP (lowX d X0 X1 X2) (valsP ys)) (sumP (higX d X0 X1 X2) (valsP ys)) (wrap64 (2 ^ (2 * d)))).lo) HK.out (by omega)) (by omega)) (by omega)
    have p2 := heap_kp p1 (show Kept _ (ext _ x9) from ⟨x9, rfl⟩)
    refine ⟨by simp, .inl ⟨_, _, rfl, run_takeDeferred p2, ?_⟩⟩
    have p3 := box_other (c := w.heap.size + 1 + 1 + 1 + 1) (i := 0) (u := .int .i64 0) (pair_put I5.out (.int .i64 (partS (sumP (lowX d X0 X1 X2) (valsP ys)) (sumP (higX d X0 X1 X2) (valsP ys)) (wrap64 (2 ^ (2 * d)))).lo) (.int .i64 (partS (sumP (lowX d X0 X1 X2) (valsP ys)) (sumP (higX d X0 X1 X2) (valsP ys)) (wrap64 (2 ^ (2 * d)))).hi)) (by omega)
    have p4 := heap_kp p3 (show Kept _ (ext _ x9) from ⟨x9, rfl⟩)
    have p5 := (World.putObj_heap_other (o := .deferred none) (show w.heap.size + 1 + 1 + 1 ≠ D by omega)).trans p4
    have p6 := box_put (box_other (c := w.heap.size + 1 + 1 + 1) (i := 1) (u := .int .i64 (partS (sumP (lowX d X0 X1 X2) (valsP ys)) (sumP (higX d X0 X1 X2) (valsP ys)) (wrap64 (2 ^ (2 * d)))).hi) (box_other (c := w.heap.size + 1 + 1 + 1) (i := 0) (u := .int .i64 (partS (sumP (lowX d X0 X1 X2) (valsP ys)) (sumP (higX d X0 X1 X2) (valsP ys)) (wrap64 (2 ^ (2 * d)))).lo) E5.out (by omega)) (by omega)) (.int .i64 0)
    have p7 := heap_kp p6 (show Kept _ (ext _ x9) from ⟨x9, rfl⟩)
    have p8 := (World.putObj_heap_other (o := .deferred none) (show w.heap.size + 1 + 1 + 1 + 1 ≠ D by omega)).trans p7
    have q1 := cell_blk (o := 0) p5 rfl
    have q2 := cell_blk (o := 1) p5 rfl
    have q3 := cell_blk (o := 0) p8 rfl
    have eM := EM.out
    rw [← HP4.out] at eM
    rw [eM]
    refine ⟨_, ?_, rfl, ?_⟩
    · simp only [results, Try.results35]
      go_simp
    · refine Kept.of_below (((((I4.out.setCell (p := ⟨w.heap.size + 1 + 1 + 1, 0, none⟩) (show w.heap.size ≤ w.heap.size + 1 + 1 + 1 by omega) _).setCell (p := ⟨w.heap.size + 1 + 1 + 1, 1, none⟩) (show w.heap.size ≤ w.heap.size + 1 + 1 + 1 by omega) _).setCell (p := ⟨w.heap.size + 1 + 1 + 1 + 1, 0, none⟩) (show w.heap.size ≤ w.heap.size + 1 + 1 + 1 + 1 by omega) _).trans ((show Kept _ (ext _ x9) from ⟨x9, rfl⟩).below.mono (by rw [World.size_setCell, World.size_setCell, World.size_setCell]; exact I4.out.size))).grown (grownBy_putObj' _ D (.deferred none)) ?_ ?_)
      · rw [ext_size, World.size_setCell, World.size_setCell, World.size_setCell]
        exact Nat.le_trans I4.out.size (adv_le _ _)
      · intro k e
        cases e
        have := hkw.below.size
        omega
end Go.Proofs.Ytodmdicegkjicaa

