/- Contracts: the panels of a mesh and 6 times its volume, of the program. Conditions: no more than 96 faces, whose corners are numbers of points. -/
import Derived.Test.YtoadlneneijfaaaGpa
import Derived.Test.YtoadlneneijfaaaFrs
namespace Go.Proofs.Ytoadlneneijfaaa
set_option linter.unusedVariables false
set_option linter.unusedSimpArgs false
open Go.RowKit
/-- The cells of the panels. -/
def pnF (P F : Nat → Nat → Int) (i j : Nat) : Int := co P F i (j / 3) (j % 3)
theorem pnF_row (P F : Nat → Nat → Int) (i : Nat) : ((List.range 9).map fun j => Value.int .i64 (pnF P F i j)) = [.int .i64 (co P F i 0 0), .int .i64 (co P F i 0 1), .int .i64 (co P F i 0 2), .int .i64 (co P F i 1 0), .int .i64 (co P F i 1 1), .int .i64 (co P F i 1 2), .int .i64 (co P F i 2 0), .int .i64 (co P F i 2 1), .int .i64 (co P F i 2 2)] := rfl
theorem rowC_next (c : Nat) (f : Nat → Nat → Int) (n : Nat) : rowC c f (n + 1) = rowC c f n ++ (List.range c).map fun j => Value.int .i64 (f n j) := rfl
theorem own_sl {w : World} {base size n : Nat} {e : TypeId} {v : Value} {xs : List Value} (h : w.ownsRow base e size v n xs) : ∃ A cp, v = .slice A n cp ∧ n ≤ cp := by
  rcases h.2 with ⟨rfl, rfl⟩ | ⟨g, cap, cur, rfl, -, -, h1, -⟩
  · exact ⟨_, _, rfl, Nat.le_refl _⟩
  · exact ⟨_, _, rfl, h1⟩
theorem own_lower {w : World} {base base' size n : Nat} {e : TypeId} {v : Value} {xs : List Value} (h : w.ownsRow base e size v n xs) (hb : base' ≤ base) : w.ownsRow base' e size v n xs := by
  refine ⟨h.1, ?_⟩
  rcases h.2 with h0 | ⟨g, cap, cur, rfl, h1, h2, h3⟩
  · exact .inl h0
  · exact .inr ⟨g, cap, cur, rfl, Nat.le_trans hb h1, h2, h3⟩
theorem pnF_I {P F : Nat → Nat → Int} {n m : Nat} (hP : ∀ k, k < n → ∀ j, j < 3 → I64 (P k j)) (hc : ∀ i, i < m → cornB n F i = true) : ∀ k, k < m → ∀ j, j < 9 → I64 (pnF P F k j) := by
  intro k hk j hj
  obtain ⟨c0, c1, c2⟩ := cornB_true (hc k hk)
  unfold pnF co
  have h3 : j % 3 < 3 := Nat.mod_lt _ (by omega)
  rcases (show j / 3 = 0 ∨ j / 3 = 1 ∨ j / 3 = 2 by omega) with e | e | e
  · rw [e]; exact hP _ (by omega) _ h3
  · rw [e]; exact hP _ (by omega) _ h3
  · rw [e]; exact hP _ (by omega) _ h3
theorem infoPanel : (Try.prog.info? 36).map (fun i => (i.zero, i.size, i.bytes)) = some (some (.agg #[.int .i64 0, .int .i64 0, .int .i64 0, .int .i64 0, .int .i64 0, .int .i64 0, .int .i64 0, .int .i64 0, .int .i64 0]), 9, 72) := by kernel_rfl
theorem rows_I {w : World} {A : Option Addr} {n c : Nat} {f : Nat → Nat → Int} (h : RowsAt w A n c f) : ∀ k, k < n → ∀ j, j < c → I64 (f k j) := fun k hk j hj => by
  obtain ⟨b, off, -, -, hc⟩ := h (by omega)
  exact (hc k hk j hj).2
theorem alloc_now (w : World) (o : Obj) (n : Nat) [h : SizeIs w n] : (w.alloc o).heap[n]? = some o := by
  have e := h.eq
  subst e
  exact heap_alloc_new w o
set_option maxRecDepth 100000 in
set_option maxHeartbeats 16000000 in
theorem spanels_any (A B : Option Addr) (n cap m cap2 : Nat) (P F : Nat → Nat → Int) (w : World) (hm : m ≤ 96) (hn : n ≤ 9223372036854775807) (hc : ∀ i, i < m → cornB n F i = true) (hP : RowsAt w A n 3 P) (hF : RowsAt w B m 3 F) :
    Calls Try.prog 71 #[.agg #[.slice A n cap, .slice B m cap2]] w fun r w' => ∃ v, r = .returned v ∧ Kept w w' ∧ w'.ownsRow w.heap.size 36 9 v m (rowC 9 (pnF P F) m) := by
  have HP := Lib.hid hP
  have HF := Lib.hid hF
  have HC := Lib.hid hc
  clear hP hF hc
  obtain ⟨i0, hi, hz0, hz1, hz2⟩ := info_parts infoPanel
  have HI := Lib.hid (And.intro hi (And.intro hz0 (And.intro hz1 hz2)))
  clear hi hz0 hz1 hz2
  go_enter Try.func71, Try.ntmps71
  go_wp2_with fail
  go_loopw [3, 9] (fun v i wr => ∃ k : Nat, k ≤ m ∧ i = .int .i64 k ∧ (∃ y, wr = ext (w.alloc (.cells #[.slice A n cap, .slice B m cap2] 25)) y) ∧ wr.ownsRow (w.heap.size + 1) 36 9 v k (rowC 9 (pnF P F) k)) (fun _ i _ => m - (intOf i).toNat)
  case atStart => exact ⟨0, by omega, rfl, show Kept _ _ by (repeat (first | exact Kept.refl _ | assumption | refine Kept.alloc ?_ _ | refine Kept.ext ?_ _ | refine Kept.drew ?_ | refine Kept.drewN ?_ _)), ⟨rfl, .inl ⟨rfl, rfl⟩⟩⟩
  case round =>
    obtain ⟨k, hk, rfl, ⟨y, rfl⟩, hown⟩ := hrel
    obtain ⟨A2, cp2, rfl, hcp⟩ := own_sl hown
    have HO := Lib.hid hown
    clear hown
    by_cases hlt : k < m
    · obtain ⟨fb, off, rfl, hb, f0, f1, f2⟩ := rows3 HF.out hlt
      have LB : Lower fb w.heap.size := ⟨hb⟩
      have hcB := HC.out k hlt
      go_wp2_with (first | (go_at_call 117; refine (spanelF_any _ _ _ _ _ _ P F k _ hcB hn (HP.out.of (by (repeat (first | exact Kept.refl _ | assumption | refine Kept.alloc ?_ _ | refine Kept.ext ?_ _ | refine Kept.drew ?_ | refine Kept.drewN ?_ _))))).mono ?_; rintro e w1 ⟨rfl, x, rfl⟩; unfold faceV) | (at_builtin; refine wpList_append_lies _ rfl _ _ _ rfl (w.heap.size + 1) 36 i0 _ 9 72 Try.underlying43 HI.out.1 HI.out.2.1 HI.out.2.2.1 HI.out.2.2.2 rfl (by omega) _ k (rowC 9 (pnF P F) k) rfl (owns_kept HO.out (by (repeat (first | exact Kept.refl _ | assumption | refine Kept.alloc ?_ _ | refine Kept.ext ?_ _ | refine Kept.drew ?_ | refine Kept.drewN ?_ _)))) _ 1 1 [.int .i64 (co P F k 0 0), .int .i64 (co P F k 0 1), .int .i64 (co P F k 0 2), .int .i64 (co P F k 1 0), .int .i64 (co P F k 1 1), .int .i64 (co P F k 1 2), .int .i64 (co P F k 2 0), .int .i64 (co P F k 2 1), .int .i64 (co P F k 2 2)] rfl rfl (World.news_of_block (alloc_now _ _ _)) (by simp [Value.oneCell']) (by omega) (by unfold maxLen; omega) (by omega) (by simp [adv]; omega) _ rfl ?_; intro g cp w2 hown2 hg2 hat hlt2))
      have hk2 : Kept (w.alloc (.cells #[.slice A n cap, .slice (some ⟨fb, off, none⟩) m cap2] 25)) w2 := by
        refine kept_grown (base := w.heap.size + 1) ?_ (owns_kept HO.out ?_) (by simp) hg2
        · (repeat (first | exact Kept.refl _ | assumption | refine Kept.alloc ?_ _ | refine Kept.ext ?_ _ | refine Kept.drew ?_ | refine Kept.drewN ?_ _))
        · (repeat (first | exact Kept.refl _ | assumption | refine Kept.alloc ?_ _ | refine Kept.ext ?_ _ | refine Kept.drew ?_ | refine Kept.drewN ?_ _))
      have e9 : rowC 9 (pnF P F) (k + 1) = rowC 9 (pnF P F) k ++ [.int .i64 (co P F k 0 0), .int .i64 (co P F k 0 1), .int .i64 (co P F k 0 2), .int .i64 (co P F k 1 0), .int .i64 (co P F k 1 1), .int .i64 (co P F k 1 2), .int .i64 (co P F k 2 0), .int .i64 (co P F k 2 1), .int .i64 (co P F k 2 2)] := by rw [rowC_next, pnF_row]
      go_roundw
      case rel => exact ⟨k + 1, by omega, by go_num, hk2, by rw [e9]; exact hown2⟩
      case measure => simp [intOf]; omega
    · obtain rfl : k = m := by omega
      go_wp2_with fail
      go_ret
      refine ⟨_, rfl, by (repeat (first | exact Kept.refl _ | assumption | refine Kept.alloc ?_ _ | refine Kept.ext ?_ _ | refine Kept.drew ?_ | refine Kept.drewN ?_ _)), ?_⟩
      exact own_lower (owns_kept HO.out (by (repeat (first | exact Kept.refl _ | assumption | refine Kept.alloc ?_ _ | refine Kept.ext ?_ _ | refine Kept.drew ?_ | refine Kept.drewN ?_ _)))) (Nat.le_succ _)
/-- Panel k of a list of panels, read. -/
theorem panel_at {w : World} {A : Option Addr} {m k : Nat} {P F : Nat → Nat → Int} (h : RowsAt w A m 9 (pnF P F)) (hk : k < m) :
    ∃ b off, A = some ⟨b, off, none⟩ ∧ b < w.heap.size ∧ w.cell? ⟨b, off + k * 9, none⟩ = some (.int .i64 (co P F k 0 0)) ∧ w.cell? ⟨b, off + k * 9 + 1, none⟩ = some (.int .i64 (co P F k 0 1)) ∧ w.cell? ⟨b, off + k * 9 + 2, none⟩ = some (.int .i64 (co P F k 0 2)) ∧
      w.cell? ⟨b, off + k * 9 + 3, none⟩ = some (.int .i64 (co P F k 1 0)) ∧ w.cell? ⟨b, off + k * 9 + 4, none⟩ = some (.int .i64 (co P F k 1 1)) ∧ w.cell? ⟨b, off + k * 9 + 5, none⟩ = some (.int .i64 (co P F k 1 2)) ∧
      w.cell? ⟨b, off + k * 9 + 6, none⟩ = some (.int .i64 (co P F k 2 0)) ∧ w.cell? ⟨b, off + k * 9 + 7, none⟩ = some (.int .i64 (co P F k 2 1)) ∧ w.cell? ⟨b, off + k * 9 + 8, none⟩ = some (.int .i64 (co P F k 2 2)) := by
  obtain ⟨b, off, rfl, hb, hc⟩ := h (by omega)
  have h0 := (hc k hk 0 (by omega)).1
  rw [Nat.add_zero] at h0
  exact ⟨b, off, rfl, hb, h0, (hc k hk 1 (by omega)).1, (hc k hk 2 (by omega)).1, (hc k hk 3 (by omega)).1, (hc k hk 4 (by omega)).1, (hc k hk 5 (by omega)).1, (hc k hk 6 (by omega)).1, (hc k hk 7 (by omega)).1, (hc k hk 8 (by omega)).1⟩
set_option maxRecDepth 100000 in
set_option maxHeartbeats 16000000 in
theorem svolume_any (A B : Option Addr) (n cap m cap2 : Nat) (P F : Nat → Nat → Int) (w : World) (hm : m ≤ 96) (hn : n ≤ 9223372036854775807) (hb : ptsBad P n = false) (hc : ∀ i, i < m → cornB n F i = true) (hP : RowsAt w A n 3 P) (hF : RowsAt w B m 3 F) :
    Calls Try.prog 79 #[.agg #[.slice A n cap, .slice B m cap2]] w fun r w' => r = .returned (.int .i64 (vol P F m)) ∧ Kept w w' := by
  have HP := Lib.hid hP
  have HF := Lib.hid hF
  have HC := Lib.hid hc
  clear hP hF hc
  go_enter Try.func79, Try.ntmps79
  go_wp2_with fail
  refine (spanels_any _ _ _ _ _ _ P F _ hm hn HC.out (HP.out.of (by (repeat (first | exact Kept.refl _ | assumption | refine Kept.alloc ?_ _ | refine Kept.ext ?_ _ | refine Kept.drew ?_ | refine Kept.drewN ?_ _)))) (HF.out.of (by (repeat (first | exact Kept.refl _ | assumption | refine Kept.alloc ?_ _ | refine Kept.ext ?_ _ | refine Kept.drew ?_ | refine Kept.drewN ?_ _))))).mono ?_
  rintro r w1 ⟨v, rfl, ⟨x, rfl⟩, hown⟩
  obtain ⟨A2, cp, rfl, hcp⟩ := own_sl hown
  have HR := Lib.hid (rows_of_owns hown (pnF_I (rows_I HP.out) HC.out))
  clear hown
  go_wp2_with fail
  go_loopw [3, 9] (fun v i wr => ∃ k : Nat, k ≤ m ∧ v = .int .i64 (vol P F k) ∧ i = .int .i64 k ∧ (∃ y, wr = ext (ext (w.alloc (.cells #[.slice A n cap, .slice B m cap2] 25)) x) y)) (fun _ i _ => m - (intOf i).toNat)
  case atStart => exact ⟨0, by omega, rfl, rfl, show Kept _ _ by (repeat (first | exact Kept.refl _ | assumption | refine Kept.alloc ?_ _ | refine Kept.ext ?_ _ | refine Kept.drew ?_ | refine Kept.drewN ?_ _))⟩
  case round =>
    obtain ⟨k, hk, rfl, rfl, y, rfl⟩ := hrel
    by_cases hlt : k < m
    · obtain ⟨fb, off, rfl, hfb, f0, f1, f2, f3, f4, f5, f6, f7, f8⟩ := panel_at HR.out hlt
      have LB : Lower fb (adv (w.heap.size + 1) x.obs.size) := ⟨by simpa using hfb⟩
      obtain ⟨c0, c1, c2⟩ := cornB_true (HC.out k hlt)
      have b0 := co_bd hb c0
      have b1 := co_bd hb c1
      have b2 := co_bd hb c2
      have b3 := prF_bd hb (HC.out k hlt)
      have b4 := vol_bd hb HC.out k hk
      clear c0 c1 c2 hfb
      unfold prF at b3
      go_wp2_with (first | (go_at_call 94; refine (sproduct_any _ _ _ _ _ _ _ _ _ _ (by omega)).mono ?_; rintro e w1 ⟨rfl, x, rfl⟩))
      go_roundw
      case rel => exact ⟨k + 1, by omega, rfl, by go_num, show Kept _ _ by (repeat (first | exact Kept.refl _ | assumption | refine Kept.alloc ?_ _ | refine Kept.ext ?_ _ | refine Kept.drew ?_ | refine Kept.drewN ?_ _))⟩
      case measure => simp [intOf]; omega
    · obtain rfl : k = m := by omega
      go_wp2_with fail
      go_ret
      exact ⟨rfl, by (repeat (first | exact Kept.refl _ | assumption | refine Kept.alloc ?_ _ | refine Kept.ext ?_ _ | refine Kept.drew ?_ | refine Kept.drewN ?_ _))⟩
end Go.Proofs.Ytoadlneneijfaaa
