/- Contract: a list without one element, of the reference. Conditions: those of each theorem. -/
import Derived.Test.YtoejdfpmmgldpaaRt
import Derived.Test.YtoejdfpmmgldpaaSub
import Derived.Test.YtoejdfpmmgldpaaDet
namespace Go.Proofs.Ytoejdfpmmgldpaa
set_option linter.unusedVariables false
set_option linter.unusedSimpArgs false
open Go.RowKit Go.Deep
theorem RowsAt.less {w : World} {A : Option Addr} {n m c : Nat} {f : Nat → Nat → Int} (h : RowsAt w A n c f) (hm : m ≤ n) : RowsAt w A m c f := by
  intro h0
  obtain ⟨b, off, e, hb, hc⟩ := h (by omega)
  exact ⟨b, off, e, hb, fun k hk j hj => hc k (by omega) j hj⟩
theorem RowsAt.from {w : World} {b off n k : Nat} {f : Nat → Nat → Int} (h : RowsAt w (some ⟨b, off, none⟩) n 1 f) (hk : k ≤ n) : RowsAt w (some ⟨b, off + k, none⟩) (n - k) 1 (fun q j => f (k + q) j) := by
  intro h0
  obtain ⟨b', off', e, hb, hc⟩ := h (by omega)
  cases e
  refine ⟨b, off + k, rfl, hb, fun q hq j hj => ?_⟩
  have := hc (k + q) (by omega) j hj
  rw [show off + (k + q) * 1 + j = off + k + q * 1 + j by omega] at this
  exact this
theorem rowC_join (c : Nat) (f g : Nat → Nat → Int) (n : Nat) : ∀ m, rowC c f n ++ rowC c g m = rowC c (fun q j => if q < n then f q j else g (q - n) j) (n + m)
  | 0 => by
    simp only [rowC, List.append_nil, Nat.add_zero]
    exact rowC_congr fun k hk j hj => by rw [if_pos hk]
  | m + 1 => by
    show rowC c f n ++ (rowC c g m ++ _) = rowC c _ (n + m) ++ _
    rw [← List.append_assoc, rowC_join c f g n m]
    congr 1
    exact List.map_congr_left fun j hj => by
      show Value.int .i64 (g m j) = Value.int .i64 (if n + m < n then f (n + m) j else g (n + m - n) j)
      rw [if_neg (by omega), show n + m - n = m by omega]
set_option maxRecDepth 100000 in
set_option maxHeartbeats 8000000 in
theorem r6without_any (RA : Option Addr) (l cap at_ : Nat) (R : Nat → Nat → Int) (w : World) (hl : l ≤ 7) (hcap : l ≤ cap ∧ cap ≤ maxLen) (hat : at_ < l) (h : RowsAt w RA l 1 R) :
    Calls Try.prog 93 #[.slice RA l cap, .int .i64 at_] w fun e w' => ∃ v, e = .returned v ∧ w'.ownsRow w.heap.size 3 1 v (l - 1) (rowC 1 (fun q _ => R (skip at_ q) 0) (l - 1)) ∧ Kept w w' := by
  obtain ⟨b, off, rfl, hb, -⟩ := h (by omega)
  have HR := Lib.hid h
  clear h
  have hc63 : cap ≤ 9223372036854775807 := by have := hcap.2; unfold maxLen at this; omega
  go_enter Try.func93, Try.ntmps93
  go_wp2
  obtain ⟨ti, hti, hte⟩ := Option.map_eq_some_iff.1 info_I
  simp only [Prod.mk.injEq] at hte
  have HT := Lib.hid hti
  have HTE := Lib.hid hte
  clear hti hte
  have hB : rtB [.s, .q, .q, .q, .s, .q, .q, .q, .q, .s, .q] [⟨none, 0, some 4, 0, []⟩, ⟨none, 4, some 9, at_, rowC 1 R at_⟩, ⟨none, 9, none, l - 1, rowC 1 (fun q _ => R (skip at_ q) 0) (l - 1)⟩] = true := by kernel_rfl
  refine wp_region_tellC (C := fun W' => Kept w W') [.s, .q, .q, .q, .s, .q, .q, .q, .q, .s, .q] (RtI w w.heap.size [⟨none, 0, some 4, 0, []⟩, ⟨none, 4, some 9, at_, rowC 1 R at_⟩, ⟨none, 9, none, l - 1, rowC 1 (fun q _ => R (skip at_ q) 0) (l - 1)⟩]) (by kernel_rfl) (by kernel_rfl) (fun b => by kernel_rfl) ?_ ?_ ?_ ?_
  · intro b'
    refine RtI.start (by (repeat (first | exact Kept.refl _ | assumption | refine Kept.alloc ?_ _ | refine Kept.ext ?_ _ | refine Kept.drew ?_ | refine Kept.drewN ?_ _))) (fun k r hr v hv => ?_) (fun k k2 r s hr _ _ v _ hv _ => ?_)
    · rcases k with _ | _ | _ | k <;> simp at hr <;> subst hr <;> cases hv
    · rcases k with _ | _ | _ | k <;> simp at hr <;> subst hr <;> cases hv
  · intro i L b w' w'' hs hI hk
    exact (hI.on hk).other hB hs
  · exact fun L b w' h => h.kept
  apply Exists.intro
  refine ⟨?_, ?_, ?_, ?_⟩
  · rintro bb W ⟨x, rfl⟩
    simp only [swapL, Nat.reduceAdd]
    repeat (go_big_quiet_step (fail))
    refine wpQuiet_nil ?_
    rfl
  · simp only [EachS, and_true]
    refine ⟨?_, ?_, ?_⟩
    · intro L b w' hd hL hI
      have := hI.build hB (k := 0) rfl rfl (Nat.le_refl _) (cs := #[]) rfl rfl (Nat.zero_le _)
      go_simp
      exact ⟨rfl, this⟩
    · intro L b' w' hd hL hI
      have d0 : L 0 = true := hd { on := 0, ground := .data } (by simp) rfl
      exact RtI.tells_app hB 1 0 rfl rfl rfl rfl hI rfl (up_of (.inr d0) (fun j hj => by cases hj; exact hL)) (.tmp 5) (.tmp 8) 23 rfl ti _ Try.underlying23 HT.out HTE.out.1 HTE.out.2.1 HTE.out.2.2 rfl rfl (some ⟨b, off, none⟩) at_ cap R rfl ((HR.out.of hI.kept).less (by omega)) (by simp) rfl (by simp; omega)
    · intro L b' w' hd hL hI
      have d4 : L 4 = true := hd { on := 4, ground := .data } (by simp) rfl
      have hfrom := (HR.out.of hI.kept).from (k := at_ + 1) (by omega)
      refine RtI.tells_app hB 2 1 rfl rfl rfl rfl hI rfl (up_of (.inr d4) (fun j hj => by cases hj; exact hL)) (.tmp 9) (.tmp 13) 23 rfl ti _ Try.underlying23 HT.out HTE.out.1 HTE.out.2.1 HTE.out.2.2 rfl rfl (if cap = at_ + 1 then some ⟨b, off, none⟩ else some ⟨b, off + (at_ + 1), none⟩) (l - (at_ + 1)) (cap - (at_ + 1)) (fun q j => R (at_ + 1 + q) j) rfl ?_ ?_ ?_ (by simp; omega)
      · split
        · intro h0; omega
        · exact hfrom
      · simp; omega
      · show rowC 1 R at_ ++ rowC 1 (fun q j => R (at_ + 1 + q) j) (l - (at_ + 1)) = rowC 1 (fun q _ => R (skip at_ q) 0) (l - 1)
        rw [rowC_join, show at_ + (l - (at_ + 1)) = l - 1 by omega]
        refine rowC_congr fun q hq j hj => ?_
        obtain rfl : j = 0 := by omega
        unfold skip
        by_cases e : q < at_
        · rw [if_pos e, if_pos e]
        · rw [if_neg e, if_neg e, show at_ + 1 + (q - at_) = q + 1 by omega]
  · intro b1 b2 d hd
    simp [callSlots, dullOp] at hd
  · intro L b' w' hL hI
    have hown := hI.own 2 _ rfl (up_of (.inr (hL 9 (by decide))) (fun j hj => by cases hj))
    have hK := hI.kept
    go_wp2
    all_goals (go_ret; exact ⟨_, rfl, hown, hK⟩)
end Go.Proofs.Ytoejdfpmmgldpaa
