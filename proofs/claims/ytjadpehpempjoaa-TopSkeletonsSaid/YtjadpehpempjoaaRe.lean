/- Contract: the determinant of a choice with one more row and column, of the program. Conditions: those of each theorem. Contracts: elements of residuals, of the program and of the reference. Conditions: the lists' lengths are ints. -/
import Derived.Test.YtjadpehpempjoaaBo
namespace Go.Proofs.Ytjadpehpempjoaa
set_option linter.unusedVariables false
set_option linter.unusedSimpArgs false
open Go.RowKit Go.Deep
theorem cells4 {V : World} {g : Nat} {T : TypeId} {a b c d : Value} (h : V.heap[g]? = some (.cells #[a, b, c, d] T (0, 0))) : V.cell? ⟨g, 0, none⟩ = some a ∧ V.cell? ⟨g, 1, none⟩ = some b ∧ V.cell? ⟨g, 2, none⟩ = some c ∧ V.cell? ⟨g, 3, none⟩ = some d ∧ g < V.heap.size := by
  refine ⟨?_, ?_, ?_, ?_, (Array.getElem?_eq_some_iff.1 h).1⟩ <;> (unfold World.cell?; simp only [h]; rfl)
set_option maxRecDepth 100000 in
set_option maxHeartbeats 16000000 in
theorem cleft_any (A : Option Addr) (n cap : Nat) (B : Nat → Option Addr) (m cp : Nat → Nat) (f : Nat → Nat → Int) (RA : Option Addr) (l rc : Nat) (R : Nat → Nat → Int) (CA : Option Addr) (cc : Nat) (C : Nat → Nat → Int) (mn i j : Int) (w : World)
    (hk : Mok n m f l R C) (hs : setB n l R = true) (hi : 0 ≤ i ∧ i < n) (hj : 0 ≤ j ∧ j < m 0) (h : MatAt w A n B m cp f) (hR : RowsAt w RA l 1 R) (hC : RowsAt w CA l 1 C) :
    Calls Try.prog 25 #[.agg #[.slice A n cap, .slice RA l rc, .slice CA l cc, .int .i64 mn], .int .i64 i, .int .i64 j] w fun e w' => e = .returned (.int .i64 (leftV f l R C i j)) ∧ Kept w w' := by
  have HM := Lib.hid h
  have HR := Lib.hid hR
  have HC := Lib.hid hC
  have HK := Lib.hid hk
  obtain ⟨⟨n1, n6⟩, ⟨m1, m6⟩, -, -, -, -, l6⟩ := hk
  clear h hR hC
  obtain ⟨ti, hti, hte⟩ := Option.map_eq_some_iff.1 info_I
  simp only [Prod.mk.injEq] at hte
  have HT := Lib.hid hti
  have HTE := Lib.hid hte
  clear hti hte
  cases h1 : hasB l R i
  case true =>
    rw [show leftV f l R C i j = 0 by unfold leftV; rw [h1]; rfl]
    have H1 := Lib.hid h1
    clear h1
    go_enter Try.func25, Try.ntmps25
    go_wp2_with (go_at_call 36; refine (chas_any _ _ _ _ _ _ (by omega) (HR.out.of (by (repeat (first | exact Kept.refl _ | assumption | refine Kept.alloc ?_ _ | refine Kept.ext ?_ _ | refine Kept.drew ?_ | refine Kept.drewN ?_ _))))).mono ?_; rintro e w1 ⟨rfl, rfl⟩; rw [H1.out])
    go_ret
    exact ⟨rfl, by (repeat (first | exact Kept.refl _ | assumption | refine Kept.alloc ?_ _ | refine Kept.ext ?_ _ | refine Kept.drew ?_ | refine Kept.drewN ?_ _))⟩
  cases h2 : hasB l C j
  case true =>
    rw [show leftV f l R C i j = 0 by unfold leftV; rw [h1, h2]; rfl]
    have hh1 : ∀ w', Kept w w' → Calls Try.prog 36 #[.slice RA l rc, .int .i64 i] w' fun e w'' => e = .returned (.bool false) ∧ w' = w'' := fun w' hk => by
      have := chas_any RA l rc R i w' (by omega) (HR.out.of hk)
      rwa [h1] at this
    have hh2 : ∀ w', Kept w w' → Calls Try.prog 36 #[.slice CA l cc, .int .i64 j] w' fun e w'' => e = .returned (.bool true) ∧ w' = w'' := fun w' hk => by
      have := chas_any CA l cc C j w' (by omega) (HC.out.of hk)
      rwa [h2] at this
    have H1 := Lib.hid hh1
    have H2 := Lib.hid hh2
    clear h1 h2 hh1 hh2
    go_enter Try.func25, Try.ntmps25
    go_wp2_with (first | (go_at_call 36; (with_reducible refine (H1.out _ (by (repeat (first | exact Kept.refl _ | assumption | refine Kept.alloc ?_ _ | refine Kept.ext ?_ _ | refine Kept.drew ?_ | refine Kept.drewN ?_ _)))).mono ?_); rintro e w1 ⟨rfl, rfl⟩) | (go_at_call 36; (with_reducible refine (H2.out _ (by (repeat (first | exact Kept.refl _ | assumption | refine Kept.alloc ?_ _ | refine Kept.ext ?_ _ | refine Kept.drew ?_ | refine Kept.drewN ?_ _)))).mono ?_); rintro e w1 ⟨rfl, rfl⟩))
    go_ret
    exact ⟨rfl, by (repeat (first | exact Kept.refl _ | assumption | refine Kept.alloc ?_ _ | refine Kept.ext ?_ _ | refine Kept.drew ?_ | refine Kept.drewN ?_ _))⟩
  have hA := HK.out.add hs hi hj h1
  obtain ⟨res, hres⟩ : ∃ x, D (l + 1) (subF f (addF l R i) (addF l C j)) = x := ⟨_, rfl⟩
  rw [show leftV f l R C i j = res by unfold leftV; rw [h1, h2, hres]; rfl]
  have HRES := Lib.hid hres
  have HA := Lib.hid hA
  have hh1 : ∀ w', Kept w w' → Calls Try.prog 36 #[.slice RA l rc, .int .i64 i] w' fun e w'' => e = .returned (.bool false) ∧ w' = w'' := fun w' hk => by
    have := chas_any RA l rc R i w' (by omega) (HR.out.of hk)
    rwa [h1] at this
  have hh2 : ∀ w', Kept w w' → Calls Try.prog 36 #[.slice CA l cc, .int .i64 j] w' fun e w'' => e = .returned (.bool false) ∧ w' = w'' := fun w' hk => by
    have := chas_any CA l cc C j w' (by omega) (HC.out.of hk)
    rwa [h2] at this
  have H1 := Lib.hid hh1
  have H2 := Lib.hid hh2
  have HI1 := Lib.hid (show I64 i by unfold I64; omega)
  have HI2 := Lib.hid (show I64 j by unfold I64; omega)
  clear h1 h2 hh1 hh2 hA hres
  go_enter Try.func25, Try.ntmps25
  go_wp2_with (first
    | (go_at_call 36; (with_reducible refine (H1.out _ (by (repeat (first | exact Kept.refl _ | assumption | refine Kept.alloc ?_ _ | refine Kept.ext ?_ _ | refine Kept.drew ?_ | refine Kept.drewN ?_ _)))).mono ?_); rintro e w1 ⟨rfl, rfl⟩)
    | (go_at_call 36; (with_reducible refine (H2.out _ (by (repeat (first | exact Kept.refl _ | assumption | refine Kept.alloc ?_ _ | refine Kept.ext ?_ _ | refine Kept.drew ?_ | refine Kept.drewN ?_ _)))).mono ?_); rintro e w1 ⟨rfl, rfl⟩))
  obtain ⟨W0, hW0⟩ : ∃ W0, w.alloc (.cells #[.slice A n cap, .slice RA l rc, .slice CA l cc, .int .i64 mn] 53) = W0 := ⟨_, rfl⟩
  have hkw : Kept w W0 := by rw [← hW0]; (repeat (first | exact Kept.refl _ | assumption | refine Kept.alloc ?_ _ | refine Kept.ext ?_ _ | refine Kept.drew ?_ | refine Kept.drewN ?_ _))
  have hbox : W0.heap[w.heap.size]? = some (.cells #[.slice A n cap, .slice RA l rc, .slice CA l cc, .int .i64 mn] 53) := by rw [← hW0]; exact heap_alloc_new w _
  have HKW := Lib.hid hkw
  have HBOX := Lib.hid hbox
  rw [hW0]
  have hB : rtB [.s, .q, .q, .s, .s, .q, .q, .s, .q, .q] [⟨none, 0, some 3, 0, []⟩, ⟨none, 3, none, l, rowC 1 R l⟩, ⟨none, 4, some 7, 0, []⟩, ⟨none, 7, none, l, rowC 1 C l⟩] = true := by kernel_rfl
  refine wp_region_tellC (C := fun W' => Kept W0 W') [.s, .q, .q, .s, .s, .q, .q, .s, .q, .q] (RtI W0 W0.heap.size [⟨none, 0, some 3, 0, []⟩, ⟨none, 3, none, l, rowC 1 R l⟩, ⟨none, 4, some 7, 0, []⟩, ⟨none, 7, none, l, rowC 1 C l⟩]) (by kernel_rfl) (by kernel_rfl) (fun b => by kernel_rfl) ?_ ?_ ?_ ?_
  · intro b'
    refine RtI.start (by (repeat (first | exact Kept.refl _ | assumption | refine Kept.alloc ?_ _ | refine Kept.ext ?_ _ | refine Kept.drew ?_ | refine Kept.drewN ?_ _))) (fun k r hr v hv => ?_) (fun k k2 r s hr _ _ v _ hv _ => ?_)
    · rcases k with _ | _ | _ | _ | k <;> simp at hr <;> subst hr <;> cases hv
    · rcases k with _ | _ | _ | _ | k <;> simp at hr <;> subst hr <;> cases hv
  · intro i L b w' w'' hs hI hk
    exact (hI.on hk).other hB hs
  · exact fun L b w' h => h.kept
  apply Exists.intro
  refine ⟨?_, ?_, ?_, ?_⟩
  · rintro bb W hkW
    have hb2 := fr_kept HBOX.out hkW
    obtain ⟨q0, q1, q2, q3, q4⟩ := cells4 hb2
    have LL : Lower w.heap.size W.heap.size := ⟨q4⟩
    simp only [swapL, Nat.reduceAdd]
    repeat (go_big_quiet_step (fail))
    refine wpQuiet_nil ?_
    rfl
  · simp only [EachS, and_true]
    refine ⟨?_, ?_, ?_, ?_⟩
    · intro L b w' hd hL hI
      have := hI.build hB (k := 0) rfl rfl (Nat.le_refl _) (cs := #[]) rfl rfl (Nat.zero_le _)
      go_simp
      exact ⟨rfl, this⟩
    · intro L b w' hd hL hI
      have d0 : L 0 = true := hd { on := 0, ground := .data } (by simp) rfl
      exact RtI.tells_app hB 1 0 rfl rfl rfl rfl hI rfl (up_of (.inr d0) (fun j hj => by cases hj; exact hL)) (.tmp 19) (.tmp 21) 23 rfl ti _ Try.underlying23 HT.out HTE.out.1 HTE.out.2.1 HTE.out.2.2 rfl rfl RA l rc R rfl (HR.out.of (HKW.out.trans hI.kept)) (by simp) rfl (by simp; omega)
    · intro L b w' hd hL hI
      have := hI.build hB (k := 2) rfl rfl (Nat.le_refl _) (cs := #[]) rfl rfl (Nat.zero_le _)
      go_simp
      exact ⟨rfl, this⟩
    · intro L b w' hd hL hI
      have d4 : L 4 = true := hd { on := 4, ground := .data } (by simp) rfl
      exact RtI.tells_app hB 3 2 rfl rfl rfl rfl hI rfl (up_of (.inr d4) (fun j hj => by cases hj; exact hL)) (.tmp 23) (.tmp 25) 23 rfl ti _ Try.underlying23 HT.out HTE.out.1 HTE.out.2.1 HTE.out.2.2 rfl rfl CA l cc C rfl (HC.out.of (HKW.out.trans hI.kept)) (by simp) rfl (by simp; omega)
  · intro b1 b2 d hd
    simp [callSlots, dullOp] at hd
  intro L b w' hL hI
  have o1 : w'.ownsRow W0.heap.size 3 1 (b 3) l (rowC 1 R l) := hI.own 1 _ rfl (up_of (.inr (hL 3 (by decide))) (fun j hj => by cases hj))
  have o2 : w'.ownsRow W0.heap.size 3 1 (b 7) l (rowC 1 C l) := hI.own 3 _ rfl (up_of (.inr (hL 7 (by decide))) (fun j hj => by cases hj))
  have d12 : (b 3).ownBlock = none ∨ (b 3).ownBlock ≠ (b 7).ownBlock := hI.d 1 3 _ _ rfl rfl (by decide) (up_of (.inr (hL 3 (by decide))) (fun j hj => by cases hj)) (up_of (.inr (hL 7 (by decide))) (fun j hj => by cases hj))
  have d21 : (b 7).ownBlock = none ∨ (b 7).ownBlock ≠ (b 3).ownBlock := hI.d 3 1 _ _ rfl rfl (by decide) (up_of (.inr (hL 7 (by decide))) (fun j hj => by cases hj)) (up_of (.inr (hL 3 (by decide))) (fun j hj => by cases hj))
  have hk0 := hI.kept
  generalize b 3 = v1 at *
  generalize b 7 = v2 at *
  clear hI hL hB
  have O1 := Lib.hid o1
  have O2 := Lib.hid o2
  have K0 := Lib.hid hk0
  clear o1 o2 hk0
  go_wp2
  have hB : rtB [.q, .q, .q, .q, .s, .s, .q, .q, .s, .s, .k (.int .i64 res), .q] [⟨some v1, 0, some 5, l, rowC 1 R l⟩, ⟨some v2, 0, some 9, l, rowC 1 C l⟩, ⟨none, 4, none, 1, [.int .i64 i]⟩, ⟨none, 5, none, l + 1, rowC 1 (addF l R i) (l + 1)⟩, ⟨none, 8, none, 1, [.int .i64 j]⟩, ⟨none, 9, none, l + 1, rowC 1 (addF l C j) (l + 1)⟩] = true := by kernel_rfl
  refine wp_region_tellC (C := fun W' => Kept W0 W') [.q, .q, .q, .q, .s, .s, .q, .q, .s, .s, .k (.int .i64 res), .q] (RtI W0 W0.heap.size [⟨some v1, 0, some 5, l, rowC 1 R l⟩, ⟨some v2, 0, some 9, l, rowC 1 C l⟩, ⟨none, 4, none, 1, [.int .i64 i]⟩, ⟨none, 5, none, l + 1, rowC 1 (addF l R i) (l + 1)⟩, ⟨none, 8, none, 1, [.int .i64 j]⟩, ⟨none, 9, none, l + 1, rowC 1 (addF l C j) (l + 1)⟩]) (by kernel_rfl) (by kernel_rfl) (fun b => by kernel_rfl) ?_ ?_ ?_ ?_
  · intro b'
    refine RtI.start (K0.out.trans (by (repeat (first | exact Kept.refl _ | assumption | refine Kept.alloc ?_ _ | refine Kept.ext ?_ _ | refine Kept.drew ?_ | refine Kept.drewN ?_ _)))) (fun k r hr v hv => ?_) (fun k k2 r s hr hs hkk v u hv hu => ?_)
    · rcases k with _ | _ | _ | _ | _ | _ | k <;> simp at hr <;> subst hr <;> cases hv
      · exact owns_kept O1.out (by (repeat (first | exact Kept.refl _ | assumption | refine Kept.alloc ?_ _ | refine Kept.ext ?_ _ | refine Kept.drew ?_ | refine Kept.drewN ?_ _)))
      · exact owns_kept O2.out (by (repeat (first | exact Kept.refl _ | assumption | refine Kept.alloc ?_ _ | refine Kept.ext ?_ _ | refine Kept.drew ?_ | refine Kept.drewN ?_ _)))
    · rcases k with _ | _ | _ | _ | _ | _ | k <;> simp at hr <;> subst hr <;> cases hv <;> rcases k2 with _ | _ | _ | _ | _ | _ | k2 <;> simp at hs <;> subst hs <;> cases hu
      · exact absurd rfl hkk
      · exact d12
      · exact d21
      · exact absurd rfl hkk
  · intro i L b w' w'' hs hI hk
    exact (hI.on hk).other hB hs
  · exact fun L b w' h => h.kept
  apply Exists.intro
  refine ⟨?_, ?_, ?_, ?_⟩
  · rintro bb W hkW
    have hb2 := fr_kept HBOX.out hkW
    obtain ⟨q0, q1, q2, q3, q4⟩ := cells4 hb2
    have LL : Lower w.heap.size W.heap.size := ⟨q4⟩
    simp only [swapL, Nat.reduceAdd]
    repeat (go_big_quiet_step (fail))
    refine wpQuiet_nil ?_
    rfl
  · simp only [EachS, and_true]
    refine ⟨?_, ?_, ?_, ?_, ?_⟩
    · intro L b w' hd hL hI
      have := hI.build hB (k := 2) rfl rfl (Nat.le_refl _) (cs := #[.int .i64 i]) rfl rfl (show (1 : Nat) ≤ maxLen by unfold maxLen; omega)
      go_simp
      exact ⟨rfl, this⟩
    · intro L b w' hd hL hI
      have d4 : L 4 = true := hd { on := 4, ground := .data } (by simp) rfl
      have o4 : w'.ownsRow W0.heap.size 3 1 (b 4) 1 (rowC 1 (fun _ _ => i) 1) := hI.own 2 _ rfl (up_of (.inr d4) (fun j hj => by cases hj))
      obtain ⟨A4, cp4, e4, -, r4⟩ := own_read o4 (fun _ _ => HI1.out)
      exact RtI.tells_app hB 3 0 rfl rfl rfl rfl hI rfl (up_of (.inl rfl) (fun j hj => by cases hj; exact hL)) (.tmp 29) (.tmp 31) 23 rfl ti _ Try.underlying23 HT.out HTE.out.1 HTE.out.2.1 HTE.out.2.2 rfl rfl A4 1 cp4 _ e4 r4 rfl (rowC_add l R i) (by show l + 1 ≤ 1000; omega)
    · intro L b w' hd hL hI
      have := hI.build hB (k := 4) rfl rfl (Nat.le_refl _) (cs := #[.int .i64 j]) rfl rfl (show (1 : Nat) ≤ maxLen by unfold maxLen; omega)
      go_simp
      exact ⟨rfl, this⟩
    · intro L b w' hd hL hI
      have d8 : L 8 = true := hd { on := 8, ground := .data } (by simp) rfl
      have o8 : w'.ownsRow W0.heap.size 3 1 (b 8) 1 (rowC 1 (fun _ _ => j) 1) := hI.own 4 _ rfl (up_of (.inr d8) (fun j hj => by cases hj))
      obtain ⟨A8, cp8, e8, -, r8⟩ := own_read o8 (fun _ _ => HI2.out)
      exact RtI.tells_app hB 5 1 rfl rfl rfl rfl hI rfl (up_of (.inl rfl) (fun j hj => by cases hj; exact hL)) (.tmp 33) (.tmp 35) 23 rfl ti _ Try.underlying23 HT.out HTE.out.1 HTE.out.2.1 HTE.out.2.2 rfl rfl A8 1 cp8 _ e8 r8 rfl (rowC_add l C j) (by show l + 1 ≤ 1000; omega)
    · intro L b w' hd hL hI
      have d5 : L 5 = true := hd { on := 5, ground := .data } (by simp) rfl
      have d9 : L 9 = true := hd { on := 9, ground := .data } (by simp) rfl
      have o5 : w'.ownsRow W0.heap.size 3 1 (b 5) (l + 1) (rowC 1 (addF l R i) (l + 1)) := hI.own 3 _ rfl (up_of (.inr d5) (fun j hj => by cases hj))
      have o9 : w'.ownsRow W0.heap.size 3 1 (b 9) (l + 1) (rowC 1 (addF l C j) (l + 1)) := hI.own 5 _ rfl (up_of (.inr d9) (fun j hj => by cases hj))
      obtain ⟨A5, cp5, e5, -, r5⟩ := own_read o5 (fun k hk => addF_I HR.out HI1.out k hk 0 (by omega))
      obtain ⟨A9, cp9, e9, -, r9⟩ := own_read o9 (fun k hk => addF_I HC.out HI2.out k hk 0 (by omega))
      have hcall := cminor_any A n cap B m cp f A5 (l + 1) cp5 (addF l R i) A9 cp9 (addF l C j) w' HA.out (HM.out.of (HKW.out.trans hI.kept)) r5 r9
      rw [← e5, ← e9, HRES.out] at hcall
      have HCALL := Lib.hid hcall
      clear hcall e5 e9 r5 r9 o5 o9
      go_simp
      refine HCALL.out.mono ?_
      rintro e w'' ⟨rfl, hk2⟩
      refine ⟨_, rfl, rfl, (hI.on hk2).pass _ (fun k r hr => ?_)⟩
      rcases k with _ | _ | _ | _ | _ | _ | k <;> simp at hr <;> subst hr
      · exact ⟨.inl rfl, fun j hj => by cases hj; exact (show (10 : Nat) ≠ 5 by decide)⟩
      · exact ⟨.inl rfl, fun j hj => by cases hj; exact (show (10 : Nat) ≠ 9 by decide)⟩
      · exact ⟨.inr (show (10 : Nat) ≠ 4 by decide), fun j hj => by cases hj⟩
      · exact ⟨.inr (show (10 : Nat) ≠ 5 by decide), fun j hj => by cases hj⟩
      · exact ⟨.inr (show (10 : Nat) ≠ 8 by decide), fun j hj => by cases hj⟩
      · exact ⟨.inr (show (10 : Nat) ≠ 9 by decide), fun j hj => by cases hj⟩
  · intro b1 b2 d hd
    simp [callSlots, dullOp] at hd
  intro L b w' hL hI
  have hk1 := HKW.out.trans hI.kept
  clear hI hL hB
  go_wp2
  go_ret
  exact ⟨rfl, hk1⟩
end Go.Proofs.Ytjadpehpempjoaa
namespace Go.Proofs.Ytjadpehpempjoaa
set_option linter.unusedVariables false
set_option linter.unusedSimpArgs false
open Go.RowKit Go.Deep
section
variable (n : Nat) (m : Nat → Nat) (f : Nat → Nat → Int) (rl : Nat) (R : Nat → Nat → Int) (cl : Nat) (C : Nat → Nat → Int) (i j : Int)
/-- The error of a skeleton. -/
def opnE : Int := if choE n m f rl R cl C = 0 then (if D rl (subF f R C) = 0 then 11 else 0) else choE n m f rl R cl C
def resE : Int := if opnE n m f rl R cl C = 0 then (if (0 ≤ i ∧ i ≤ (n : Int) - 1) ∧ (0 ≤ j ∧ j ≤ (m 0 : Int) - 1) then 0 else 5) else opnE n m f rl R cl C
def resN : Int := if resE n m f rl R cl C i j = 0 then frN (leftV f rl R C i j) (D rl (subF f R C)) else 0
def resD : Int := if resE n m f rl R cl C i j = 0 then frD (leftV f rl R C i j) (D rl (subF f R C)) else 0
end
theorem opnE_0 {n : Nat} {m : Nat → Nat} {f : Nat → Nat → Int} {rl : Nat} {R : Nat → Nat → Int} {cl : Nat} {C : Nat → Nat → Int} (h : opnE n m f rl R cl C = 0) : choE n m f rl R cl C = 0 ∧ D rl (subF f R C) ≠ 0 := by
  unfold opnE at h
  split at h
  · rename_i hc
    split at h
    · cases h
    · exact ⟨hc, by assumption⟩
  · exact absurd h (by assumption)
theorem leftV_bd {n : Nat} {m : Nat → Nat} {f : Nat → Nat → Int} {l : Nat} {R C : Nat → Nat → Int} {i j : Int} (h : Mok n m f l R C) (hs : setB n l R = true) (hi : 0 ≤ i ∧ i < n) (hj : 0 ≤ j ∧ j < m 0) : -720000000000000 ≤ leftV f l R C i j ∧ leftV f l R C i j ≤ 720000000000000 := by
  unfold leftV
  cases h1 : hasB l R i
  · split
    · omega
    · exact (h.add hs hi hj h1).bd
  · simp
set_option maxRecDepth 100000 in
set_option maxHeartbeats 4000000 in
theorem copenok_any (A : Option Addr) (n cap : Nat) (B : Nat → Option Addr) (m cp : Nat → Nat) (f : Nat → Nat → Int) (RA : Option Addr) (rl rc : Nat) (R : Nat → Nat → Int) (CA : Option Addr) (cl cc : Nat) (C : Nat → Nat → Int) (w : World)
    (hn : n ≤ 9223372036854775807) (hrl : rl ≤ 9223372036854775807) (hcl : cl ≤ 9223372036854775807) (h : MatAt w A n B m cp f) (hR : RowsAt w RA rl 1 R) (hC : RowsAt w CA cl 1 C) (hE : opnE n m f rl R cl C = 0) :
    Calls Try.prog 20 #[.slice A n cap, .slice RA rl rc, .slice CA cl cc] w fun e w' => e = .returned (.tuple #[.agg #[.slice A n cap, .slice RA rl rc, .slice CA cl cc, .int .i64 (D rl (subF f R C))], .int .i64 0]) ∧ Kept w w' := by
  have HM := Lib.hid h
  have HR := Lib.hid hR
  have HC := Lib.hid hC
  clear h hR hC
  obtain ⟨hv, hd⟩ := opnE_0 hE
  obtain ⟨rfl, hk⟩ := Mok.of hv
  obtain ⟨dd, hdd⟩ : ∃ x, D rl (subF f R C) = x := ⟨_, rfl⟩
  rw [hdd] at hd ⊢
  have g1 : (dd == 0) = false := beq_eq_false_iff_ne.2 hd
  have g2 : decide (dd = 0) = false := decide_eq_false hd
  have HV := Lib.hid hv
  have HK := Lib.hid hk
  have HD := Lib.hid hdd
  clear hk hv hE hdd
  go_enter Try.func20, Try.ntmps20
  go_wp2_with (first | (go_at_call 13; refine (cchoice_any _ _ _ _ _ _ _ _ _ _ _ _ _ _ _ _ hn hrl hcl (HM.out.of (by (repeat (first | exact Kept.refl _ | assumption | refine Kept.alloc ?_ _ | refine Kept.ext ?_ _ | refine Kept.drew ?_ | refine Kept.drewN ?_ _)))) (HR.out.of (by (repeat (first | exact Kept.refl _ | assumption | refine Kept.alloc ?_ _ | refine Kept.ext ?_ _ | refine Kept.drew ?_ | refine Kept.drewN ?_ _)))) (HC.out.of (by (repeat (first | exact Kept.refl _ | assumption | refine Kept.alloc ?_ _ | refine Kept.ext ?_ _ | refine Kept.drew ?_ | refine Kept.drewN ?_ _))))).mono ?_; rintro e w1 ⟨rfl, x, rfl⟩; rw [HV.out]) | (go_at_call 14; refine (cminor_any _ _ _ _ _ _ _ _ _ _ _ _ _ _ _ HK.out (HM.out.of (by (repeat (first | exact Kept.refl _ | assumption | refine Kept.alloc ?_ _ | refine Kept.ext ?_ _ | refine Kept.drew ?_ | refine Kept.drewN ?_ _)))) (HR.out.of (by (repeat (first | exact Kept.refl _ | assumption | refine Kept.alloc ?_ _ | refine Kept.ext ?_ _ | refine Kept.drew ?_ | refine Kept.drewN ?_ _)))) (HC.out.of (by (repeat (first | exact Kept.refl _ | assumption | refine Kept.alloc ?_ _ | refine Kept.ext ?_ _ | refine Kept.drew ?_ | refine Kept.drewN ?_ _))))).mono ?_; rintro e w1 ⟨rfl, x2, rfl⟩; rw [HD.out]))
  refine bodyPost_ret (by simp only [results, Try.results20]; go_simp; rfl) rfl ?_
  exact ⟨rfl, by (repeat (first | exact Kept.refl _ | assumption | refine Kept.alloc ?_ _ | refine Kept.ext ?_ _ | refine Kept.drew ?_ | refine Kept.drewN ?_ _))⟩
set_option maxRecDepth 100000 in
set_option maxHeartbeats 4000000 in
theorem copenno_any (A : Option Addr) (n cap : Nat) (B : Nat → Option Addr) (m cp : Nat → Nat) (f : Nat → Nat → Int) (RA : Option Addr) (rl rc : Nat) (R : Nat → Nat → Int) (CA : Option Addr) (cl cc : Nat) (C : Nat → Nat → Int) (w : World)
    (hn : n ≤ 9223372036854775807) (hrl : rl ≤ 9223372036854775807) (hcl : cl ≤ 9223372036854775807) (h : MatAt w A n B m cp f) (hR : RowsAt w RA rl 1 R) (hC : RowsAt w CA cl 1 C) (hE : opnE n m f rl R cl C ≠ 0) :
    Calls Try.prog 20 #[.slice A n cap, .slice RA rl rc, .slice CA cl cc] w fun e w' => e = .returned (.tuple #[.agg #[.slice none 0 0, .slice none 0 0, .slice none 0 0, .int .i64 0], .int .i64 (opnE n m f rl R cl C)]) ∧ Kept w w' := by
  have HM := Lib.hid h
  have HR := Lib.hid hR
  have HC := Lib.hid hC
  clear h hR hC
  by_cases hv : choE n m f rl R cl C = 0
  · have hd : D rl (subF f R C) = 0 := by
      apply Classical.byContradiction
      intro hd
      exact hE (by unfold opnE; rw [if_pos hv, if_neg hd])
    rw [show opnE n m f rl R cl C = 11 by unfold opnE; rw [if_pos hv, if_pos hd]]
    obtain ⟨rfl, hk⟩ := Mok.of hv
    have HV := Lib.hid hv
    have HK := Lib.hid hk
    have HD := Lib.hid hd
    clear hk hv hE hd
    go_enter Try.func20, Try.ntmps20
    go_wp2_with (first | (go_at_call 13; refine (cchoice_any _ _ _ _ _ _ _ _ _ _ _ _ _ _ _ _ hn hrl hcl (HM.out.of (by (repeat (first | exact Kept.refl _ | assumption | refine Kept.alloc ?_ _ | refine Kept.ext ?_ _ | refine Kept.drew ?_ | refine Kept.drewN ?_ _)))) (HR.out.of (by (repeat (first | exact Kept.refl _ | assumption | refine Kept.alloc ?_ _ | refine Kept.ext ?_ _ | refine Kept.drew ?_ | refine Kept.drewN ?_ _)))) (HC.out.of (by (repeat (first | exact Kept.refl _ | assumption | refine Kept.alloc ?_ _ | refine Kept.ext ?_ _ | refine Kept.drew ?_ | refine Kept.drewN ?_ _))))).mono ?_; rintro e w1 ⟨rfl, x, rfl⟩; rw [HV.out]) | (go_at_call 14; refine (cminor_any _ _ _ _ _ _ _ _ _ _ _ _ _ _ _ HK.out (HM.out.of (by (repeat (first | exact Kept.refl _ | assumption | refine Kept.alloc ?_ _ | refine Kept.ext ?_ _ | refine Kept.drew ?_ | refine Kept.drewN ?_ _)))) (HR.out.of (by (repeat (first | exact Kept.refl _ | assumption | refine Kept.alloc ?_ _ | refine Kept.ext ?_ _ | refine Kept.drew ?_ | refine Kept.drewN ?_ _)))) (HC.out.of (by (repeat (first | exact Kept.refl _ | assumption | refine Kept.alloc ?_ _ | refine Kept.ext ?_ _ | refine Kept.drew ?_ | refine Kept.drewN ?_ _))))).mono ?_; rintro e w1 ⟨rfl, x2, rfl⟩; rw [HD.out]))
    refine bodyPost_ret (by simp only [results, Try.results20]; go_simp; rfl) rfl ?_
    exact ⟨rfl, by (repeat (first | exact Kept.refl _ | assumption | refine Kept.alloc ?_ _ | refine Kept.ext ?_ _ | refine Kept.drew ?_ | refine Kept.drewN ?_ _))⟩
  · rw [show opnE n m f rl R cl C = choE n m f rl R cl C from if_neg hv]
    obtain ⟨e, he⟩ : ∃ e, choE n m f rl R cl C = e := ⟨_, rfl⟩
    rw [he] at hv ⊢
    have HV := Lib.hid he
    clear he hE
    have hv2 : (e == 0) = false := by simpa using hv
    have hv3 : decide (e = 0) = false := by simpa using hv
    go_enter Try.func20, Try.ntmps20
    go_wp2_with (go_at_call 13; refine (cchoice_any _ _ _ _ _ _ _ _ _ _ _ _ _ _ _ _ hn hrl hcl (HM.out.of (by (repeat (first | exact Kept.refl _ | assumption | refine Kept.alloc ?_ _ | refine Kept.ext ?_ _ | refine Kept.drew ?_ | refine Kept.drewN ?_ _)))) (HR.out.of (by (repeat (first | exact Kept.refl _ | assumption | refine Kept.alloc ?_ _ | refine Kept.ext ?_ _ | refine Kept.drew ?_ | refine Kept.drewN ?_ _)))) (HC.out.of (by (repeat (first | exact Kept.refl _ | assumption | refine Kept.alloc ?_ _ | refine Kept.ext ?_ _ | refine Kept.drew ?_ | refine Kept.drewN ?_ _))))).mono ?_; rintro e w1 ⟨rfl, x, rfl⟩; rw [HV.out])
    refine bodyPost_ret (by simp only [results, Try.results20]; go_simp; rfl) rfl ?_
    exact ⟨rfl, by (repeat (first | exact Kept.refl _ | assumption | refine Kept.alloc ?_ _ | refine Kept.ext ?_ _ | refine Kept.drew ?_ | refine Kept.drewN ?_ _))⟩
end Go.Proofs.Ytjadpehpempjoaa
