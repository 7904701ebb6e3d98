/- DeskMerges: true at every two texts. Conditions: the library's variables hold what start-up lays. -/
import Derived.Test.YtejholcddinnfaaGreatDoorZo
import Derived.Test.YtejholcddinnfaaGreatDoorCards
import Derived.Test.YtejholcddinnfaaGreatDoorTie
import Derived.SevenTiedAt
import Derived.Test.YtejholcddinnfaaGreatDoorDe
import Derived.Test.YtejholcddinnfaaGreatDoorJc
namespace Go.Proofs.YtejholcddinnfaaGreatDoor
set_option linter.unusedVariables false
set_option linter.unusedSimpArgs false
open Go.ChangeShapes Go.WideShapes Go.ChangeAt Go.RowKit Go.Deep
set_option maxRecDepth 100000 in
set_option maxHeartbeats 16000000 in
theorem law_merges (s t : ByteArray) (w : World) (h : Le w ∧ 9 ≤ w.heap.size) :
    Calls Tryz.prog 4 #[.string s, .string t] w fun e w' => e = .returned (.bool true) ∧ Kept w w' := by
  obtain ⟨l, hl⟩ : ∃ l : List UInt8, s = ⟨l.toArray⟩ := ⟨s.data.toList, by simp⟩
  obtain ⟨m, hm⟩ : ∃ m : List UInt8, t = ⟨m.toArray⟩ := ⟨t.data.toList, by simp⟩
  subst hl hm
  have hsz := ba_size l
  have hsz2 := ba_size m
  have q7 : ∀ w', Kept w w' → Calls Tryz.prog 7 #[] w' fun r w'' => r = .returned (.bool true) ∧ Kept w' w'' := fun w' hk => dsane_any w' (h.1.on hk) (Nat.le_trans h.2 (kept_size hk))
  have Q7 := Lib.hid q7
  by_cases hs : 20000 < l.length
  · have g0 : decide ((20000 : Int) < l.length) = true := decide_eq_true (by omega)
    clear q7 h hsz hsz2 hs
    go_enter Tryz.func4, Tryz.ntmps4
    go_wp2_with (first | (go_at_call 7; (with_reducible refine (Q7.out _ (by (repeat (first | exact Kept.refl _ | assumption | refine Kept.alloc ?_ _ | refine Kept.ext ?_ _ | refine Kept.drew ?_ | refine Kept.drewN ?_ _)))).mono ?_); rintro e w5 ⟨rfl, ⟨y5, rfl⟩⟩))
    refine bodyPost_ret (by simp only [results, Tryz.results4]; go_simp; rfl) rfl ?_
    exact ⟨rfl, by (repeat (first | exact Kept.refl _ | assumption | refine Kept.alloc ?_ _ | refine Kept.ext ?_ _ | refine Kept.drew ?_ | refine Kept.drewN ?_ _))⟩
  have g0 : decide ((20000 : Int) < l.length) = false := decide_eq_false (by omega)
  by_cases hs2 : 20000 < m.length
  · have g1 : decide ((20000 : Int) < m.length) = true := decide_eq_true (by omega)
    clear q7 h hsz hsz2 hs hs2
    go_enter Tryz.func4, Tryz.ntmps4
    go_wp2_with (first | (go_at_call 7; (with_reducible refine (Q7.out _ (by (repeat (first | exact Kept.refl _ | assumption | refine Kept.alloc ?_ _ | refine Kept.ext ?_ _ | refine Kept.drew ?_ | refine Kept.drewN ?_ _)))).mono ?_); rintro e w5 ⟨rfl, ⟨y5, rfl⟩⟩))
    refine bodyPost_ret (by simp only [results, Tryz.results4]; go_simp; rfl) rfl ?_
    exact ⟨rfl, by (repeat (first | exact Kept.refl _ | assumption | refine Kept.alloc ?_ _ | refine Kept.ext ?_ _ | refine Kept.drew ?_ | refine Kept.drewN ?_ _))⟩
  have g1 : decide ((20000 : Int) < m.length) = false := decide_eq_false (by omega)
  have q1 : ∀ w', Kept w w' → _ := fun w' hk => dmerge_any l m w' ⟨by omega, by omega⟩ (h.1.ld.on hk)
  have q2 : ∀ w', Kept w w' → _ := fun w' hk => r9merge_any l m w' ⟨by omega, by omega⟩ (h.1.ld.on hk)
  obtain ⟨a, ha⟩ : ∃ x, (mergeB l m).1 = x := ⟨_, rfl⟩
  obtain ⟨b, hb⟩ : ∃ x, (mergeB l m).2.1 = x := ⟨_, rfl⟩
  obtain ⟨c, hc⟩ : ∃ x, (mergeB l m).2.2 = x := ⟨_, rfl⟩
  rw [ha, hb, hc] at q1 q2
  unfold strV at q1 q2
  have Q1 := Lib.hid q1
  have Q2 := Lib.hid q2
  clear q1 q2 q7 h hsz hsz2 hs hs2 ha hb hc
  go_enter Tryz.func4, Tryz.ntmps4
  go_wp2_with (first | (go_at_call 13; (with_reducible refine (Q1.out _ (by (repeat (first | exact Kept.refl _ | assumption | refine Kept.alloc ?_ _ | refine Kept.ext ?_ _ | refine Kept.drew ?_ | refine Kept.drewN ?_ _)))).mono ?_); rintro e w1 ⟨rfl, ⟨y1, rfl⟩⟩) | (go_at_call 14; (with_reducible refine (Q2.out _ (by (repeat (first | exact Kept.refl _ | assumption | refine Kept.alloc ?_ _ | refine Kept.ext ?_ _ | refine Kept.drew ?_ | refine Kept.drewN ?_ _)))).mono ?_); rintro e w2 ⟨rfl, ⟨y2, rfl⟩⟩) | (go_at_call 7; (with_reducible refine (Q7.out _ (by (repeat (first | exact Kept.refl _ | assumption | refine Kept.alloc ?_ _ | refine Kept.ext ?_ _ | refine Kept.drew ?_ | refine Kept.drewN ?_ _)))).mono ?_); rintro e w5 ⟨rfl, ⟨y5, rfl⟩⟩))
  refine bodyPost_ret (by simp only [results, Tryz.results4]; go_simp; rfl) rfl ?_
  exact ⟨rfl, by (repeat (first | exact Kept.refl _ | assumption | refine Kept.alloc ?_ _ | refine Kept.ext ?_ _ | refine Kept.drew ?_ | refine Kept.drewN ?_ _))⟩
theorem ownDeskMerges : ownKnob Tryz.prog.godebug = none := by kernel_rfl
theorem laidOutDeskMerges : laidOutB Tryz.prog = true := by kernel_rfl
set_option linter.unusedVariables false in
set_option maxRecDepth 100000 in
theorem liftedDeskMerges (os : Os) (started : os.Started) (H : Type) (enc : TypeId × Value → H) :
    ReturnsInHanded {} Tryz.checked os 4 .any (fun w args => (Rows.deskMergesSpec.pre enc Tryz.prog Tryz.f4 [] false w args ∧ laidMetH Tryz.prog laidAll w) ∧ sizedMet enc Tryz.prog Tryz.f4 (OpenSpec.ofChange Rows.deskMergesSpec) false w args) (Rows.deskMergesSpec.post enc Tryz.prog Tryz.f4 false true false false) := by
  refine returns_laid_shaped (C := Tryz.checked) (X := fun w _ => laidMetH Tryz.prog laidAll w) (fun _ _ _ hh h => h.of_heap hh) ownDeskMerges started (by kernel_rfl) Tryz.func4
    (ChangeSpec.witness_shaped (enc := enc) (C := Tryz.checked) (os := os) (X := fun w _ => laidMetH Tryz.prog laidAll w) false (laidW os) #[.string ⟨#[]⟩, .string ⟨#[]⟩] 8 (laidW_os _) (World.shaped_of_ZipB (by kernel_rfl) (by kernel_rfl)) (by kernel_rfl) (by kernel_rfl) (by kernel_rfl) (door_met os _)) ?_
  intro W base args ds gs before hval0 hW hL hsh
  have hval : ∀ (j : Nat) t v, Tryz.f4.params[j]? = some t → args[j]? = some v → Value.okWide Tryz.prog W .any base t v := hval0
  have hW' := hW
  obtain ⟨p, q, hA0, hV, rfl, hfz, hnd⟩ := hW
  have hA : DataW.TrodAll enc Tryz.prog W 0 (fun _ => true) true Tryz.f4.params.toList args.toList ds p := hA0
  rw [Tryz.params4] at hA hval
  obtain ⟨v0, vs0, d0, ds0, p0, q0, hargs, rfl, rfl, h0, r0⟩ := trodAll_cons hA
  obtain ⟨v1, vs1, d1, ds1, p1, q1, rfl, rfl, rfl, h1, r1⟩ := trodAll_cons r0
  obtain ⟨rfl, rfl, rfl⟩ := trodAll_nil r1
  obtain rfl : args = #[v0, v1] := by cases args; simp_all
  obtain ⟨rfl, rfl⟩ := trodVars_none hV
  have lt0 : ∀ x ∈ p0, x.block < W.heap.size := by obtain ⟨m, hm⟩ := h0; exact DataW.trod_lt m _ _ _ hm
  obtain ⟨s0, rfl⟩ := okWide_string Tryz.underlying9 (hval 0 9 v0 rfl rfl)
  have lt1 : ∀ x ∈ p1, x.block < W.heap.size := by obtain ⟨m, hm⟩ := h1; exact DataW.trod_lt m _ _ _ hm
  obtain ⟨s1, rfl⟩ := okWide_string Tryz.underlying9 (hval 1 9 v1 rfl rfl)
  clear hA0 hval0
  refine (law_merges s0 s1 W (Le.of hL hsh)).mono fun e W' ⟨he, hk⟩ => ?_
  subst he
  have bel := hk.below
  exact ⟨_, rfl, _, _, _, [], _, [], hW', trodAll_mk1 (shut_bool Tryz.underlying4 _), (trodAll_cons_mk (Below.trod laidOutDeskMerges (by kernel_rfl) (of_decide_eq_true (by kernel_rfl)) h0 bel lt0) (trodAll_cons_mk (Below.trod laidOutDeskMerges (by kernel_rfl) (of_decide_eq_true (by kernel_rfl)) h1 bel lt1) trodAll_mk0)), rfl, bel.frame _, fun h => by cases h⟩
/-- For every input the statement DeskMerges returns true, and each argument reads afterwards as it read before. -/
theorem deskMerges_row : Rows.DeskMergesSaid :=
  OpenClaim.holds_of_wide 4 Tryz.f4 rfl rfl rfl rfl rfl rfl rfl ⟨rfl, rfl, rfl, rfl, rfl⟩ rfl rfl rfl rfl rfl (by kernel_rfl) Tryz.func4 (by kernel_rfl)
    (of_decide_eq_true (by kernel_rfl)) (by unfold Func.isWrapper; first | (rw [if_pos (by decide +kernel)]; kernel_rfl) | (rw [if_neg (by decide +kernel)]; exact ⟨rfl, rfl⟩))
    (fun os started H enc _ => liftedDeskMerges os started H enc)
/-- The tied card. -/
theorem deskMerges_holds : Rows.DeskMergesCardSaid :=
  Claim7.holds_tied_plain_at .later [] [.data, .data, .data, .data, .handle, .sentinel, .sentinel, .pinned] true (true, "1ff6fe80ec914efd9fed37873af82cd56aa16feb64cb5f90eb9320f7972205ee") true
    deskMerges_row (fun _ h => by cases h) (by kernel_rfl) (fun _ h => by cases h) deskMerges_row_tie rfl ⟨rfl, rfl⟩ (by kernel_rfl) rfl
    (fun f fn hf hfn => by
      obtain rfl : f = 4 := Option.some.inj ((show Tryz.prog.funcNamed "facet/facetlaw09.DeskMerges" = some 4 by kernel_rfl).symm.trans hf) |>.symm
      obtain rfl : fn = Tryz.f4 := (Option.some.inj (Tryz.func4.symm.trans hfn)).symm
      exact ⟨by kernel_rfl, fun j t ht => by
        rw [Tryz.params4] at ht
        have h3 : t = 9 ∨ t = 9 := by
          rcases j with _ | _ | j
          · left; simpa using ht.symm
          · right; simpa using ht.symm
          · simp at ht
        rcases h3 with rfl | rfl
        · exact (show Tryz.prog.wantsStandIn 9 = false by kernel_rfl)
        · exact (show Tryz.prog.wantsStandIn 9 = false by kernel_rfl)⟩)
    (by kernel_rfl)
#print axioms deskMerges_holds

end Go.Proofs.YtejholcddinnfaaGreatDoor

