/- The walks of DeskReads and DeskMerges: true at every text. Conditions: the library's variables hold what start-up lays. -/
import Derived.Test.YtejholcddinnfaaGreatDoorZo
import Derived.Test.YtejholcddinnfaaGreatDoorCards
import Derived.Test.YtejholcddinnfaaGreatDoorTie
import Derived.SevenTiedAt
import Derived.Test.YtejholcddinnfaaGreatDoorDe
import Derived.Test.YtejholcddinnfaaGreatDoorJc
namespace Go.Proofs.YtejholcddinnfaaGreatDoor
set_option linter.unusedVariables false
set_option linter.unusedSimpArgs false
open Go.ChangeShapes Go.WideShapes Go.ChangeAt Go.RowKit Go.Deep
set_option maxRecDepth 100000 in
set_option maxHeartbeats 16000000 in
theorem law_reads (s : ByteArray) (b : Int) (w : World) (h : Le w ∧ 9 ≤ w.heap.size) :
    Calls Tryz.prog 3 #[.string s, .int .i64 b] w fun e w' => e = .returned (.bool true) ∧ Kept w w' := by
  obtain ⟨l, hl⟩ : ∃ l : List UInt8, s = ⟨l.toArray⟩ := ⟨s.data.toList, by simp⟩
  subst hl
  have hsz := ba_size l
  have q7 : ∀ w', Kept w w' → Calls Tryz.prog 7 #[] w' fun r w'' => r = .returned (.bool true) ∧ Kept w' w'' := fun w' hk => dsane_any w' (h.1.on hk) (Nat.le_trans h.2 (kept_size hk))
  have Q7 := Lib.hid q7
  by_cases hs : l.length ≤ 20000
  · have g0 : decide ((20000 : Int) < l.length) = false := decide_eq_false (by omega)
    have q1 : ∀ w', Kept w w' → Calls Tryz.prog 8 #[.string ⟨l.toArray⟩] w' (fun e w'' => ∃ A cp, e = .returned (.tuple #[.slice A (readB 100 0 l).1.length cp, .string ⟨(readB 100 0 l).2.toArray⟩]) ∧ Kept w' w'' ∧ TxAt w'' A (readB 100 0 l).1) := fun w' hk => (dread_any l w' (by omega) (h.1.ld.on hk)).mono fun e w'' ⟨v, h1, h2, h3⟩ => by
      obtain ⟨A, cp, rfl⟩ := own_slice2 h3
      exact ⟨A, cp, h1, h2, tx_of_owns h3 rfl⟩
    have q2 : ∀ w', Kept w w' → Calls Tryz.prog 9 #[.string ⟨l.toArray⟩] w' (fun e w'' => ∃ A cp, e = .returned (.tuple #[.slice A (readB 100 0 l).1.length cp, .string ⟨(readB 100 0 l).2.toArray⟩]) ∧ Kept w' w'' ∧ TxAt w'' A (readB 100 0 l).1) := fun w' hk => (r9read_any l w' (by omega) (h.1.ld.on hk)).mono fun e w'' ⟨v, h1, h2, h3⟩ => by
      obtain ⟨A, cp, rfl⟩ := own_slice2 h3
      exact ⟨A, cp, h1, h2, tx_of_owns h3 rfl⟩
    have q3 : ∀ w', Calls Tryz.prog 11 #[.int .i64 b, .string ⟨l.toArray⟩] w' fun e w'' => e = .returned (.int .i64 (sumB b l)) ∧ w' = w'' := fun w' => dsum_any b ⟨l.toArray⟩ w' (by omega)
    have q4 : ∀ w', Calls Tryz.prog 12 #[.int .i64 b, .string ⟨l.toArray⟩] w' fun e w'' => e = .returned (.int .i64 (sumB b l)) ∧ w' = w'' := fun w' => r9sum_any b l w' (by omega)
    have hla := rd_len l
    obtain ⟨m, hm⟩ : ∃ x, (readB 100 0 l).1 = x := ⟨_, rfl⟩
    obtain ⟨r, hr⟩ : ∃ x, (readB 100 0 l).2 = x := ⟨_, rfl⟩
    rw [hm, hr] at q1 q2
    rw [hm] at hla
    have q5 : ∀ A B c1 c2 w', TxAt w' A m → TxAt w' B m → Calls Tryz.prog 10 #[.slice A m.length c1, .slice B m.length c2] w' fun e w'' => e = .returned (.bool true) ∧ Kept w' w'' := fun A B c1 c2 w' t1 t2 => (r9same_any A B m m c1 c2 w' t1 t2 ⟨by omega, by omega⟩).mono fun e w'' ⟨h1, h2⟩ => ⟨by rw [h1, decide_eq_true rfl], h2⟩
    have Q1 := Lib.hid q1
    have Q2 := Lib.hid q2
    have Q3 := Lib.hid q3
    have Q4 := Lib.hid q4
    have Q5 := Lib.hid q5
    clear q1 q2 q3 q4 q5 q7 hm hr h hla hsz
    go_enter Tryz.func3, Tryz.ntmps3
    go_wp2_with (first | (go_at_call 8; (with_reducible refine (Q1.out _ (by (repeat (first | exact Kept.refl _ | assumption | refine Kept.alloc ?_ _ | refine Kept.ext ?_ _ | refine Kept.drew ?_ | refine Kept.drewN ?_ _)))).mono ?_); rintro e w1 ⟨A, cp, rfl, ⟨y1, rfl⟩, t1⟩; have T1 := Lib.hid t1; clear t1) | (go_at_call 9; (with_reducible refine (Q2.out _ (by (repeat (first | exact Kept.refl _ | assumption | refine Kept.alloc ?_ _ | refine Kept.ext ?_ _ | refine Kept.drew ?_ | refine Kept.drewN ?_ _)))).mono ?_); rintro e w2 ⟨B, cp2, rfl, ⟨y2, rfl⟩, t2⟩; have T2 := Lib.hid t2; clear t2) | (go_at_call 10; (with_reducible refine (Q5.out _ _ _ _ _ (T1.out.of (by (repeat (first | exact Kept.refl _ | assumption | refine Kept.alloc ?_ _ | refine Kept.ext ?_ _ | refine Kept.drew ?_ | refine Kept.drewN ?_ _)))) (T2.out.of (by (repeat (first | exact Kept.refl _ | assumption | refine Kept.alloc ?_ _ | refine Kept.ext ?_ _ | refine Kept.drew ?_ | refine Kept.drewN ?_ _))))).mono ?_); rintro e w3 ⟨rfl, ⟨y3, rfl⟩⟩) | (go_at_call 11; (with_reducible refine (Q3.out _).mono ?_); rintro e w4 ⟨rfl, rfl⟩) | (go_at_call 12; (with_reducible refine (Q4.out _).mono ?_); rintro e w4 ⟨rfl, rfl⟩) | (go_at_call 7; (with_reducible refine (Q7.out _ (by (repeat (first | exact Kept.refl _ | assumption | refine Kept.alloc ?_ _ | refine Kept.ext ?_ _ | refine Kept.drew ?_ | refine Kept.drewN ?_ _)))).mono ?_); rintro e w5 ⟨rfl, ⟨y5, rfl⟩⟩))
    refine bodyPost_ret (by simp only [results, Tryz.results3]; go_simp; rfl) rfl ?_
    exact ⟨rfl, by (repeat (first | exact Kept.refl _ | assumption | refine Kept.alloc ?_ _ | refine Kept.ext ?_ _ | refine Kept.drew ?_ | refine Kept.drewN ?_ _))⟩
  · have g0 : decide ((20000 : Int) < l.length) = true := decide_eq_true (by omega)
    clear q7 h hsz
    go_enter Tryz.func3, Tryz.ntmps3
    go_wp2_with (first | (go_at_call 7; (with_reducible refine (Q7.out _ (by (repeat (first | exact Kept.refl _ | assumption | refine Kept.alloc ?_ _ | refine Kept.ext ?_ _ | refine Kept.drew ?_ | refine Kept.drewN ?_ _)))).mono ?_); rintro e w5 ⟨rfl, ⟨y5, rfl⟩⟩))
    refine bodyPost_ret (by simp only [results, Tryz.results3]; go_simp; rfl) rfl ?_
    exact ⟨rfl, by (repeat (first | exact Kept.refl _ | assumption | refine Kept.alloc ?_ _ | refine Kept.ext ?_ _ | refine Kept.drew ?_ | refine Kept.drewN ?_ _))⟩
theorem ownDeskReads : ownKnob Tryz.prog.godebug = none := by kernel_rfl
theorem laidOutDeskReads : laidOutB Tryz.prog = true := by kernel_rfl
set_option linter.unusedVariables false in
set_option maxRecDepth 100000 in
theorem liftedDeskReads (os : Os) (started : os.Started) (H : Type) (enc : TypeId × Value → H) :
    ReturnsInHanded {} Tryz.checked os 3 .any (fun w args => (Rows.deskReadsSpec.pre enc Tryz.prog Tryz.f3 [] false w args ∧ laidMetH Tryz.prog laidAll w) ∧ sizedMet enc Tryz.prog Tryz.f3 (OpenSpec.ofChange Rows.deskReadsSpec) false w args) (Rows.deskReadsSpec.post enc Tryz.prog Tryz.f3 false true false false) := by
  refine returns_laid_shaped (C := Tryz.checked) (X := fun w _ => laidMetH Tryz.prog laidAll w) (fun _ _ _ hh h => h.of_heap hh) ownDeskReads started (by kernel_rfl) Tryz.func3
    (ChangeSpec.witness_shaped (enc := enc) (C := Tryz.checked) (os := os) (X := fun w _ => laidMetH Tryz.prog laidAll w) false (laidW os) #[.string ⟨#[]⟩, .int .i64 0] 8 (laidW_os _) (World.shaped_of_ZipB (by kernel_rfl) (by kernel_rfl)) (by kernel_rfl) (by kernel_rfl) (by kernel_rfl) (door_met os _)) ?_
  intro W base args ds gs before hval0 hW hL hsh
  have hval : ∀ (j : Nat) t v, Tryz.f3.params[j]? = some t → args[j]? = some v → Value.okWide Tryz.prog W .any base t v := hval0
  have hW' := hW
  obtain ⟨p, q, hA0, hV, rfl, hfz, hnd⟩ := hW
  have hA : DataW.TrodAll enc Tryz.prog W 0 (fun _ => true) true Tryz.f3.params.toList args.toList ds p := hA0
  rw [Tryz.params3] at hA hval
  obtain ⟨v0, vs0, d0, ds0, p0, q0, hargs, rfl, rfl, h0, r0⟩ := trodAll_cons hA
  obtain ⟨v1, vs1, d1, ds1, p1, q1, rfl, rfl, rfl, h1, r1⟩ := trodAll_cons r0
  obtain ⟨rfl, rfl, rfl⟩ := trodAll_nil r1
  obtain rfl : args = #[v0, v1] := by cases args; simp_all
  obtain ⟨rfl, rfl⟩ := trodVars_none hV
  have lt0 : ∀ x ∈ p0, x.block < W.heap.size := by obtain ⟨m, hm⟩ := h0; exact DataW.trod_lt m _ _ _ hm
  obtain ⟨s0, rfl⟩ := okWide_string Tryz.underlying9 (hval 0 9 v0 rfl rfl)
  have lt1 : ∀ x ∈ p1, x.block < W.heap.size := by obtain ⟨m, hm⟩ := h1; exact DataW.trod_lt m _ _ _ hm
  obtain ⟨z1, rfl, b1⟩ := okWide_int_bd Tryz.underlying3 (hval 1 3 v1 rfl rfl)
  clear hA0 hval0
  refine (law_reads s0 z1 W (Le.of hL hsh)).mono fun e W' ⟨he, hk⟩ => ?_
  subst he
  have bel := hk.below
  exact ⟨_, rfl, _, _, _, [], _, [], hW', trodAll_mk1 (shut_bool Tryz.underlying4 _), (trodAll_cons_mk (Below.trod laidOutDeskReads (by kernel_rfl) (of_decide_eq_true (by kernel_rfl)) h0 bel lt0) (trodAll_cons_mk (Below.trod laidOutDeskReads (by kernel_rfl) (of_decide_eq_true (by kernel_rfl)) h1 bel lt1) trodAll_mk0)), rfl, bel.frame _, fun h => by cases h⟩
/-- For every input the statement DeskReads returns true, and each argument reads afterwards as it read before. -/
theorem deskReads_row : Rows.DeskReadsSaid :=
  OpenClaim.holds_of_wide 3 Tryz.f3 rfl rfl rfl rfl rfl rfl rfl ⟨rfl, rfl, rfl, rfl, rfl⟩ rfl rfl rfl rfl rfl (by kernel_rfl) Tryz.func3 (by kernel_rfl)
    (of_decide_eq_true (by kernel_rfl)) (by unfold Func.isWrapper; first | (rw [if_pos (by decide +kernel)]; kernel_rfl) | (rw [if_neg (by decide +kernel)]; exact ⟨rfl, rfl⟩))
    (fun os started H enc _ => liftedDeskReads os started H enc)
/-- The tied card. -/
theorem deskReads_holds : Rows.DeskReadsCardSaid :=
  Claim7.holds_tied_plain_at .later [] [.data, .data, .data, .data, .handle, .sentinel, .sentinel, .pinned] true (true, "1ff6fe80ec914efd9fed37873af82cd56aa16feb64cb5f90eb9320f7972205ee") true
    deskReads_row (fun _ h => by cases h) (by kernel_rfl) (fun _ h => by cases h) deskReads_row_tie rfl ⟨rfl, rfl⟩ (by kernel_rfl) rfl
    (fun f fn hf hfn => by
      obtain rfl : f = 3 := Option.some.inj ((show Tryz.prog.funcNamed "facet/facetlaw09.DeskReads" = some 3 by kernel_rfl).symm.trans hf) |>.symm
      obtain rfl : fn = Tryz.f3 := (Option.some.inj (Tryz.func3.symm.trans hfn)).symm
      exact ⟨by kernel_rfl, fun j t ht => by
        rw [Tryz.params3] at ht
        have h3 : t = 9 ∨ t = 3 := by
          rcases j with _ | _ | j
          · left; simpa using ht.symm
          · right; simpa using ht.symm
          · simp at ht
        rcases h3 with rfl | rfl
        · exact (show Tryz.prog.wantsStandIn 9 = false by kernel_rfl)
        · exact (show Tryz.prog.wantsStandIn 3 = false by kernel_rfl)⟩)
    (by kernel_rfl)
#print axioms deskReads_holds

end Go.Proofs.YtejholcddinnfaaGreatDoor

