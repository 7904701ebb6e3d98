/- DeskNews: true at every budget and order. Conditions: the library's variables hold what start-up lays. -/
import Derived.Test.YtnbjealpcjfllaaGreatDoorZo
import Derived.Test.YtnbjealpcjfllaaGreatDoorCards
import Derived.Test.YtnbjealpcjfllaaGreatDoorTie
import Derived.SevenTiedAt
import Derived.Test.YtnbjealpcjfllaaGreatDoorZu
import Derived.Test.YtnbjealpcjfllaaGreatDoorZw
namespace Go.Proofs.YtnbjealpcjfllaaGreatDoor
set_option linter.unusedVariables false
set_option linter.unusedSimpArgs false
open Go.ChangeShapes Go.WideShapes Go.ChangeAt Go.RowKit Go.Deep Go.MuLone
set_option maxRecDepth 100000 in
set_option maxHeartbeats 16000000 in
theorem law_news (n : Int) (s : ByteArray) (w : World) (h : Le w ∧ 9 ≤ w.heap.size) :
    Calls Tryz.prog 4 #[.int .i64 n, .string s] w fun e w' => e = .returned (.bool true) ∧ Kept w w' := by
  have q7 : ∀ w', Kept w w' → Calls Tryz.prog 7 #[] w' fun r w'' => r = .returned (.bool true) ∧ Kept w' w'' := fun w' hk => dsane_any w' (h.1.on hk) (Nat.le_trans h.2 (kept_size hk))
  have Q7 := Lib.hid q7
  have n1 : ∀ w', _ := fun w' => nil_shape s w'
  have n2 : ∀ w', _ := fun w' => nil_do s w'
  have n3 : ∀ w', _ := fun w' => nil_shapes w'
  have n4 : ∀ w', _ := fun w' => nil_day w'
  have n5 : ∀ w', _ := fun w' => nil_left w'
  have n6 : ∀ w', _ := fun w' => nil_spent w'
  have n7 : ∀ w', _ := fun w' => nil_book w'
  have n8 : ∀ w', _ := fun w' => nil_audit w'
  have N1 := Lib.hid n1
  have N2 := Lib.hid n2
  have N3 := Lib.hid n3
  have N4 := Lib.hid n4
  have N5 := Lib.hid n5
  have N6 := Lib.hid n6
  have N7 := Lib.hid n7
  have N8 := Lib.hid n8
  clear q7 n1 n2 n3 n4 n5 n6 n7 n8
  by_cases hn : 0 ≤ n ∧ n ≤ 10000000
  · have q0 : ∀ w', Kept w w' → Calls Tryz.prog 10 #[.int .i64 n] w' (fun e w'' => ∃ db rb, e = .returned (.tuple #[.pointer (some ⟨db, 0, none⟩), .pointer (some ⟨rb, 0, none⟩), .bool true]) ∧ Kept w' w'' ∧ 9 ≤ db ∧ w''.heap[db]? = some (deskC 0 (.slice none 0 0) 0 n 0 n (.slice none 0 0)) ∧ w''.heap[rb]? = some (.cells #[.int .i64 n, .int .i64 0, .int .i64 n, .int .i64 0, .slice none 0 0, .slice none 0 0] 72 (0, 0))) := fun w' hk => (begin_ok n w' hn).mono fun e w'' ⟨e1, e2⟩ => by
      subst e2
      refine ⟨_, _, e1, by (repeat (first | exact Kept.refl _ | assumption | refine Kept.alloc ?_ _ | refine Kept.ext ?_ _ | refine Kept.drew ?_ | refine Kept.drewN ?_ _)), Nat.le_trans h.2 (kept_size hk), blk_kept (heap_alloc_new w' _) (by (repeat (first | exact Kept.refl _ | assumption | refine Kept.alloc ?_ _ | refine Kept.ext ?_ _ | refine Kept.drew ?_ | refine Kept.drewN ?_ _))), ?_⟩
      have := heap_alloc_new (w'.alloc (deskC 0 (.slice none 0 0) 0 n 0 n (.slice none 0 0))) (.cells #[.int .i64 n, .int .i64 0, .int .i64 n, .int .i64 0, .slice none 0 0, .slice none 0 0] 72)
      rw [World.size_alloc] at this
      exact this
    have Q0 := Lib.hid q0
    have H := Lib.hid h
    have HN := Lib.hid hn
    clear q0 h hn
    go_enter Tryz.func4, Tryz.ntmps4
    go_wp2_with (first | (go_at_call 14; (with_reducible refine (N1.out _).mono ?_); rintro e w1 ⟨rfl, y1, rfl⟩) | (go_at_call 12; (with_reducible refine (N2.out _).mono ?_); rintro e w1 ⟨rfl, y2, rfl⟩) | (go_at_call 15; (with_reducible refine (N3.out _).mono ?_); rintro e w1 ⟨rfl, y3, rfl⟩) | (go_at_call 16; (with_reducible refine (N4.out _).mono ?_); rintro e w1 ⟨rfl, y4, rfl⟩) | (go_at_call 17; (with_reducible refine (N5.out _).mono ?_); rintro e w1 ⟨rfl, y5, rfl⟩) | (go_at_call 18; (with_reducible refine (N6.out _).mono ?_); rintro e w1 ⟨rfl, y6, rfl⟩) | (go_at_call 13; (with_reducible refine (N7.out _).mono ?_); rintro e w1 ⟨rfl, y7, rfl⟩) | (go_at_call 19; (with_reducible refine (N8.out _).mono ?_); rintro e w1 ⟨rfl, y8, rfl⟩))
    refine (Q0.out _ (show Kept w _ by (repeat (first | exact Kept.refl _ | assumption | refine Kept.alloc ?_ _ | refine Kept.ext ?_ _ | refine Kept.drew ?_ | refine Kept.drewN ?_ _)))).mono ?_
    rintro e W1 ⟨db, rb, rfl, hk, h9, hd, hr⟩
    have kw : Kept w W1 := (show Kept w _ by (repeat (first | exact Kept.refl _ | assumption | refine Kept.alloc ?_ _ | refine Kept.ext ?_ _ | refine Kept.drew ?_ | refine Kept.drewN ?_ _))).trans hk
    have q1 : ∀ w', Kept W1 w' → _ := fun w' hk => equal_new db rb n w' (H.out.1.ld.on (kw.trans hk)) (blk_kept hd hk) (blk_kept hr hk)
    have q2 : ∀ w', Kept W1 w' → _ := fun w' hk => audit_new db n w' HN.out (H.out.1.ld.on (kw.trans hk)) h9 (blk_kept hd hk)
    have q3 : ∀ w', Kept W1 w' → _ := fun w' hk => Q7.out w' (kw.trans hk)
    have Q1 := Lib.hid q1
    have Q2 := Lib.hid q2
    have Q3 := Lib.hid q3
    have KW := Lib.hid kw
    clear q1 q2 q3 kw hk h9 hd hr Q7
    go_wp2_with (first | (go_at_call 21; (with_reducible refine (Q1.out _ (by (repeat (first | exact Kept.refl _ | assumption | refine Kept.alloc ?_ _ | refine Kept.ext ?_ _ | refine Kept.drew ?_ | refine Kept.drewN ?_ _)))).mono ?_); rintro e w1 ⟨rfl, y1, rfl⟩) | (go_at_call 19; (with_reducible refine (Q2.out _ (by (repeat (first | exact Kept.refl _ | assumption | refine Kept.alloc ?_ _ | refine Kept.ext ?_ _ | refine Kept.drew ?_ | refine Kept.drewN ?_ _)))).mono ?_); rintro e w1 ⟨rfl, y2, rfl⟩) | (go_at_call 7; (with_reducible refine (Q3.out _ (by (repeat (first | exact Kept.refl _ | assumption | refine Kept.alloc ?_ _ | refine Kept.ext ?_ _ | refine Kept.drew ?_ | refine Kept.drewN ?_ _)))).mono ?_); rintro e w1 ⟨rfl, y3, rfl⟩))
    go_ret
    exact ⟨rfl, KW.out.trans (by (repeat (first | exact Kept.refl _ | assumption | refine Kept.alloc ?_ _ | refine Kept.ext ?_ _ | refine Kept.drew ?_ | refine Kept.drewN ?_ _)))⟩
  · have q0 : ∀ w', _ := fun w' => begin_no n w' hn
    have q1 : ∀ w', Kept w w' → _ := fun w' hk => failed_no n w' hn ⟨h.1.on hk, Nat.le_trans h.2 (kept_size hk)⟩
    have Q0 := Lib.hid q0
    have Q1 := Lib.hid q1
    clear q0 q1 h hn Q7
    go_enter Tryz.func4, Tryz.ntmps4
    go_wp2_with (first | (go_at_call 14; (with_reducible refine (N1.out _).mono ?_); rintro e w1 ⟨rfl, y1, rfl⟩) | (go_at_call 12; (with_reducible refine (N2.out _).mono ?_); rintro e w1 ⟨rfl, y2, rfl⟩) | (go_at_call 15; (with_reducible refine (N3.out _).mono ?_); rintro e w1 ⟨rfl, y3, rfl⟩) | (go_at_call 16; (with_reducible refine (N4.out _).mono ?_); rintro e w1 ⟨rfl, y4, rfl⟩) | (go_at_call 17; (with_reducible refine (N5.out _).mono ?_); rintro e w1 ⟨rfl, y5, rfl⟩) | (go_at_call 18; (with_reducible refine (N6.out _).mono ?_); rintro e w1 ⟨rfl, y6, rfl⟩) | (go_at_call 13; (with_reducible refine (N7.out _).mono ?_); rintro e w1 ⟨rfl, y7, rfl⟩) | (go_at_call 19; (with_reducible refine (N8.out _).mono ?_); rintro e w1 ⟨rfl, y8, rfl⟩) | (go_at_call 10; (with_reducible refine (Q0.out _).mono ?_); rintro e w1 ⟨rfl, rfl⟩) | (go_at_call 20; (with_reducible refine (Q1.out _ (by (repeat (first | exact Kept.refl _ | assumption | refine Kept.alloc ?_ _ | refine Kept.ext ?_ _ | refine Kept.drew ?_ | refine Kept.drewN ?_ _)))).mono ?_); rintro e w1 ⟨rfl, y9, rfl⟩))
    go_ret
    exact ⟨rfl, by (repeat (first | exact Kept.refl _ | assumption | refine Kept.alloc ?_ _ | refine Kept.ext ?_ _ | refine Kept.drew ?_ | refine Kept.drewN ?_ _))⟩
set_option linter.unusedVariables false in
set_option maxRecDepth 100000 in
theorem liftedDeskNews (os : Os) (started : os.Started) (H : Type) (enc : TypeId × Value → H) :
    ReturnsInHanded {} Tryz.checked os 4 .any (fun w args => (Rows.deskNewsSpec.pre enc Tryz.prog Tryz.f4 [] false w args ∧ laidMetH Tryz.prog laidAll w) ∧ sizedMet enc Tryz.prog Tryz.f4 (OpenSpec.ofChange Rows.deskNewsSpec) false w args) (Rows.deskNewsSpec.post enc Tryz.prog Tryz.f4 false true false false) := by
  refine returns_laid_shaped (C := Tryz.checked) (X := fun w _ => laidMetH Tryz.prog laidAll w) (fun _ _ _ hh h => h.of_heap hh) ownDeskNews started (by kernel_rfl) Tryz.func4
    (ChangeSpec.witness_shaped (enc := enc) (C := Tryz.checked) (os := os) (X := fun w _ => laidMetH Tryz.prog laidAll w) false (laidW os) #[.int .i64 0, .string ⟨#[]⟩] 8 (laidW_os _) (World.shaped_of_ZipB (by kernel_rfl) (by kernel_rfl)) (by kernel_rfl) (by kernel_rfl) (by kernel_rfl) (door_met os _)) ?_
  intro W base args ds gs before hval0 hW hL hsh
  have hval : ∀ (j : Nat) t v, Tryz.f4.params[j]? = some t → args[j]? = some v → Value.okWide Tryz.prog W .any base t v := hval0
  have hW' := hW
  obtain ⟨p, q, hA0, hV, rfl, hfz, hnd⟩ := hW
  have hA : DataW.TrodAll enc Tryz.prog W 0 (fun _ => true) true Tryz.f4.params.toList args.toList ds p := hA0
  rw [Tryz.params4] at hA hval
  obtain ⟨v0, vs0, d0, ds0, p0, q0, hargs, rfl, rfl, h0, r0⟩ := trodAll_cons hA
  obtain ⟨v1, vs1, d1, ds1, p1, q1, rfl, rfl, rfl, h1, r1⟩ := trodAll_cons r0
  obtain ⟨rfl, rfl, rfl⟩ := trodAll_nil r1
  obtain rfl : args = #[v0, v1] := by cases args; simp_all
  obtain ⟨rfl, rfl⟩ := trodVars_none hV
  have lt0 : ∀ x ∈ p0, x.block < W.heap.size := by obtain ⟨m, hm⟩ := h0; exact DataW.trod_lt m _ _ _ hm
  obtain ⟨z0, rfl, b0⟩ := okWide_int_bd Tryz.underlying3 (hval 0 3 v0 rfl rfl)
  have lt1 : ∀ x ∈ p1, x.block < W.heap.size := by obtain ⟨m, hm⟩ := h1; exact DataW.trod_lt m _ _ _ hm
  obtain ⟨s1, rfl⟩ := okWide_string Tryz.underlying9 (hval 1 9 v1 rfl rfl)
  clear hA0 hval0
  refine (law_news z0 s1 W (Le.of hL hsh)).mono fun e W' ⟨he, hk⟩ => ?_
  subst he
  have bel := hk.below
  exact ⟨_, rfl, _, _, _, [], _, [], hW', trodAll_mk1 (shut_bool Tryz.underlying4 _), (trodAll_cons_mk (Below.trod laidOutDeskNews (by kernel_rfl) (of_decide_eq_true (by kernel_rfl)) h0 bel lt0) (trodAll_cons_mk (Below.trod laidOutDeskNews (by kernel_rfl) (of_decide_eq_true (by kernel_rfl)) h1 bel lt1) trodAll_mk0)), rfl, bel.frame _, fun h => by cases h⟩
/-- For every input the statement DeskNews returns true, and each argument reads afterwards as it read before. -/
theorem deskNews_row : Rows.DeskNewsSaid :=
  OpenClaim.holds_of_wide 4 Tryz.f4 rfl rfl rfl rfl rfl rfl rfl ⟨rfl, rfl, rfl, rfl, rfl⟩ rfl rfl rfl rfl rfl (by kernel_rfl) Tryz.func4 joinedDeskNews
    (of_decide_eq_true (by kernel_rfl)) (by unfold Func.isWrapper; first | (rw [if_pos (by decide +kernel)]; kernel_rfl) | (rw [if_neg (by decide +kernel)]; exact ⟨rfl, rfl⟩))
    (fun os started H enc _ => liftedDeskNews os started H enc)
/-- The tied card. -/
theorem deskNews_holds : Rows.DeskNewsCardSaid :=
  Claim7.holds_tied_plain_at .later [] [.data, .data, .data, .data, .handle, .sentinel, .sentinel, .pinned] true (true, "d75d8b36c58a1abd0bee47fc65e00889b4de7de77dcecf90649190766dd93c54") true
    deskNews_row (fun _ h => by cases h) (by kernel_rfl) (fun _ h => by cases h) deskNews_row_tie rfl ⟨rfl, rfl⟩ (by kernel_rfl) rfl
    (fun f fn hf hfn => by
      obtain rfl : f = 4 := Option.some.inj ((show Tryz.prog.funcNamed "facet/facetlaw09.DeskNews" = some 4 by kernel_rfl).symm.trans hf) |>.symm
      obtain rfl : fn = Tryz.f4 := (Option.some.inj (Tryz.func4.symm.trans hfn)).symm
      exact ⟨by kernel_rfl, fun j t ht => by
        rw [Tryz.params4] at ht
        have h3 : t = 3 ∨ t = 9 := by
          rcases j with _ | _ | j
          · left; simpa using ht.symm
          · right; simpa using ht.symm
          · simp at ht
        rcases h3 with rfl | rfl
        · exact (show Tryz.prog.wantsStandIn 3 = false by kernel_rfl)
        · exact (show Tryz.prog.wantsStandIn 9 = false by kernel_rfl)⟩)
    goesDeskNews
#print axioms deskNews_holds

end Go.Proofs.YtnbjealpcjfllaaGreatDoor

