/- Contract: a mesh in new memory, of the reference. Conditions: the lists are not long. -/
import Derived.Test.YtoadlneneijfaaaGbl
import Derived.Test.YtoadlneneijfaaaGbx
import Derived.Test.YtoadlneneijfaaaCop
namespace Go.Proofs.Ytoadlneneijfaaa
set_option linter.unusedVariables false
set_option linter.unusedSimpArgs false
open Go.RowKit Go.Deep
theorem infoFace : (Try.prog.info? 54).map (fun i => (i.zero, i.size, i.bytes)) = some (some (.agg #[.int .i64 0, .int .i64 0, .int .i64 0]), 3, 24) := by kernel_rfl
theorem dn {L : Nat → Bool} {i j : Nat} (h : j ≠ i) : doneAt L i j = L j := if_neg h
theorem tn {b : Nat → Value} {i j : Nat} {v : Value} (h : j ≠ i) : tellAt b i v j = b j := if_neg h
theorem own_mono {w : World} {base base' size n : Nat} {e : TypeId} {v : Value} {xs : List Value} (h : w.ownsRow base e size v n xs) (hb : base' ≤ base) : w.ownsRow base' e size v n xs := by
  refine ⟨h.1, ?_⟩
  rcases h.2 with h0 | ⟨g, cap, cur, hv, h1, h2⟩
  · exact .inl h0
  · exact .inr ⟨g, cap, cur, hv, by omega, h2⟩
/-- The state of the copy in a drawn order: 0 and 4 make the lists, 3 and 7 append, 9 stores. -/
structure CopI (W : World) (rb n : Nat) (P : Nat → Nat → Int) (m : Nat) (F : Nat → Nat → Int) (L : Nat → Bool) (b : Nat → Value) (w' : World) : Prop where
  kept : Kept W w'
  a3 : L 3 = true → L 0 = true
  a7 : L 7 = true → L 4 = true
  a9 : L 9 = true → L 3 = true ∧ L 7 = true ∧ L 8 = true
  s0 : L 0 = true → L 3 = false → w'.ownsRow W.heap.size 34 3 (b 0) 0 []
  s3 : L 3 = true → w'.ownsRow W.heap.size 34 3 (b 3) n (rowC 3 P n)
  s4 : L 4 = true → L 7 = false → w'.ownsRow W.heap.size 54 3 (b 4) 0 []
  s7 : L 7 = true → w'.ownsRow W.heap.size 54 3 (b 7) m (rowC 3 F m)
  a8 : L 8 = true → (L 3 = true ∧ L 7 = true) ∧ b 8 = .agg #[b 3, b 7]
  p : w'.heap[rb]? = some (.cells (if L 9 = true then #[b 3, b 7] else #[.slice none 0 0, .slice none 0 0]) 25 (0, 0))
section
variable {W : World} {rb n m : Nat} {P F : Nat → Nat → Int} {L : Nat → Bool} {b : Nat → Value} {w' w'' : World}
theorem CopI.on (h : CopI W rb n P m F L b w') (hk : Kept w' w'') : CopI W rb n P m F L b w'' :=
  ⟨h.kept.trans hk, h.a3, h.a7, h.a9, fun e e' => owns_kept (h.s0 e e') hk, fun e => owns_kept (h.s3 e) hk, fun e e' => owns_kept (h.s4 e e') hk, fun e => owns_kept (h.s7 e) hk, h.a8, fr_kept h.p hk⟩
theorem CopI.other (h : CopI W rb n P m F L b w') {i : Nat} (h0 : i ≠ 0) (h3 : i ≠ 3) (h4 : i ≠ 4) (h7 : i ≠ 7) (h8 : i ≠ 8) (h9 : i ≠ 9) : CopI W rb n P m F (doneAt L i) b w' := by
  refine ⟨h.kept, ?_, ?_, ?_, ?_, ?_, ?_, ?_, ?_, ?_⟩
  · rw [dn (Ne.symm h0), dn (Ne.symm h3)]; exact h.a3
  · rw [dn (Ne.symm h7), dn (Ne.symm h4)]; exact h.a7
  · rw [dn (Ne.symm h9), dn (Ne.symm h3), dn (Ne.symm h7), dn (Ne.symm h8)]; exact h.a9
  · rw [dn (Ne.symm h0), dn (Ne.symm h3)]; exact h.s0
  · rw [dn (Ne.symm h3)]; exact h.s3
  · rw [dn (Ne.symm h4), dn (Ne.symm h7)]; exact h.s4
  · rw [dn (Ne.symm h7)]; exact h.s7
  · rw [dn (Ne.symm h8), dn (Ne.symm h3), dn (Ne.symm h7)]; exact h.a8
  · rw [dn (Ne.symm h9)]; exact h.p
theorem CopI.no9 (h : CopI W rb n P m F L b w') (h3 : L 3 = false ∨ L 7 = false) : L 9 = false := by
  cases h9 : L 9 with
  | false => rfl
  | true =>
    have := h.a9 h9
    rw [this.1, this.2.1] at h3
    simp at h3
theorem CopI.no89 (h : CopI W rb n P m F L b w') (h8 : L 8 = false) : L 9 = false := by
  cases h9 : L 9 with
  | false => rfl
  | true => rw [(h.a9 h9).2.2] at h8; cases h8
theorem CopI.no8 (h : CopI W rb n P m F L b w') (h3 : L 3 = false ∨ L 7 = false) : L 8 = false := by
  cases h8 : L 8 with
  | false => rfl
  | true =>
    have := (h.a8 h8).1
    rw [this.1, this.2] at h3
    simp at h3
theorem CopI.op0 (h : CopI W rb n P m F L b w') (d : L 0 = false) : CopI W rb n P m F (doneAt L 0) (tellAt b 0 (.slice (some ⟨w'.heap.size, 0, none⟩) 0 0)) (w'.alloc (.cells #[] 34)) := by
  have h' := h.on ((Kept.refl w').alloc (.cells #[] 34))
  exact ⟨h'.kept, fun _ => rfl, h'.a7, h'.a9, fun _ _ => own_new _ _ (kept_le h.kept), h'.s3, h'.s4, h'.s7, h'.a8, h'.p⟩
theorem CopI.op4 (h : CopI W rb n P m F L b w') (d : L 4 = false) : CopI W rb n P m F (doneAt L 4) (tellAt b 4 (.slice (some ⟨w'.heap.size, 0, none⟩) 0 0)) (w'.alloc (.cells #[] 54)) := by
  have h' := h.on ((Kept.refl w').alloc (.cells #[] 54))
  exact ⟨h'.kept, h'.a3, fun _ => rfl, h'.a9, h'.s0, h'.s3, fun _ _ => own_new _ _ (kept_le h.kept), h'.s7, h'.a8, h'.p⟩
theorem CopI.op3 {v' : Value} (h : CopI W rb n P m F L b w') (d0 : L 0 = true) (d : L 3 = false) (hown : w''.ownsRow W.heap.size 34 3 v' n (rowC 3 P n)) (hg : w'.grownBy w'' (b 0).ownBlock) :
    CopI W rb n P m F (doneAt L 3) (tellAt b 3 v') w'' := by
  have d9 := h.no9 (.inl d)
  have ho := h.s0 d0 d
  have hp := h.p
  rw [d9] at hp
  refine ⟨kept_grown h.kept ho (Nat.le_refl _) hg, fun _ => d0, h.a7, fun e => (by rw [show doneAt L 3 9 = L 9 from rfl, d9] at e; cases e), fun _ e => (by cases e), fun _ => hown, fun e e' => (h.s4 e e').kept hg (own_ne2 ho (h.s4 e e') (by decide)), fun e => (h.s7 e).kept hg (own_ne2 ho (h.s7 e) (by decide)), fun e => (by rw [show doneAt L 3 8 = L 8 from rfl, h.no8 (.inl d)] at e; cases e), ?_⟩
  rw [show doneAt L 3 9 = L 9 from rfl, d9]
  exact own_keepsB ho hg hp (by decide)
theorem CopI.op7 {v' : Value} (h : CopI W rb n P m F L b w') (d4 : L 4 = true) (d : L 7 = false) (hown : w''.ownsRow W.heap.size 54 3 v' m (rowC 3 F m)) (hg : w'.grownBy w'' (b 4).ownBlock) :
    CopI W rb n P m F (doneAt L 7) (tellAt b 7 v') w'' := by
  have d9 := h.no9 (.inr d)
  have ho := h.s4 d4 d
  have hp := h.p
  rw [d9] at hp
  refine ⟨kept_grown h.kept ho (Nat.le_refl _) hg, h.a3, fun _ => d4, fun e => (by rw [show doneAt L 7 9 = L 9 from rfl, d9] at e; cases e), fun e e' => (h.s0 e e').kept hg (own_ne2 ho (h.s0 e e') (by decide)), fun e => (h.s3 e).kept hg (own_ne2 ho (h.s3 e) (by decide)), fun _ e => (by cases e), fun _ => hown, fun e => (by rw [show doneAt L 7 8 = L 8 from rfl, h.no8 (.inr d)] at e; cases e), ?_⟩
  rw [show doneAt L 7 9 = L 9 from rfl, d9]
  exact own_keepsB ho hg hp (by decide)
theorem CopI.op8 (h : CopI W rb n P m F L b w') (d3 : L 3 = true) (d7 : L 7 = true) (d9 : L 9 = false) : CopI W rb n P m F (doneAt L 8) (tellAt b 8 (.agg #[b 3, b 7])) w' :=
  ⟨h.kept, h.a3, h.a7, fun e => (by rw [show doneAt L 8 9 = L 9 from rfl, d9] at e; cases e), h.s0, h.s3, h.s4, h.s7, fun _ => ⟨⟨d3, d7⟩, rfl⟩, h.p⟩
theorem CopI.op9 {v : Value} (h : CopI W rb n P m F L b w') (d3 : L 3 = true) (d7 : L 7 = true) (d8 : L 8 = true) (hW : W.heap.size ≤ rb) (d9 : L 9 = false) :
    CopI W rb n P m F (doneAt L 9) (tellAt b 9 v) (w'.setRow rb #[b 3, b 7]) := by
  have hp := h.p
  have hg := grown_setRow w' rb #[b 3, b 7]
  refine ⟨row_kept2 h.kept hW, h.a3, h.a7, fun _ => ⟨d3, d7, d8⟩, fun _ e => (by rw [show doneAt L 9 3 = L 3 from rfl, d3] at e; cases e), fun e => (h.s3 d3).kept hg (.inr fun q => own_ne (h.s3 d3) hp (by decide) q.symm), fun _ e => (by rw [show doneAt L 9 7 = L 7 from rfl, d7] at e; cases e), fun e => (h.s7 d7).kept hg (.inr fun q => own_ne (h.s7 d7) hp (by decide) q.symm), h.a8, ?_⟩
  exact setRow_heap _ _ _ _ _ _ hp
end
set_option maxRecDepth 100000 in
set_option maxHeartbeats 16000000 in
theorem r2copy_any (A B : Option Addr) (n cap m cap2 : Nat) (P F : Nat → Nat → Int) (w : World) (hn : n ≤ 1000 ∧ m ≤ 1000) (hP : RowsAt w A n 3 P) (hF : RowsAt w B m 3 F) :
    Calls Try.prog 37 #[.agg #[.slice A n cap, .slice B m cap2]] w fun r w' => ∃ vP vF, r = .returned (.agg #[vP, vF]) ∧ Kept w w' ∧ w'.ownsRow w.heap.size 34 3 vP n (rowC 3 P n) ∧ w'.ownsRow w.heap.size 54 3 vF m (rowC 3 F m) := by
  have HP := Lib.hid hP
  have HF := Lib.hid hF
  clear hP hF
  obtain ⟨i0, hi, hz0, hz1, hz2⟩ := info_parts infoPoint
  have HI := Lib.hid (And.intro hi (And.intro hz0 (And.intro hz1 hz2)))
  clear hi hz0 hz1 hz2
  obtain ⟨i1, hi, hz0, hz1, hz2⟩ := info_parts infoFace
  have HJ := Lib.hid (And.intro hi (And.intro hz0 (And.intro hz1 hz2)))
  clear hi hz0 hz1 hz2
  go_enter Try.func37, Try.ntmps37
  go_wp2_with fail
  refine wp_region_tellC (C := Kept (w.alloc (.cells #[.slice A n cap, .slice B m cap2] 25))) [.s, .q, .q, .s, .s, .q, .q, .s, .s, .k undef] (CopI (w.alloc (.cells #[.slice A n cap, .slice B m cap2] 25)) (w.heap.size + 1) n P m F) (by kernel_rfl) (by kernel_rfl) (fun b => by kernel_rfl) ?_ ?_ ?_ ?_
  · intro b
    refine ⟨by (repeat (first | exact Kept.refl _ | assumption | refine Kept.alloc ?_ _ | refine Kept.ext ?_ _ | refine Kept.drew ?_ | refine Kept.drewN ?_ _)), fun h => (by cases h), fun h => (by cases h), fun h => (by cases h), fun h => (by cases h), fun h => (by cases h), fun h => (by cases h), fun h => (by cases h), fun h => (by cases h), ?_⟩
    exact alloc_now (w.alloc (.cells #[.slice A n cap, .slice B m cap2] 25)) _ _
  · intro i L b w' w'' hs hI hk
    exact (hI.on hk).other (by rintro rfl; cases hs) (by rintro rfl; cases hs) (by rintro rfl; cases hs) (by rintro rfl; cases hs) (by rintro rfl; cases hs) (by rintro rfl; cases hs)
  · exact fun L b w' h => h.kept
  apply Exists.intro
  refine ⟨?_, ?_, ?_, ?_⟩
  · rintro b W ⟨y, rfl⟩
    simp only [swapL, Nat.reduceAdd]
    repeat (go_big_quiet_step (fail))
    refine wpQuiet_nil ?_
    rfl
  · simp only [EachS, and_true]
    refine ⟨?_, ?_, ?_, ?_, ?_, ?_⟩
    · intro L b w' hd hL hI
      go_simp
      exact ⟨rfl, hI.op0 hL⟩
    · intro L b w' hd hL hI
      have d0 : L 0 = true := hd { on := 0, ground := .data } (by simp) rfl
      have hs := hI.s0 d0 hL
      refine tells_append _ _ _ (by rfl) _ 34 i0 _ 3 24 Try.underlying22 HI.out.1 HI.out.2.1 HI.out.2.2.1 HI.out.2.2.2 (by rfl) (by omega) (kept_le hI.kept) _ 0 [] (by rfl) hs A n cap P (by rfl) ((HP.out.of (by (repeat (first | exact Kept.refl _ | assumption | refine Kept.alloc ?_ _ | refine Kept.ext ?_ _ | refine Kept.drew ?_ | refine Kept.drewN ?_ _)))).of hI.kept) (by unfold maxLen; omega) (by omega) ?_
      intro v' w'' k1 k2 k3
      simp only [Nat.zero_add, List.nil_append] at k1
      exact ⟨rfl, hI.op3 d0 hL k1 k2⟩
    · intro L b w' hd hL hI
      go_simp
      exact ⟨rfl, hI.op4 hL⟩
    · intro L b w' hd hL hI
      have d0 : L 4 = true := hd { on := 4, ground := .data } (by simp) rfl
      have hs := hI.s4 d0 hL
      refine tells_append _ _ _ (by rfl) _ 54 i1 _ 3 24 Try.underlying23 HJ.out.1 HJ.out.2.1 HJ.out.2.2.1 HJ.out.2.2.2 (by rfl) (by omega) (kept_le hI.kept) _ 0 [] (by rfl) hs B m cap2 F (by rfl) ((HF.out.of (by (repeat (first | exact Kept.refl _ | assumption | refine Kept.alloc ?_ _ | refine Kept.ext ?_ _ | refine Kept.drew ?_ | refine Kept.drewN ?_ _)))).of hI.kept) (by unfold maxLen; omega) (by omega) ?_
      intro v' w'' k1 k2 k3
      simp only [Nat.zero_add, List.nil_append] at k1
      exact ⟨rfl, hI.op7 d0 hL k1 k2⟩
    · intro L b w' hd hL hI
      have d3 : L 3 = true := hd { on := 3, ground := .data } (by simp) rfl
      have d7 : L 7 = true := hd { on := 7, ground := .data } (by simp) rfl
      have d9 : L 9 = false := hI.no89 hL
      have h3 := hI.op8 d3 d7 d9
      obtain ⟨A3, c3, q3⟩ := own_slice2 (hI.s3 d3)
      obtain ⟨A7, c7, q7⟩ := own_slice2 (hI.s7 d7)
      rw [q3, q7] at h3
      go_simp
      exact ⟨rfl, h3⟩
    · intro L b w' hd hL hI
      have d3 : L 3 = true := hd { on := 3, ground := .phase } (by simp) rfl
      have d7 : L 7 = true := hd { on := 7, ground := .phase } (by simp) rfl
      have e3 := hI.p
      rw [hL] at e3
      simp only [Bool.false_eq_true, if_false] at e3
      have d8 : L 8 = true := hd { on := 8, ground := .phase } (by simp) rfl
      refine tells_put 25 (.tmp 2) (.tmp 11) rfl (w.heap.size + 1) (c := #[b 3, b 7]) rfl (hI.a8 d8).2 e3 (by kernel_rfl) rfl ?_ ?_
      · obtain ⟨A3, c3, q3⟩ := own_slice2 (hI.s3 d3)
        obtain ⟨A7, c7, q7⟩ := own_slice2 (hI.s7 d7)
        rw [q3, q7]
        simp [Value.oneCell']
      · exact ⟨rfl, hI.op9 d3 d7 d8 (by simp) hL⟩
  · intro b b' d hd
    simp [callSlots, dullOp] at hd
  · intro L b w' hL hI
    have HG := hI.p
    rw [if_pos (hL 9 (by decide))] at HG
    have h3 := Lib.hid (hI.s3 (hL 3 (by decide)))
    have h7 := Lib.hid (hI.s7 (hL 7 (by decide)))
    have HK := Lib.hid hI.kept
    clear hL hI
    obtain ⟨m0, m1, -, -⟩ := cells2 HG
    clear HG
    go_wp2_with fail
    refine bodyPost_ret (by simp only [results, Try.results37]; go_simp; rfl) rfl ?_
    exact ⟨b 3, b 7, rfl, by obtain ⟨y, rfl⟩ := HK.out; (repeat (first | exact Kept.refl _ | assumption | refine Kept.alloc ?_ _ | refine Kept.ext ?_ _ | refine Kept.drew ?_ | refine Kept.drewN ?_ _)), own_mono h3.out (by simp), own_mono h7.out (by simp)⟩
end Go.Proofs.Ytoadlneneijfaaa
