/- Contract: two meshes together, of the program. Conditions: the lists are not long. -/
import Derived.Test.YtbhcjdgfcinpcaaUfp
import Derived.Test.YtbhcjdgfcinpcaaCnc
import Derived.Test.YtbhcjdgfcinpcaaFna
namespace Go.Proofs.Ytbhcjdgfcinpcaa
set_option linter.unusedVariables false
set_option linter.unusedSimpArgs false
open Go.RowKit Go.Deep
/-- The state of the making of the two lists: 4 lays both lists of points, 5 joins them, 8 copies the faces, 9 builds the mesh, 10 its block, 11 stores it. -/
structure UniI (W : World) (l1 l2 : Value) (n : Nat) (xs : List Value) (m : Nat) (F : Nat → Nat → Int) (L : Nat → Bool) (b : Nat → Value) (w' : World) : Prop where
  kept : Kept W w'
  c4 : L 4 = true → ∃ g, b 4 = .slice (some ⟨g, 0, none⟩) 2 2 ∧ w'.heap[g]? = some (.cells #[l1, l2] 22 (0, 0))
  s5 : L 5 = true → w'.ownsRow W.heap.size 27 3 (b 5) n xs
  s8 : L 8 = true → w'.ownsRow W.heap.size 55 3 (b 8) m (rowC 3 F m)
  a9 : L 9 = true → (L 5 = true ∧ L 8 = true) ∧ b 9 = .agg #[b 5, b 8]
  a10 : L 10 = true → ∃ g, b 10 = .pointer (some ⟨g, 0, none⟩) ∧ W.heap.size ≤ g ∧ w'.heap[g]? = some (.cells (if L 11 = true then #[b 5, b 8] else #[.slice none 0 0, .slice none 0 0]) 25 (0, 0))
  a11 : L 11 = true → L 5 = true ∧ L 8 = true ∧ L 9 = true ∧ L 10 = true
section
variable {W : World} {l1 l2 : Value} {n m : Nat} {xs : List Value} {F : Nat → Nat → Int} {L : Nat → Bool} {b : Nat → Value} {w' w'' : World}
theorem UniI.on (h : UniI W l1 l2 n xs m F L b w') (hk : Kept w' w'') : UniI W l1 l2 n xs m F L b w'' :=
  ⟨h.kept.trans hk, fun e => by
    obtain ⟨g, g1, g2⟩ := h.c4 e
    exact ⟨g, g1, fr_kept g2 hk⟩, fun e => owns_kept (h.s5 e) hk, fun e => owns_kept (h.s8 e) hk, h.a9, fun e => by
    obtain ⟨g, g1, g2, g3⟩ := h.a10 e
    exact ⟨g, g1, g2, fr_kept g3 hk⟩, h.a11⟩
theorem UniI.other (h : UniI W l1 l2 n xs m F L b w') {i : Nat} (h4 : i ≠ 4) (h5 : i ≠ 5) (h8 : i ≠ 8) (h9 : i ≠ 9) (h10 : i ≠ 10) (h11 : i ≠ 11) : UniI W l1 l2 n xs m F (doneAt L i) b w' := by
  refine ⟨h.kept, ?_, ?_, ?_, ?_, ?_, ?_⟩
  · rw [dn (Ne.symm h4)]; exact h.c4
  · rw [dn (Ne.symm h5)]; exact h.s5
  · rw [dn (Ne.symm h8)]; exact h.s8
  · rw [dn (Ne.symm h9), dn (Ne.symm h5), dn (Ne.symm h8)]; exact h.a9
  · rw [dn (Ne.symm h10), dn (Ne.symm h11)]; exact h.a10
  · rw [dn (Ne.symm h11), dn (Ne.symm h5), dn (Ne.symm h8), dn (Ne.symm h9), dn (Ne.symm h10)]; exact h.a11
theorem UniI.no11 (h : UniI W l1 l2 n xs m F L b w') (d : L 5 = false ∨ L 8 = false ∨ L 9 = false ∨ L 10 = false) : L 11 = false := by
  cases e : L 11 with
  | false => rfl
  | true =>
    obtain ⟨a, c, d', f⟩ := h.a11 e
    rw [a, c, d', f] at d
    simp at d
theorem UniI.no9 (h : UniI W l1 l2 n xs m F L b w') (d : L 5 = false ∨ L 8 = false) : L 9 = false := by
  cases e : L 9 with
  | false => rfl
  | true =>
    obtain ⟨⟨a, c⟩, -⟩ := h.a9 e
    rw [a, c] at d
    simp at d
theorem UniI.op4 (h : UniI W l1 l2 n xs m F L b w') : UniI W l1 l2 n xs m F (doneAt L 4) (tellAt b 4 (.slice (some ⟨w'.heap.size, 0, none⟩) 2 2)) (w'.alloc (.cells #[l1, l2] 22)) := by
  have h' := h.on ((Kept.refl w').alloc (.cells #[l1, l2] 22))
  exact ⟨h'.kept, fun _ => ⟨_, rfl, heap_alloc_new w' _⟩, h'.s5, h'.s8, h'.a9, h'.a10, h'.a11⟩
theorem UniI.op5 {v : Value} (h : UniI W l1 l2 n xs m F L b w') (d : L 5 = false) (hk : Kept w' w'') (ho : w''.ownsRow w'.heap.size 27 3 v n xs) : UniI W l1 l2 n xs m F (doneAt L 5) (tellAt b 5 v) w'' := by
  have h' := h.on hk
  have d9 := h.no9 (.inl d)
  have d11 := h.no11 (.inl d)
  refine ⟨h'.kept, h'.c4, fun _ => own_mono ho (kept_le h.kept), h'.s8, fun e => (by rw [show doneAt L 5 9 = L 9 from rfl, d9] at e; cases e), fun e => ?_, fun e => (by rw [show doneAt L 5 11 = L 11 from rfl, d11] at e; cases e)⟩
  obtain ⟨g, g1, g2, g3⟩ := h'.a10 e
  rw [d11] at g3
  refine ⟨g, g1, g2, ?_⟩
  rw [show doneAt L 5 11 = L 11 from rfl, d11]
  exact g3
theorem UniI.op8 {v : Value} (h : UniI W l1 l2 n xs m F L b w') (d : L 8 = false) (hk : Kept w' w'') (ho : w''.ownsRow w'.heap.size 55 3 v m (rowC 3 F m)) : UniI W l1 l2 n xs m F (doneAt L 8) (tellAt b 8 v) w'' := by
  have h' := h.on hk
  have d9 := h.no9 (.inr d)
  have d11 := h.no11 (.inr (.inl d))
  refine ⟨h'.kept, h'.c4, h'.s5, fun _ => own_mono ho (kept_le h.kept), fun e => (by rw [show doneAt L 8 9 = L 9 from rfl, d9] at e; cases e), fun e => ?_, fun e => (by rw [show doneAt L 8 11 = L 11 from rfl, d11] at e; cases e)⟩
  obtain ⟨g, g1, g2, g3⟩ := h'.a10 e
  rw [d11] at g3
  refine ⟨g, g1, g2, ?_⟩
  rw [show doneAt L 8 11 = L 11 from rfl, d11]
  exact g3
theorem UniI.op9 (h : UniI W l1 l2 n xs m F L b w') (d5 : L 5 = true) (d8 : L 8 = true) (d : L 9 = false) : UniI W l1 l2 n xs m F (doneAt L 9) (tellAt b 9 (.agg #[b 5, b 8])) w' := by
  have d11 := h.no11 (.inr (.inr (.inl d)))
  exact ⟨h.kept, h.c4, h.s5, h.s8, fun _ => ⟨⟨d5, d8⟩, rfl⟩, h.a10, fun e => (by rw [show doneAt L 9 11 = L 11 from rfl, d11] at e; cases e)⟩
theorem UniI.op10 (h : UniI W l1 l2 n xs m F L b w') (d : L 10 = false) : UniI W l1 l2 n xs m F (doneAt L 10) (tellAt b 10 (.pointer (some ⟨w'.heap.size, 0, none⟩))) (w'.alloc (.cells #[.slice none 0 0, .slice none 0 0] 25)) := by
  have h' := h.on ((Kept.refl w').alloc (.cells #[.slice none 0 0, .slice none 0 0] 25))
  have d11 := h.no11 (.inr (.inr (.inr d)))
  refine ⟨h'.kept, h'.c4, h'.s5, h'.s8, h'.a9, fun _ => ⟨_, rfl, kept_le h.kept, ?_⟩, fun e => (by rw [show doneAt L 10 11 = L 11 from rfl, d11] at e; cases e)⟩
  rw [show doneAt L 10 11 = L 11 from rfl, d11]
  exact heap_alloc_new w' _
theorem UniI.op11 {v : Value} {g : Nat} (h : UniI W l1 l2 n xs m F L b w') (d5 : L 5 = true) (d8 : L 8 = true) (d9 : L 9 = true) (d10 : L 10 = true) (hb : b 10 = .pointer (some ⟨g, 0, none⟩)) (hW : W.heap.size ≤ g) (hp : w'.heap[g]? = some (.cells #[.slice none 0 0, .slice none 0 0] 25 (0, 0))) :
    UniI W l1 l2 n xs m F (doneAt L 11) (tellAt b 11 v) (w'.setRow g #[b 5, b 8]) := by
  have hg := grown_setRow w' g #[b 5, b 8]
  refine ⟨row_kept2 h.kept hW, fun e => ?_, fun _ => own_row _ (h.s5 d5) hp (by decide), fun _ => own_row _ (h.s8 d8) hp (by decide), h.a9, fun _ => ⟨g, hb, hW, ?_⟩, fun _ => ⟨d5, d8, d9, d10⟩⟩
  · obtain ⟨g4, e1, e2⟩ := h.c4 e
    refine ⟨g4, e1, ?_⟩
    rw [hg.block g4 (Array.getElem?_eq_some_iff.1 e2).1 (fun q => ?_)]
    · exact e2
    · have q := Option.some.inj q
      rw [q, hp] at e2
      simp only [Option.some.injEq, Obj.cells.injEq] at e2
      exact absurd e2.2.1 (by decide)
  · rw [show doneAt L 11 11 = true from rfl, if_pos rfl]
    show _ = some (Obj.cells #[b 5, b 8] _ _)
    exact setRow_heap _ _ _ _ _ _ hp
end
theorem uni_first {m : Nat} (n : Nat) (F G : Nat → Nat → Int) : ∀ i, i < m → ∀ j, j < 3 → F i j = uniF n m F G i j := fun i hi j _ => by unfold uniF; rw [if_pos hi]
theorem rowC_plus {c : Nat} (f : Nat → Nat → Int) (k : Nat) : ∀ l, rowC c f (k + l) = rowC c f k ++ rowC c (fun i j => f (k + i) j) l
  | 0 => by simp [rowC]
  | l + 1 => by
    show rowC c f (k + l) ++ _ = rowC c f k ++ (rowC c _ l ++ _)
    rw [rowC_plus f k l, List.append_assoc]
    rfl
theorem uni_pts (n n2 : Nat) (P Q : Nat → Nat → Int) : rowC 3 P n ++ rowC 3 Q n2 = rowC 3 (uniP n P Q) (n + n2) := by
  rw [rowC_plus]
  congr 1
  · exact rowC_congr fun k hk j _ => by unfold uniP; rw [if_pos hk]
  · exact rowC_congr fun k _ j _ => by unfold uniP; rw [if_neg (by omega), Nat.add_sub_cancel_left]
/-- The error of two meshes together. -/
def uniE (n : Nat) (P : Nat → Nat → Int) (m : Nat) (F : Nat → Nat → Int) (n2 : Nat) (Q : Nat → Nat → Int) (m2 : Nat) (G : Nat → Nat → Int) : Int :=
  if validE n P m F ≠ 0 then validE n P m F else if validE n2 Q m2 G ≠ 0 then validE n2 Q m2 G else validE (n + n2) (uniP n P Q) (m + m2) (uniF n m F G)
set_option maxRecDepth 100000 in
set_option maxHeartbeats 16000000 in
theorem sUnite_any (A B A2 B2 : Option Addr) (n cap m cap2 n2 cap3 m2 cap4 : Nat) (P F Q G : Nat → Nat → Int) (w : World) (hn : n ≤ 9223372036854775807 ∧ m ≤ 9223372036854775807) (hn2 : n2 ≤ 9223372036854775807 ∧ m2 ≤ 9223372036854775807) (hP : RowsAt w A n 3 P) (hF : RowsAt w B m 3 F) (hQ : RowsAt w A2 n2 3 Q) (hG : RowsAt w B2 m2 3 G) :
    Calls Try.prog 19 #[.agg #[.slice A n cap, .slice B m cap2], .agg #[.slice A2 n2 cap3, .slice B2 m2 cap4]] w fun r w' => MeshO w w' r (uniE n P m F n2 Q m2 G) (n + n2) (uniP n P Q) (m + m2) (uniF n m F G) := by
  have HP := Lib.hid hP
  have HF := Lib.hid hF
  have HQ := Lib.hid hQ
  have HG := Lib.hid hG
  have hv1 : ∀ w', Kept w w' → Calls Try.prog 24 #[.agg #[.slice A n cap, .slice B m cap2]] w' fun r w'' => r = .returned (.int .i64 (validE n P m F)) ∧ Kept w' w'' := fun w' hk => svalidate_any A B n cap m cap2 P F w' hn (hP.of hk) (hF.of hk)
  have hv2 : ∀ w', Kept w w' → Calls Try.prog 24 #[.agg #[.slice A2 n2 cap3, .slice B2 m2 cap4]] w' fun r w'' => r = .returned (.int .i64 (validE n2 Q m2 G)) ∧ Kept w' w'' := fun w' hk => svalidate_any A2 B2 n2 cap3 m2 cap4 Q G w' hn2 (hQ.of hk) (hG.of hk)
  clear hP hF hQ hG
  obtain ⟨i1, hi, hz0, hz1, hz2⟩ := info_parts infoFace
  have HJ := Lib.hid (And.intro hi (And.intro hz0 (And.intro hz1 hz2)))
  clear hi hz0 hz1 hz2
  unfold uniE
  obtain ⟨e1, he1⟩ : ∃ e, validE n P m F = e := ⟨_, rfl⟩
  obtain ⟨e2, he2⟩ : ∃ e, validE n2 Q m2 G = e := ⟨_, rfl⟩
  rw [he1] at hv1
  rw [he2] at hv2
  have HV1 := Lib.hid hv1
  have HV2 := Lib.hid hv2
  clear hv1 hv2
  rw [he1, he2]
  by_cases h1 : e1 = 0
  case neg =>
    have h1b : (e1 == 0) = false := by simpa using h1
    rw [if_pos h1]
    have HE1 := Lib.hid he1
    have H1 := Lib.hid h1
    clear he1 he2 h1
    go_enter Try.func19, Try.ntmps19
    go_wp2_with (go_at_call 24; ((with_reducible refine (HV1.out _ (by (repeat (first | exact Kept.refl _ | assumption | refine Kept.alloc ?_ _ | refine Kept.ext ?_ _ | refine Kept.drew ?_ | refine Kept.drewN ?_ _)))).mono ?_); rintro e w1 ⟨rfl, x1, rfl⟩))
    refine bodyPost_ret (by simp only [results, Try.results19]; go_simp; rfl) rfl ?_
    exact MeshO.no H1.out (by (repeat (first | exact Kept.refl _ | assumption | refine Kept.alloc ?_ _ | refine Kept.ext ?_ _ | refine Kept.drew ?_ | refine Kept.drewN ?_ _)))
  subst h1
  rw [if_neg (by simp)]
  by_cases h2 : e2 = 0
  case neg =>
    have h2b : (e2 == 0) = false := by simpa using h2
    rw [if_pos h2]
    have HE1 := Lib.hid he1
    have HE2 := Lib.hid he2
    have H2 := Lib.hid h2
    clear he1 he2 h2
    go_enter Try.func19, Try.ntmps19
    go_wp2_with (go_at_call 24; first | ((with_reducible refine (HV1.out _ (by (repeat (first | exact Kept.refl _ | assumption | refine Kept.alloc ?_ _ | refine Kept.ext ?_ _ | refine Kept.drew ?_ | refine Kept.drewN ?_ _)))).mono ?_); rintro e w1 ⟨rfl, x1, rfl⟩) | ((with_reducible refine (HV2.out _ (by (repeat (first | exact Kept.refl _ | assumption | refine Kept.alloc ?_ _ | refine Kept.ext ?_ _ | refine Kept.drew ?_ | refine Kept.drewN ?_ _)))).mono ?_); rintro e w1 ⟨rfl, x2, rfl⟩))
    refine bodyPost_ret (by simp only [results, Try.results19]; go_simp; rfl) rfl ?_
    exact MeshO.no H2.out (by (repeat (first | exact Kept.refl _ | assumption | refine Kept.alloc ?_ _ | refine Kept.ext ?_ _ | refine Kept.drew ?_ | refine Kept.drewN ?_ _)))
  subst h2
  rw [if_neg (by simp)]
  have s1 := valid_sz he1
  have s2 := valid_sz he2
  have hin := (clo_of he2).inn
  have hn0 : 0 < n := by have := (clo_of he1).inn 0 (by omega) 0 (by omega); omega
  obtain ⟨e3, he3⟩ : ∃ e, validE (n + n2) (uniP n P Q) (m + m2) (uniF n m F G) = e := ⟨_, rfl⟩
  rw [he3]
  have HE1 := Lib.hid he1
  have HE2 := Lib.hid he2
  have HE3 := Lib.hid he3
  have HIN := Lib.hid hin
  have IFF := Lib.hid (rows_I HF.out)
  have IPP := Lib.hid (rows_I HP.out)
  have IQQ := Lib.hid (rows_I HQ.out)
  clear he1 he2 he3 hin hn hn2
  go_enter Try.func19, Try.ntmps19
  go_wp2_with (go_at_call 24; first | ((with_reducible refine (HV1.out _ (by (repeat (first | exact Kept.refl _ | assumption | refine Kept.alloc ?_ _ | refine Kept.ext ?_ _ | refine Kept.drew ?_ | refine Kept.drewN ?_ _)))).mono ?_); rintro e w1 ⟨rfl, x1, rfl⟩) | ((with_reducible refine (HV2.out _ (by (repeat (first | exact Kept.refl _ | assumption | refine Kept.alloc ?_ _ | refine Kept.ext ?_ _ | refine Kept.drew ?_ | refine Kept.drewN ?_ _)))).mono ?_); rintro e w1 ⟨rfl, x2, rfl⟩))
  refine wp_region_tellC (C := Kept (ext (ext (((w.alloc (.cells #[.slice A n cap, .slice B m cap2] 25)).alloc (.cells #[.slice A2 n2 cap3, .slice B2 m2 cap4] 25)).alloc (.cells #[.slice none 0 0, .slice none 0 0] 25)) x1) x2)) [.q, .q, .q, .q, .s, .s, .q, .q, .s, .s, .s, .k undef] (UniI (ext (ext (((w.alloc (.cells #[.slice A n cap, .slice B m cap2] 25)).alloc (.cells #[.slice A2 n2 cap3, .slice B2 m2 cap4] 25)).alloc (.cells #[.slice none 0 0, .slice none 0 0] 25)) x1) x2) (.slice A n cap) (.slice A2 n2 cap3) (n + n2) (rowC 3 P n ++ rowC 3 Q n2) m F) (by kernel_rfl) (by kernel_rfl) (fun b => by kernel_rfl) ?_ ?_ ?_ ?_
  · intro b
    exact ⟨by (repeat (first | exact Kept.refl _ | assumption | refine Kept.alloc ?_ _ | refine Kept.ext ?_ _ | refine Kept.drew ?_ | refine Kept.drewN ?_ _)), fun h => (by cases h), fun h => (by cases h), fun h => (by cases h), fun h => (by cases h), fun h => (by cases h), fun h => (by cases h)⟩
  · intro i L b w' w'' hs hI hk
    exact (hI.on hk).other (by rintro rfl; cases hs) (by rintro rfl; cases hs) (by rintro rfl; cases hs) (by rintro rfl; cases hs) (by rintro rfl; cases hs) (by rintro rfl; cases hs)
  · exact fun L b w' h => h.kept
  apply Exists.intro
  refine ⟨?_, ?_, ?_, ?_⟩
  · rintro b W ⟨y, rfl⟩
    simp only [swapL, Nat.reduceAdd]
    repeat (go_big_quiet_step (fail))
    refine wpQuiet_nil ?_
    rfl
  · simp only [EachS, and_true]
    refine ⟨?_, ?_, ?_, ?_, ?_, ?_⟩
    · intro L b w' hd hL hI
      go_simp
      exact ⟨rfl, hI.op4⟩
    · intro L b w' hd hL hI
      have d4 : L 4 = true := hd { on := 4, ground := .data } (by simp) rfl
      obtain ⟨g, g1, g2⟩ := hI.c4 d4
      go_simp
      exact (concat_any A A2 n cap n2 cap3 g P Q w' (by omega) (by omega) ((HP.out.of (by (repeat (first | exact Kept.refl _ | assumption | refine Kept.alloc ?_ _ | refine Kept.ext ?_ _ | refine Kept.drew ?_ | refine Kept.drewN ?_ _)))).of hI.kept) ((HQ.out.of (by (repeat (first | exact Kept.refl _ | assumption | refine Kept.alloc ?_ _ | refine Kept.ext ?_ _ | refine Kept.drew ?_ | refine Kept.drewN ?_ _)))).of hI.kept) g2).mono fun e w'' ⟨v, h1, h2, h3⟩ => ⟨v, h1, rfl, hI.op5 hL h2 h3⟩
    · intro L b w' hd hL hI
      go_simp
      exact (clone_any B m cap2 F w' (by omega) ((HF.out.of (by (repeat (first | exact Kept.refl _ | assumption | refine Kept.alloc ?_ _ | refine Kept.ext ?_ _ | refine Kept.drew ?_ | refine Kept.drewN ?_ _)))).of hI.kept)).mono fun e w'' ⟨v, h1, h2, h3⟩ => ⟨v, h1, rfl, hI.op8 hL h2 h3⟩
    · intro L b w' hd hL hI
      have d5 : L 5 = true := hd { on := 5, ground := .data } (by simp) rfl
      have d8 : L 8 = true := hd { on := 8, ground := .data } (by simp) rfl
      have h3 := hI.op9 d5 d8 hL
      obtain ⟨A3, c3, q3⟩ := own_slice2 (hI.s5 d5)
      obtain ⟨A7, c7, q7⟩ := own_slice2 (hI.s8 d8)
      rw [q3, q7] at h3
      go_simp
      exact ⟨rfl, h3⟩
    · intro L b w' hd hL hI
      go_simp
      exact ⟨rfl, hI.op10 hL⟩
    · intro L b w' hd hL hI
      have d5 : L 5 = true := hd { on := 5, ground := .phase } (by simp) rfl
      have d8 : L 8 = true := hd { on := 8, ground := .phase } (by simp) rfl
      have d9 : L 9 = true := hd { on := 9, ground := .phase } (by simp) rfl
      have d10 : L 10 = true := hd { on := 10, ground := .phase } (by simp) rfl
      obtain ⟨g, g1, g2, g3⟩ := hI.a10 d10
      rw [hL] at g3
      simp only [Bool.false_eq_true, if_false] at g3
      refine tells_put 25 (.tmp 8) (.tmp 33) rfl g (c := #[b 5, b 8]) g1 (hI.a9 d9).2 g3 (by kernel_rfl) rfl ?_ ?_
      · obtain ⟨A3, c3, q3⟩ := own_slice2 (hI.s5 d5)
        obtain ⟨A7, c7, q7⟩ := own_slice2 (hI.s8 d8)
        rw [q3, q7]
        simp [Value.oneCell']
      · exact ⟨rfl, hI.op11 d5 d8 d9 d10 g1 g2 g3⟩
  · intro b b' d hd
    simp [callSlots, dullOp] at hd
  · intro L b w' hL hI
    obtain ⟨gb, g1, g2, g3⟩ := hI.a10 (hL 10 (by decide))
    rw [if_pos (hL 11 (by decide))] at g3
    have h5 := hI.s5 (hL 5 (by decide))
    have h8 := hI.s8 (hL 8 (by decide))
    obtain ⟨A5, c5, q5⟩ := own_slice2 h5
    obtain ⟨A8, c8, q8⟩ := own_slice2 h8
    rw [q5, q8] at g3
    rw [q5, uni_pts] at h5
    rw [q8] at h8
    have hM : Msh2 (ext (ext (((w.alloc (.cells #[.slice A n cap, .slice B m cap2] 25)).alloc (.cells #[.slice A2 n2 cap3, .slice B2 m2 cap4] 25)).alloc (.cells #[.slice none 0 0, .slice none 0 0] 25)) x1) x2) (w.heap.size + 1 + 1) gb (.slice A5 (n + n2) c5) (n + n2) (uniP n P Q) (.slice A8 m c8) m (uniF n m F G) w' := by
      refine Msh2.congr (F := F) ⟨hI.kept, ?_, g3, h5, h8⟩ (fun _ _ _ _ => rfl) (uni_first n F G)
      exact fr_kept (fr_kept (alloc_now ((w.alloc (.cells #[.slice A n cap, .slice B m cap2] 25)).alloc (.cells #[.slice A2 n2 cap3, .slice B2 m2 cap4] 25)) _ _) (by (repeat (first | exact Kept.refl _ | assumption | refine Kept.alloc ?_ _ | refine Kept.ext ?_ _ | refine Kept.drew ?_ | refine Kept.drewN ?_ _)))) hI.kept
    have hrb : (w.heap.size + 1 + 1) ≠ gb := by simp [adv] at g2; omega
    have HM := Lib.hid hM
    clear hL hI g3 h5 h8 q5 q8 hM
    have kb : w'.cell? ⟨w.heap.size + 1, 1, none⟩ = some (.slice B2 m2 cap4) := kept_cell (w := (ext (ext (((w.alloc (.cells #[.slice A n cap, .slice B m cap2] 25)).alloc (.cells #[.slice A2 n2 cap3, .slice B2 m2 cap4] 25)).alloc (.cells #[.slice none 0 0, .slice none 0 0] 25)) x1) x2)) (by go_simp) HM.out.kept
    have ka : w'.cell? ⟨w.heap.size, 0, none⟩ = some (.slice A n cap) := kept_cell (w := (ext (ext (((w.alloc (.cells #[.slice A n cap, .slice B m cap2] 25)).alloc (.cells #[.slice A2 n2 cap3, .slice B2 m2 cap4] 25)).alloc (.cells #[.slice none 0 0, .slice none 0 0] 25)) x1) x2)) (by go_simp) HM.out.kept
    have LKB : Lower (w.heap.size + 1) w'.heap.size := ⟨cell_lt kb⟩
    have LKA : Lower w.heap.size w'.heap.size := ⟨cell_lt ka⟩
    go_simp
    go_wp2_with fail
    go_loopw [40] (fun i wr => ∃ k : Nat, k ≤ m2 ∧ i = .int .i64 k ∧ ∃ v, Msh2 (ext (ext (((w.alloc (.cells #[.slice A n cap, .slice B m cap2] 25)).alloc (.cells #[.slice A2 n2 cap3, .slice B2 m2 cap4] 25)).alloc (.cells #[.slice none 0 0, .slice none 0 0] 25)) x1) x2) (w.heap.size + 1 + 1) gb (.slice A5 (n + n2) c5) (n + n2) (uniP n P Q) v (m + k) (uniF n m F G) wr) (fun i _ => m2 - (intOf i).toNat)
    case atStart => exact ⟨0, by omega, rfl, _, HM.out⟩
    case round =>
      clear HM kb ka LKA LKB g1
      obtain ⟨k, hk, rfl, v, hM⟩ := hrel
      obtain ⟨A9, c9, rfl, hc9⟩ := own_sl hM.f
      obtain ⟨m0, m1, z0, z1⟩ := cells2 hM.q
      have LM : Lower gb wr.heap.size := ⟨cell_lt m0⟩
      by_cases hlt : k < m2
      · have hk0 : Kept w wr := (by (repeat (first | exact Kept.refl _ | assumption | refine Kept.alloc ?_ _ | refine Kept.ext ?_ _ | refine Kept.drew ?_ | refine Kept.drewN ?_ _)) : Kept w (ext (ext (((w.alloc (.cells #[.slice A n cap, .slice B m cap2] 25)).alloc (.cells #[.slice A2 n2 cap3, .slice B2 m2 cap4] 25)).alloc (.cells #[.slice none 0 0, .slice none 0 0] 25)) x1) x2)).trans hM.kept
        obtain ⟨fb, off, rfl, hb, f0, f1, f2⟩ := rows3 (HG.out.of hk0) hlt
        have LB : Lower fb wr.heap.size := ⟨hb⟩
        have n0 := HIN.out k hlt 0 (by omega)
        have n1 := HIN.out k hlt 1 (by omega)
        have n2' := HIN.out k hlt 2 (by omega)
        have hle := kept_le hM.kept
        simp only [ext_size, World.size_alloc] at hle
        have HM := Lib.hid hM
        clear hM hb hk0
        have b0 : -9223372036854775808 ≤ G k 0 + n ∧ G k 0 + n ≤ 9223372036854775807 := by omega
        have b1 : -9223372036854775808 ≤ G k 1 + n ∧ G k 1 + n ≤ 9223372036854775807 := by omega
        have b2 : -9223372036854775808 ≤ G k 2 + n ∧ G k 2 + n ≤ 9223372036854775807 := by omega
        go_wp2_with (at_builtin; refine wpList_append_lies _ rfl _ _ _ rfl _ 55 i1 _ 3 24 Try.underlying23 HJ.out.1 HJ.out.2.1 HJ.out.2.2.1 HJ.out.2.2.2 rfl (by omega) (.slice A9 (m + k) c9) (m + k) (rowC 3 (uniF n m F G) (m + k)) rfl (owns_kept HM.out.f (by (repeat (first | exact Kept.refl _ | assumption | refine Kept.alloc ?_ _ | refine Kept.ext ?_ _ | refine Kept.drew ?_ | refine Kept.drewN ?_ _)))) _ 1 1 [.int .i64 (G k 0 + n), .int .i64 (G k 1 + n), .int .i64 (G k 2 + n)] rfl rfl (World.news_of_block (alloc_now _ _ _)) (by simp [Value.oneCell']) (by omega) (by unfold maxLen; omega) (by omega) (kept_le (HM.out.kept.trans (by (repeat (first | exact Kept.refl _ | assumption | refine Kept.alloc ?_ _ | refine Kept.ext ?_ _ | refine Kept.drew ?_ | refine Kept.drewN ?_ _))))) _ rfl ?_; intro g cp w2 hown2 hg2 hat hlt2; have hm2 := own_keepsB (owns_kept HM.out.f (by (repeat (first | exact Kept.refl _ | assumption | refine Kept.alloc ?_ _ | refine Kept.ext ?_ _ | refine Kept.drew ?_ | refine Kept.drewN ?_ _)))) hg2 (fr_kept HM.out.q (by (repeat (first | exact Kept.refl _ | assumption | refine Kept.alloc ?_ _ | refine Kept.ext ?_ _ | refine Kept.drew ?_ | refine Kept.drewN ?_ _)))) (by decide); obtain ⟨m0, m1, z0, z1⟩ := cells2 hm2; have LM : Lower gb w2.heap.size := ⟨cell_lt m0⟩; have hg3 : World.grownBy _ w2 (Value.ownBlock (.slice A9 (m + k) c9)) := hg2; have HO2 := Lib.hid (And.intro hown2 hg3); clear hown2 hg2 hg3 hat hlt2 hm2)
        go_roundw
        case rel =>
          refine ⟨k + 1, by omega, by go_num, .slice (some ⟨g, 0, none⟩) (m + k + 1) cp, ?_⟩
          refine Msh2.appF (m := m + k) (d := 1) HM.out (by (repeat (first | exact Kept.refl _ | assumption | refine Kept.alloc ?_ _ | refine Kept.ext ?_ _ | refine Kept.drew ?_ | refine Kept.drewN ?_ _))) ?_ HO2.out.2 hrb g2
          have e : rowC 3 (uniF n m F G) (m + k + 1) = rowC 3 (uniF n m F G) (m + k) ++ [.int .i64 (G k 0 + n), .int .i64 (G k 1 + n), .int .i64 (G k 2 + n)] := by
            rw [rowC_succ3]
            unfold uniF
            simp only [show ¬ m + k < m by omega, if_false, Nat.add_sub_cancel_left]
          rw [e]
          exact HO2.out.1
        case measure => simp [intOf]; omega
      · obtain rfl : k = m2 := by omega
        have hP3 := rows_of_owns hM.p (fun i hi j hj => by
          unfold uniP
          split
          · exact IPP.out i (by omega) j hj
          · exact IQQ.out (i - n) (by omega) j hj)
        have hF3 := rows_of_owns hM.f (fun i hi j hj => by
          unfold uniF
          split
          · exact IFF.out i (by omega) j hj
          · have := HIN.out (i - m) (by omega) j hj
            unfold I64
            omega)
        have HP3 := Lib.hid hP3
        have HF3 := Lib.hid hF3
        obtain ⟨r0, r1, y0, y1⟩ := cells2 hM.r
        have LR : Lower (w.heap.size + 1 + 1) wr.heap.size := ⟨cell_lt r0⟩
        have HM := Lib.hid hM
        clear hM hP3 hF3
        clear r0 r1 y0 y1 LR
        go_wp2_with fail
        refine (sresultK_any _ _ _ _ _ _ (uniP n P Q) (uniF n m F G) _ (by omega) (HP3.out.of (by (repeat (first | exact Kept.refl _ | assumption | refine Kept.alloc ?_ _ | refine Kept.ext ?_ _ | refine Kept.drew ?_ | refine Kept.drewN ?_ _)))) (HF3.out.of (by (repeat (first | exact Kept.refl _ | assumption | refine Kept.alloc ?_ _ | refine Kept.ext ?_ _ | refine Kept.drew ?_ | refine Kept.drewN ?_ _))))).mono ?_
        rintro r w1 ⟨rfl, x9, rfl⟩
        have HR := Lib.hid (fr_kept HM.out.r (by (repeat (first | exact Kept.refl _ | assumption | refine Kept.alloc ?_ _ | refine Kept.ext ?_ _ | refine Kept.drew ?_ | refine Kept.drewN ?_ _)) : Kept wr (ext wr x9)))
        rw [HE3.out]
        obtain ⟨q1, q2, -, -⟩ := cells2 (setRow_heap _ _ _ #[.slice (okA e3 A5) (okN e3 (n + n2)) (okN e3 c5), .slice (okA e3 A9) (okN e3 (m + k)) (okN e3 c9)] _ _ HR.out)
        go_wp2_with (refine wpList_store_row rfl 25 (.tmp 4) (.tmp 65) rfl (w.heap.size + 1 + 1) _ rfl rfl _ _ HR.out (by kernel_rfl) rfl (by simp [Value.oneCell']) ?_)
        refine bodyPost_ret (by simp only [results, Try.results19]; go_simp; rfl) rfl ?_
        exact HM.out.fin2 (by (repeat (first | exact Kept.refl _ | assumption | refine Kept.alloc ?_ _ | refine Kept.ext ?_ _ | refine Kept.drew ?_ | refine Kept.drewN ?_ _))) e3 (by (repeat (first | exact Kept.refl _ | assumption | refine Kept.alloc ?_ _ | refine Kept.ext ?_ _ | refine Kept.drew ?_ | refine Kept.drewN ?_ _))) (by omega)
end Go.Proofs.Ytbhcjdgfcinpcaa
