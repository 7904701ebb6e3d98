/- Contract: a mesh in new memory, of the reference. Conditions: the lists are not long. A mesh in new memory while it is made: its two lists, the block that holds them, the result's block. Contracts: a mesh or its error, list by list. Conditions: the lists' lengths are ints. A point appended to the points of a mesh that is being made, in a drawn order: what is known at each step. No conditions but those of each theorem. -/
import Derived.Test.YtbhcjdgfcinpcaaGbl
import Derived.Test.YtbhcjdgfcinpcaaGbx
import Derived.Test.YtbhcjdgfcinpcaaCop
namespace Go.Proofs.Ytbhcjdgfcinpcaa
set_option linter.unusedVariables false
set_option linter.unusedSimpArgs false
open Go.RowKit Go.Deep
theorem infoFace : (Try.prog.info? 55).map (fun i => (i.zero, i.size, i.bytes)) = some (some (.agg #[.int .i64 0, .int .i64 0, .int .i64 0]), 3, 24) := by kernel_rfl
theorem dn {L : Nat → Bool} {i j : Nat} (h : j ≠ i) : doneAt L i j = L j := if_neg h
theorem tn {b : Nat → Value} {i j : Nat} {v : Value} (h : j ≠ i) : tellAt b i v j = b j := if_neg h
theorem own_mono {w : World} {base base' size n : Nat} {e : TypeId} {v : Value} {xs : List Value} (h : w.ownsRow base e size v n xs) (hb : base' ≤ base) : w.ownsRow base' e size v n xs := by
  refine ⟨h.1, ?_⟩
  rcases h.2 with h0 | ⟨g, cap, cur, hv, h1, h2⟩
  · exact .inl h0
  · exact .inr ⟨g, cap, cur, hv, by omega, h2⟩
/-- The state of the copy in a drawn order: 0 and 4 make the lists, 3 and 7 append, 9 stores. -/
structure CopI (W : World) (rb n : Nat) (P : Nat → Nat → Int) (m : Nat) (F : Nat → Nat → Int) (L : Nat → Bool) (b : Nat → Value) (w' : World) : Prop where
  kept : Kept W w'
  a3 : L 3 = true → L 0 = true
  a7 : L 7 = true → L 4 = true
  a9 : L 9 = true → L 3 = true ∧ L 7 = true ∧ L 8 = true
  s0 : L 0 = true → L 3 = false → w'.ownsRow W.heap.size 27 3 (b 0) 0 []
  s3 : L 3 = true → w'.ownsRow W.heap.size 27 3 (b 3) n (rowC 3 P n)
  s4 : L 4 = true → L 7 = false → w'.ownsRow W.heap.size 55 3 (b 4) 0 []
  s7 : L 7 = true → w'.ownsRow W.heap.size 55 3 (b 7) m (rowC 3 F m)
  a8 : L 8 = true → (L 3 = true ∧ L 7 = true) ∧ b 8 = .agg #[b 3, b 7]
  p : w'.heap[rb]? = some (.cells (if L 9 = true then #[b 3, b 7] else #[.slice none 0 0, .slice none 0 0]) 25 (0, 0))
section
variable {W : World} {rb n m : Nat} {P F : Nat → Nat → Int} {L : Nat → Bool} {b : Nat → Value} {w' w'' : World}
theorem CopI.on (h : CopI W rb n P m F L b w') (hk : Kept w' w'') : CopI W rb n P m F L b w'' :=
  ⟨h.kept.trans hk, h.a3, h.a7, h.a9, fun e e' => owns_kept (h.s0 e e') hk, fun e => owns_kept (h.s3 e) hk, fun e e' => owns_kept (h.s4 e e') hk, fun e => owns_kept (h.s7 e) hk, h.a8, fr_kept h.p hk⟩
theorem CopI.other (h : CopI W rb n P m F L b w') {i : Nat} (h0 : i ≠ 0) (h3 : i ≠ 3) (h4 : i ≠ 4) (h7 : i ≠ 7) (h8 : i ≠ 8) (h9 : i ≠ 9) : CopI W rb n P m F (doneAt L i) b w' := by
  refine ⟨h.kept, ?_, ?_, ?_, ?_, ?_, ?_, ?_, ?_, ?_⟩
  · rw [dn (Ne.symm h0), dn (Ne.symm h3)]; exact h.a3
  · rw [dn (Ne.symm h7), dn (Ne.symm h4)]; exact h.a7
  · rw [dn (Ne.symm h9), dn (Ne.symm h3), dn (Ne.symm h7), dn (Ne.symm h8)]; exact h.a9
  · rw [dn (Ne.symm h0), dn (Ne.symm h3)]; exact h.s0
  · rw [dn (Ne.symm h3)]; exact h.s3
  · rw [dn (Ne.symm h4), dn (Ne.symm h7)]; exact h.s4
  · rw [dn (Ne.symm h7)]; exact h.s7
  · rw [dn (Ne.symm h8), dn (Ne.symm h3), dn (Ne.symm h7)]; exact h.a8
  · rw [dn (Ne.symm h9)]; exact h.p
theorem CopI.no9 (h : CopI W rb n P m F L b w') (h3 : L 3 = false ∨ L 7 = false) : L 9 = false := by
  cases h9 : L 9 with
  | false => rfl
  | true =>
    have := h.a9 h9
    rw [this.1, this.2.1] at h3
    simp at h3
theorem CopI.no89 (h : CopI W rb n P m F L b w') (h8 : L 8 = false) : L 9 = false := by
  cases h9 : L 9 with
  | false => rfl
  | true => rw [(h.a9 h9).2.2] at h8; cases h8
theorem CopI.no8 (h : CopI W rb n P m F L b w') (h3 : L 3 = false ∨ L 7 = false) : L 8 = false := by
  cases h8 : L 8 with
  | false => rfl
  | true =>
    have := (h.a8 h8).1
    rw [this.1, this.2] at h3
    simp at h3
theorem CopI.op0 (h : CopI W rb n P m F L b w') (d : L 0 = false) : CopI W rb n P m F (doneAt L 0) (tellAt b 0 (.slice (some ⟨w'.heap.size, 0, none⟩) 0 0)) (w'.alloc (.cells #[] 27)) := by
  have h' := h.on ((Kept.refl w').alloc (.cells #[] 27))
  exact ⟨h'.kept, fun _ => rfl, h'.a7, h'.a9, fun _ _ => own_new _ _ (kept_le h.kept), h'.s3, h'.s4, h'.s7, h'.a8, h'.p⟩
theorem CopI.op4 (h : CopI W rb n P m F L b w') (d : L 4 = false) : CopI W rb n P m F (doneAt L 4) (tellAt b 4 (.slice (some ⟨w'.heap.size, 0, none⟩) 0 0)) (w'.alloc (.cells #[] 55)) := by
  have h' := h.on ((Kept.refl w').alloc (.cells #[] 55))
  exact ⟨h'.kept, h'.a3, fun _ => rfl, h'.a9, h'.s0, h'.s3, fun _ _ => own_new _ _ (kept_le h.kept), h'.s7, h'.a8, h'.p⟩
theorem CopI.op3 {v' : Value} (h : CopI W rb n P m F L b w') (d0 : L 0 = true) (d : L 3 = false) (hown : w''.ownsRow W.heap.size 27 3 v' n (rowC 3 P n)) (hg : w'.grownBy w'' (b 0).ownBlock) :
    CopI W rb n P m F (doneAt L 3) (tellAt b 3 v') w'' := by
  have d9 := h.no9 (.inl d)
  have ho := h.s0 d0 d
  have hp := h.p
  rw [d9] at hp
  refine ⟨kept_grown h.kept ho (Nat.le_refl _) hg, fun _ => d0, h.a7, fun e => (by rw [show doneAt L 3 9 = L 9 from rfl, d9] at e; cases e), fun _ e => (by cases e), fun _ => hown, fun e e' => (h.s4 e e').kept hg (own_ne2 ho (h.s4 e e') (by decide)), fun e => (h.s7 e).kept hg (own_ne2 ho (h.s7 e) (by decide)), fun e => (by rw [show doneAt L 3 8 = L 8 from rfl, h.no8 (.inl d)] at e; cases e), ?_⟩
  rw [show doneAt L 3 9 = L 9 from rfl, d9]
  exact own_keepsB ho hg hp (by decide)
theorem CopI.op7 {v' : Value} (h : CopI W rb n P m F L b w') (d4 : L 4 = true) (d : L 7 = false) (hown : w''.ownsRow W.heap.size 55 3 v' m (rowC 3 F m)) (hg : w'.grownBy w'' (b 4).ownBlock) :
    CopI W rb n P m F (doneAt L 7) (tellAt b 7 v') w'' := by
  have d9 := h.no9 (.inr d)
  have ho := h.s4 d4 d
  have hp := h.p
  rw [d9] at hp
  refine ⟨kept_grown h.kept ho (Nat.le_refl _) hg, h.a3, fun _ => d4, fun e => (by rw [show doneAt L 7 9 = L 9 from rfl, d9] at e; cases e), fun e e' => (h.s0 e e').kept hg (own_ne2 ho (h.s0 e e') (by decide)), fun e => (h.s3 e).kept hg (own_ne2 ho (h.s3 e) (by decide)), fun _ e => (by cases e), fun _ => hown, fun e => (by rw [show doneAt L 7 8 = L 8 from rfl, h.no8 (.inr d)] at e; cases e), ?_⟩
  rw [show doneAt L 7 9 = L 9 from rfl, d9]
  exact own_keepsB ho hg hp (by decide)
theorem CopI.op8 (h : CopI W rb n P m F L b w') (d3 : L 3 = true) (d7 : L 7 = true) (d9 : L 9 = false) : CopI W rb n P m F (doneAt L 8) (tellAt b 8 (.agg #[b 3, b 7])) w' :=
  ⟨h.kept, h.a3, h.a7, fun e => (by rw [show doneAt L 8 9 = L 9 from rfl, d9] at e; cases e), h.s0, h.s3, h.s4, h.s7, fun _ => ⟨⟨d3, d7⟩, rfl⟩, h.p⟩
theorem CopI.op9 {v : Value} (h : CopI W rb n P m F L b w') (d3 : L 3 = true) (d7 : L 7 = true) (d8 : L 8 = true) (hW : W.heap.size ≤ rb) (d9 : L 9 = false) :
    CopI W rb n P m F (doneAt L 9) (tellAt b 9 v) (w'.setRow rb #[b 3, b 7]) := by
  have hp := h.p
  have hg := grown_setRow w' rb #[b 3, b 7]
  refine ⟨row_kept2 h.kept hW, h.a3, h.a7, fun _ => ⟨d3, d7, d8⟩, fun _ e => (by rw [show doneAt L 9 3 = L 3 from rfl, d3] at e; cases e), fun e => (h.s3 d3).kept hg (.inr fun q => own_ne (h.s3 d3) hp (by decide) q.symm), fun _ e => (by rw [show doneAt L 9 7 = L 7 from rfl, d7] at e; cases e), fun e => (h.s7 d7).kept hg (.inr fun q => own_ne (h.s7 d7) hp (by decide) q.symm), h.a8, ?_⟩
  exact setRow_heap _ _ _ _ _ _ hp
end
end Go.Proofs.Ytbhcjdgfcinpcaa
namespace Go.Proofs.Ytbhcjdgfcinpcaa
set_option linter.unusedVariables false
set_option linter.unusedSimpArgs false
open Go.RowKit Go.Deep
/-- Where a list of a mesh lies that is returned with error e. -/
def okA (e : Int) (A : Option Addr) : Option Addr := if e = 0 then A else none
set_option maxRecDepth 100000 in
theorem sresultK_any (A B : Option Addr) (n cap m cap2 : Nat) (P F : Nat → Nat → Int) (w : World) (hn : n ≤ 9223372036854775807 ∧ m ≤ 9223372036854775807) (hP : RowsAt w A n 3 P) (hF : RowsAt w B m 3 F) :
    Calls Try.prog 23 #[.agg #[.slice A n cap, .slice B m cap2]] w fun r w' => r = .returned (.tuple #[.agg #[.slice (okA (validE n P m F) A) (okN (validE n P m F) n) (okN (validE n P m F) cap), .slice (okA (validE n P m F) B) (okN (validE n P m F) m) (okN (validE n P m F) cap2)], .int .i64 (validE n P m F)]) ∧ Kept w w' := by
  have HP := Lib.hid hP
  have HF := Lib.hid hF
  clear hP hF
  by_cases hv : validE n P m F = 0
  · have HV := Lib.hid hv
    clear hv
    go_enter Try.func23, Try.ntmps23
    go_wp2_with (go_at_call 24; refine (svalidate_any _ _ _ _ _ _ P F _ hn (HP.out.of (by (repeat (first | exact Kept.refl _ | assumption | refine Kept.alloc ?_ _ | refine Kept.ext ?_ _ | refine Kept.drew ?_ | refine Kept.drewN ?_ _)))) (HF.out.of (by (repeat (first | exact Kept.refl _ | assumption | refine Kept.alloc ?_ _ | refine Kept.ext ?_ _ | refine Kept.drew ?_ | refine Kept.drewN ?_ _))))).mono ?_; rintro e w1 ⟨rfl, x, rfl⟩; rw [HV.out])
    refine bodyPost_ret (by simp only [results, Try.results23]; go_simp; rfl) rfl ?_
    rw [HV.out]
    exact ⟨rfl, by (repeat (first | exact Kept.refl _ | assumption | refine Kept.alloc ?_ _ | refine Kept.ext ?_ _ | refine Kept.drew ?_ | refine Kept.drewN ?_ _))⟩
  · obtain ⟨e, he⟩ : ∃ e, validE n P m F = e := ⟨_, rfl⟩
    rw [he] at hv
    have HV := Lib.hid he
    clear he
    have hv2 : (e == 0) = false := by simpa using hv
    have hv3 : decide (e = 0) = false := by simpa using hv
    go_enter Try.func23, Try.ntmps23
    go_wp2_with (go_at_call 24; refine (svalidate_any _ _ _ _ _ _ P F _ hn (HP.out.of (by (repeat (first | exact Kept.refl _ | assumption | refine Kept.alloc ?_ _ | refine Kept.ext ?_ _ | refine Kept.drew ?_ | refine Kept.drewN ?_ _)))) (HF.out.of (by (repeat (first | exact Kept.refl _ | assumption | refine Kept.alloc ?_ _ | refine Kept.ext ?_ _ | refine Kept.drew ?_ | refine Kept.drewN ?_ _))))).mono ?_; rintro e w1 ⟨rfl, x, rfl⟩; rw [HV.out])
    refine bodyPost_ret (by simp only [results, Try.results23]; go_simp; rfl) rfl ?_
    rw [HV.out]
    have ek : ∀ n, okN e n = 0 := fun n => if_neg hv
    have ea : ∀ A, okA e A = none := fun A => if_neg hv
    rw [ek, ek, ek, ek, ea, ea]
    exact ⟨rfl, by (repeat (first | exact Kept.refl _ | assumption | refine Kept.alloc ?_ _ | refine Kept.ext ?_ _ | refine Kept.drew ?_ | refine Kept.drewN ?_ _))⟩
theorem own_ok {w : World} {base n cap : Nat} {t : TypeId} {A : Option Addr} {f : Nat → Nat → Int} (e : Int) (h : w.ownsRow base t 3 (.slice A n cap) n (rowC 3 f n)) : w.ownsRow base t 3 (.slice (okA e A) (okN e n) (okN e cap)) (okN e n) (rowC 3 f (okN e n)) := by
  by_cases he : e = 0
  · rw [show okA e A = A from if_pos he, show okN e n = n from if_pos he, show okN e cap = cap from if_pos he]
    exact h
  · rw [show okA e A = none from if_neg he, show okN e n = 0 from if_neg he, show okN e cap = 0 from if_neg he]
    exact World.ownsRow_nil _ _ _ _
/-- What a function returns that makes a mesh in new memory. -/
def MeshO (w w' : World) (r : Ending) (e : Int) (n : Nat) (P : Nat → Nat → Int) (m : Nat) (F : Nat → Nat → Int) : Prop :=
  ∃ A cap B cap2, r = .returned (.tuple #[.agg #[.slice A (okN e n) cap, .slice B (okN e m) cap2], .int .i64 e]) ∧ Kept w w' ∧ w'.ownsRow w.heap.size 27 3 (.slice A (okN e n) cap) (okN e n) (rowC 3 P (okN e n)) ∧ w'.ownsRow w.heap.size 55 3 (.slice B (okN e m) cap2) (okN e m) (rowC 3 F (okN e m))
theorem MeshO.no {w w' : World} {e : Int} {n m : Nat} {P F : Nat → Nat → Int} (he : e ≠ 0) (hk : Kept w w') : MeshO w w' (.returned (.tuple #[.agg #[.slice none 0 0, .slice none 0 0], .int .i64 e])) e n P m F := by
  unfold MeshO
  rw [show okN e n = 0 from if_neg he, show okN e m = 0 from if_neg he]
  exact ⟨none, 0, none, 0, rfl, hk, World.ownsRow_nil _ _ _ _, World.ownsRow_nil _ _ _ _⟩
/-- A mesh that is being made. -/
structure Msh2 (W : World) (rb mb : Nat) (vP : Value) (n : Nat) (P : Nat → Nat → Int) (vF : Value) (m : Nat) (F : Nat → Nat → Int) (wr : World) : Prop where
  kept : Kept W wr
  r : wr.heap[rb]? = some (.cells #[.slice none 0 0, .slice none 0 0] 25 (0, 0))
  q : wr.heap[mb]? = some (.cells #[vP, vF] 25 (0, 0))
  p : wr.ownsRow W.heap.size 27 3 vP n (rowC 3 P n)
  f : wr.ownsRow W.heap.size 55 3 vF m (rowC 3 F m)
section
variable {W wr wr' : World} {rb mb n m k g cap : Nat} {vP vF : Value} {P F P' F' : Nat → Nat → Int}
theorem Msh2.on (h : Msh2 W rb mb vP n P vF m F wr) (hk : Kept wr wr') : Msh2 W rb mb vP n P vF m F wr' :=
  ⟨h.kept.trans hk, fr_kept h.r hk, fr_kept h.q hk, owns_kept h.p hk, owns_kept h.f hk⟩
theorem Msh2.congr (h : Msh2 W rb mb vP n P vF m F wr) (hP : ∀ i, i < n → ∀ j, j < 3 → P i j = P' i j) (hF : ∀ i, i < m → ∀ j, j < 3 → F i j = F' i j) : Msh2 W rb mb vP n P' vF m F' wr := by
  refine ⟨h.kept, h.r, h.q, ?_, ?_⟩
  · rw [← rowC_congr hP]; exact h.p
  · rw [← rowC_congr hF]; exact h.f
theorem own_head {w : World} {base n c cp : Nat} {e : TypeId} {A : Option Addr} {xs : List Value} (h : w.ownsRow base e c (.slice A n cp) n xs) (hn : 0 < n) : ∃ g, A = some ⟨g, 0, none⟩ ∧ base ≤ g ∧ g < w.heap.size := by
  rcases h.2 with ⟨-, rfl⟩ | ⟨g', cap', cur, hv, hb, hg, -⟩
  · omega
  · simp only [Value.slice.injEq] at hv
    exact ⟨g', hv.1, hb, (Array.getElem?_eq_some_iff.1 hg).1⟩
/-- Points stored into. -/
theorem Msh2.byP (h : Msh2 W rb mb (.slice (some ⟨g, 0, none⟩) n cap) n P vF m F wr) (hg : wr.grownBy wr' (some g)) (hp : wr'.ownsRow W.heap.size 27 3 (.slice (some ⟨g, 0, none⟩) n cap) n (rowC 3 P' n)) : Msh2 W rb mb (.slice (some ⟨g, 0, none⟩) n cap) n P' vF m F wr' := by
  have hb := (h.p.lt g rfl).1
  exact ⟨h.kept.map_store hb hg, own_keepsB h.p hg h.r (by decide), own_keepsB h.p hg h.q (by decide), hp, h.f.kept hg (own_ne2 h.p h.f (by decide))⟩
theorem Msh2.putP (h : Msh2 W rb mb (.slice (some ⟨g, 0, none⟩) n cap) n P vF m F wr) (hk : k < n) (z0 z1 z2 : Int) : Msh2 W rb mb (.slice (some ⟨g, 0, none⟩) n cap) n (putF P k z0 z1 z2) vF m F (wr.setCells g (k * 3) [.int .i64 z0, .int .i64 z1, .int .i64 z2]) :=
  h.byP (own_put h.p hk z0 z1 z2).2 (own_put h.p hk z0 z1 z2).1
theorem Msh2.setP (h : Msh2 W rb mb (.slice (some ⟨g, 0, none⟩) n cap) n P vF m F wr) (hk : k < n) {j : Nat} (hj : j < 3) (z : Int) : Msh2 W rb mb (.slice (some ⟨g, 0, none⟩) n cap) n (setF P k j z) vF m F (wr.setCell ⟨g, k * 3 + j, none⟩ (.int .i64 z)) :=
  h.byP (own_set h.p hk hj z).2 (own_set h.p hk hj z).1
/-- Faces stored into. -/
theorem Msh2.byF (h : Msh2 W rb mb vP n P (.slice (some ⟨g, 0, none⟩) m cap) m F wr) (hg : wr.grownBy wr' (some g)) (hp : wr'.ownsRow W.heap.size 55 3 (.slice (some ⟨g, 0, none⟩) m cap) m (rowC 3 F' m)) : Msh2 W rb mb vP n P (.slice (some ⟨g, 0, none⟩) m cap) m F' wr' := by
  have hb := (h.f.lt g rfl).1
  exact ⟨h.kept.map_store hb hg, own_keepsB h.f hg h.r (by decide), own_keepsB h.f hg h.q (by decide), h.p.kept hg (own_ne2 h.f h.p (by decide)), hp⟩
theorem Msh2.putF (h : Msh2 W rb mb vP n P (.slice (some ⟨g, 0, none⟩) m cap) m F wr) (hk : k < m) (z0 z1 z2 : Int) : Msh2 W rb mb vP n P (.slice (some ⟨g, 0, none⟩) m cap) m (putF F k z0 z1 z2) (wr.setCells g (k * 3) [.int .i64 z0, .int .i64 z1, .int .i64 z2]) :=
  h.byF (own_put h.f hk z0 z1 z2).2 (own_put h.f hk z0 z1 z2).1
theorem own_cells {w : World} {base n cp k : Nat} {e : TypeId} {f : Nat → Nat → Int} (h : w.ownsRow base e 3 (.slice (some ⟨g, 0, none⟩) n cp) n (rowC 3 f n)) (hk : k < n) :
    w.cell? ⟨g, k * 3, none⟩ = some (.int .i64 (f k 0)) ∧ w.cell? ⟨g, k * 3 + 1, none⟩ = some (.int .i64 (f k 1)) ∧ w.cell? ⟨g, k * 3 + 2, none⟩ = some (.int .i64 (f k 2)) := by
  refine ⟨?_, ?_, ?_⟩
  · have := rowC_get 3 f hk (show 0 < 3 by omega)
    rw [← this, ← h.cellAt (k * 3 + 0) (by omega)]
    rfl
  · rw [h.cellAt (k * 3 + 1) (by omega), rowC_get 3 f hk (by omega)]
  · rw [h.cellAt (k * 3 + 2) (by omega), rowC_get 3 f hk (by omega)]
theorem own_row {w : World} {base n c rb : Nat} {e T : TypeId} {v : Value} {xs : List Value} {old : Array Value} (cs : Array Value) (h : w.ownsRow base e c v n xs) (hr : w.heap[rb]? = some (.cells old T (0, 0))) (hT : T ≠ e) : (w.setRow rb cs).ownsRow base e c v n xs :=
  h.kept (grown_setRow w rb cs) (.inr fun q => own_ne h hr hT q.symm)
/-- The end: the mesh, or none with its error, in the result's block. -/
theorem Msh2.fin {w wx : World} {A B : Option Addr} {c1 c2 : Nat} (h : Msh2 W rb mb (.slice A n c1) n P (.slice B m c2) m F wr) (hw : Kept w W) (e : Int) (hk : Kept wr wx) (hrb : W.heap.size ≤ rb) :
    MeshO w (wx.setRow rb #[.slice (okA e A) (okN e n) (okN e c1), .slice (okA e B) (okN e m) (okN e c2)]) (.returned (.tuple #[.agg #[.slice (okA e A) (okN e n) (okN e c1), .slice (okA e B) (okN e m) (okN e c2)], .int .i64 e])) e n P m F := by
  have h' := h.on hk
  have hle := kept_le hw
  exact ⟨_, _, _, _, rfl, (hw.trans h'.kept).map_store (by omega) (grown_setRow _ _ _), own_mono (own_row _ (own_ok e h'.p) h'.r (by decide)) hle, own_mono (own_row _ (own_ok e h'.f) h'.r (by decide)) hle⟩
/-- The first k elements changed. -/
def mixF (k : Nat) (P' P : Nat → Nat → Int) : Nat → Nat → Int := fun i j => if i < k then P' i j else P i j
theorem mix_at (k : Nat) (P' P : Nat → Nat → Int) (j : Nat) : mixF k P' P k j = P k j := if_neg (Nat.lt_irrefl k)
theorem mix_put {k : Nat} {P' P : Nat → Nat → Int} {z0 z1 z2 : Int} (h0 : z0 = P' k 0) (h1 : z1 = P' k 1) (h2 : z2 = P' k 2) : ∀ i, i < n → ∀ j, j < 3 → Go.Proofs.Ytbhcjdgfcinpcaa.putF (mixF k P' P) k z0 z1 z2 i j = mixF (k + 1) P' P i j := by
  intro i _ j hj
  unfold Go.Proofs.Ytbhcjdgfcinpcaa.putF mixF
  by_cases q : i = k
  · subst q
    rcases (show j = 0 ∨ j = 1 ∨ j = 2 by omega) with rfl | rfl | rfl <;> simp [h0, h1, h2]
  · rw [if_neg q]
    by_cases q2 : i < k
    · rw [if_pos q2, if_pos (by omega)]
    · rw [if_neg q2, if_neg (by omega)]
theorem mix_all {P' P : Nat → Nat → Int} : ∀ i, i < n → ∀ j, j < 3 → mixF n P' P i j = P' i j := fun i hi j _ => if_pos hi
theorem mix_none {P' P : Nat → Nat → Int} : ∀ i, i < n → ∀ j, j < 3 → P i j = mixF 0 P' P i j := fun i _ j _ => (if_neg (Nat.not_lt_zero i)).symm
/-- The error of a mesh that is changed. -/
def chgE (n : Nat) (P : Nat → Nat → Int) (m : Nat) (F : Nat → Nat → Int) (bad : Bool) (P' F' : Nat → Nat → Int) : Int :=
  if validE n P m F ≠ 0 then validE n P m F else if bad = true then 1 else validE n P' m F'
def turnP (P : Nat → Nat → Int) : Nat → Nat → Int := fun i j => if j = 0 then -P i 1 else if j = 1 then P i 0 else P i 2
def mirP (P : Nat → Nat → Int) : Nat → Nat → Int := fun i j => if j = 0 then -P i 0 else P i j
def mirF (F : Nat → Nat → Int) : Nat → Nat → Int := fun i j => if j = 0 then F i 0 else if j = 1 then F i 2 else F i 1
def movP (P : Nat → Nat → Int) (v0 v1 v2 : Int) : Nat → Nat → Int := fun i j => P i j + (if j = 0 then v0 else if j = 1 then v1 else v2)
def sclP (P : Nat → Nat → Int) (k : Int) : Nat → Nat → Int := fun i j => k * P i j
end
end Go.Proofs.Ytbhcjdgfcinpcaa
namespace Go.Proofs.Ytbhcjdgfcinpcaa
set_option linter.unusedVariables false
set_option linter.unusedSimpArgs false
open Go.RowKit Go.Deep
/-- i1 loads the list, i5 makes the list of one point, i6 appends it, i8 stores the list; block pb is read meanwhile. -/
structure AppI (i1 i5 i6 i8 : Nat) (W : World) (rb mb pb : Nat) (pc : Array Value) (v : Value) (k : Nat) (P : Nat → Nat → Int) (vF : Value) (m : Nat) (F : Nat → Nat → Int) (L : Nat → Bool) (b : Nat → Value) (w' : World) : Prop where
  kept : Kept W w'
  pk : w'.heap[pb]? = some (.cells pc 27 (0, 0))
  pne : some pb ≠ v.ownBlock
  a8 : L i8 = true → L i6 = true ∧ L i1 = true
  n5 : L i5 = true → ∃ g, b i5 = .slice (some ⟨g, 0, none⟩) 1 1 ∧ (L i6 = false → w'.heap[g]? = some (.cells #[.int .i64 (P k 0), .int .i64 (P k 1), .int .i64 (P k 2)] 27 (0, 0)))
  s : L i6 = false → w'.ownsRow W.heap.size 27 3 v k (rowC 3 P k)
  t : L i6 = true → w'.ownsRow W.heap.size 27 3 (b i6) (k + 1) (rowC 3 P (k + 1))
  r : w'.heap[rb]? = some (.cells #[.slice none 0 0, .slice none 0 0] 25 (0, 0))
  q : w'.heap[mb]? = some (.cells #[if L i8 = true then b i6 else v, vF] 25 (0, 0))
  f : w'.ownsRow W.heap.size 55 3 vF m (rowC 3 F m)
section
variable {i1 i5 i6 i8 : Nat} {W : World} {rb mb pb k m : Nat} {pc : Array Value} {v vF : Value} {P F : Nat → Nat → Int} {L : Nat → Bool} {b : Nat → Value} {w' w'' : World}
theorem AppI.start {wr : World} (h : Msh2 W rb mb v k P vF m F wr) (hk : Kept wr w') (hp : w'.heap[pb]? = some (.cells pc 27 (0, 0))) (hne : wr.heap.size ≤ pb) : AppI i1 i5 i6 i8 W rb mb pb pc v k P vF m F (fun _ => false) b w' := by
  have h' := h.on hk
  refine ⟨h'.kept, hp, fun e => ?_, fun e => (by cases e), fun e => (by cases e), fun _ => h'.p, fun e => (by cases e), h'.r, h'.q, h'.f⟩
  have := (h.p.lt pb e.symm).2
  omega
theorem AppI.on (h : AppI i1 i5 i6 i8 W rb mb pb pc v k P vF m F L b w') (hk : Kept w' w'') : AppI i1 i5 i6 i8 W rb mb pb pc v k P vF m F L b w'' :=
  ⟨h.kept.trans hk, fr_kept h.pk hk, h.pne, h.a8, fun e => by
    obtain ⟨g, e1, e2⟩ := h.n5 e
    exact ⟨g, e1, fun e3 => fr_kept (e2 e3) hk⟩, fun e => owns_kept (h.s e) hk, fun e => owns_kept (h.t e) hk, fr_kept h.r hk, fr_kept h.q hk, owns_kept h.f hk⟩
theorem AppI.other (h : AppI i1 i5 i6 i8 W rb mb pb pc v k P vF m F L b w') {i : Nat} (h1 : i ≠ i1) (h5 : i ≠ i5) (h6 : i ≠ i6) (h8 : i ≠ i8) : AppI i1 i5 i6 i8 W rb mb pb pc v k P vF m F (doneAt L i) b w' := by
  have d1 : doneAt L i i1 = L i1 := if_neg (Ne.symm h1)
  have d5 : doneAt L i i5 = L i5 := if_neg (Ne.symm h5)
  have d6 : doneAt L i i6 = L i6 := if_neg (Ne.symm h6)
  have d8 : doneAt L i i8 = L i8 := if_neg (Ne.symm h8)
  refine ⟨h.kept, h.pk, h.pne, ?_, ?_, ?_, ?_, h.r, ?_, h.f⟩
  · rw [d8, d6, d1]; exact h.a8
  · rw [d5, d6]; exact h.n5
  · rw [d6]; exact h.s
  · rw [d6]; exact h.t
  · rw [d8]; exact h.q
theorem AppI.no8 (h : AppI i1 i5 i6 i8 W rb mb pb pc v k P vF m F L b w') (h3 : L i6 = false ∨ L i1 = false) : L i8 = false := by
  cases h8 : L i8 with
  | false => rfl
  | true =>
    have := h.a8 h8
    rw [this.1, this.2] at h3
    simp at h3
theorem AppI.op1 {u : Value} (h : AppI i1 i5 i6 i8 W rb mb pb pc v k P vF m F L b w') (hi : i1 < i5 ∧ i5 < i6 ∧ i6 < i8) (d : L i1 = false) : AppI i1 i5 i6 i8 W rb mb pb pc v k P vF m F (doneAt L i1) (tellAt b i1 u) w' := by
  have d5 : doneAt L i1 i5 = L i5 := if_neg (by omega)
  have d6 : doneAt L i1 i6 = L i6 := if_neg (by omega)
  have d8 : doneAt L i1 i8 = L i8 := if_neg (by omega)
  have t5 : tellAt b i1 u i5 = b i5 := if_neg (by omega)
  have t6 : tellAt b i1 u i6 = b i6 := if_neg (by omega)
  refine ⟨h.kept, h.pk, h.pne, ?_, ?_, ?_, ?_, h.r, ?_, h.f⟩
  · rw [d8, d6]; intro e; exact ⟨(h.a8 e).1, if_pos rfl⟩
  · rw [d5, d6, t5]; exact h.n5
  · rw [d6]; exact h.s
  · rw [d6, t6]; exact h.t
  · rw [d8, t6]; exact h.q
theorem AppI.op5 (h : AppI i1 i5 i6 i8 W rb mb pb pc v k P vF m F L b w') (hi : i1 < i5 ∧ i5 < i6 ∧ i6 < i8) :
    AppI i1 i5 i6 i8 W rb mb pb pc v k P vF m F (doneAt L i5) (tellAt b i5 (.slice (some ⟨w'.heap.size, 0, none⟩) 1 1)) (w'.alloc (.cells #[.int .i64 (P k 0), .int .i64 (P k 1), .int .i64 (P k 2)] 27)) := by
  have h' := h.on ((Kept.refl w').alloc (.cells #[.int .i64 (P k 0), .int .i64 (P k 1), .int .i64 (P k 2)] 27))
  have d1 : doneAt L i5 i1 = L i1 := if_neg (by omega)
  have d6 : doneAt L i5 i6 = L i6 := if_neg (by omega)
  have d8 : doneAt L i5 i8 = L i8 := if_neg (by omega)
  have t6 : tellAt b i5 (.slice (some ⟨w'.heap.size, 0, none⟩) 1 1) i6 = b i6 := if_neg (by omega)
  refine ⟨h'.kept, h'.pk, h'.pne, ?_, ?_, ?_, ?_, h'.r, ?_, h'.f⟩
  · rw [d8, d6, d1]; exact h'.a8
  · intro _; exact ⟨_, if_pos rfl, fun _ => heap_alloc_new w' _⟩
  · rw [d6]; exact h'.s
  · rw [d6, t6]; exact h'.t
  · rw [d8, t6]; exact h'.q
theorem AppI.op6 {v' : Value} (h : AppI i1 i5 i6 i8 W rb mb pb pc v k P vF m F L b w') (hi : i1 < i5 ∧ i5 < i6 ∧ i6 < i8) (d : L i6 = false) (hown : w''.ownsRow W.heap.size 27 3 v' (k + 1) (rowC 3 P (k + 1))) (hg : w'.grownBy w'' v.ownBlock) :
    AppI i1 i5 i6 i8 W rb mb pb pc v k P vF m F (doneAt L i6) (tellAt b i6 v') w'' := by
  have e8 := h.no8 (.inl d)
  have hp := h.s d
  have hq := h.q
  rw [e8] at hq
  have d1 : doneAt L i6 i1 = L i1 := if_neg (by omega)
  have d5 : doneAt L i6 i5 = L i5 := if_neg (by omega)
  have d6 : doneAt L i6 i6 = true := if_pos rfl
  have d8 : doneAt L i6 i8 = L i8 := if_neg (by omega)
  have t5 : tellAt b i6 v' i5 = b i5 := if_neg (by omega)
  have t6 : tellAt b i6 v' i6 = v' := if_pos rfl
  refine ⟨kept_grown h.kept hp (Nat.le_refl _) hg, ?_, h.pne, ?_, ?_, ?_, ?_, own_keepsB hp hg h.r (by decide), ?_, h.f.kept hg (own_ne2 hp h.f (by decide))⟩
  · rw [hg.block pb (Array.getElem?_eq_some_iff.1 h.pk).1 h.pne]; exact h.pk
  · rw [d8, e8]; intro e; cases e
  · rw [d5, t5]
    intro e
    obtain ⟨g, e1, -⟩ := h.n5 e
    exact ⟨g, e1, fun e3 => by rw [d6] at e3; cases e3⟩
  · rw [d6]; intro e; cases e
  · rw [t6]; exact fun _ => hown
  · rw [d8, e8]; exact own_keepsB hp hg hq (by decide)
theorem AppI.op8 {u : Value} (h : AppI i1 i5 i6 i8 W rb mb pb pc v k P vF m F L b w') (hi : i1 < i5 ∧ i5 < i6 ∧ i6 < i8) (d1 : L i1 = true) (d6 : L i6 = true) (d8 : L i8 = false) (hne : rb ≠ mb) (hle : W.heap.size ≤ mb) :
    AppI i1 i5 i6 i8 W rb mb pb pc v k P vF m F (doneAt L i8) (tellAt b i8 u) (w'.setCell ⟨mb, 0, none⟩ (b i6)) := by
  have hq := h.q
  rw [d8] at hq
  have hs : w'.grownBy (w'.setCell ⟨mb, 0, none⟩ (b i6)) (some mb) := ⟨rfl, rfl, rfl, by simp, fun i _ hi => heap_setCell_other w' ⟨mb, 0, none⟩ i _ (fun e => hi (by simp [e]))⟩
  have e1 : doneAt L i8 i1 = L i1 := if_neg (by omega)
  have e5 : doneAt L i8 i5 = L i5 := if_neg (by omega)
  have e6 : doneAt L i8 i6 = L i6 := if_neg (by omega)
  have e8 : doneAt L i8 i8 = true := if_pos rfl
  have t5 : tellAt b i8 u i5 = b i5 := if_neg (by omega)
  have t6 : tellAt b i8 u i6 = b i6 := if_neg (by omega)
  refine ⟨h.kept.setCell hle _, ?_, h.pne, ?_, ?_, ?_, ?_, ?_, ?_, h.f.kept hs (.inr fun q => own_ne h.f hq (by decide) q.symm)⟩
  · rw [hs.block pb (Array.getElem?_eq_some_iff.1 h.pk).1 ?_]
    · exact h.pk
    · intro e
      have e' : pb = mb := Option.some.inj e
      have hp := h.pk
      rw [e', hq] at hp
      simp only [Option.some.injEq, Obj.cells.injEq] at hp
      exact absurd hp.2.1 (by decide)
  · rw [e8, e6, e1]; exact fun _ => ⟨d6, d1⟩
  · rw [e5, e6, t5]
    intro e
    obtain ⟨g, q1, -⟩ := h.n5 e
    exact ⟨g, q1, fun e3 => by rw [d6] at e3; cases e3⟩
  · rw [e6, d6]; intro e; cases e
  · rw [t6]; exact fun _ => (h.t d6).kept hs (.inr fun q => own_ne (h.t d6) hq (by decide) q.symm)
  · rw [heap_setCell_other _ _ _ _ hne]; exact h.r
  · rw [e8, t6]
    rw [heap_setCell_same _ _ _ _ _ _ hq]
    rfl
theorem AppI.done (h : AppI i1 i5 i6 i8 W rb mb pb pc v k P vF m F L b w') (d6 : L i6 = true) (d8 : L i8 = true) : Msh2 W rb mb (b i6) (k + 1) P vF m F w' := by
  have hq := h.q
  rw [d8] at hq
  exact ⟨h.kept, h.r, hq, h.t d6, h.f⟩
theorem AppI.v0 (h : AppI i1 i5 i6 i8 W rb mb pb pc v k P vF m F L b w') (d1 : L i1 = false) : w'.cell? ⟨mb, 0, none⟩ = some v := by
  have hq := h.q
  rw [h.no8 (.inr d1)] at hq
  exact (cells2 hq).1
/-- The list of one point, read. -/
theorem one_rows {g : Nat} {z0 z1 z2 : Int} {w : World} (h : w.heap[g]? = some (.cells #[.int .i64 z0, .int .i64 z1, .int .i64 z2] 27 (0, 0))) (hI : I64 z0 ∧ I64 z1 ∧ I64 z2) : RowsAt w (some ⟨g, 0, none⟩) 1 3 (fun _ j => if j = 0 then z0 else if j = 1 then z1 else z2) := by
  intro _
  refine ⟨g, 0, rfl, (Array.getElem?_eq_some_iff.1 h).1, fun k hk j hj => ?_⟩
  obtain rfl : k = 0 := by omega
  rcases (show j = 0 ∨ j = 1 ∨ j = 2 by omega) with rfl | rfl | rfl
  · exact ⟨by unfold World.cell?; simp only [h]; rfl, hI.1⟩
  · exact ⟨by unfold World.cell?; simp only [h]; rfl, hI.2.1⟩
  · exact ⟨by unfold World.cell?; simp only [h]; rfl, hI.2.2⟩
theorem rowC_one3 (z0 z1 z2 : Int) : rowC 3 (fun _ j => if j = 0 then z0 else if j = 1 then z1 else z2) 1 = [.int .i64 z0, .int .i64 z1, .int .i64 z2] := rfl
theorem rowC_succ3 (P : Nat → Nat → Int) (k : Nat) : rowC 3 P (k + 1) = rowC 3 P k ++ [.int .i64 (P k 0), .int .i64 (P k 1), .int .i64 (P k 2)] := rfl
end
end Go.Proofs.Ytbhcjdgfcinpcaa
