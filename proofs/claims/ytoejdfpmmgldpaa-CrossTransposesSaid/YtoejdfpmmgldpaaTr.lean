/- Contract: the transposed matrix in new memory, of the program. Conditions: the number of rows is an int. -/
import Derived.Test.YtoejdfpmmgldpaaLg
namespace Go.Proofs.Ytoejdfpmmgldpaa
set_option linter.unusedVariables false
set_option linter.unusedSimpArgs false
open Go.RowKit Go.Deep
/-- Row j of a matrix of the call's own while an element is appended to it: load 5, list 13, append 14, store 16. -/
structure TrI (W : World) (base g N : Nat) (V : Nat → Value) (L : Nat → Nat) (f : Nat → Nat → Int) (j : Nat) (x : Int) (S : Nat → Bool) (b : Nat → Value) (w' : World) : Prop where
  kept : Kept W w'
  pre : S 14 = false → OwnM W base g N V L f w'
  new : S 13 = true → S 14 = false → w'.ownsRow base 3 1 (b 13) 1 [.int .i64 x]
  mid : S 14 = true → S 16 = false → w'.ownsRow base 23 1 (.slice (some ⟨g, 0, none⟩) N N) N ((List.range N).map V) ∧ (∀ i, i < N → i ≠ j → w'.ownsRow base 3 1 (V i) (L i) (rowC 1 (fun q _ => f i q) (L i))) ∧
    w'.ownsRow base 3 1 (b 14) (L j + 1) (rowC 1 (fun q _ => if q < L j then f j q else x) (L j + 1)) ∧ (∀ i, i < N → i ≠ j → ((b 14).ownBlock = none ∨ (b 14).ownBlock ≠ (V i).ownBlock) ∧ ((V i).ownBlock = none ∨ (V i).ownBlock ≠ (b 14).ownBlock)) ∧ (∀ i k, i < N → k < N → i ≠ k → (V i).ownBlock = none ∨ (V i).ownBlock ≠ (V k).ownBlock)
  a5 : S 14 = true → S 5 = true ∧ S 13 = true
  a16 : S 16 = true → S 14 = true
  fin : S 16 = true → OwnM W base g N (fun i => if i = j then b 14 else V i) (fun i => if i = j then L j + 1 else L i) (fun i => if i = j then fun q => if q < L j then f j q else x else f i) w'
section
variable {W w' w'' : World} {base g N j : Nat} {V : Nat → Value} {L : Nat → Nat} {f : Nat → Nat → Int} {x : Int} {S : Nat → Bool} {b : Nat → Value}
theorem TrI.start (h : OwnM W base g N V L f w') : TrI W base g N V L f j x (fun _ => false) b w' :=
  ⟨h.on, fun _ => h, fun e => (by cases e), fun e => (by cases e), fun e => (by cases e), fun e => (by cases e), fun e => (by cases e)⟩
theorem TrI.on (h : TrI W base g N V L f j x S b w') (hk : Kept w' w'') : TrI W base g N V L f j x S b w'' :=
  ⟨h.kept.trans hk, fun e => (h.pre e).next hk, fun e e2 => owns_kept (h.new e e2) hk, fun e e2 => by
    obtain ⟨a1, a2, a3, a4, a5⟩ := h.mid e e2
    exact ⟨owns_kept a1 hk, fun i hi hij => owns_kept (a2 i hi hij) hk, owns_kept a3 hk, a4, a5⟩, h.a5, h.a16, fun e => (h.fin e).next hk⟩
theorem TrI.other (h : TrI W base g N V L f j x S b w') {i : Nat} (h5 : i ≠ 5) (h13 : i ≠ 13) (h14 : i ≠ 14) (h16 : i ≠ 16) : TrI W base g N V L f j x (doneAt S i) b w' := by
  have d5 : doneAt S i 5 = S 5 := if_neg (Ne.symm h5)
  have d13 : doneAt S i 13 = S 13 := if_neg (Ne.symm h13)
  have d14 : doneAt S i 14 = S 14 := if_neg (Ne.symm h14)
  have d16 : doneAt S i 16 = S 16 := if_neg (Ne.symm h16)
  exact ⟨h.kept, by rw [d14]; exact h.pre, by rw [d13, d14]; exact h.new, by rw [d14, d16]; exact h.mid, by rw [d14, d5, d13]; exact h.a5, by rw [d16, d14]; exact h.a16, by rw [d16]; exact h.fin⟩
theorem TrI.not14 (h : TrI W base g N V L f j x S b w') (hS : S 5 = false ∨ S 13 = false ∨ S 14 = false) : S 14 = false ∧ S 16 = false := by
  have h14 : S 14 = false := by
    rcases hS with e | e | e
    · cases q : S 14 with
      | false => rfl
      | true => rw [(h.a5 q).1] at e; cases e
    · cases q : S 14 with
      | false => rfl
      | true => rw [(h.a5 q).2] at e; cases e
    · exact e
  refine ⟨h14, ?_⟩
  cases q : S 16 with
  | false => rfl
  | true => rw [h.a16 q] at h14; cases h14
theorem TrI.op5 (h : TrI W base g N V L f j x S b w') {u : Value} : TrI W base g N V L f j x (doneAt S 5) (tellAt b 5 u) w' := by
  have d13 : doneAt S 5 13 = S 13 := if_neg (by decide)
  have d14 : doneAt S 5 14 = S 14 := if_neg (by decide)
  have d16 : doneAt S 5 16 = S 16 := if_neg (by decide)
  have t13 : tellAt b 5 u 13 = b 13 := if_neg (by decide)
  have t14 : tellAt b 5 u 14 = b 14 := if_neg (by decide)
  exact ⟨h.kept, by rw [d14]; exact h.pre, by rw [d13, d14, t13]; exact h.new, by rw [d14, d16, t14]; exact h.mid, by rw [d14, d13]; exact fun e => ⟨if_pos rfl, (h.a5 e).2⟩, by rw [d16, d14]; exact h.a16, by rw [d16, t14]; exact h.fin⟩
theorem TrI.op13 (h : TrI W base g N V L f j x S b w') (hS : S 13 = false) (hb : base ≤ w'.heap.size) : TrI W base g N V L f j x (doneAt S 13) (tellAt b 13 (.slice (some ⟨w'.heap.size, 0, none⟩) 1 1)) (w'.alloc (.cells #[.int .i64 x] 3)) := by
  obtain ⟨h14, h16⟩ := h.not14 (.inr (.inl hS))
  have h' := h.on ((Kept.refl w').alloc (.cells #[.int .i64 x] 3))
  have d5 : doneAt S 13 5 = S 5 := if_neg (by decide)
  have d14 : doneAt S 13 14 = S 14 := if_neg (by decide)
  have d16 : doneAt S 13 16 = S 16 := if_neg (by decide)
  refine ⟨h'.kept, by rw [d14]; exact h'.pre, ?_, (by rw [d14, h14]; intro e; cases e), (by rw [d14, h14]; intro e; cases e), by rw [d16, d14]; exact h'.a16, (by rw [d16, h16]; intro e; cases e)⟩
  intro _ _
  rw [show tellAt b 13 (.slice (some ⟨w'.heap.size, 0, none⟩) 1 1) 13 = .slice (some ⟨w'.heap.size, 0, none⟩) 1 1 from if_pos rfl]
  exact own_lit1 w' base x hb
theorem TrI.op14 (h : TrI W base g N V L f j x S b w') (hj : j < N) (hb : W.heap.size ≤ base) (h5 : S 5 = true ∧ S 13 = true) (hS : S 14 = false) {v' : Value} (hown : w''.ownsRow base 3 1 v' (L j + 1) (rowC 1 (fun q _ => if q < L j then f j q else x) (L j + 1)))
    (hg : w'.grownBy w'' (V j).ownBlock) (hv : v'.ownBlock = (V j).ownBlock ∨ v'.ownBlock = some w'.heap.size) : TrI W base g N V L f j x (doneAt S 14) (tellAt b 14 v') w'' := by
  obtain ⟨-, h16⟩ := h.not14 (.inr (.inr hS))
  have d13 : doneAt S 14 13 = S 13 := if_neg (by decide)
  have hO := h.pre hS
  have d5 : doneAt S 14 5 = S 5 := if_neg (by decide)
  have d14 : doneAt S 14 14 = true := if_pos rfl
  have d16 : doneAt S 14 16 = S 16 := if_neg (by decide)
  have t14 : tellAt b 14 v' 14 = v' := if_pos rfl
  have hrj := hO.r j hj
  refine ⟨kept_grown hO.on hrj hb hg, (by rw [d14]; intro e; cases e), (by rw [d14]; intro _ e; cases e), ?_, by rw [d5, d13]; exact fun _ => h5, by rw [d14]; exact fun _ => rfl, (by rw [d16, h16]; intro e; cases e)⟩
  intro _ _
  rw [t14]
  refine ⟨hO.o.kept hg (own_ne2 hrj hO.o (by decide)), fun i hi hij => (hO.r i hi).kept hg (hO.d i j hi hj hij), hown, fun i hi hij => ?_, hO.d⟩
  rcases hv with e | e
  · rw [e]
    exact ⟨hO.d j i hj hi (Ne.symm hij), hO.d i j hi hj hij⟩
  · rw [e]
    have hne : (some w'.heap.size) ≠ (V i).ownBlock := fun q => by
      have := own_lt (b := w'.heap.size) (hO.r i hi) q.symm
      omega
    exact ⟨.inr hne, .inr (Ne.symm hne)⟩
theorem TrI.op16 (h : TrI W base g N V L f j x S b w') (hj : j < N) (hb : W.heap.size ≤ base) (h14 : S 14 = true) (hS : S 16 = false) {u : Value} : TrI W base g N V L f j x (doneAt S 16) (tellAt b 16 u) (w'.setCell ⟨g, j, none⟩ (b 14)) := by
  obtain ⟨a1, a2, a3, a4, a5⟩ := h.mid h14 hS
  obtain ⟨h1, h2⟩ := a1.stored j (b 14)
  have hbl := (a1.lt g rfl).1
  have d5 : doneAt S 16 5 = S 5 := if_neg (by decide)
  have d13 : doneAt S 16 13 = S 13 := if_neg (by decide)
  have d14 : doneAt S 16 14 = S 14 := if_neg (by decide)
  have d16 : doneAt S 16 16 = true := if_pos rfl
  have t14 : tellAt b 16 u 14 = b 14 := if_neg (by decide)
  have hk : Kept W (w'.setCell ⟨g, j, none⟩ (b 14)) := kept_by h.kept (by omega) h2
  refine ⟨hk, (by rw [d14, h14]; intro e; cases e), (by rw [d14, h14]; intro _ e; cases e), (by rw [d16]; intro _ e; cases e), by rw [d14, d5, d13]; exact h.a5, by rw [d14]; exact fun _ => h14, fun _ => ?_⟩
  rw [t14]
  rw [set_map (f' := fun i => if i = j then b 14 else V i) (fun i _ => rfl)] at h1
  refine ⟨hk, hb, h1, fun i hi => ?_, fun i k hi hk' hik => ?_⟩
  · by_cases e : i = j
    · subst e
      rw [if_pos rfl, if_pos rfl]
      have e2 : rowC 1 (fun q _ => (if i = i then fun q => if q < L i then f i q else x else f i) q) (L i + 1) = rowC 1 (fun q _ => if q < L i then f i q else x) (L i + 1) := rowC_congr fun q _ _ _ => by rw [if_pos rfl]
      rw [e2]
      exact a3.kept h2 (own_ne2 a1 a3 (by decide))
    · rw [if_neg e, if_neg e]
      have e2 : rowC 1 (fun q _ => (if i = j then fun q => if q < L j then f j q else x else f i) q) (L i) = rowC 1 (fun q _ => f i q) (L i) := rowC_congr fun q _ _ _ => by rw [if_neg e]
      rw [e2]
      exact (a2 i hi e).kept h2 (own_ne2 a1 (a2 i hi e) (by decide))
  · by_cases e1 : i = j
    · rw [if_pos e1, if_neg (by omega)]
      exact (a4 k hk' (by omega)).1
    · rw [if_neg e1]
      by_cases e2 : k = j
      · rw [if_pos e2]; exact (a4 i hi e1).2
      · rw [if_neg e2]; exact a5 i k hi hk' hik
theorem TrI.cell (h : TrI W base g N V L f j x S b w') (hj : j < N) (hS : S 16 = false) : w'.cell? ⟨g, j, none⟩ = some (V j) ∧ w'.frozen? ⟨g, j, none⟩ = false ∧ g < w'.heap.size := by
  have key : ∀ {w' : World}, w'.ownsRow base 23 1 (.slice (some ⟨g, 0, none⟩) N N) N ((List.range N).map V) → w'.cell? ⟨g, j, none⟩ = some (V j) ∧ w'.frozen? ⟨g, j, none⟩ = false ∧ g < w'.heap.size := by
    intro w' ho
    refine ⟨by rw [ho.cellAt j (by omega)]; simp [hj], ho.frozenAt j, ?_⟩
    rcases ho.2 with ⟨e, -⟩ | ⟨g', cap, cur, e, -, hg, -⟩
    · cases e
    · simp only [Value.slice.injEq, Option.some.injEq, Addr.mk.injEq] at e
      obtain ⟨⟨rfl, -⟩, -, -⟩ := e
      exact (Array.getElem?_eq_some_iff.1 hg).1
  cases h14 : S 14 with
  | false => exact key (h.pre h14).o
  | true => exact key (h.mid h14 hS).1
end
end Go.Proofs.Ytoejdfpmmgldpaa
