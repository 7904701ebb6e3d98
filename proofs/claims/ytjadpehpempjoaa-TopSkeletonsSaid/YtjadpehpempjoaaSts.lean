/- Lists of lists that a call makes by appends: what they hold. No conditions but those of each theorem. Contract: all sets of k numbers, of the reference. Conditions: at most six numbers. -/
import Derived.Test.YtjadpehpempjoaaLgs
import Derived.Deep.AppendLies
namespace Go.Proofs.Ytjadpehpempjoaa
set_option linter.unusedVariables false
set_option linter.unusedSimpArgs false
open Go.RowKit Go.Deep
/-- A list of N lists, all of the call's own: list i has len i elements of c cells each. -/
def OutL (base : Nat) (eo e : TypeId) (c N : Nat) (len : Nat → Nat) (F : Nat → Nat → Nat → Int) (v : Value) (w : World) : Prop :=
  ∃ V : Nat → Value, w.ownsRow base eo 1 v N ((List.range N).map V) ∧ ∀ i, i < N → w.ownsRow base e c (V i) (len i) (rowC c (F i) (len i))
theorem OutL.nil (base : Nat) (eo e : TypeId) (c : Nat) (len : Nat → Nat) (F : Nat → Nat → Nat → Int) (w : World) : OutL base eo e c 0 len F (.slice none 0 0) w :=
  ⟨fun _ => undef, World.ownsRow_nil _ _ _ _, fun i hi => absurd hi (by omega)⟩
theorem OutL.on {base : Nat} {eo e : TypeId} {c N : Nat} {len : Nat → Nat} {F : Nat → Nat → Nat → Int} {v : Value} {w w' : World} (h : OutL base eo e c N len F v w) (hk : Kept w w') : OutL base eo e c N len F v w' := by
  obtain ⟨V, h1, h2⟩ := h
  exact ⟨V, owns_kept h1 hk, fun i hi => owns_kept (h2 i hi) hk⟩
theorem OutL.low {base b : Nat} {eo e : TypeId} {c N : Nat} {len : Nat → Nat} {F : Nat → Nat → Nat → Int} {v : Value} {w : World} (h : OutL base eo e c N len F v w) (hb : b ≤ base) : OutL b eo e c N len F v w := by
  obtain ⟨V, h1, h2⟩ := h
  exact ⟨V, own_lo2 h1 hb, fun i hi => own_lo2 (h2 i hi) hb⟩
theorem OutL.slice {base : Nat} {eo e : TypeId} {c N : Nat} {len : Nat → Nat} {F : Nat → Nat → Nat → Int} {v : Value} {w : World} (h : OutL base eo e c N len F v w) : ∃ A cp, v = .slice A N cp := by
  obtain ⟨V, h1, -⟩ := h
  exact own_slice2 h1
theorem own_grown {w w' : World} {base base2 c c2 n m : Nat} {e e2 : TypeId} {v v2 : Value} {xs ys : List Value} (h : w.ownsRow base e c v n xs) (hg : w.grownBy w' v.ownBlock) (h2 : w.ownsRow base2 e2 c2 v2 m ys) (hne : e2 ≠ e) : w'.ownsRow base2 e2 c2 v2 m ys := by
  refine ⟨h2.1, ?_⟩
  rcases h2.2 with h0 | ⟨g, cap, cur, hv, hb, hgc, h3⟩
  · exact .inl h0
  · exact .inr ⟨g, cap, cur, hv, hb, own_keepsB h hg hgc hne, h3⟩
/-- One more list. -/
theorem OutL.push {base : Nat} {eo e : TypeId} {c N : Nat} {len : Nat → Nat} {F : Nat → Nat → Nat → Int} {v v' u : Value} {w w' : World} {V : Nat → Value} (h1 : w.ownsRow base eo 1 v N ((List.range N).map V)) (h2 : ∀ i, i < N → w.ownsRow base e c (V i) (len i) (rowC c (F i) (len i))) (hne : e ≠ eo)
    (hu : w.ownsRow base e c u (len N) (rowC c (F N) (len N))) (hg : w.grownBy w' v.ownBlock) (ho : w'.ownsRow base eo 1 v' (N + 1) ((List.range N).map V ++ [u])) : OutL base eo e c (N + 1) len F v' w' := by
  refine ⟨fun i => if i = N then u else V i, ?_, fun i hi => ?_⟩
  · rw [List.range_succ, List.map_append]
    have e1 : (List.range N).map (fun i => if i = N then u else V i) = (List.range N).map V := List.map_congr_left fun i hi => if_neg (by have := List.mem_range.1 hi; omega)
    rw [e1]
    simpa using ho
  · show w'.ownsRow base e c (if i = N then u else V i) (len i) (rowC c (F i) (len i))
    by_cases q : i = N
    · subst q
      rw [if_pos rfl]
      exact own_grown h1 hg hu hne
    · rw [if_neg q]
      exact own_grown h1 hg (h2 i (by omega)) hne
theorem OutL.congr {base : Nat} {eo e : TypeId} {c N : Nat} {len len' : Nat → Nat} {F F' : Nat → Nat → Nat → Int} {v : Value} {w : World} (h : OutL base eo e c N len F v w) (hl : ∀ i, i < N → len i = len' i) (hF : ∀ i, i < N → ∀ k, k < len i → ∀ j, j < c → F i k j = F' i k j) : OutL base eo e c N len' F' v w := by
  obtain ⟨V, h1, h2⟩ := h
  refine ⟨V, h1, fun i hi => ?_⟩
  rw [← hl i hi, ← rowC_congr (hF i hi)]
  exact h2 i hi
/-- The cells of a list of lists. -/
theorem OutL.at {base : Nat} {eo e : TypeId} {c N : Nat} {len : Nat → Nat} {F : Nat → Nat → Nat → Int} {A : Option Addr} {cp i : Nat} {w : World} (h : OutL base eo e c N len F (.slice A N cp) w) (hi : i < N) :
    ∃ b u, A = some ⟨b, 0, none⟩ ∧ b < w.heap.size ∧ w.cell? ⟨b, i, none⟩ = some u ∧ w.ownsRow base e c u (len i) (rowC c (F i) (len i)) := by
  obtain ⟨V, h1, h2⟩ := h
  rcases h1.2 with ⟨h0, h00⟩ | ⟨g, cap, cur, hv, hb, hg, h3, h4, h5, h6⟩
  · omega
  · simp only [Value.slice.injEq] at hv
    obtain ⟨rfl, -, rfl⟩ := hv
    refine ⟨g, V i, rfl, (Array.getElem?_eq_some_iff.1 hg).1, ?_, h2 i hi⟩
    have h7 : cur[i]? = some (V i) := by
      have h8 : (cur.toList.take (N * 1))[i]? = some (V i) := by
        rw [h6]
        simp [hi]
      rw [List.getElem?_take, if_pos (by omega)] at h8
      simpa using h8
    unfold World.cell?
    simp [hg, h7]
/-- A list of lists of ints can be read. -/
theorem OutL.mat {base N cp : Nat} {len : Nat → Nat} {F : Nat → Nat → Nat → Int} {A : Option Addr} {w : World} (h : OutL base 23 3 1 N len F (.slice A N cp) w) (hI : ∀ i, i < N → ∀ k, k < len i → I64 (F i k 0)) :
    ∃ B cp2, MatAt w A N B len cp2 (fun i j => F i j 0) := by
  have h9 : ∀ i, ∃ p : Option Addr × Nat, i < N → (∃ b, A = some ⟨b, 0, none⟩ ∧ b < w.heap.size ∧ w.cell? ⟨b, i, none⟩ = some (.slice p.1 (len i) p.2)) ∧ (len i ≤ p.2 ∧ p.2 ≤ maxLen) ∧ RowsAt w p.1 (len i) 1 (F i) := by
    intro i
    by_cases hi : i < N
    · obtain ⟨b, u, h1, h2, h3, h4⟩ := h.at hi
      obtain ⟨A2, c2, rfl⟩ := own_slice2 h4
      exact ⟨(A2, c2), fun _ => ⟨⟨b, h1, h2, h3⟩, own_caps h4, rows_of_owns h4 fun k hk j hj => by
        obtain rfl : j = 0 := by omega
        exact hI i hi k hk⟩⟩
    · exact ⟨(none, 0), fun q => absurd q hi⟩
  refine ⟨fun i => (Classical.choose (h9 i)).1, fun i => (Classical.choose (h9 i)).2, fun h0 => ?_, fun i hi => ((Classical.choose_spec (h9 i)) hi).2.1, fun i hi => ?_⟩
  · obtain ⟨b, h1, h2, -⟩ := ((Classical.choose_spec (h9 0)) h0).1
    refine ⟨b, 0, h1, h2, fun k hk => ?_⟩
    obtain ⟨b2, h3, h4, h5⟩ := ((Classical.choose_spec (h9 k)) hk).1
    rw [h1] at h3
    simp only [Option.some.injEq, Addr.mk.injEq, and_true] at h3
    subst h3
    rw [Nat.zero_add]
    exact h5
  · have := ((Classical.choose_spec (h9 i)) hi).2.2
    intro h0
    obtain ⟨b, off, h1, h2, h3⟩ := this h0
    refine ⟨b, off, h1, h2, fun k hk j hj => ?_⟩
    obtain rfl : j = 0 := by omega
    exact h3 k hk 0 hj
end Go.Proofs.Ytjadpehpempjoaa
namespace Go.Proofs.Ytjadpehpempjoaa
set_option linter.unusedVariables false
set_option linter.unusedSimpArgs false
open Go.RowKit Go.Deep
/-- The numbers below r whose sets have k numbers. -/
def slN (n : Nat) (k : Int) : Nat → List Nat
  | 0 => []
  | r + 1 => if ((bl r n).length : Int) = k then slN n k r ++ [r] else slN n k r
theorem slN_mem {n : Nat} {k : Int} : ∀ {r x : Nat}, x ∈ slN n k r ↔ x < r ∧ ((bl x n).length : Int) = k
  | 0, x => by simp [slN]
  | r + 1, x => by
    unfold slN
    split
    · rename_i h
      rw [List.mem_append, slN_mem]
      simp only [List.mem_singleton]
      constructor
      · rintro (h1 | rfl)
        · exact ⟨by omega, h1.2⟩
        · exact ⟨by omega, h⟩
      · rintro ⟨h1, h2⟩
        by_cases e : x = r
        · exact .inr e
        · exact .inl ⟨by omega, h2⟩
    · rename_i h
      rw [slN_mem]
      constructor
      · rintro ⟨h1, h2⟩
        exact ⟨by omega, h2⟩
      · rintro ⟨h1, h2⟩
        refine ⟨?_, h2⟩
        by_cases e : x = r
        · subst e; exact absurd h2 h
        · omega
theorem slN_len {n : Nat} {k : Int} : ∀ {r : Nat}, (slN n k r).length ≤ r
  | 0 => by simp [slN]
  | r + 1 => by
    have := slN_len (n := n) (k := k) (r := r)
    unfold slN
    split
    · rw [List.length_append, List.length_singleton]; omega
    · omega
/-- List i of these sets. -/
def stF (l : List Nat) (n i : Nat) : Nat → Nat → Int := blF (l.getD i 0) n
def stL (l : List Nat) (n i : Nat) : Nat := (bl (l.getD i 0) n).length
theorem st_more {l : List Nat} {n r i : Nat} (h : i < l.length) : stF (l ++ [r]) n i = stF l n i ∧ stL (l ++ [r]) n i = stL l n i := by
  have e : (l ++ [r]).getD i 0 = l.getD i 0 := by rw [List.getD_eq_getElem?_getD, List.getD_eq_getElem?_getD, List.getElem?_append_left h]
  exact ⟨by unfold stF; rw [e], by unfold stL; rw [e]⟩
theorem st_last {l : List Nat} {n r : Nat} : stF (l ++ [r]) n l.length = blF r n ∧ stL (l ++ [r]) n l.length = (bl r n).length := by
  have e : (l ++ [r]).getD l.length 0 = r := by rw [List.getD_eq_getElem?_getD, List.getElem?_append_right (Nat.le_refl _)]; simp
  exact ⟨by unfold stF; rw [e], by unfold stL; rw [e]⟩
theorem lit_cell (X : World) (v : Value) (T : TypeId) : ∀ (j : Nat) (u : Value), [v][j]? = some u → (X.alloc (.cells #[v] T)).cell? ((Addr.mk X.heap.size 0 none).add j) = some u := by
  intro j u h
  cases j with
  | zero =>
    simp only [List.getElem?_cons_zero, Option.some.injEq] at h
    subst h
    have e : (Addr.mk X.heap.size 0 none).add 0 = ⟨X.heap.size, 0, none⟩ := rfl
    rw [e]
    exact (box_at (alloc_at2 X _ _)).1
  | succ j => simp at h
theorem lit_one (v : Value) (h : v.oneCell' = true) : ∀ u ∈ [v], u.oneCell' = true := by
  intro u hu
  simp only [List.mem_singleton] at hu
  subst hu
  exact h
end Go.Proofs.Ytjadpehpempjoaa
