/- Triangles glued side by side: fans, parts and handles. Plain facts. Conditions: those of each theorem. -/
import Derived.Test.YtoadlneneijfaaaCmb
namespace Go.Proofs.Ytoadlneneijfaaa
set_option linter.unusedVariables false
set_option linter.unusedSimpArgs false
/-- The next side of a triangle. -/
def nxt (a : Nat) : Nat := 3 * (a / 3) + (a % 3 + 1) % 3
theorem nxt_div (a : Nat) : nxt a / 3 = a / 3 := by unfold nxt; omega
theorem nxt_prm (m : Nat) : Prm nxt (3 * m) := ⟨fun a ha => by unfold nxt; omega, fun a b _ _ e => by unfold nxt at e; omega⟩
theorem nxt_rch (a b : Nat) : Rch nxt a b ↔ a / 3 = b / 3 := by
  constructor
  · rintro ⟨k, rfl⟩
    induction k with
    | zero => rfl
    | succ k ih =>
      show _ = nxt (itr nxt k a) / 3
      rw [nxt_div]
      exact ih
  · intro e
    have : b = a ∨ b = nxt a ∨ b = nxt (nxt a) := by unfold nxt; omega
    rcases this with rfl | rfl | rfl
    · exact ⟨0, rfl⟩
    · exact ⟨1, rfl⟩
    · exact ⟨2, rfl⟩
theorem same_eqv (n : Nat) : Eqv (fun a b => a / 3 = b / 3) n := ⟨fun _ _ => rfl, fun _ _ _ _ h => h.symm, fun _ _ _ _ _ _ h k => h.trans k⟩
theorem cn3 : ∀ m : Nat, cnB (fun i => decide (i % 3 = 0)) (3 * m) = m
  | 0 => rfl
  | m + 1 => by
    show cnB (fun i => decide (i % 3 = 0)) (3 * m + 1 + 1 + 1) = m + 1
    unfold cnB
    unfold cnB
    unfold cnB
    rw [cn3 m]
    have h0 : decide (3 * m % 3 = 0) = true := decide_eq_true (by omega)
    have h1 : decide ((3 * m + 1) % 3 = 0) = false := decide_eq_false (by omega)
    have h2 : decide ((3 * m + 1 + 1) % 3 = 0) = false := decide_eq_false (by omega)
    simp only [h0, h1, h2]
    simp
theorem same_cls (m : Nat) : NCls (fun a b => a / 3 = b / 3) (3 * m) m := by
  refine ⟨fun i => decide (i % 3 = 0), fun i hi => ?_, cn3 m⟩
  rw [decide_eq_true_iff]
  constructor
  · intro h j hj e
    omega
  · intro h
    by_cases q : i % 3 = 0
    · exact q
    · exact absurd (show (3 * (i / 3)) / 3 = i / 3 by omega) (h (3 * (i / 3)) (by omega))
theorem mrg_same {R : Nat → Nat → Prop} {n x y : Nat} (h : Eqv R n) (hx : x < n) (hy : y < n) (hr : R x y) : ∀ a b, a < n → b < n → (R a b ↔ mrg R x y a b) := by
  intro a b ha hb
  constructor
  · exact fun k => .inl k
  · rintro (k | ⟨k1, k2⟩ | ⟨k1, k2⟩)
    · exact k
    · exact h.trans _ _ _ ha hx hb k1 (h.trans _ _ _ hx hy hb hr k2)
    · exact h.trans _ _ _ ha hy hb k1 (h.trans _ _ _ hy hx hb (h.symm _ _ hx hy hr) k2)
/-- What is known when the sides below t, and their others, are glued. -/
structure Glu (al : Nat → Nat) (m t : Nat) (s : Nat → Nat) (E : Nat → Nat → Prop) (c p d : Nat) : Prop where
  prm : Prm s (3 * m)
  frm : ∀ a, a < 3 * m → s a = if min a (al a) < t then nxt (al a) else nxt a
  eqv : Eqv E (3 * m)
  fac : ∀ a b, a < 3 * m → b < 3 * m → a / 3 = b / 3 → E a b
  gl : ∀ a, a < 3 * m → min a (al a) < t → E a (al a)
  mn : ∀ S : Nat → Nat → Prop, Eqv S (3 * m) → (∀ a b, a < 3 * m → b < 3 * m → a / 3 = b / 3 → S a b) → (∀ a, a < 3 * m → S a (al a)) → ∀ a b, a < 3 * m → b < 3 * m → E a b → S a b
  cc : NCls (Rch s) (3 * m) c
  pc : NCls E (3 * m) p
  ev : 2 * (c + 2 * d + m) = cnB (fun a => decide (min a (al a) < t)) (3 * m) + 4 * p
section
variable {al : Nat → Nat} {m : Nat}
theorem Glu.start : Glu al m 0 nxt (fun a b => a / 3 = b / 3) m m 0 := by
  refine ⟨nxt_prm m, fun a _ => by rw [if_neg (by omega)], same_eqv _, fun _ _ _ _ h => h, fun a _ h => by omega, fun S _ h _ a b ha hb e => h a b ha hb e, (same_cls m).congr fun a b _ _ => (nxt_rch a b).symm, same_cls m, ?_⟩
  rw [cnB_none (fun i _ => decide_eq_false (by omega))]
  omega
theorem Glu.step (hlt : ∀ a, a < 3 * m → al a < 3 * m) (hal : ∀ a, a < 3 * m → al (al a) = a) (hne : ∀ a, a < 3 * m → al a ≠ a) {t : Nat} (ht : t < 3 * m) {s : Nat → Nat} {E : Nat → Nat → Prop} {c p d : Nat} (h : Glu al m t s E c p d) :
    ∃ s' E' c' p' d', Glu al m (t + 1) s' E' c' p' d' := by
  have ht1 := hlt t ht
  have ht2 := hal t ht
  have ht3 := hne t ht
  by_cases q : al t < t
  · have same : ∀ a, a < 3 * m → (min a (al a) < t + 1 ↔ min a (al a) < t) := fun a ha => by
      constructor
      · intro k
        by_cases e : min a (al a) = t
        · by_cases e1 : a = t
          · subst e1; omega
          · have e2 : al a = t := by omega
            have := hal a ha
            rw [e2] at this
            omega
        · omega
      · omega
    refine ⟨s, E, c, p, d, h.prm, fun a ha => ?_, h.eqv, h.fac, fun a ha k => h.gl a ha ((same a ha).1 k), h.mn, h.cc, h.pc, ?_⟩
    · rw [h.frm a ha]
      by_cases k : min a (al a) < t
      · rw [if_pos k, if_pos ((same a ha).2 k)]
      · rw [if_neg k, if_neg (fun j => k ((same a ha).1 j))]
    · rw [h.ev]
      congr 1
      refine cnB_congr fun a ha => ?_
      rw [Bool.eq_iff_iff, decide_eq_true_iff, decide_eq_true_iff]
      exact (same a ha).symm
  · have hx : t < al t := by omega
    have hm := h.eqv.mrg ht ht1
    have hfrm : ∀ a, a < 3 * m → swp s t (al t) a = if min a (al a) < t + 1 then nxt (al a) else nxt a := fun a ha => by
      unfold swp
      by_cases e1 : a = t
      · subst e1
        rw [if_pos rfl, h.frm _ ht1, if_neg (by rw [ht2]; omega), if_pos (by omega)]
      · rw [if_neg e1]
        by_cases e2 : a = al t
        · subst e2
          rw [if_pos rfl, h.frm _ ht, if_neg (by omega), if_pos (by rw [ht2]; omega), ht2]
        · rw [if_neg e2, h.frm a ha]
          have e3 : al a ≠ t := fun e => e2 (by rw [← e, hal a ha])
          by_cases k : min a (al a) < t
          · rw [if_pos k, if_pos (by omega)]
          · rw [if_neg k, if_neg (by omega)]
    have hgl : ∀ a, a < 3 * m → min a (al a) < t + 1 → mrg E t (al t) a (al a) := fun a ha k => by
      by_cases e1 : a = t
      · subst e1
        exact .inr (.inl ⟨h.eqv.refl _ ha, h.eqv.refl _ ht1⟩)
      · by_cases e2 : a = al t
        · subst e2
          rw [ht2]
          exact .inr (.inr ⟨h.eqv.refl _ ha, h.eqv.refl _ ht⟩)
        · have e3 : al a ≠ t := fun e => e2 (by rw [← e, hal a ha])
          exact .inl (h.gl a ha (by omega))
    have hmn : ∀ S : Nat → Nat → Prop, Eqv S (3 * m) → (∀ a b, a < 3 * m → b < 3 * m → a / 3 = b / 3 → S a b) → (∀ a, a < 3 * m → S a (al a)) → ∀ a b, a < 3 * m → b < 3 * m → mrg E t (al t) a b → S a b := fun S h1 h2 h3 a b ha hb k => by
      rcases k with k | ⟨k1, k2⟩ | ⟨k1, k2⟩
      · exact h.mn S h1 h2 h3 a b ha hb k
      · exact h1.trans _ _ _ ha ht hb (h.mn S h1 h2 h3 _ _ ha ht k1) (h1.trans _ _ _ ht ht1 hb (h3 t ht) (h.mn S h1 h2 h3 _ _ ht1 hb k2))
      · exact h1.trans _ _ _ ha ht1 hb (h.mn S h1 h2 h3 _ _ ha ht1 k1) (h1.trans _ _ _ ht1 ht hb (h1.symm _ _ ht ht1 (h3 t ht)) (h.mn S h1 h2 h3 _ _ ht hb k2))
    have hcn : cnB (fun a => decide (min a (al a) < t + 1)) (3 * m) = cnB (fun a => decide (min a (al a) < t)) (3 * m) + 2 := by
      have s1 := cnB_one (p := fun a => decide (min a (al a) < t + 1)) (q := fun a => decide (min a (al a) < t + 1) && !decide (a = t)) (k := t) (by simp; omega) (by simp) ht (fun i hi hik => by simp [hik])
      have s2 := cnB_one (p := fun a => decide (min a (al a) < t + 1) && !decide (a = t)) (q := fun a => decide (min a (al a) < t)) (k := al t) (by simp [ht3]; rw [ht2]; omega) (by rw [decide_eq_false_iff_not, ht2]; omega) ht1 (fun i hi hik => by
        by_cases e1 : i = t
        · subst e1
          simp
          omega
        · have e3 : al i ≠ t := fun e => hik (by rw [← e, hal i hi])
          rw [Bool.eq_iff_iff]
          simp [e1]
          omega)
      omega
    have hrE : ∀ a b, a < 3 * m → b < 3 * m → Rch s a b → E a b := by
      have st : ∀ a, a < 3 * m → E a (s a) := fun a ha => by
        rw [h.frm a ha]
        have l1 := (nxt_prm m).lt a ha
        have l2 := (nxt_prm m).lt (al a) (hlt a ha)
        split
        · rename_i k
          exact h.eqv.trans _ _ _ ha (hlt a ha) l2 (h.gl a ha k) (h.fac _ _ (hlt a ha) l2 (nxt_div _).symm)
        · exact h.fac _ _ ha l1 (nxt_div _).symm
      have up : ∀ k a, a < 3 * m → E a (itr s k a) := by
        intro k
        induction k with
        | zero => exact fun a ha => h.eqv.refl a ha
        | succ k ih => exact fun a ha => h.eqv.trans _ _ _ ha (h.prm.itr_lt ha k) (h.prm.lt _ (h.prm.itr_lt ha k)) (ih a ha) (st _ (h.prm.itr_lt ha k))
      rintro a b ha hb ⟨k, rfl⟩
      exact up k a ha
    have hfac : ∀ a b, a < 3 * m → b < 3 * m → a / 3 = b / 3 → mrg E t (al t) a b := fun a b ha hb e => .inl (h.fac a b ha hb e)
    have hprm := h.prm.swp ht ht1 (Ne.symm ht3)
    have hev := h.ev
    by_cases hE : E t (al t)
    · have pc : NCls (mrg E t (al t)) (3 * m) p := h.pc.congr (mrg_same h.eqv ht ht1 hE)
      by_cases hR : Rch s t (al t)
      · exact ⟨_, _, c + 1, p, d, hprm, hfrm, hm, hfac, hgl, hmn, h.prm.cyc_split ht ht1 (Ne.symm ht3) hR h.cc, pc, by omega⟩
      · obtain ⟨c', e, k⟩ := h.prm.cyc_join ht ht1 (Ne.symm ht3) hR h.cc
        exact ⟨_, _, c', p, d + 1, hprm, hfrm, hm, hfac, hgl, hmn, k, pc, by omega⟩
    · obtain ⟨c', e, k⟩ := h.prm.cyc_join ht ht1 (Ne.symm ht3) (fun r => hE (hrE _ _ ht ht1 r)) h.cc
      obtain ⟨p', e', k'⟩ := h.pc.mrg h.eqv ht ht1 hE
      exact ⟨_, _, c', p', d, hprm, hfrm, hm, hfac, hgl, hmn, k, k', by omega⟩
/-- The number of handles: fans, parts and triangles belong together. -/
theorem handles (hlt : ∀ a, a < 3 * m → al a < 3 * m) (hal : ∀ a, a < 3 * m → al (al a) = a) (hne : ∀ a, a < 3 * m → al a ≠ a) :
    ∃ (E : Nat → Nat → Prop) (c p d : Nat), Eqv E (3 * m) ∧ (∀ a b, a < 3 * m → b < 3 * m → a / 3 = b / 3 → E a b) ∧ (∀ a, a < 3 * m → E a (al a)) ∧
      (∀ S : Nat → Nat → Prop, Eqv S (3 * m) → (∀ a b, a < 3 * m → b < 3 * m → a / 3 = b / 3 → S a b) → (∀ a, a < 3 * m → S a (al a)) → ∀ a b, a < 3 * m → b < 3 * m → E a b → S a b) ∧
      Prm (fun a => nxt (al a)) (3 * m) ∧ NCls (Rch fun a => nxt (al a)) (3 * m) c ∧ NCls E (3 * m) p ∧ 2 * c + 4 * d = m + 4 * p := by
  have key : ∀ t, t ≤ 3 * m → ∃ s E c p d, Glu al m t s E c p d := by
    intro t
    induction t with
    | zero => exact fun _ => ⟨_, _, _, _, _, Glu.start⟩
    | succ t ih =>
      intro ht
      obtain ⟨s, E, c, p, d, h⟩ := ih (by omega)
      exact h.step hlt hal hne (by omega)
  obtain ⟨s, E, c, p, d, h⟩ := key (3 * m) (Nat.le_refl _)
  have hs : ∀ a, a < 3 * m → s a = nxt (al a) := fun a ha => by rw [h.frm a ha, if_pos (by omega)]
  have hp : Prm (fun a => nxt (al a)) (3 * m) := ⟨fun a ha => by show nxt (al a) < _; rw [← hs a ha]; exact h.prm.lt a ha, fun a b ha hb e => h.prm.inj a b ha hb (by rw [hs a ha, hs b hb]; exact e)⟩
  have hi : ∀ k a, a < 3 * m → itr s k a = itr (fun a => nxt (al a)) k a := by
    intro k
    induction k with
    | zero => exact fun a _ => rfl
    | succ k ih =>
      intro a ha
      show s (itr s k a) = nxt (al (itr (fun a => nxt (al a)) k a))
      rw [← ih a ha]
      exact hs _ (h.prm.itr_lt ha k)
  refine ⟨E, c, p, d, h.eqv, h.fac, fun a ha => h.gl a ha (by omega), h.mn, hp, h.cc.congr fun a b ha hb => ?_, h.pc, ?_⟩
  · unfold Rch
    constructor
    · rintro ⟨k, e⟩
      exact ⟨k, by rw [← hi k a ha]; exact e⟩
    · rintro ⟨k, e⟩
      exact ⟨k, by rw [hi k a ha]; exact e⟩
  · have := h.ev
    rw [cnB_all (fun i hi => decide_eq_true (by omega))] at this
    omega
end
end Go.Proofs.Ytoadlneneijfaaa
