/- Contract: the determinant of a choice with one more row and column, of the reference. Conditions: those of each theorem. -/
import Derived.Test.YtoejdfpmmgldpaaHa
namespace Go.Proofs.Ytoejdfpmmgldpaa
set_option linter.unusedVariables false
set_option linter.unusedSimpArgs false
open Go.RowKit Go.Deep
/-- An append of a list that can be read to a list of ints of the call's own, in a region whose order is fixed. -/
theorem wpList_app {P : Program} {w : World} {ops : Array Oper} {rest : List Oper} {op : Oper} {a : Act} {Q : Exit → Act → World → Prop} (hgd : op.guard = none) (s x : Operand) (t : TypeId)
    (ho : op.op = .call { callee := .builtin .append, args := #[s, x], argTypes := #[t, t] })
    (base : Nat) (i : TypeInfo) (z : Value) (ht : P.underlying t = some (.slice 3)) (hi : P.info? 3 = some i) (hz : i.zero = some z)
    (hsize : i.size = 1) (hby : i.bytes = 8) (hzs : z.cells.size = 1) (hbase : base ≤ w.heap.size)
    (v : Value) (n : Nat) (xs : List Value) (hs : a.eval s = v) (hown : w.ownsRow base 3 1 v n xs)
    (A : Option Addr) (m cp : Nat) (f : Nat → Nat → Int) (hx : a.eval x = .slice A m cp) (hr : RowsAt w A m 1 f) (N : Nat) (hN : n + m = N) (ys : List Value) (hys : xs ++ rowC 1 f m = ys) (h9 : N ≤ 1000)
    (h : ∀ A' cp' w', w'.ownsRow base 3 1 (.slice A' N cp') N ys → w.grownBy w' v.ownBlock → ((Value.slice A' N cp').ownBlock = v.ownBlock ∨ (Value.slice A' N cp').ownBlock = some w.heap.size) → wpList P ops Q rest (a.put op.dst (.slice A' N cp')) w') : wpList P ops Q (op :: rest) a w := by
  subst hN
  subst hys
  refine wpList_plain hgd fun K hK => ?_
  obtain ⟨v', w', hrun, h2, h3, h9⟩ := run_append_rows (P := P) base t op.type 3 i z 1 8 ht hi hz hsize hby hzs (by omega) v n xs hown A m cp f hr (by unfold maxLen; omega) (by omega) hbase
  obtain ⟨A', cp', rfl⟩ := own_slice2 h2
  unfold Oper.wp execOp
  simp only [ho, resolve, invoke, builtin, Sem.run_bind, Sem.run_pure, Result.andThen_ok, List.map_toArray, List.map_cons, List.map_nil, hs, hx, hrun]
  exact hK _ _ (h A' cp' w' h2 h3 h9)
theorem own_lit1 (X : World) (base : Nat) (z : Int) (h : base ≤ X.heap.size) : (X.alloc (.cells #[.int .i64 z] 3)).ownsRow base 3 1 (.slice (some ⟨X.heap.size, 0, none⟩) 1 1) 1 [.int .i64 z] :=
  World.ownsRow_lit X #[.int .i64 z] 1 h (by unfold maxLen; omega) rfl
theorem rows_lit1 (X : World) (z : Int) (hz : I64 z) : RowsAt (X.alloc (.cells #[.int .i64 z] 3)) (some ⟨X.heap.size, 0, none⟩) 1 1 (fun _ _ => z) :=
  rows_of_owns (own_lit1 X 0 z (Nat.zero_le _)) (fun _ _ _ _ => hz)
theorem own_caps {w : World} {base n cp : Nat} {A : Option Addr} {xs : List Value} (h : w.ownsRow base 3 1 (.slice A n cp) n xs) : n ≤ cp ∧ cp ≤ maxLen := by
  rcases h.2 with ⟨e, e2⟩ | ⟨g', cap, cur, e, hb, hg, h1, h2, -⟩
  · simp only [Value.slice.injEq] at e
    omega
  · simp only [Value.slice.injEq] at e
    obtain ⟨-, -, rfl⟩ := e
    exact ⟨h1, h2⟩
theorem addF_I {w : World} {A : Option Addr} {l : Nat} {x : Nat → Nat → Int} {i : Int} (h : RowsAt w A l 1 x) (hi : I64 i) : ∀ k, k < l + 1 → ∀ j, j < 1 → I64 (addF l x i k j) := by
  intro k hk j hj
  unfold addF
  split
  · obtain ⟨-, -, -, -, -, q⟩ := rows1 h (by assumption)
    exact q
  · exact hi
set_option maxRecDepth 100000 in
set_option maxHeartbeats 8000000 in
theorem r6bord_any (A : Option Addr) (n cap : Nat) (B : Nat → Option Addr) (m cp : Nat → Nat) (f : Nat → Nat → Int) (RA : Option Addr) (l rc : Nat) (R : Nat → Nat → Int) (CA : Option Addr) (cc : Nat) (C : Nat → Nat → Int) (i j : Int) (w : World)
    (hk : Mok n m f l R C) (hs : setB n l R = true) (hi : 0 ≤ i ∧ i < n) (hj : 0 ≤ j ∧ j < m 0) (h : MatAt w A n B m cp f) (hR : RowsAt w RA l 1 R) (hC : RowsAt w CA l 1 C) :
    Calls Try.prog 60 #[.slice A n cap, .slice RA l rc, .slice CA l cc, .int .i64 i, .int .i64 j] w fun e w' => e = .returned (.int .i64 (leftV f l R C i j)) ∧ Kept w w' := by
  have HM := Lib.hid h
  have HR := Lib.hid hR
  have HC := Lib.hid hC
  have HK := Lib.hid hk
  obtain ⟨⟨n1, n6⟩, ⟨m1, m6⟩, -, -, -, -, l6⟩ := hk
  clear h hR hC
  obtain ⟨ti, hti, hte⟩ := Option.map_eq_some_iff.1 info_I
  simp only [Prod.mk.injEq] at hte
  have HT := Lib.hid hti
  have HTE := Lib.hid hte
  clear hti hte
  cases h1 : hasB l R i
  case true =>
    rw [show leftV f l R C i j = 0 by unfold leftV; rw [h1]; rfl]
    have H1 := Lib.hid h1
    clear h1
    go_enter Try.func60, Try.ntmps60
    go_wp2_with (go_at_call 90; refine (r6has_any _ _ _ _ _ _ (by omega) HR.out).mono ?_; rintro e w1 ⟨rfl, rfl⟩; rw [H1.out])
    go_ret
    exact ⟨rfl, by (repeat (first | exact Kept.refl _ | assumption | refine Kept.alloc ?_ _ | refine Kept.ext ?_ _ | refine Kept.drew ?_ | refine Kept.drewN ?_ _))⟩
  cases h2 : hasB l C j
  case true =>
    rw [show leftV f l R C i j = 0 by unfold leftV; rw [h1, h2]; rfl]
    have hh1 : ∀ w', Kept w w' → Calls Try.prog 90 #[.slice RA l rc, .int .i64 i] w' fun e w'' => e = .returned (.bool false) ∧ w' = w'' := fun w' hk => by
      have := r6has_any RA l rc R i w' (by omega) (HR.out.of hk)
      rwa [h1] at this
    have hh2 : ∀ w', Kept w w' → Calls Try.prog 90 #[.slice CA l cc, .int .i64 j] w' fun e w'' => e = .returned (.bool true) ∧ w' = w'' := fun w' hk => by
      have := r6has_any CA l cc C j w' (by omega) (HC.out.of hk)
      rwa [h2] at this
    have H1 := Lib.hid hh1
    have H2 := Lib.hid hh2
    clear h1 h2 hh1 hh2
    go_enter Try.func60, Try.ntmps60
    go_wp2_with (first | (go_at_call 90; (with_reducible refine (H1.out _ (by (repeat (first | exact Kept.refl _ | assumption | refine Kept.alloc ?_ _ | refine Kept.ext ?_ _ | refine Kept.drew ?_ | refine Kept.drewN ?_ _)))).mono ?_); rintro e w1 ⟨rfl, rfl⟩) | (go_at_call 90; (with_reducible refine (H2.out _ (by (repeat (first | exact Kept.refl _ | assumption | refine Kept.alloc ?_ _ | refine Kept.ext ?_ _ | refine Kept.drew ?_ | refine Kept.drewN ?_ _)))).mono ?_); rintro e w1 ⟨rfl, rfl⟩))
    go_ret
    exact ⟨rfl, by (repeat (first | exact Kept.refl _ | assumption | refine Kept.alloc ?_ _ | refine Kept.ext ?_ _ | refine Kept.drew ?_ | refine Kept.drewN ?_ _))⟩
  have hA := HK.out.add hs hi hj h1
  rw [show leftV f l R C i j = D (l + 1) (subF f (addF l R i) (addF l C j)) by unfold leftV; rw [h1, h2]; rfl]
  have HA := Lib.hid hA
  have hh1 : ∀ w', Kept w w' → Calls Try.prog 90 #[.slice RA l rc, .int .i64 i] w' fun e w'' => e = .returned (.bool false) ∧ w' = w'' := fun w' hk => by
    have := r6has_any RA l rc R i w' (by omega) (HR.out.of hk)
    rwa [h1] at this
  have hh2 : ∀ w', Kept w w' → Calls Try.prog 90 #[.slice CA l cc, .int .i64 j] w' fun e w'' => e = .returned (.bool false) ∧ w' = w'' := fun w' hk => by
    have := r6has_any CA l cc C j w' (by omega) (HC.out.of hk)
    rwa [h2] at this
  have H1 := Lib.hid hh1
  have H2 := Lib.hid hh2
  have HI1 := Lib.hid (show I64 i by unfold I64; omega)
  have HI2 := Lib.hid (show I64 j by unfold I64; omega)
  clear h1 h2 hh1 hh2 hA
  go_enter Try.func60, Try.ntmps60
  go_wp2_with (first
    | (go_at_call 90; (with_reducible refine (H1.out _ (by (repeat (first | exact Kept.refl _ | assumption | refine Kept.alloc ?_ _ | refine Kept.ext ?_ _ | refine Kept.drew ?_ | refine Kept.drewN ?_ _)))).mono ?_); rintro e w1 ⟨rfl, rfl⟩)
    | (go_at_call 90; (with_reducible refine (H2.out _ (by (repeat (first | exact Kept.refl _ | assumption | refine Kept.alloc ?_ _ | refine Kept.ext ?_ _ | refine Kept.drew ?_ | refine Kept.drewN ?_ _)))).mono ?_); rintro e w1 ⟨rfl, rfl⟩)
    | (at_builtin; refine wpList_app rfl (.tmp 20) (.tmp 21) 23 rfl w.heap.size ti _ Try.underlying23 HT.out HTE.out.1 HTE.out.2.1 HTE.out.2.2 rfl (by simp) _ 0 [] rfl (own_new _ _ (Nat.le_refl _)) RA l rc R rfl (HR.out.of (by (repeat (first | exact Kept.refl _ | assumption | refine Kept.alloc ?_ _ | refine Kept.ext ?_ _ | refine Kept.drew ?_ | refine Kept.drewN ?_ _)))) l (Nat.zero_add l) _ (List.nil_append _) (by omega) ?_
       intro A1 cp1 w1 k1 k2 k3
       have E1 := Lib.hid (kept_grown (W := w) (by (repeat (first | exact Kept.refl _ | assumption | refine Kept.alloc ?_ _ | refine Kept.ext ?_ _ | refine Kept.drew ?_ | refine Kept.drewN ?_ _))) (own_new (c := 1) _ _ (Nat.le_refl _)) (Nat.le_refl _) k2)
       have K1 := Lib.hid k1
       clear k1 k2 k3)
    | (at_builtin; refine wpList_app rfl (.tmp 22) (.tmp 24) 23 rfl w.heap.size ti _ Try.underlying23 HT.out HTE.out.1 HTE.out.2.1 HTE.out.2.2 rfl (by have := kept_le E1.out; simp; omega) _ l _ rfl (owns_kept K1.out (by (repeat (first | exact Kept.refl _ | assumption | refine Kept.alloc ?_ _ | refine Kept.ext ?_ _ | refine Kept.drew ?_ | refine Kept.drewN ?_ _)))) _ 1 1 _ rfl (rows_lit1 _ i HI1.out) (l + 1) rfl _ (rowC_add l R i) (by omega) ?_
       intro A2 cp2 w2 k1 k2 k3
       have E2 := Lib.hid (kept_grown (W := w) (E1.out.trans (by (repeat (first | exact Kept.refl _ | assumption | refine Kept.alloc ?_ _ | refine Kept.ext ?_ _ | refine Kept.drew ?_ | refine Kept.drewN ?_ _)))) (owns_kept K1.out (by (repeat (first | exact Kept.refl _ | assumption | refine Kept.alloc ?_ _ | refine Kept.ext ?_ _ | refine Kept.drew ?_ | refine Kept.drewN ?_ _)))) (Nat.le_refl _) k2)
       have K2 := Lib.hid k1
       clear k1 k2 k3)
    | (at_builtin; refine wpList_app rfl (.tmp 26) (.tmp 27) 23 rfl w.heap.size ti _ Try.underlying23 HT.out HTE.out.1 HTE.out.2.1 HTE.out.2.2 rfl (by have := kept_le E2.out; simp; omega) _ 0 [] rfl (own_new _ _ (kept_le E2.out)) CA l cc C rfl (HC.out.of (E2.out.trans (by (repeat (first | exact Kept.refl _ | assumption | refine Kept.alloc ?_ _ | refine Kept.ext ?_ _ | refine Kept.drew ?_ | refine Kept.drewN ?_ _))))) l (Nat.zero_add l) _ (List.nil_append _) (by omega) ?_
       intro A3 cp3 w3 k1 k2 k3
       have E3 := Lib.hid (kept_grown (W := w) (E2.out.trans (by (repeat (first | exact Kept.refl _ | assumption | refine Kept.alloc ?_ _ | refine Kept.ext ?_ _ | refine Kept.drew ?_ | refine Kept.drewN ?_ _)))) (own_new (c := 1) _ _ (kept_le E2.out)) (Nat.le_refl _) k2)
       have n1 : (Value.slice A2 (l + 1) cp2).ownBlock ≠ some w2.heap.size := fun e => by have := own_lt (b := w2.heap.size) K2.out e; omega
       have n2 : (Value.slice A2 (l + 1) cp2).ownBlock ≠ some (w2.heap.size + 1) := fun e => by have := own_lt (b := w2.heap.size + 1) K2.out e; omega
       have K23 := Lib.hid ((owns_kept K2.out (show Kept w2 (w2.alloc (.cells #[] 3)) by (repeat (first | exact Kept.refl _ | assumption | refine Kept.alloc ?_ _ | refine Kept.ext ?_ _ | refine Kept.drew ?_ | refine Kept.drewN ?_ _)))).kept k2 (.inr n1))
       have N3 := Lib.hid (show (Value.slice A2 (l + 1) cp2).ownBlock ≠ (Value.slice A3 l cp3).ownBlock by rcases k3 with e | e <;> rw [e]; exact n1; rw [World.size_alloc]; exact n2)
       have K3 := Lib.hid k1
       clear k1 k2 k3 n1 n2)
    | (at_builtin; refine wpList_app rfl (.tmp 28) (.tmp 30) 23 rfl w.heap.size ti _ Try.underlying23 HT.out HTE.out.1 HTE.out.2.1 HTE.out.2.2 rfl (by have := kept_le E3.out; simp; omega) _ l _ rfl (owns_kept K3.out (by (repeat (first | exact Kept.refl _ | assumption | refine Kept.alloc ?_ _ | refine Kept.ext ?_ _ | refine Kept.drew ?_ | refine Kept.drewN ?_ _)))) _ 1 1 _ rfl (rows_lit1 _ j HI2.out) (l + 1) rfl _ (rowC_add l C j) (by omega) ?_
       intro A4 cp4 w4 k1 k2 k3
       have E4 := Lib.hid (kept_grown (W := w) (E3.out.trans (by (repeat (first | exact Kept.refl _ | assumption | refine Kept.alloc ?_ _ | refine Kept.ext ?_ _ | refine Kept.drew ?_ | refine Kept.drewN ?_ _)))) (owns_kept K3.out (by (repeat (first | exact Kept.refl _ | assumption | refine Kept.alloc ?_ _ | refine Kept.ext ?_ _ | refine Kept.drew ?_ | refine Kept.drewN ?_ _)))) (Nat.le_refl _) k2)
       have K24 := Lib.hid ((owns_kept K23.out (by (repeat (first | exact Kept.refl _ | assumption | refine Kept.alloc ?_ _ | refine Kept.ext ?_ _ | refine Kept.drew ?_ | refine Kept.drewN ?_ _)))).kept k2 (.inr N3.out))
       have K4 := Lib.hid k1
       clear k1 k2 k3)
    | (go_at_call 64; refine (r6det_any _ _ _ _ _ _ _ _ _ _ (addF l R i) _ _ (addF l C j) _ n6 HA.out.hl (HM.out.of E4.out) (rows_of_owns K24.out (addF_I HR.out HI1.out)) (rows_of_owns K4.out (addF_I HC.out HI2.out)) (own_caps K24.out) (own_caps K4.out) HA.out.hr HA.out.hm HA.out.hc HA.out.m1.2 HA.out.sml).mono ?_; rintro e w1 ⟨rfl, x2, rfl⟩))
  go_ret
  exact ⟨rfl, E4.out.trans (by (repeat (first | exact Kept.refl _ | assumption | refine Kept.alloc ?_ _ | refine Kept.ext ?_ _ | refine Kept.drew ?_ | refine Kept.drewN ?_ _)))⟩
end Go.Proofs.Ytoejdfpmmgldpaa
