/- Contracts: minors of choices, of the program and of the reference. Conditions: the lists' lengths are ints. Contracts: whether a number is in a list, of the program and of the reference. Conditions: the list's length is an int. Contract: the determinant of a choice with one more row and column, of the reference. Conditions: those of each theorem. -/
import Derived.Test.YtjadpehpempjoaaPd
import Derived.Test.YtjadpehpempjoaaRd
namespace Go.Proofs.Ytjadpehpempjoaa
set_option linter.unusedVariables false
set_option linter.unusedSimpArgs false
open Go.RowKit Go.Deep
theorem set_ge {N l : Nat} {x : Nat → Nat → Int} (h : setB N l x = true) : ∀ k, k < l → (k : Int) ≤ x k 0
  | 0, hk => (setB_at h hk).1
  | k + 1, hk => by
    have h1 := set_ge h k (by omega)
    have h2 := (setB_at h hk).2.2 k rfl
    omega
theorem set_len {N l : Nat} {x : Nat → Nat → Int} (h : setB N l x = true) : l ≤ N := by
  rcases Nat.eq_zero_or_pos l with h0 | h0
  · omega
  · have h1 := set_ge h (l - 1) (by omega)
    have h2 := (setB_at h (show l - 1 < l by omega)).2.1
    omega
/-- What holds of a matrix and lists of rows and columns whose minor can be taken. -/
structure Mok (n : Nat) (m : Nat → Nat) (f : Nat → Nat → Int) (l : Nat) (R C : Nat → Nat → Int) : Prop where
  n1 : 1 ≤ n ∧ n ≤ 6
  m1 : 1 ≤ m 0 ∧ m 0 ≤ 6
  hm : ∀ k, k < n → m k = m 0
  hf : ∀ k, k < n → ∀ j, j < m 0 → -100 ≤ f k j ∧ f k j ≤ 100
  hr : ∀ i, i < l → 0 ≤ R i 0 ∧ R i 0 < n
  hc : ∀ i, i < l → 0 ≤ C i 0 ∧ C i 0 < m 0
  hl : l ≤ 6
theorem Mok.of {n : Nat} {m : Nat → Nat} {f : Nat → Nat → Int} {rl cl : Nat} {R C : Nat → Nat → Int} (h : choE n m f rl R cl C = 0) : rl = cl ∧ Mok n m f rl R C := by
  obtain ⟨h1, h2, h3, h4⟩ := choE_0 h
  obtain ⟨v1, v2, v3, v4⟩ := valE_0 h1
  subst h4
  exact ⟨rfl, v1, v2, v3, v4, fun i hi => ⟨(setB_at h2 hi).1, (setB_at h2 hi).2.1⟩, fun i hi => ⟨(setB_at h3 hi).1, (setB_at h3 hi).2.1⟩, by have := set_len h2; omega⟩
theorem Mok.sml {n : Nat} {m : Nat → Nat} {f : Nat → Nat → Int} {l : Nat} {R C : Nat → Nat → Int} (h : Mok n m f l R C) : Sml l (subF f R C) := by
  intro i hi j hj
  have h1 := h.hr i hi
  have h2 := h.hc j hj
  exact h.hf _ (by omega) _ (by omega)
theorem Mok.bd {n : Nat} {m : Nat → Nat} {f : Nat → Nat → Int} {l : Nat} {R C : Nat → Nat → Int} (h : Mok n m f l R C) : -720000000000000 ≤ D l (subF f R C) ∧ D l (subF f R C) ≤ 720000000000000 := D_small h.sml (Nat.le_refl _) h.hl
set_option maxRecDepth 100000 in
set_option maxHeartbeats 4000000 in
theorem cminor_any (A : Option Addr) (n cap : Nat) (B : Nat → Option Addr) (m cp : Nat → Nat) (f : Nat → Nat → Int) (RA : Option Addr) (l rc : Nat) (R : Nat → Nat → Int) (CA : Option Addr) (cc : Nat) (C : Nat → Nat → Int) (w : World)
    (hk : Mok n m f l R C) (h : MatAt w A n B m cp f) (hR : RowsAt w RA l 1 R) (hC : RowsAt w CA l 1 C) :
    Calls Try.prog 14 #[.slice A n cap, .slice RA l rc, .slice CA l cc] w fun e w' => e = .returned (.int .i64 (D l (subF f R C))) ∧ Kept w w' := by
  have HM := Lib.hid h
  have HR := Lib.hid hR
  have HC := Lib.hid hC
  have HK := Lib.hid hk
  obtain ⟨⟨n1, n6⟩, ⟨m1, m6⟩, -, -, -, -, l6⟩ := hk
  clear h hR hC
  go_enter Try.func14, Try.ntmps14
  go_wp2_with (first | (go_at_call 31; refine (csub_any _ _ _ _ _ _ _ _ _ _ _ _ _ _ _ _ n6 l6 l6 HM.out HR.out HC.out HK.out.hr HK.out.hm HK.out.hc).mono ?_; rintro e w1 ⟨g, B', rfl, hS, x, rfl⟩; have HS := Lib.hid hS; clear hS) | (go_at_call 30; refine (cdet_any _ _ _ _ _ (subF f R C) _ l6 HS.out HK.out.sml).mono ?_; rintro e w1 ⟨rfl, x2, rfl⟩))
  go_ret
  exact ⟨rfl, by (repeat (first | exact Kept.refl _ | assumption | refine Kept.alloc ?_ _ | refine Kept.ext ?_ _ | refine Kept.drew ?_ | refine Kept.drewN ?_ _))⟩
/-- The minor of a choice, or 0. -/
def minV (n : Nat) (m : Nat → Nat) (f : Nat → Nat → Int) (rl : Nat) (R : Nat → Nat → Int) (cl : Nat) (C : Nat → Nat → Int) : Int := if choE n m f rl R cl C = 0 then D rl (subF f R C) else 0
set_option maxRecDepth 100000 in
set_option maxHeartbeats 4000000 in
theorem cMinor_any (A : Option Addr) (n cap : Nat) (B : Nat → Option Addr) (m cp : Nat → Nat) (f : Nat → Nat → Int) (RA : Option Addr) (rl rc : Nat) (R : Nat → Nat → Int) (CA : Option Addr) (cl cc : Nat) (C : Nat → Nat → Int) (w : World)
    (hn : n ≤ 9223372036854775807) (hrl : rl ≤ 9223372036854775807) (hcl : cl ≤ 9223372036854775807) (h : MatAt w A n B m cp f) (hR : RowsAt w RA rl 1 R) (hC : RowsAt w CA cl 1 C) :
    Calls Try.prog 4 #[.slice A n cap, .slice RA rl rc, .slice CA cl cc] w fun e w' => e = .returned (.tuple #[.int .i64 (minV n m f rl R cl C), .int .i64 (choE n m f rl R cl C)]) ∧ Kept w w' := by
  have HM := Lib.hid h
  have HR := Lib.hid hR
  have HC := Lib.hid hC
  clear h hR hC
  by_cases hv : choE n m f rl R cl C = 0
  · rw [show minV n m f rl R cl C = D rl (subF f R C) from if_pos hv]
    obtain ⟨rfl, hk⟩ := Mok.of hv
    have HV := Lib.hid hv
    have HK := Lib.hid hk
    rw [hv]
    clear hk hv
    go_enter Try.func4, Try.ntmps4
    go_wp2_with (first | (go_at_call 13; refine (cchoice_any _ _ _ _ _ _ _ _ _ _ _ _ _ _ _ _ hn hrl hcl HM.out HR.out HC.out).mono ?_; rintro e w1 ⟨rfl, x, rfl⟩; rw [HV.out]) | (go_at_call 14; refine (cminor_any _ _ _ _ _ _ _ _ _ _ _ _ _ _ _ HK.out (HM.out.of (by (repeat (first | exact Kept.refl _ | assumption | refine Kept.alloc ?_ _ | refine Kept.ext ?_ _ | refine Kept.drew ?_ | refine Kept.drewN ?_ _)))) (HR.out.of (by (repeat (first | exact Kept.refl _ | assumption | refine Kept.alloc ?_ _ | refine Kept.ext ?_ _ | refine Kept.drew ?_ | refine Kept.drewN ?_ _)))) (HC.out.of (by (repeat (first | exact Kept.refl _ | assumption | refine Kept.alloc ?_ _ | refine Kept.ext ?_ _ | refine Kept.drew ?_ | refine Kept.drewN ?_ _))))).mono ?_; rintro e w1 ⟨rfl, x2, rfl⟩))
    refine bodyPost_ret (by simp only [results, Try.results4]; go_simp; rfl) rfl ?_
    exact ⟨rfl, by (repeat (first | exact Kept.refl _ | assumption | refine Kept.alloc ?_ _ | refine Kept.ext ?_ _ | refine Kept.drew ?_ | refine Kept.drewN ?_ _))⟩
  · rw [show minV n m f rl R cl C = 0 from if_neg hv]
    obtain ⟨e, he⟩ : ∃ e, choE n m f rl R cl C = e := ⟨_, rfl⟩
    rw [he] at hv ⊢
    have HV := Lib.hid he
    clear he
    have hv2 : (e == 0) = false := by simpa using hv
    have hv3 : decide (e = 0) = false := by simpa using hv
    go_enter Try.func4, Try.ntmps4
    go_wp2_with (go_at_call 13; refine (cchoice_any _ _ _ _ _ _ _ _ _ _ _ _ _ _ _ _ hn hrl hcl HM.out HR.out HC.out).mono ?_; rintro e w1 ⟨rfl, x, rfl⟩; rw [HV.out])
    refine bodyPost_ret (by simp only [results, Try.results4]; go_simp; rfl) rfl ?_
    exact ⟨rfl, by (repeat (first | exact Kept.refl _ | assumption | refine Kept.alloc ?_ _ | refine Kept.ext ?_ _ | refine Kept.drew ?_ | refine Kept.drewN ?_ _))⟩
end Go.Proofs.Ytjadpehpempjoaa
namespace Go.Proofs.Ytjadpehpempjoaa
set_option linter.unusedVariables false
set_option linter.unusedSimpArgs false
open Go.RowKit Go.Deep
def hasB (l : Nat) (x : Nat → Nat → Int) (i : Int) : Bool := (List.range l).any fun k => x k 0 == i
set_option maxRecDepth 100000 in
theorem chas_any (A : Option Addr) (l cap : Nat) (x : Nat → Nat → Int) (i : Int) (w : World) (hl : l ≤ 9223372036854775807) (h : RowsAt w A l 1 x) :
    Calls Try.prog 36 #[.slice A l cap, .int .i64 i] w fun e w' => e = .returned (.bool (hasB l x i)) ∧ w = w' := by
  have HX := Lib.hid h
  clear h
  obtain ⟨r, hr⟩ : ∃ r, hasB l x i = r := ⟨_, rfl⟩
  rw [hr]
  have HR := Lib.hid hr
  clear hr
  go_enter Try.func36, Try.ntmps36
  go_wp2
  go_loopw [9] (fun i1 wr => ∃ k : Nat, k ≤ l ∧ i1 = .int .i64 k ∧ (∀ j, j < k → (x j 0 == i) = false) ∧ w = wr) (fun i1 _ => l - (intOf i1).toNat)
  case atStart => exact ⟨0, by omega, rfl, fun j hj => absurd hj (by omega), by first | rfl | trivial⟩
  case round =>
    obtain ⟨k, hk, rfl, hno, rfl⟩ := hrel
    have HNO := Lib.hid hno
    clear hno
    by_cases hlt : k < l
    · obtain ⟨b, off, rfl, hb, c0, i0⟩ := rows1 HX.out hlt
      have LB : Lower b w.heap.size := ⟨hb⟩
      by_cases he : x k 0 = i
      · have g1 : (x k 0 == i) = true := by simpa using he
        go_wp2
        go_ret
        exact ⟨ret_bool (by rw [← HR.out]; exact (any_range.2 ⟨k, hlt, g1⟩).symm), rfl⟩
      · have g1 : (x k 0 == i) = false := by simpa using he
        go_wp2
        go_roundw
        case rel =>
          refine ⟨k + 1, by omega, by go_num, fun j hj => ?_, by first | rfl | trivial⟩
          by_cases e : j = k
          · rw [e]; exact g1
          · exact HNO.out j (by omega)
        case measure => simp [intOf]; omega
    · obtain rfl : k = l := by omega
      go_wp2
      go_ret
      exact ⟨ret_bool (by rw [← HR.out]; exact (any_range_false.2 HNO.out).symm), rfl⟩
theorem has_not {l : Nat} {x : Nat → Nat → Int} {i : Int} (h : hasB l x i = false) : ∀ k, k < l → x k 0 ≠ i := by
  intro k hk
  have := any_range_false.1 h k hk
  simpa using this
/-- The list with one more element. -/
def addF (l : Nat) (x : Nat → Nat → Int) (i : Int) : Nat → Nat → Int := fun k _ => if k < l then x k 0 else i
theorem set_up {N l : Nat} {x : Nat → Nat → Int} (h : setB N l x = true) : ∀ d k, k + d < l → x k 0 + d ≤ x (k + d) 0
  | 0, k, hk => by simp
  | d + 1, k, hk => by
    have h1 := set_up h d k (by omega)
    have h2 := (setB_at h hk).2.2 (k + d) (by omega)
    rw [show k + (d + 1) = k + d + 1 by omega] at h2 ⊢
    omega
/-- A set that lacks a number below the bound has fewer elements. -/
theorem set_lt {N l : Nat} {x : Nat → Nat → Int} {i : Int} (h : setB N l x = true) (hi : 0 ≤ i ∧ i < N) (hn : hasB l x i = false) : l < N := by
  have h1 := set_len h
  rcases Nat.lt_or_ge l N with q | q
  · exact q
  · exfalso
    obtain ⟨k, hk⟩ : ∃ k : Nat, i = k := ⟨i.toNat, by omega⟩
    have hkl : k < l := by omega
    have h2 := set_ge h k hkl
    have h3 := set_up h (l - 1 - k) k (by omega)
    rw [show k + (l - 1 - k) = l - 1 by omega] at h3
    have h4 := (setB_at h (show l - 1 < l by omega)).2.1
    exact has_not hn k hkl (by omega)
theorem Mok.add {n : Nat} {m : Nat → Nat} {f : Nat → Nat → Int} {l : Nat} {R C : Nat → Nat → Int} {i j : Int} (h : Mok n m f l R C) (hs : setB n l R = true) (hi : 0 ≤ i ∧ i < n) (hj : 0 ≤ j ∧ j < m 0) (hn : hasB l R i = false) : Mok n m f (l + 1) (addF l R i) (addF l C j) := by
  have := set_lt hs hi hn
  refine ⟨h.n1, h.m1, h.hm, h.hf, fun k hk => ?_, fun k hk => ?_, by have := h.n1; omega⟩
  · unfold addF
    split
    · exact h.hr k (by assumption)
    · exact hi
  · unfold addF
    split
    · exact h.hc k (by assumption)
    · exact hj
/-- The numerator of an element of the residual. -/
def leftV (f : Nat → Nat → Int) (l : Nat) (R C : Nat → Nat → Int) (i j : Int) : Int := if (hasB l R i || hasB l C j) = true then 0 else D (l + 1) (subF f (addF l R i) (addF l C j))
theorem rowC_add (l : Nat) (x : Nat → Nat → Int) (i : Int) : rowC 1 x l ++ [.int .i64 i] = rowC 1 (addF l x i) (l + 1) := by
  have e : rowC 1 (addF l x i) l = rowC 1 x l := rowC_congr fun k hk j hj => by
    obtain rfl : j = 0 := by omega
    exact if_pos hk
  show _ = rowC 1 (addF l x i) l ++ [.int .i64 (addF l x i l 0)]
  rw [e, show addF l x i l 0 = i from if_neg (by omega)]
end Go.Proofs.Ytjadpehpempjoaa
namespace Go.Proofs.Ytjadpehpempjoaa
set_option linter.unusedVariables false
set_option linter.unusedSimpArgs false
open Go.RowKit Go.Deep
/-- An append of a list that can be read to a list of ints of the call's own, in a region whose order is fixed. -/
theorem wpList_app {P : Program} {w : World} {ops : Array Oper} {rest : List Oper} {op : Oper} {a : Act} {Q : Exit → Act → World → Prop} (hgd : op.guard = none) (s x : Operand) (t : TypeId)
    (ho : op.op = .call { callee := .builtin .append, args := #[s, x], argTypes := #[t, t] })
    (base : Nat) (i : TypeInfo) (z : Value) (ht : P.underlying t = some (.slice 3)) (hi : P.info? 3 = some i) (hz : i.zero = some z)
    (hsize : i.size = 1) (hby : i.bytes = 8) (hzs : z.cells.size = 1) (hbase : base ≤ w.heap.size)
    (v : Value) (n : Nat) (xs : List Value) (hs : a.eval s = v) (hown : w.ownsRow base 3 1 v n xs)
    (A : Option Addr) (m cp : Nat) (f : Nat → Nat → Int) (hx : a.eval x = .slice A m cp) (hr : RowsAt w A m 1 f) (N : Nat) (hN : n + m = N) (ys : List Value) (hys : xs ++ rowC 1 f m = ys) (h9 : N ≤ 1000)
    (h : ∀ A' cp' w', w'.ownsRow base 3 1 (.slice A' N cp') N ys → w.grownBy w' v.ownBlock → ((Value.slice A' N cp').ownBlock = v.ownBlock ∨ (Value.slice A' N cp').ownBlock = some w.heap.size) → wpList P ops Q rest (a.put op.dst (.slice A' N cp')) w') : wpList P ops Q (op :: rest) a w := by
  subst hN
  subst hys
  refine wpList_plain hgd fun K hK => ?_
  obtain ⟨v', w', hrun, h2, h3, h9⟩ := run_append_rows (P := P) base t op.type 3 i z 1 8 ht hi hz hsize hby hzs (by omega) v n xs hown A m cp f hr (by unfold maxLen; omega) (by omega) hbase
  obtain ⟨A', cp', rfl⟩ := own_slice2 h2
  unfold Oper.wp execOp
  simp only [ho, resolve, invoke, builtin, Sem.run_bind, Sem.run_pure, Result.andThen_ok, List.map_toArray, List.map_cons, List.map_nil, hs, hx, hrun]
  exact hK _ _ (h A' cp' w' h2 h3 h9)
theorem own_lit1 (X : World) (base : Nat) (z : Int) (h : base ≤ X.heap.size) : (X.alloc (.cells #[.int .i64 z] 3)).ownsRow base 3 1 (.slice (some ⟨X.heap.size, 0, none⟩) 1 1) 1 [.int .i64 z] :=
  World.ownsRow_lit X #[.int .i64 z] 1 h (by unfold maxLen; omega) rfl
theorem rows_lit1 (X : World) (z : Int) (hz : I64 z) : RowsAt (X.alloc (.cells #[.int .i64 z] 3)) (some ⟨X.heap.size, 0, none⟩) 1 1 (fun _ _ => z) :=
  rows_of_owns (own_lit1 X 0 z (Nat.zero_le _)) (fun _ _ _ _ => hz)
theorem own_caps {w : World} {base n cp : Nat} {A : Option Addr} {xs : List Value} (h : w.ownsRow base 3 1 (.slice A n cp) n xs) : n ≤ cp ∧ cp ≤ maxLen := by
  rcases h.2 with ⟨e, e2⟩ | ⟨g', cap, cur, e, hb, hg, h1, h2, -⟩
  · simp only [Value.slice.injEq] at e
    omega
  · simp only [Value.slice.injEq] at e
    obtain ⟨-, -, rfl⟩ := e
    exact ⟨h1, h2⟩
theorem addF_I {w : World} {A : Option Addr} {l : Nat} {x : Nat → Nat → Int} {i : Int} (h : RowsAt w A l 1 x) (hi : I64 i) : ∀ k, k < l + 1 → ∀ j, j < 1 → I64 (addF l x i k j) := by
  intro k hk j hj
  unfold addF
  split
  · obtain ⟨-, -, -, -, -, q⟩ := rows1 h (by assumption)
    exact q
  · exact hi
end Go.Proofs.Ytjadpehpempjoaa
