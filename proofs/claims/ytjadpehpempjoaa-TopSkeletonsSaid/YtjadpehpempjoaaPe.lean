/- Contracts: lists of numbers and of fractions that hold the same are told so. Conditions: the lists hold the same and the lengths are ints. An argument of three lists, opened. No conditions but those of each theorem. Contracts: products of matrices and of skeletons, whatever the error. Conditions: the lists' lengths are ints. What the laws of products need, together. -/
import Derived.Test.YtjadpehpempjoaaRl
import Derived.Test.YtjadpehpempjoaaOpm
import Derived.Deep.Strs
import Derived.Test.YtjadpehpempjoaaFb
import Derived.Test.YtjadpehpempjoaaOf
import Derived.Test.YtjadpehpempjoaaLg
namespace Go.Proofs.Ytjadpehpempjoaa
set_option linter.unusedVariables false
set_option linter.unusedSimpArgs false
open Go.RowKit Go.Deep
theorem rows2 {w : World} {A : Option Addr} {n k : Nat} {f : Nat → Nat → Int} (h : RowsAt w A n 2 f) (hk : k < n) :
    ∃ b off, A = some ⟨b, off, none⟩ ∧ b < w.heap.size ∧ w.cell? ⟨b, off + k * 2, none⟩ = some (.int .i64 (f k 0)) ∧ w.cell? ⟨b, off + k * 2 + 1, none⟩ = some (.int .i64 (f k 1)) := by
  obtain ⟨b, off, hA, hb, hc⟩ := h (by omega)
  exact ⟨b, off, hA, hb, (hc k hk 0 (by omega)).1, (hc k hk 1 (by omega)).1⟩
end Go.Proofs.Ytjadpehpempjoaa
namespace Go.Proofs.Ytjadpehpempjoaa
set_option linter.unusedVariables false
set_option linter.unusedSimpArgs false
open Go.ChangeShapes Go.WideShapes Go.ChangeAt Go.RowKit Go.Deep
section
variable {H : Type} {enc : TypeId × Value → H} {P : Program} {w : World} {base : Nat} {spare : Nat → Bool} {held : Bool}
theorem open_work {r : Reach} {b0 : Nat} {v : Value} {d : DataW H} {p : List MemPlace} (f0 f1 f2 : Field) (t e : TypeId)
    (ht : P.underlying t = some (.struct #[f0, f1, f2])) (ho : f0.offset = 0 ∧ f1.offset = 1 ∧ f2.offset = 2 ∧ P.cellsOf f0.type = 1 ∧ P.cellsOf f1.type = 1 ∧ P.cellsOf f2.type = 1 ∧ P.cellsOf t = 3)
    (h0 : P.underlying f0.type = some (.slice e)) (h1 : P.underlying f1.type = some (.slice e)) (h2 : P.underlying f2.type = some (.slice e)) (hC : P.cellsOf e = 1) (ha : ((List.range 1).all fun i => leafInt P 9 e i) = true)
    (hv : Value.okWide P w r b0 t v) (h : DataW.Trod enc P w base spare held t v d p) (hlt : ∀ x ∈ p, x.block < w.heap.size) :
    ∃ (A : Option Addr) (n cap : Nat) (f : Nat → Nat → Int) (B : Option Addr) (m cap2 : Nat) (g : Nat → Nat → Int) (D : Option Addr) (l cap3 : Nat) (u : Nat → Nat → Int), v = .agg #[.slice A n cap, .slice B m cap2, .slice D l cap3] ∧ (n ≤ cap ∧ cap ≤ maxLen ∧ RowsAt w A n 1 f) ∧ (m ≤ cap2 ∧ cap2 ≤ maxLen ∧ RowsAt w B m 1 g) ∧ (l ≤ cap3 ∧ cap3 ≤ maxLen ∧ RowsAt w D l 1 u) := by
  obtain ⟨o0, o1, o2, k0, k1, k2, k3⟩ := ho
  have hv' : ∃ cs : Array Value, v = .agg cs ∧ cs.size = 3 := by
    unfold Value.okWide at hv
    rw [ht] at hv
    simp only at hv
    obtain ⟨cs, rfl, h1, -⟩ := hv
    exact ⟨cs, rfl, by rw [h1, k3]⟩
  obtain ⟨cs, rfl, hs⟩ := hv'
  obtain ⟨fuel, hf⟩ := h
  obtain ⟨y0, y1, y2, n, hx, hl, q0, q1, q2⟩ := trod_struct3 ht hf
  simp only [Prod.mk.injEq] at hx
  obtain ⟨-, rfl⟩ := hx
  obtain ⟨c, c', c'', rfl⟩ : ∃ c c' c'', cs = #[c, c', c''] := by
    refine ⟨cs[0], cs[1], cs[2], ?_⟩
    apply Array.ext
    · simp [hs]
    · intro i hi1 hi2
      rcases (show i = 0 ∨ i = 1 ∨ i = 2 by omega) with rfl | rfl | rfl <;> rfl
  simp only [Value.cells, o0, o1, o2, k0, k1, k2, List.drop_zero, List.drop_succ_cons, List.take_succ_cons, List.take_zero] at q0 q1 q2
  obtain ⟨A, n, cap, f, e0, a1, a2, a3⟩ := rows_cells 1 h0 hC (by decide) ha q0 (fun y hy => hlt y (List.mem_append_left _ hy))
  obtain ⟨B, m, cap2, g, e1, b1, b2, b3⟩ := rows_cells 1 h1 hC (by decide) ha q1 (fun y hy => hlt y (List.mem_append_right _ (List.mem_append_left _ hy)))
  obtain ⟨D, l, cap3, u, e2, c1, c2, c3⟩ := rows_cells 1 h2 hC (by decide) ha q2 (fun y hy => hlt y (List.mem_append_right _ (List.mem_append_right _ hy)))
  simp only [List.cons.injEq, and_true] at e0 e1 e2
  subst e0 e1 e2
  exact ⟨A, n, cap, f, B, m, cap2, g, D, l, cap3, u, rfl, ⟨a1, a2, a3⟩, ⟨b1, b2, b3⟩, c1, c2, c3⟩
end
end Go.Proofs.Ytjadpehpempjoaa
namespace Go.Proofs.Ytjadpehpempjoaa
set_option linter.unusedVariables false
set_option linter.unusedSimpArgs false
open Go.RowKit Go.Deep
def prL (n : Nat) (m : Nat → Nat) (f : Nat → Nat → Int) (xl : Nat) (X : Nat → Nat → Int) : Nat := if prodE n m f xl X = 0 then n else 0
def prF (m : Nat → Nat) (f : Nat → Nat → Int) (X : Nat → Nat → Int) (k _ : Nat) : Int := pV f X (m 0) k
def fsL (n : Nat) (m : Nat → Nat) (f : Nat → Nat → Int) (rl : Nat) (R : Nat → Nat → Int) (cl : Nat) (C : Nat → Nat → Int) (xl : Nat) (X : Nat → Nat → Int) : Nat := if mulE n m f rl R cl C xl X = 0 then n else 0
theorem prL_le {n : Nat} {m : Nat → Nat} {f : Nat → Nat → Int} {xl : Nat} {X : Nat → Nat → Int} : prL n m f xl X ≤ n := by
  unfold prL
  split <;> omega
theorem fsL_le {n : Nat} {m : Nat → Nat} {f : Nat → Nat → Int} {rl : Nat} {R : Nat → Nat → Int} {cl : Nat} {C : Nat → Nat → Int} {xl : Nat} {X : Nat → Nat → Int} : fsL n m f rl R cl C xl X ≤ n := by
  unfold fsL
  split <;> omega
theorem prF_I {n : Nat} {m : Nat → Nat} {f : Nat → Nat → Int} {xl : Nat} {X : Nat → Nat → Int} (hE : prodE n m f xl X = 0) {k j : Nat} (hk : k < n) : I64 (prF m f X k j) := by
  obtain ⟨hv, hf⟩ := prodE_0 hE
  have := pSum_bd hv hf hk (q := m 0) (Nat.le_refl _)
  unfold I64 prF pV
  omega
theorem fst_bd {n : Nat} {m : Nat → Nat} {f : Nat → Nat → Int} {rl : Nat} {R : Nat → Nat → Int} {cl : Nat} {C : Nat → Nat → Int} {xl : Nat} {X : Nat → Nat → Int} (hE : mulE n m f rl R cl C xl X = 0) {k : Nat} (hk : k < n) :
    (-5040000000000000000 ≤ fstN m f rl R C X k ∧ fstN m f rl R C X k ≤ 5040000000000000000) ∧ 1 ≤ fstD m f rl R C X k ∧ fstD m f rl R C X k ≤ 1200000000000 := by
  obtain ⟨hc, hf, ho⟩ := mulE_0 hE
  obtain ⟨-, hd⟩ := opnE_0 ho
  obtain ⟨hv, hs, -, rfl⟩ := choE_0 hc
  obtain ⟨-, hm⟩ := Mok.of hc
  have h1 := den_bd (X := X) hm hs hk hd
  have h2 := pSum_bd hv hf hk (q := m 0) (Nat.le_refl _)
  have h3 := frN_bd (oSum_bd hm hs hf hk (q := m 0) (Nat.le_refl _)) hd
  rw [show sumZ (oTerm f rl R C X k) (m 0) = oV f rl R C X (m 0) k from rfl] at h3
  rw [show sumZ (pTerm f X k) (m 0) = pV f X (m 0) k from rfl] at h2
  have h4 := mul_abs (c := 600000) (d := 1200000000000) (a := pV f X (m 0) k) (b := frD (oV f rl R C X (m 0) k) (D rl (subF f R C))) (by omega) (by omega) (by decide) (by decide)
  unfold fstN fstD
  refine ⟨?_, h1⟩
  omega
theorem fstF_I {n : Nat} {m : Nat → Nat} {f : Nat → Nat → Int} {rl : Nat} {R : Nat → Nat → Int} {cl : Nat} {C : Nat → Nat → Int} {xl : Nat} {X : Nat → Nat → Int} (hE : mulE n m f rl R cl C xl X = 0) {k : Nat} (hk : k < n) (j : Nat) : I64 (fstF m f rl R C X k j) := by
  have := fst_bd hE hk
  unfold fstF I64
  split <;> omega
theorem cProd_any (A : Option Addr) (n cap : Nat) (B : Nat → Option Addr) (m cp : Nat → Nat) (f : Nat → Nat → Int) (XA : Option Addr) (xl xc : Nat) (X : Nat → Nat → Int) (w : World) (hn : n ≤ 9223372036854775807) (hxl : xl ≤ 9223372036854775807) (h : MatAt w A n B m cp f) (hX : RowsAt w XA xl 1 X) :
    Calls Try.prog 8 #[.slice A n cap, .slice XA xl xc] w fun e w' => ∃ OA oc, e = .returned (.tuple #[.slice OA (prL n m f xl X) oc, .int .i64 (prodE n m f xl X)]) ∧ Kept w w' ∧ RowsAt w' OA (prL n m f xl X) 1 (prF m f X) := by
  by_cases hE : prodE n m f xl X = 0
  · refine (cProdok_any A n cap B m cp f XA xl xc X w hn hxl h hX hE).mono ?_
    rintro e w' ⟨v, rfl, hk, hO⟩
    rw [show prL n m f xl X = n from if_pos hE, hE]
    obtain ⟨OA, oc, rfl⟩ := own_slice2 hO
    exact ⟨OA, oc, rfl, hk, rows_of_owns hO (fun k hk j _ => prF_I hE hk)⟩
  · refine (cProdno_any A n cap B m cp f XA xl xc X w hn hxl h hX hE).mono ?_
    rintro e w' ⟨rfl, hk⟩
    rw [show prL n m f xl X = 0 from if_neg hE]
    exact ⟨none, 0, rfl, hk, fun h => absurd h (by omega)⟩
theorem cFast_any (A : Option Addr) (n cap : Nat) (B : Nat → Option Addr) (m cp : Nat → Nat) (f : Nat → Nat → Int) (RA : Option Addr) (rl rc : Nat) (R : Nat → Nat → Int) (CA : Option Addr) (cl cc : Nat) (C : Nat → Nat → Int) (XA : Option Addr) (xl xc : Nat) (X : Nat → Nat → Int) (w : World) (hn : n ≤ 9223372036854775807) (hrl : rl ≤ 9223372036854775807) (hcl : cl ≤ 9223372036854775807) (hxl : xl ≤ 9223372036854775807) (h : MatAt w A n B m cp f) (hR : RowsAt w RA rl 1 R) (hC : RowsAt w CA cl 1 C) (hX : RowsAt w XA xl 1 X) :
    Calls Try.prog 9 #[.slice A n cap, .slice RA rl rc, .slice CA cl cc, .slice XA xl xc] w fun e w' => ∃ OA oc, e = .returned (.tuple #[.slice OA (fsL n m f rl R cl C xl X) oc, .int .i64 (mulE n m f rl R cl C xl X)]) ∧ Kept w w' ∧ RowsAt w' OA (fsL n m f rl R cl C xl X) 2 (fstF m f rl R C X) := by
  by_cases hE : mulE n m f rl R cl C xl X = 0
  · refine (cFastok_any A n cap B m cp f RA rl rc R CA cl cc C XA xl xc X w hn hrl hcl hxl h hR hC hX hE).mono ?_
    rintro e w' ⟨v, rfl, hk, hO⟩
    rw [show fsL n m f rl R cl C xl X = n from if_pos hE, hE]
    obtain ⟨OA, oc, rfl⟩ := own_slice2 hO
    exact ⟨OA, oc, rfl, hk, rows_of_owns hO (fun k hk j _ => fstF_I hE hk j)⟩
  · refine (cFastno_any A n cap B m cp f RA rl rc R CA cl cc C XA xl xc X w hn hrl hcl hxl h hR hC hX hE).mono ?_
    rintro e w' ⟨rfl, hk⟩
    rw [show fsL n m f rl R cl C xl X = 0 from if_neg hE]
    exact ⟨none, 0, rfl, hk, fun h => absurd h (by omega)⟩
end Go.Proofs.Ytjadpehpempjoaa
