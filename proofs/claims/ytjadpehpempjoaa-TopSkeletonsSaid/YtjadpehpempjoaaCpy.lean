/- Matrices that a call makes itself: rows put, elements stored, rows exchanged. No conditions but those of each theorem. Contracts: the elements of some rows and columns, a matrix in new memory. Conditions: those of each theorem. Contract: a square matrix in new memory. Conditions: it has at most six rows. -/
import Derived.Test.YtjadpehpempjoaaMat
import Derived.Test.YtjadpehpempjoaaCop
import Derived.Test.YtjadpehpempjoaaCho
import Derived.Laws.MakeOwn
import Derived.Laws.CopyOwn
namespace Go.Proofs.Ytjadpehpempjoaa
set_option linter.unusedVariables false
set_option linter.unusedSimpArgs false
open Go.RowKit Go.Deep
/-- A matrix of the call's own: N rows, row i is the list V i of L i ints f i j. -/
structure OwnM (W : World) (base g N : Nat) (V : Nat → Value) (L : Nat → Nat) (f : Nat → Nat → Int) (wr : World) : Prop where
  on : Kept W wr
  hb : W.heap.size ≤ base
  o : wr.ownsRow base 23 1 (.slice (some ⟨g, 0, none⟩) N N) N ((List.range N).map V)
  r : ∀ i, i < N → wr.ownsRow base 3 1 (V i) (L i) (rowC 1 (fun k _ => f i k) (L i))
  d : ∀ i j, i < N → j < N → i ≠ j → (V i).ownBlock = none ∨ (V i).ownBlock ≠ (V j).ownBlock
theorem kept_by {W w w' : World} {g : Nat} (hk : Kept W w) (hb : W.heap.size ≤ g) (hg : w.grownBy w' (some g)) : Kept W w' := by
  refine Kept.of_below ?_
  have h1 := hk.below
  refine h1.grown hg h1.size ?_
  intro g' e
  cases e
  omega
section
variable {W wr wr' : World} {base g N : Nat} {V V' : Nat → Value} {L L' : Nat → Nat} {f f' : Nat → Nat → Int}
theorem OwnM.next (h : OwnM W base g N V L f wr) (hk : Kept wr wr') : OwnM W base g N V L f wr' :=
  ⟨h.on.trans hk, h.hb, owns_kept h.o hk, fun i hi => owns_kept (h.r i hi) hk, h.d⟩
theorem OwnM.congr (h : OwnM W base g N V L f wr) (hV : ∀ i, i < N → V i = V' i) (hL : ∀ i, i < N → L i = L' i) (hf : ∀ i, i < N → ∀ j, j < L i → f i j = f' i j) : OwnM W base g N V' L' f' wr := by
  refine ⟨h.on, h.hb, ?_, fun i hi => ?_, fun i j hi hj hij => ?_⟩
  · rw [← List.map_congr_left (fun i hi => hV i (List.mem_range.1 hi))]
    exact h.o
  · have := h.r i hi
    rw [hV i hi, hL i hi, rowC_congr (g := fun k _ => f' i k) fun k hk _ _ => hf i hi k (by rw [hL i hi]; exact hk)] at this
    exact this
  · rw [← hV i hi, ← hV j hj]; exact h.d i j hi hj hij
theorem OwnM.cellV (h : OwnM W base g N V L f wr) {i : Nat} (hi : i < N) : wr.cell? ⟨g, i, none⟩ = some (V i) ∧ wr.frozen? ⟨g, i, none⟩ = false ∧ base ≤ g ∧ g < wr.heap.size := by
  refine ⟨?_, h.o.frozenAt i, (h.o.lt g rfl).1, ?_⟩
  · rw [h.o.cellAt i (by omega)]; simp [hi]
  · rcases h.o.2 with ⟨e, -⟩ | ⟨g', cap, cur, e, -, hg, -⟩
    · cases e
    · simp only [Value.slice.injEq, Option.some.injEq, Addr.mk.injEq] at e
      obtain ⟨⟨rfl, -⟩, -, -⟩ := e
      exact (Array.getElem?_eq_some_iff.1 hg).1
theorem OwnM.cellE (h : OwnM W base g N V L f wr) {i j b n cap : Nat} (hi : i < N) (hj : j < L i) (hV : V i = .slice (some ⟨b, 0, none⟩) n cap) : wr.cell? ⟨b, j, none⟩ = some (.int .i64 (f i j)) ∧ wr.frozen? ⟨b, j, none⟩ = false ∧ base ≤ b ∧ b < wr.heap.size ∧ n = L i := by
  have hr := h.r i hi
  have hn : n = L i := by
    rcases hr.2 with ⟨e, -⟩ | ⟨g', cap', cur, e, -⟩
    · rw [hV] at e; cases e
    · rw [hV] at e
      simp only [Value.slice.injEq] at e
      exact e.2.1
  subst hn
  rw [hV] at hr
  refine ⟨?_, hr.frozenAt j, (hr.lt b rfl).1, ?_, rfl⟩
  · rw [hr.cellAt j (by omega)]
    have := rowC_get 1 (fun k _ => f i k) hj (show 0 < 1 by omega)
    rw [Nat.mul_one, Nat.add_zero] at this
    exact this
  · rcases hr.2 with ⟨e, -⟩ | ⟨g', cap', cur, e, -, hg, -⟩
    · cases e
    · simp only [Value.slice.injEq, Option.some.injEq, Addr.mk.injEq] at e
      obtain ⟨⟨rfl, -⟩, -, -⟩ := e
      exact (Array.getElem?_eq_some_iff.1 hg).1
/-- An element stored. -/
theorem OwnM.setE (h : OwnM W base g N V L f wr) {i j b cap : Nat} (hi : i < N) (hj : j < L i) (hV : V i = .slice (some ⟨b, 0, none⟩) (L i) cap) (z : Int) :
    OwnM W base g N V L (setF f i j z) (wr.setCell ⟨b, j, none⟩ (.int .i64 z)) := by
  have hr := h.r i hi
  rw [hV] at hr
  obtain ⟨h1, h2⟩ := own_set hr hj (show 0 < 1 by omega) z
  rw [Nat.mul_one, Nat.add_zero] at h1 h2
  have hbl := (hr.lt b rfl).1
  refine ⟨kept_by h.on (by have := h.hb; omega) h2, h.hb, ?_, fun k hk => ?_, h.d⟩
  · exact h.o.kept h2 (own_ne2 hr h.o (by decide))
  · by_cases e : k = i
    · subst e
      rw [hV]
      have e2 : rowC 1 (fun q _ => setF f k j z k q) (L k) = rowC 1 (setF (fun q _ => f k q) j 0 z) (L k) := rowC_congr fun q hq p hp => by
        obtain rfl : p = 0 := by omega
        unfold setF
        simp
      rw [e2]
      exact h1
    · have hk' := (h.r k hk).kept h2 (by
        have := h.d k i hk hi e
        rw [hV] at this
        exact this)
      rw [rowC_congr (g := fun q _ => f k q) (fun q hq p hp => by unfold setF; rw [if_neg (fun hh => e hh.1)])]
      exact hk'
/-- A row put: a new list of the call's own, that no other row has. -/
theorem OwnM.putR (h : OwnM W base g N V L f wr) {i l : Nat} {v : Value} {x : Nat → Int} (hi : i < N) (hv : wr.ownsRow base 3 1 v l (rowC 1 (fun k _ => x k) l)) (hne : ∀ j, j < N → j ≠ i → v.ownBlock = none ∨ v.ownBlock ≠ (V j).ownBlock) (hne2 : ∀ j, j < N → j ≠ i → (V j).ownBlock = none ∨ (V j).ownBlock ≠ v.ownBlock) :
    OwnM W base g N (fun k => if k = i then v else V k) (fun k => if k = i then l else L k) (fun k => if k = i then x else f k) (wr.setCell ⟨g, i, none⟩ v) := by
  obtain ⟨h1, h2⟩ := h.o.stored i v
  have hbl := (h.o.lt g rfl).1
  have hlen : ((List.range N).map V).set i v = (List.range N).map fun k => if k = i then v else V k := by
    apply List.ext_getElem?
    intro k
    rw [List.getElem?_set]
    by_cases hk : k < N
    · by_cases e : i = k
      · subst e; simp [hk]
      · rw [if_neg e]; simp [hk, Ne.symm e]
    · rw [List.getElem?_eq_none (by simp; omega), List.getElem?_eq_none (by simp; omega)]
      split
      · split
        · rename_i hh; simp at hh; omega
        · rfl
      · rfl
  rw [hlen] at h1
  refine ⟨kept_by h.on (by have := h.hb; omega) h2, h.hb, h1, fun k hk => ?_, fun j k hj hk hjk => ?_⟩
  · by_cases e : k = i
    · subst e
      rw [if_pos rfl, if_pos rfl]
      rw [rowC_congr (g := fun q _ => x q) (fun q hq p hp => by rw [if_pos rfl])]
      exact hv.kept h2 (own_ne2 h.o hv (by decide))
    · rw [if_neg e, if_neg e]
      rw [rowC_congr (g := fun q _ => f k q) (fun q hq p hp => by rw [if_neg e])]
      exact (h.r k hk).kept h2 (own_ne2 h.o (h.r k hk) (by decide))
  · by_cases e1 : j = i
    · subst e1
      rw [if_pos rfl, if_neg (Ne.symm hjk)]
      exact hne k hk (Ne.symm hjk)
    · rw [if_neg e1]
      by_cases e2 : k = i
      · subst e2; rw [if_pos rfl]; exact hne2 j hj e1
      · rw [if_neg e2]; exact h.d j k hj hk hjk
/-- It can be read as a matrix. -/
theorem OwnM.mat (h : OwnM W base g N V L f wr) {B : Nat → Option Addr} {m cp : Nat → Nat} (hV : ∀ i, i < N → V i = .slice (B i) (m i) (cp i)) (hL : ∀ i, i < N → L i = m i) (hcap : ∀ i, i < N → m i ≤ cp i ∧ cp i ≤ maxLen) (hI : ∀ i, i < N → ∀ j, j < m i → I64 (f i j)) :
    MatAt wr (some ⟨g, 0, none⟩) N B m cp f := by
  refine ⟨fun h0 => ⟨g, 0, rfl, (h.cellV h0).2.2.2, fun k hk => ?_⟩, hcap, fun k hk => ?_⟩
  · rw [Nat.zero_add, (h.cellV hk).1, hV k hk]
  · have hr := h.r k hk
    rw [hV k hk, hL k hk] at hr
    exact rows_of_owns hr (fun q hq p hp => hI k hk q hq)
end
end Go.Proofs.Ytjadpehpempjoaa
namespace Go.Proofs.Ytjadpehpempjoaa
set_option linter.unusedVariables false
set_option linter.unusedSimpArgs false
open Go.RowKit Go.Deep
theorem made_list (z : Value) (n : Nat) : (madeCells #[z] n).toList = (List.range n).map fun _ => z := by
  unfold madeCells
  rw [Array.toList_map, Array.toList_range]
  apply List.map_congr_left
  intro i hi
  simp [Nat.mod_one]
theorem info_S : ((Try.prog.info? 23).map fun i => (i.zero, i.size, i.bytes)) = some (some (.slice none 0 0), 1, 24) := by kernel_rfl
theorem info_I : ((Try.prog.info? 3).map fun i => (i.zero, i.size, i.bytes)) = some (some (.int .i64 0), 1, 8) := by kernel_rfl
theorem mk_S (n : Nat) (h : n ≤ 6) (w : World) : (Instr.makeSlice 22 (.int .i64 (n : Int)) (.int .i64 (n : Int))).run Try.prog w = .ok (.slice (some ⟨w.heap.size, 0, none⟩) n n) (w.alloc (.cells (madeCells #[.slice none 0 0] n) 23)) := by
  obtain ⟨i, hi, he⟩ := Option.map_eq_some_iff.1 info_S
  simp only [Prod.mk.injEq] at he
  have := run_make w (P := Try.prog) 22 23 i (.slice none 0 0) (by kernel_rfl) hi he.1 .i64 .i64 n n (by omega) (by omega) (by rw [he.2.2]; omega) (by omega)
  rw [he.2.1, Int.toNat_natCast, Nat.mul_one] at this
  exact this
theorem mk_I (n : Nat) (h : n ≤ 6) (w : World) : (Instr.makeSlice 23 (.int .i64 (n : Int)) (.int .i64 (n : Int))).run Try.prog w = .ok (.slice (some ⟨w.heap.size, 0, none⟩) n n) (w.alloc (.cells (madeCells #[.int .i64 0] n) 3)) := by
  obtain ⟨i, hi, he⟩ := Option.map_eq_some_iff.1 info_I
  simp only [Prod.mk.injEq] at he
  have := run_make w (P := Try.prog) 23 3 i (.int .i64 0) (by kernel_rfl) hi he.1 .i64 .i64 n n (by omega) (by omega) (by rw [he.2.2]; omega) (by omega)
  rw [he.2.1, Int.toNat_natCast, Nat.mul_one] at this
  exact this
theorem rowC_zero (n : Nat) : rowC 1 (fun _ _ => (0 : Int)) n = (List.range n).map fun _ => Value.int .i64 0 := by
  induction n with
  | zero => rfl
  | succ n ih =>
    rw [show rowC 1 (fun _ _ => (0 : Int)) (n + 1) = rowC 1 (fun _ _ => (0 : Int)) n ++ [.int .i64 0] from rfl, ih, List.range_succ (n := n), List.map_append]
    rfl
/-- A matrix whose rows are not made yet. -/
theorem OwnM.made (w : World) {N : Nat} (hN : N ≤ 6) (f : Nat → Nat → Int) : OwnM w w.heap.size w.heap.size N (fun _ => .slice none 0 0) (fun _ => 0) f (w.alloc (.cells (madeCells #[.slice none 0 0] N) 23)) := by
  refine ⟨by (repeat (first | exact Kept.refl _ | assumption | refine Kept.alloc ?_ _ | refine Kept.ext ?_ _ | refine Kept.drew ?_ | refine Kept.drewN ?_ _)), by omega, ?_, fun i hi => World.ownsRow_nil _ _ _ _, fun i j _ _ _ => .inl rfl⟩
  rw [← made_list]
  exact World.ownsRow_lit w _ N (by omega) (by unfold maxLen; omega) (by rw [size_madeCells, Nat.mul_one])
/-- A row made and put: all its elements are 0. -/
theorem OwnM.newR {W wr : World} {base g N : Nat} {V : Nat → Value} {L : Nat → Nat} {f : Nat → Nat → Int} (h : OwnM W base g N V L f wr) {i l : Nat} (hi : i < N) (hl : l ≤ 6) :
    OwnM W base g N (fun k => if k = i then .slice (some ⟨wr.heap.size, 0, none⟩) l l else V k) (fun k => if k = i then l else L k) (fun k => if k = i then fun _ => 0 else f k) ((wr.setCell ⟨g, i, none⟩ (.slice (some ⟨wr.heap.size, 0, none⟩) l l)).alloc (.cells (madeCells #[.int .i64 0] l) 3)) := by
  have hc := h.cellV hi
  have LG : Lower g wr.heap.size := ⟨hc.2.2.2⟩
  have hbase : base ≤ wr.heap.size := by omega
  have h1 : OwnM W base g N V L f (wr.alloc (.cells (madeCells #[.int .i64 0] l) 3)) := h.next (by (repeat (first | exact Kept.refl _ | assumption | refine Kept.alloc ?_ _ | refine Kept.ext ?_ _ | refine Kept.drew ?_ | refine Kept.drewN ?_ _)))
  have hv : (wr.alloc (.cells (madeCells #[.int .i64 0] l) 3)).ownsRow base 3 1 (.slice (some ⟨wr.heap.size, 0, none⟩) l l) l (rowC 1 (fun k _ => (fun _ => (0 : Int)) k) l) := by
    rw [rowC_zero, ← made_list]
    exact World.ownsRow_lit wr _ l hbase (by unfold maxLen; omega) (by rw [size_madeCells, Nat.mul_one])
  have hne : ∀ j, j < N → j ≠ i → (Value.slice (some ⟨wr.heap.size, 0, none⟩) l l).ownBlock ≠ (V j).ownBlock := by
    intro j hj _ e
    have := own_lt (b := wr.heap.size) (h.r j hj) e.symm
    omega
  have := h1.putR (x := fun _ => 0) hi hv (fun j hj hji => .inr (hne j hj hji)) (fun j hj hji => .inr (Ne.symm (hne j hj hji)))
  rw [store_older wr _ g i wr.heap.size _] at this
  exact this
/-- The address of a list. -/
def sliceAt : Value → Option Addr
  | .slice A _ _ => A
  | _ => none
set_option maxRecDepth 100000 in
set_option maxHeartbeats 8000000 in
theorem csub_any (A : Option Addr) (n cap : Nat) (B : Nat → Option Addr) (m cp : Nat → Nat) (f : Nat → Nat → Int) (RA : Option Addr) (rl rc : Nat) (R : Nat → Nat → Int) (CA : Option Addr) (cl cc : Nat) (C : Nat → Nat → Int) (w : World)
    (hn : n ≤ 6) (hrl : rl ≤ 6) (hcl : cl ≤ 6) (h : MatAt w A n B m cp f) (hR : RowsAt w RA rl 1 R) (hC : RowsAt w CA cl 1 C) (hRb : ∀ i, i < rl → 0 ≤ R i 0 ∧ R i 0 < n) (hm : ∀ k, k < n → m k = m 0) (hCb : ∀ i, i < cl → 0 ≤ C i 0 ∧ C i 0 < m 0) :
    Calls Try.prog 31 #[.slice A n cap, .slice RA rl rc, .slice CA cl cc] w fun e w' => ∃ g B', e = .returned (.slice (some ⟨g, 0, none⟩) rl rl) ∧ MatAt w' (some ⟨g, 0, none⟩) rl B' (fun _ => cl) (fun _ => cl) (fun i j => f (R i 0).toNat (C j 0).toNat) ∧ Kept w w' := by
  have HM := Lib.hid h
  have HR := Lib.hid hR
  have HC := Lib.hid hC
  have HRB := Lib.hid hRb
  have HCB := Lib.hid hCb
  have HMM := Lib.hid hm
  clear h hR hC hRb hCb hm
  go_enter Try.func31, Try.ntmps31
  have hm1 := mk_S rl hrl
  have hm2 := mk_I cl hcl
  go_wp2
  obtain ⟨g, hg⟩ : ∃ g, w.heap.size = g := ⟨_, rfl⟩
  have h0 := OwnM.made w hrl (fun i j => f (R i 0).toNat (C j 0).toNat)
  rw [hg] at h0 ⊢
  have H0 := Lib.hid h0
  clear h0 hm1
  go_loopw [17] (fun i wr => ∃ k : Nat, k ≤ rl ∧ i = .int .i64 k ∧ ∃ V, (∀ j, j < k → ∃ b, V j = .slice (some ⟨b, 0, none⟩) cl cl) ∧ OwnM w g g rl V (fun j => if j < k then cl else 0) (fun i j => f (R i 0).toNat (C j 0).toNat) wr) (fun i _ => rl - (intOf i).toNat)
  case atStart => exact ⟨0, by omega, rfl, _, fun j hj => absurd hj (by omega), H0.out.congr (fun _ _ => rfl) (fun i hi => by rw [if_neg (by omega)]) (fun _ _ _ _ => rfl)⟩
  case round =>
    obtain ⟨k, hk, rfl, V, hV, hM⟩ := hrel
    by_cases hlt : k < rl
    · obtain ⟨rb, ro, rfl, hrb, c0, -⟩ := rows1 (HR.out.of hM.on) hlt
      have hrk := HRB.out k hlt
      obtain ⟨r, hr⟩ : ∃ r : Nat, R k 0 = r := ⟨(R k 0).toNat, by omega⟩
      rw [hr] at c0 hrk
      have HRK := Lib.hid hr
      clear hr
      obtain ⟨v0, v1, v2, v3⟩ := hM.cellV hlt
      have LR : Lower rb wr.heap.size := ⟨hrb⟩
      have LG : Lower g wr.heap.size := ⟨v3⟩
      have HMM2 := Lib.hid hM
      have HV := Lib.hid hV
      clear hM hV
      go_wp2
      have hN := HMM2.out.newR hlt hcl
      obtain ⟨nb, hnb⟩ : ∃ x, wr.heap.size = x := ⟨_, rfl⟩
      rw [hnb] at hN ⊢
      have HN := Lib.hid hN
      clear hN
      go_loopw [30] (fun i w2 => ∃ q : Nat, q ≤ cl ∧ i = .int .i64 q ∧ OwnM w g g rl (fun j => if j = k then .slice (some ⟨nb, 0, none⟩) cl cl else V j) (fun j => if j = k then cl else if j < k then cl else 0) (fun a => if a = k then fun b => if b < q then f (R k 0).toNat (C b 0).toNat else 0 else fun b => f (R a 0).toNat (C b 0).toNat) w2) (fun i _ => cl - (intOf i).toNat)
      case atStart => exact ⟨0, by omega, rfl, HN.out.congr (fun _ _ => rfl) (fun _ _ => rfl) (fun i hi j hj => by by_cases e : i = k <;> simp [e])⟩
      case round =>
        obtain ⟨q, hq, rfl, hM2⟩ := hrel
        clear v0 v1 v2 v3 LG hrb LR c0
        obtain ⟨-, -, v2, v3⟩ := hM2.cellV hlt
        have v0 := (hM2.cellV hlt).1
        rw [if_pos rfl] at v0
        have LG : Lower g wr.heap.size := ⟨v3⟩
        by_cases hlq : q < cl
        · obtain ⟨cb, co, rfl, hcb, c1, -⟩ := rows1 (HC.out.of hM2.on) hlq
          have hc := HCB.out q hlq
          obtain ⟨c, hcc⟩ : ∃ c : Nat, C q 0 = c := ⟨(C q 0).toNat, by omega⟩
          rw [hcc] at c1 hc
          obtain ⟨ab, ao, rfl, hab, c2⟩ := (HM.out.of hM2.on).at (k := r) (by omega)
          have hmr := HMM.out r (by omega)
          obtain ⟨bb, bo, hB, hbb, c3, i3⟩ := rows1 (k := c) ((HM.out.of hM2.on).el r (by omega)) (by omega)
          rw [hB] at c2
          have hcap := HM.out.cap r (by omega)
          obtain ⟨u0, u1, u2, u3, -⟩ := hM2.cellE (i := k) (j := q) (b := nb) (n := cl) (cap := cl) hlt (by rw [if_pos rfl]; exact hlq) (if_pos rfl)
          have LC : Lower cb wr.heap.size := ⟨hcb⟩
          have LA : Lower ab wr.heap.size := ⟨hab⟩
          have LB : Lower bb wr.heap.size := ⟨hbb⟩
          have LN : Lower nb wr.heap.size := ⟨u3⟩
          have HM2 := Lib.hid hM2
          clear hM2
          have x1 : c < m r := by omega
          have x2 : r < n := by omega
          go_wp2
          ((first | (with_reducible refine wp_region_tail2 13 (by kernel_rfl) (by kernel_rfl) ?_) | refine wp_region_tail 13 (by kernel_rfl) (by kernel_rfl) ?_); simp only [List.take_succ_cons, List.take_zero, List.drop_succ_cons, List.drop_zero]; (repeat (go_big_quiet_step (first | fail))); refine wpQuiet_nil ?_; intro x)
          go_wp2
          go_roundw
          case rel =>
            refine ⟨q + 1, by omega, by go_num, ?_⟩
            have h1 := HM2.out.setE (i := k) (j := q) (b := nb) (cap := cl) hlt (by rw [if_pos rfl]; exact hlq) (by rw [if_pos rfl, if_pos rfl]) (f r c)
            refine (h1.next (by (repeat (first | exact Kept.refl _ | assumption | refine Kept.alloc ?_ _ | refine Kept.ext ?_ _ | refine Kept.drew ?_ | refine Kept.drewN ?_ _)))).congr (fun _ _ => rfl) (fun _ _ => rfl) ?_
            intro i hi j hj
            unfold setF
            by_cases e : i = k
            · subst e
              by_cases e2 : j = q
              · subst e2; simp [HRK.out, hcc]
              · by_cases e3 : j < q
                · simp [e2, e3, show j < q + 1 by omega, HRK.out]
                · simp [e2, e3, show ¬ j < q + 1 by omega]
            · simp [e]
          case measure => simp [intOf]; omega
        · obtain rfl : q = cl := by omega
          have HM2 := Lib.hid hM2
          clear hM2
          go_wp2
          go_roundw
          case rel =>
            refine ⟨k + 1, by omega, by go_num, _, ?_, HM2.out.congr (fun _ _ => rfl) ?_ ?_⟩
            · intro j hj
              by_cases e : j = k
              · exact ⟨nb, by rw [if_pos e]⟩
              · obtain ⟨b, hb⟩ := HV.out j (by omega)
                exact ⟨b, by rw [if_neg e, hb]⟩
            · intro i hi
              by_cases e : i = k
              · rw [if_pos e, if_pos (by omega)]
              · rw [if_neg e]
                by_cases e2 : i < k
                · rw [if_pos e2, if_pos (by omega)]
                · rw [if_neg e2, if_neg (by omega)]
            · intro i hi j hj
              by_cases e : i = k
              · subst e
                simp only [if_pos, if_true] at hj ⊢
                rw [if_pos (by simpa using hj)]
              · rw [if_neg e]
          case measure => simp [intOf]; omega
    · obtain rfl : k = rl := by omega
      have HM2 := Lib.hid hM
      have HV := Lib.hid hV
      clear hM hV
      go_wp2
      go_ret
      have hM := HM2.out
      refine ⟨g, fun i => sliceAt (V i), rfl, hM.mat (fun i hi => ?_) (fun i hi => if_pos hi) (fun i hi => ⟨by omega, by unfold maxLen; omega⟩) (fun i hi j hj => ?_), hM.on⟩
      · obtain ⟨b, hb⟩ := HV.out i hi
        rw [hb]; rfl
      · have h1 := HRB.out i hi
        have h2 := HCB.out j hj
        have hmr := HMM.out (R i 0).toNat (by omega)
        obtain ⟨-, -, -, -, -, i3⟩ := rows1 (k := (C j 0).toNat) (HM.out.el (R i 0).toNat (by omega)) (by omega)
        exact i3
end Go.Proofs.Ytjadpehpempjoaa
namespace Go.Proofs.Ytjadpehpempjoaa
set_option linter.unusedVariables false
set_option linter.unusedSimpArgs false
open Go.RowKit Go.Deep
theorem own_fill {w : World} {base b l : Nat} {e : TypeId} {xs : List Value} (h : w.ownsRow base e 1 (.slice (some ⟨b, 0, none⟩) l l) l xs) (cs : List Value) (hl : cs.length = l) :
    ∃ cur, w.heap[b]? = some (.cells cur e (0, 0)) ∧ cur.size = l ∧ (w.setRow b cs.toArray).ownsRow base e 1 (.slice (some ⟨b, 0, none⟩) l l) l cs ∧ w.grownBy (w.setRow b cs.toArray) (some b) := by
  rcases h.2 with ⟨q, -⟩ | ⟨g', cap, cur, hv, hb, hg, h1, h2, h3, h4⟩
  · cases q
  · simp only [Value.slice.injEq, Option.some.injEq, Addr.mk.injEq] at hv
    obtain ⟨⟨rfl, -⟩, -, rfl⟩ := hv
    refine ⟨cur, hg, by omega, ⟨by rw [Nat.mul_one]; exact hl, .inr ⟨b, l, cs.toArray, rfl, hb, setRow_heap w b cur cs.toArray e (0, 0) hg, h1, h2, by simpa using hl, by rw [List.take_of_length_le (by simpa using Nat.le_of_eq hl)]⟩⟩, ?_⟩
    refine ⟨rfl, rfl, rfl, by simp [World.setRow], fun k hk hne => setRow_other w b k _ (fun q => hne (by rw [q]))⟩
/-- A row filled. -/
theorem OwnM.fillR {W wr : World} {base g N : Nat} {V : Nat → Value} {L : Nat → Nat} {f : Nat → Nat → Int} (h : OwnM W base g N V L f wr) {i b : Nat} (hi : i < N) (hV : V i = .slice (some ⟨b, 0, none⟩) (L i) (L i)) (x : Nat → Int) :
    ∃ cur, wr.heap[b]? = some (.cells cur 3 (0, 0)) ∧ cur.size = L i ∧ OwnM W base g N V L (fun k => if k = i then x else f k) (wr.setRow b (rowC 1 (fun k _ => x k) (L i)).toArray) := by
  have hr := h.r i hi
  rw [hV] at hr
  obtain ⟨cur, c1, c2, c3, c4⟩ := own_fill hr (rowC 1 (fun k _ => x k) (L i)) (by rw [rowC_len, Nat.mul_one])
  have hbl := (hr.lt b rfl).1
  refine ⟨cur, c1, c2, kept_by h.on (by have := h.hb; omega) c4, h.hb, h.o.kept c4 (own_ne2 hr h.o (by decide)), fun k hk => ?_, h.d⟩
  by_cases e : k = i
  · subst e
    have e2 : rowC 1 (fun q _ => (if k = k then x else f k) q) (L k) = rowC 1 (fun q _ => x q) (L k) := rowC_congr fun q hq p hp => by rw [if_pos rfl]
    rw [hV, e2]
    exact c3
  · have e2 : rowC 1 (fun q _ => (if k = i then x else f k) q) (L k) = rowC 1 (fun q _ => f k q) (L k) := rowC_congr fun q hq p hp => by rw [if_neg e]
    rw [e2]
    exact (h.r k hk).kept c4 (by
      have := h.d k i hk hi e
      rw [hV] at this
      exact this)
theorem rowC_src {w : World} {A : Option Addr} {m : Nat} {f : Nat → Nat → Int} {ad : Addr} (hr : RowsAt w A m 1 f) (hA : A = some ad) : ∀ j u, (rowC 1 f m)[j]? = some u → w.cell? (ad.add j) = some u := by
  intro j u hu
  obtain ⟨h1, h2, rfl⟩ := rowC_cut (by omega) hu
  obtain ⟨b, off, h, -, hcell⟩ := hr (Nat.lt_of_le_of_lt (Nat.zero_le _) h1)
  rw [hA] at h
  injection h with h
  subst h
  have := (hcell _ h1 _ h2).1
  rw [show off + j / 1 * 1 + j % 1 = off + j by rw [Nat.div_one, Nat.mod_one, Nat.mul_one, Nat.add_zero]] at this
  have e : (Addr.mk b off none).add j = ⟨b, off + j, none⟩ := by
    unfold Addr.add
    by_cases h0 : j = 0
    · rw [if_pos h0, h0, Nat.add_zero]
    · rw [if_neg h0]
  rw [e]
  exact this
set_option maxRecDepth 100000 in
set_option maxHeartbeats 8000000 in
theorem ccopied_any (A : Option Addr) (n cap : Nat) (B : Nat → Option Addr) (cp : Nat → Nat) (f : Nat → Nat → Int) (w : World) (hn : n ≤ 6) (h : MatAt w A n B (fun _ => n) cp f) :
    Calls Try.prog 37 #[.slice A n cap] w fun e w' => ∃ g V, e = .returned (.slice (some ⟨g, 0, none⟩) n n) ∧ OwnM w w.heap.size g n V (fun _ => n) f w' ∧ ∀ i, i < n → ∃ b, V i = .slice (some ⟨b, 0, none⟩) n n := by
  have HM := Lib.hid h
  clear h
  have hm1 := mk_S n hn
  have hm2 := mk_I n hn
  go_enter Try.func37, Try.ntmps37
  go_wp2
  obtain ⟨g, hg⟩ : ∃ g, w.heap.size = g := ⟨_, rfl⟩
  have h0 := OwnM.made w hn f
  rw [hg] at h0 ⊢
  have H0 := Lib.hid h0
  clear h0 hm1
  go_loopw [11] (fun i wr => ∃ k : Nat, k ≤ n ∧ i = .int .i64 k ∧ ∃ V, (∀ j, j < k → ∃ b, V j = .slice (some ⟨b, 0, none⟩) n n) ∧ OwnM w g g n V (fun j => if j < k then n else 0) f wr) (fun i _ => n - (intOf i).toNat)
  case atStart => exact ⟨0, by omega, rfl, _, fun j hj => absurd hj (by omega), H0.out.congr (fun _ _ => rfl) (fun i hi => by rw [if_neg (by omega)]) (fun _ _ _ _ => rfl)⟩
  case round =>
    obtain ⟨k, hk, rfl, V, hV, hM⟩ := hrel
    by_cases hlt : k < n
    · obtain ⟨ab, ao, rfl, hab, c0⟩ := (HM.out.of hM.on).at hlt
      obtain ⟨bb, bo, hB, hbb, -, -⟩ := rows1 ((HM.out.of hM.on).el k hlt) hlt
      rw [hB] at c0
      obtain ⟨v0, v1, v2, v3⟩ := hM.cellV hlt
      have LA : Lower ab wr.heap.size := ⟨hab⟩
      have LG : Lower g wr.heap.size := ⟨v3⟩
      have hN := hM.newR hlt hn
      obtain ⟨nb, hnb⟩ : ∃ x, wr.heap.size = x := ⟨_, rfl⟩
      obtain ⟨cur, f1, f2, f3⟩ := hN.fillR (b := nb) hlt (by rw [if_pos rfl, if_pos rfl, hnb]) (f k)
      rw [if_pos rfl] at f2
      simp only [if_true] at f3
      have hsrc := rowC_src ((HM.out.of hN.on).el k hlt) hB
      rw [hnb] at f1 f3 hsrc hN
      have hcopy := run_copy_row (P := Try.prog) ((wr.setCell ⟨g, k, none⟩ (.slice (some ⟨nb, 0, none⟩) n n)).alloc (.cells (madeCells #[.int .i64 0] n) 3)) 23 23 3 3 nb 0 n n ⟨bb, bo, none⟩ n (cp k) cur 3 (rowC 1 (fun j _ => f k j) n) (by kernel_rfl) (by kernel_rfl) f1 (by rw [rowC_len]; simp [Nat.min_def]) hsrc (by rw [rowC_len]; omega) rowC_one
      rw [rowC_len, Nat.mul_one, show (cur.toList.take 0 ++ rowC 1 (fun j _ => f k j) n ++ cur.toList.drop (0 + n)).toArray = (rowC 1 (fun j _ => f k j) n).toArray by rw [List.drop_of_length_le (by simp; omega)]; simp] at hcopy
      have F1 := Lib.hid f1
      have F2 := Lib.hid f2
      have F3 := Lib.hid f3
      have SRC := Lib.hid hsrc
      have HV := Lib.hid hV
      have HM2 := Lib.hid hM
      have hcell : (wr.setCell ⟨g, k, none⟩ (.slice (some ⟨nb, 0, none⟩) n n)).cell? ⟨g, k, none⟩ = some (.slice (some ⟨nb, 0, none⟩) n n) := by
        have := (hN.cellV hlt).1
        rw [if_pos rfl, cell_older] at this
        exact this
      have HC := Lib.hid hcell
      clear hM hV hN f1 f2 f3 hsrc hcell
      go_wp2
      go_roundw
      case rel =>
        refine ⟨k + 1, by omega, by go_num, _, ?_, F3.out.congr (fun _ _ => rfl) ?_ ?_⟩
        · intro j hj
          by_cases e : j = k
          · exact ⟨nb, by rw [if_pos e]⟩
          · obtain ⟨b, hb⟩ := HV.out j (by omega)
            exact ⟨b, by rw [if_neg e, hb]⟩
        · intro i hi
          by_cases e : i = k
          · rw [if_pos e, if_pos (by omega)]
          · rw [if_neg e]
            by_cases e2 : i < k
            · rw [if_pos e2, if_pos (by omega)]
            · rw [if_neg e2, if_neg (by omega)]
        · intro i hi j hj
          by_cases e : i = k
          · subst e; rw [if_pos rfl]
          · rw [if_neg e, if_neg e]
      case measure => simp [intOf]; omega
    · obtain rfl : k = n := by omega
      have HM2 := Lib.hid hM
      have HV := Lib.hid hV
      clear hM hV
      go_wp2
      go_ret
      rw [hg]
      exact ⟨g, V, rfl, HM2.out.congr (fun _ _ => rfl) (fun i hi => if_pos hi) (fun _ _ _ _ => rfl), HV.out⟩
end Go.Proofs.Ytjadpehpempjoaa
