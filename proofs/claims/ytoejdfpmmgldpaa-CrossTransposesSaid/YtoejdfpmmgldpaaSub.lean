/- Contracts: the elements of some rows and columns, a matrix in new memory. Conditions: those of each theorem. -/
import Derived.Test.YtoejdfpmmgldpaaOwm
import Derived.Test.YtoejdfpmmgldpaaCho
import Derived.Laws.MakeOwn
namespace Go.Proofs.Ytoejdfpmmgldpaa
set_option linter.unusedVariables false
set_option linter.unusedSimpArgs false
open Go.RowKit Go.Deep
theorem made_list (z : Value) (n : Nat) : (madeCells #[z] n).toList = (List.range n).map fun _ => z := by
  unfold madeCells
  rw [Array.toList_map, Array.toList_range]
  apply List.map_congr_left
  intro i hi
  simp [Nat.mod_one]
theorem info_S : ((Try.prog.info? 23).map fun i => (i.zero, i.size, i.bytes)) = some (some (.slice none 0 0), 1, 24) := by kernel_rfl
theorem info_I : ((Try.prog.info? 3).map fun i => (i.zero, i.size, i.bytes)) = some (some (.int .i64 0), 1, 8) := by kernel_rfl
theorem mk_S (n : Nat) (h : n ≤ 6) (w : World) : (Instr.makeSlice 22 (.int .i64 (n : Int)) (.int .i64 (n : Int))).run Try.prog w = .ok (.slice (some ⟨w.heap.size, 0, none⟩) n n) (w.alloc (.cells (madeCells #[.slice none 0 0] n) 23)) := by
  obtain ⟨i, hi, he⟩ := Option.map_eq_some_iff.1 info_S
  simp only [Prod.mk.injEq] at he
  have := run_make w (P := Try.prog) 22 23 i (.slice none 0 0) (by kernel_rfl) hi he.1 .i64 .i64 n n (by omega) (by omega) (by rw [he.2.2]; omega) (by omega)
  rw [he.2.1, Int.toNat_natCast, Nat.mul_one] at this
  exact this
theorem mk_I (n : Nat) (h : n ≤ 6) (w : World) : (Instr.makeSlice 23 (.int .i64 (n : Int)) (.int .i64 (n : Int))).run Try.prog w = .ok (.slice (some ⟨w.heap.size, 0, none⟩) n n) (w.alloc (.cells (madeCells #[.int .i64 0] n) 3)) := by
  obtain ⟨i, hi, he⟩ := Option.map_eq_some_iff.1 info_I
  simp only [Prod.mk.injEq] at he
  have := run_make w (P := Try.prog) 23 3 i (.int .i64 0) (by kernel_rfl) hi he.1 .i64 .i64 n n (by omega) (by omega) (by rw [he.2.2]; omega) (by omega)
  rw [he.2.1, Int.toNat_natCast, Nat.mul_one] at this
  exact this
theorem rowC_zero (n : Nat) : rowC 1 (fun _ _ => (0 : Int)) n = (List.range n).map fun _ => Value.int .i64 0 := by
  induction n with
  | zero => rfl
  | succ n ih =>
    rw [show rowC 1 (fun _ _ => (0 : Int)) (n + 1) = rowC 1 (fun _ _ => (0 : Int)) n ++ [.int .i64 0] from rfl, ih, List.range_succ (n := n), List.map_append]
    rfl
/-- A matrix whose rows are not made yet. -/
theorem OwnM.made (w : World) {N : Nat} (hN : N ≤ 6) (f : Nat → Nat → Int) : OwnM w w.heap.size w.heap.size N (fun _ => .slice none 0 0) (fun _ => 0) f (w.alloc (.cells (madeCells #[.slice none 0 0] N) 23)) := by
  refine ⟨by (repeat (first | exact Kept.refl _ | assumption | refine Kept.alloc ?_ _ | refine Kept.ext ?_ _ | refine Kept.drew ?_ | refine Kept.drewN ?_ _)), by omega, ?_, fun i hi => World.ownsRow_nil _ _ _ _, fun i j _ _ _ => .inl rfl⟩
  rw [← made_list]
  exact World.ownsRow_lit w _ N (by omega) (by unfold maxLen; omega) (by rw [size_madeCells, Nat.mul_one])
/-- A row made and put: all its elements are 0. -/
theorem OwnM.newR {W wr : World} {base g N : Nat} {V : Nat → Value} {L : Nat → Nat} {f : Nat → Nat → Int} (h : OwnM W base g N V L f wr) {i l : Nat} (hi : i < N) (hl : l ≤ 6) :
    OwnM W base g N (fun k => if k = i then .slice (some ⟨wr.heap.size, 0, none⟩) l l else V k) (fun k => if k = i then l else L k) (fun k => if k = i then fun _ => 0 else f k) ((wr.setCell ⟨g, i, none⟩ (.slice (some ⟨wr.heap.size, 0, none⟩) l l)).alloc (.cells (madeCells #[.int .i64 0] l) 3)) := by
  have hc := h.cellV hi
  have LG : Lower g wr.heap.size := ⟨hc.2.2.2⟩
  have hbase : base ≤ wr.heap.size := by omega
  have h1 : OwnM W base g N V L f (wr.alloc (.cells (madeCells #[.int .i64 0] l) 3)) := h.next (by (repeat (first | exact Kept.refl _ | assumption | refine Kept.alloc ?_ _ | refine Kept.ext ?_ _ | refine Kept.drew ?_ | refine Kept.drewN ?_ _)))
  have hv : (wr.alloc (.cells (madeCells #[.int .i64 0] l) 3)).ownsRow base 3 1 (.slice (some ⟨wr.heap.size, 0, none⟩) l l) l (rowC 1 (fun k _ => (fun _ => (0 : Int)) k) l) := by
    rw [rowC_zero, ← made_list]
    exact World.ownsRow_lit wr _ l hbase (by unfold maxLen; omega) (by rw [size_madeCells, Nat.mul_one])
  have hne : ∀ j, j < N → j ≠ i → (Value.slice (some ⟨wr.heap.size, 0, none⟩) l l).ownBlock ≠ (V j).ownBlock := by
    intro j hj _ e
    have := own_lt (b := wr.heap.size) (h.r j hj) e.symm
    omega
  have := h1.putR (x := fun _ => 0) hi hv (fun j hj hji => .inr (hne j hj hji)) (fun j hj hji => .inr (Ne.symm (hne j hj hji)))
  rw [store_older wr _ g i wr.heap.size _] at this
  exact this
/-- The address of a list. -/
def sliceAt : Value → Option Addr
  | .slice A _ _ => A
  | _ => none
set_option maxRecDepth 100000 in
set_option maxHeartbeats 8000000 in
theorem csub_any (A : Option Addr) (n cap : Nat) (B : Nat → Option Addr) (m cp : Nat → Nat) (f : Nat → Nat → Int) (RA : Option Addr) (rl rc : Nat) (R : Nat → Nat → Int) (CA : Option Addr) (cl cc : Nat) (C : Nat → Nat → Int) (w : World)
    (hn : n ≤ 6) (hrl : rl ≤ 6) (hcl : cl ≤ 6) (h : MatAt w A n B m cp f) (hR : RowsAt w RA rl 1 R) (hC : RowsAt w CA cl 1 C) (hRb : ∀ i, i < rl → 0 ≤ R i 0 ∧ R i 0 < n) (hm : ∀ k, k < n → m k = m 0) (hCb : ∀ i, i < cl → 0 ≤ C i 0 ∧ C i 0 < m 0) :
    Calls Try.prog 92 #[.slice A n cap, .slice RA rl rc, .slice CA cl cc] w fun e w' => ∃ g B', e = .returned (.slice (some ⟨g, 0, none⟩) rl rl) ∧ MatAt w' (some ⟨g, 0, none⟩) rl B' (fun _ => cl) (fun _ => cl) (fun i j => f (R i 0).toNat (C j 0).toNat) ∧ Kept w w' := by
  have HM := Lib.hid h
  have HR := Lib.hid hR
  have HC := Lib.hid hC
  have HRB := Lib.hid hRb
  have HCB := Lib.hid hCb
  have HMM := Lib.hid hm
  clear h hR hC hRb hCb hm
  go_enter Try.func92, Try.ntmps92
  have hm1 := mk_S rl hrl
  have hm2 := mk_I cl hcl
  go_wp2
  obtain ⟨g, hg⟩ : ∃ g, w.heap.size = g := ⟨_, rfl⟩
  have h0 := OwnM.made w hrl (fun i j => f (R i 0).toNat (C j 0).toNat)
  rw [hg] at h0 ⊢
  have H0 := Lib.hid h0
  clear h0 hm1
  go_loopw [17] (fun i wr => ∃ k : Nat, k ≤ rl ∧ i = .int .i64 k ∧ ∃ V, (∀ j, j < k → ∃ b, V j = .slice (some ⟨b, 0, none⟩) cl cl) ∧ OwnM w g g rl V (fun j => if j < k then cl else 0) (fun i j => f (R i 0).toNat (C j 0).toNat) wr) (fun i _ => rl - (intOf i).toNat)
  case atStart => exact ⟨0, by omega, rfl, _, fun j hj => absurd hj (by omega), H0.out.congr (fun _ _ => rfl) (fun i hi => by rw [if_neg (by omega)]) (fun _ _ _ _ => rfl)⟩
  case round =>
    obtain ⟨k, hk, rfl, V, hV, hM⟩ := hrel
    by_cases hlt : k < rl
    · obtain ⟨rb, ro, rfl, hrb, c0, -⟩ := rows1 (HR.out.of hM.on) hlt
      have hrk := HRB.out k hlt
      obtain ⟨r, hr⟩ : ∃ r : Nat, R k 0 = r := ⟨(R k 0).toNat, by omega⟩
      rw [hr] at c0 hrk
      have HRK := Lib.hid hr
      clear hr
      obtain ⟨v0, v1, v2, v3⟩ := hM.cellV hlt
      have LR : Lower rb wr.heap.size := ⟨hrb⟩
      have LG : Lower g wr.heap.size := ⟨v3⟩
      have HMM2 := Lib.hid hM
      have HV := Lib.hid hV
      clear hM hV
      go_wp2
      have hN := HMM2.out.newR hlt hcl
      obtain ⟨nb, hnb⟩ : ∃ x, wr.heap.size = x := ⟨_, rfl⟩
      rw [hnb] at hN ⊢
      have HN := Lib.hid hN
      clear hN
      go_loopw [30] (fun i w2 => ∃ q : Nat, q ≤ cl ∧ i = .int .i64 q ∧ OwnM w g g rl (fun j => if j = k then .slice (some ⟨nb, 0, none⟩) cl cl else V j) (fun j => if j = k then cl else if j < k then cl else 0) (fun a => if a = k then fun b => if b < q then f (R k 0).toNat (C b 0).toNat else 0 else fun b => f (R a 0).toNat (C b 0).toNat) w2) (fun i _ => cl - (intOf i).toNat)
      case atStart => exact ⟨0, by omega, rfl, HN.out.congr (fun _ _ => rfl) (fun _ _ => rfl) (fun i hi j hj => by by_cases e : i = k <;> simp [e])⟩
      case round =>
        obtain ⟨q, hq, rfl, hM2⟩ := hrel
        clear v0 v1 v2 v3 LG hrb LR c0
        obtain ⟨-, -, v2, v3⟩ := hM2.cellV hlt
        have v0 := (hM2.cellV hlt).1
        rw [if_pos rfl] at v0
        have LG : Lower g wr.heap.size := ⟨v3⟩
        by_cases hlq : q < cl
        · obtain ⟨cb, co, rfl, hcb, c1, -⟩ := rows1 (HC.out.of hM2.on) hlq
          have hc := HCB.out q hlq
          obtain ⟨c, hcc⟩ : ∃ c : Nat, C q 0 = c := ⟨(C q 0).toNat, by omega⟩
          rw [hcc] at c1 hc
          obtain ⟨ab, ao, rfl, hab, c2⟩ := (HM.out.of hM2.on).at (k := r) (by omega)
          have hmr := HMM.out r (by omega)
          obtain ⟨bb, bo, hB, hbb, c3, i3⟩ := rows1 (k := c) ((HM.out.of hM2.on).el r (by omega)) (by omega)
          rw [hB] at c2
          have hcap := HM.out.cap r (by omega)
          obtain ⟨u0, u1, u2, u3, -⟩ := hM2.cellE (i := k) (j := q) (b := nb) (n := cl) (cap := cl) hlt (by rw [if_pos rfl]; exact hlq) (if_pos rfl)
          have LC : Lower cb wr.heap.size := ⟨hcb⟩
          have LA : Lower ab wr.heap.size := ⟨hab⟩
          have LB : Lower bb wr.heap.size := ⟨hbb⟩
          have LN : Lower nb wr.heap.size := ⟨u3⟩
          have HM2 := Lib.hid hM2
          clear hM2
          have x1 : c < m r := by omega
          have x2 : r < n := by omega
          go_wp2
          ((first | (with_reducible refine wp_region_tail2 13 (by kernel_rfl) (by kernel_rfl) ?_) | refine wp_region_tail 13 (by kernel_rfl) (by kernel_rfl) ?_); simp only [List.take_succ_cons, List.take_zero, List.drop_succ_cons, List.drop_zero]; (repeat (go_big_quiet_step (first | fail))); refine wpQuiet_nil ?_; intro x)
          go_wp2
          go_roundw
          case rel =>
            refine ⟨q + 1, by omega, by go_num, ?_⟩
            have h1 := HM2.out.setE (i := k) (j := q) (b := nb) (cap := cl) hlt (by rw [if_pos rfl]; exact hlq) (by rw [if_pos rfl, if_pos rfl]) (f r c)
            refine (h1.next (by (repeat (first | exact Kept.refl _ | assumption | refine Kept.alloc ?_ _ | refine Kept.ext ?_ _ | refine Kept.drew ?_ | refine Kept.drewN ?_ _)))).congr (fun _ _ => rfl) (fun _ _ => rfl) ?_
            intro i hi j hj
            unfold setF
            by_cases e : i = k
            · subst e
              by_cases e2 : j = q
              · subst e2; simp [HRK.out, hcc]
              · by_cases e3 : j < q
                · simp [e2, e3, show j < q + 1 by omega, HRK.out]
                · simp [e2, e3, show ¬ j < q + 1 by omega]
            · simp [e]
          case measure => simp [intOf]; omega
        · obtain rfl : q = cl := by omega
          have HM2 := Lib.hid hM2
          clear hM2
          go_wp2
          go_roundw
          case rel =>
            refine ⟨k + 1, by omega, by go_num, _, ?_, HM2.out.congr (fun _ _ => rfl) ?_ ?_⟩
            · intro j hj
              by_cases e : j = k
              · exact ⟨nb, by rw [if_pos e]⟩
              · obtain ⟨b, hb⟩ := HV.out j (by omega)
                exact ⟨b, by rw [if_neg e, hb]⟩
            · intro i hi
              by_cases e : i = k
              · rw [if_pos e, if_pos (by omega)]
              · rw [if_neg e]
                by_cases e2 : i < k
                · rw [if_pos e2, if_pos (by omega)]
                · rw [if_neg e2, if_neg (by omega)]
            · intro i hi j hj
              by_cases e : i = k
              · subst e
                simp only [if_pos, if_true] at hj ⊢
                rw [if_pos (by simpa using hj)]
              · rw [if_neg e]
          case measure => simp [intOf]; omega
    · obtain rfl : k = rl := by omega
      have HM2 := Lib.hid hM
      have HV := Lib.hid hV
      clear hM hV
      go_wp2
      go_ret
      have hM := HM2.out
      refine ⟨g, fun i => sliceAt (V i), rfl, hM.mat (fun i hi => ?_) (fun i hi => if_pos hi) (fun i hi => ⟨by omega, by unfold maxLen; omega⟩) (fun i hi j hj => ?_), hM.on⟩
      · obtain ⟨b, hb⟩ := HV.out i hi
        rw [hb]; rfl
      · have h1 := HRB.out i hi
        have h2 := HCB.out j hj
        have hmr := HMM.out (R i 0).toNat (by omega)
        obtain ⟨-, -, -, -, -, i3⟩ := rows1 (k := (C j 0).toNat) (HM.out.el (R i 0).toNat (by omega)) (by omega)
        exact i3
end Go.Proofs.Ytoejdfpmmgldpaa
