/- Contracts: the box of a mesh, of the program and of the reference. Conditions: the lists' lengths are ints. Contracts: boxes of points and the squared distance of two boxes, of the program. Conditions: bounds on numbers. Contract: the greatest square of a distance of two lists of points, of the program. Conditions: bounds on numbers. Contract: the corners of a panel, of the program. No conditions. Contract: an average as a span, of the program. No conditions. -/
import Derived.Test.YtodmdicegkjicaaZk
import Derived.Test.YtodmdicegkjicaaZf
import Derived.Test.YtodmdicegkjicaaZa
import Derived.Test.YtodmdicegkjicaaZb
namespace Go.Proofs.Ytodmdicegkjicaa
set_option linter.unusedVariables false
set_option linter.unusedSimpArgs false
open Go.RowKit
def boxLo (P : Nat → Nat → Int) (j : Nat) : Nat → Int
  | 0 => P 0 j
  | k + 1 => min (boxLo P j k) (P k j)
def boxHi (P : Nat → Nat → Int) (j : Nat) : Nat → Int
  | 0 => P 0 j
  | k + 1 => max (boxHi P j k) (P k j)
/-- A whole block is stored: the world goes on as one that is known there, and as before elsewhere. -/
theorem wp_putRow {P : Program} (w : World) {ops : Array Oper} {rest : List Oper} {o : Oper} {a : Act} {Q : Exit → Act → World → Prop} (hgd : o.guard = none) (ty : TypeId) (x y : Operand) (ho : o.op = .store ty x y)
    (g : Nat) {cs : Array Value} (hx : a.eval x = .pointer (some ⟨g, 0, none⟩)) (hy : a.eval y = .agg cs) {t : TypeId} {old : Array Value} (hg : w.heap[g]? = some (.cells old t (0, 0))) (hi : (P.info? ty).map (·.size) = some cs.size)
    (hold : old.size = cs.size) (h1 : cs.all (·.oneCell') = true)
    (h : ∀ w', w'.heap[g]? = some (.cells cs t (0, 0)) → w.grownBy w' (some g) → wpList P ops Q rest (a.put o.dst undef) w') : wpList P ops Q (o :: rest) a w :=
  wpList_store_row hgd ty x y ho g cs hx hy t old hg hi hold h1 (h _ (setRow_heap _ _ _ _ _ _ hg) (grown_setRow _ _ _))
theorem tells_put {P : Program} {K : Value → World → Prop} {w' : World} {ρ : Operand → Value} {o : Oper} (ty : TypeId) (px py : Operand) (ho : o.op = .store ty px py) (k : Nat) {c z : Array Value} {T : TypeId} (hp : ρ px = .pointer (some ⟨k, 0, none⟩)) (hy : ρ py = .agg c)
    (e3 : w'.heap[k]? = some (.cells z T (0, 0))) (hi : (P.info? ty).map (·.size) = some c.size) (hz : z.size = c.size) (h1 : c.all (·.oneCell') = true) (hK : K undef (w'.setRow k c)) : tellsUpon P K ((execOp ρ o).run P w') := by
  unfold execOp
  simp only [ho, hp, hy, Instr.storeAt, Instr.sureAddr, Sem.run_bind, Sem.run_pure, Result.andThen_ok, run_storeVar_row w' k T ty z c e3 hi hz h1]
  exact hK
theorem block_of {w w' : World} {g h : Nat} {o : Obj} (hg : w.grownBy w' (some g)) (hh : w.heap[h]? = some o) (hne : h ≠ g) : w'.heap[h]? = some o := by
  rw [hg.block h (Array.getElem?_eq_some_iff.1 hh).1 (fun e => hne (Option.some.inj e))]
  exact hh
/-- Two blocks, each stored in its turn. -/
structure TwoI (W : World) (g h i j : Nat) (T : TypeId) (z z' c c' : Array Value) (L : Nat → Bool) (b : Nat → Value) (w' : World) : Prop where
  kept : Kept W w'
  hg : w'.heap[g]? = some (.cells (if L i = true then c else z) T (0, 0))
  hh : w'.heap[h]? = some (.cells (if L j = true then c' else z') T (0, 0))
section
variable {W w' w'' : World} {g h i j : Nat} {T : TypeId} {z z' c c' : Array Value} {L : Nat → Bool} {b : Nat → Value}
theorem heap_kp {w w' : World} {b : Nat} {o : Obj} (h : w.heap[b]? = some o) (hk : Kept w w') : w'.heap[b]? = some o := by
  obtain ⟨x, rfl⟩ := hk
  rw [ext_block _ _ _ (Array.getElem?_eq_some_iff.1 h).1]
  exact h
theorem TwoI.on (hI : TwoI W g h i j T z z' c c' L b w') (hk : Kept w' w'') : TwoI W g h i j T z z' c c' L b w'' :=
  ⟨hI.kept.trans hk, heap_kp hI.hg hk, heap_kp hI.hh hk⟩
theorem TwoI.other (hI : TwoI W g h i j T z z' c c' L b w') {q : Nat} (h1 : q ≠ i) (h2 : q ≠ j) : TwoI W g h i j T z z' c c' (doneAt L q) b w' := by
  refine ⟨hI.kept, ?_, ?_⟩
  · rw [show doneAt L q i = L i from if_neg (Ne.symm h1)]; exact hI.hg
  · rw [show doneAt L q j = L j from if_neg (Ne.symm h2)]; exact hI.hh
theorem TwoI.one (hI : TwoI W g h i j T z z' c c' L b w') (hij : i ≠ j) (hgh : g ≠ h) (hW : W.heap.size ≤ g) (v : Value) : TwoI W g h i j T z z' c c' (doneAt L i) (tellAt b i v) (w'.setRow g c) := by
  refine ⟨hI.kept.map_store hW (grown_setRow _ _ _), ?_, ?_⟩
  · rw [show doneAt L i i = true from if_pos rfl]; exact setRow_heap _ _ _ _ _ _ hI.hg
  · rw [show doneAt L i j = L j from if_neg (Ne.symm hij)]; exact block_of (grown_setRow _ _ _) hI.hh (Ne.symm hgh)
theorem TwoI.two (hI : TwoI W g h i j T z z' c c' L b w') (hij : i ≠ j) (hgh : g ≠ h) (hW : W.heap.size ≤ h) (v : Value) : TwoI W g h i j T z z' c c' (doneAt L j) (tellAt b j v) (w'.setRow h c') := by
  refine ⟨hI.kept.map_store hW (grown_setRow _ _ _), ?_, ?_⟩
  · rw [show doneAt L j i = L i from if_neg hij]; exact block_of (grown_setRow _ _ _) hI.hg hgh
  · rw [show doneAt L j j = true from if_pos rfl]; exact setRow_heap _ _ _ _ _ _ hI.hh
end
/-- The state of the loop over the points. -/
def BoxI (W : World) (g h : Nat) (P : Nat → Nat → Int) (k : Nat) (wr : World) : Prop :=
  Kept W wr ∧ wr.heap[g]? = some (.cells #[.int .i64 (boxLo P 0 k), .int .i64 (boxLo P 1 k), .int .i64 (boxLo P 2 k)] 24 (0, 0)) ∧ wr.heap[h]? = some (.cells #[.int .i64 (boxHi P 0 k), .int .i64 (boxHi P 1 k), .int .i64 (boxHi P 2 k)] 24 (0, 0))
end Go.Proofs.Ytodmdicegkjicaa

namespace Go.Proofs.Ytodmdicegkjicaa
set_option linter.unusedVariables false
set_option linter.unusedSimpArgs false
open Go.RowKit
theorem loB_box (P : Nat → Nat → Int) (c : Nat) : ∀ k, boxLo P c k = loB P c k
  | 0 => rfl
  | k + 1 => by unfold boxLo loB; rw [loB_box P c k]
theorem hiB_box (P : Nat → Nat → Int) (c : Nat) : ∀ k, boxHi P c k = hiB P c k
  | 0 => rfl
  | k + 1 => by unfold boxHi hiB; rw [hiB_box P c k]
set_option maxRecDepth 100000 in
set_option maxHeartbeats 16000000 in
theorem fbox_any (A : Option Addr) (n cap : Nat) (P : Nat → Nat → Int) (w : World) (hn0 : 0 < n) (hn : n ≤ 1000) (hP : RowsAt w A n 3 P) :
    Calls Try.prog 66 #[.slice A n cap] w fun r w' => r = .returned (.tuple #[.agg #[.int .i64 (boxLo P 0 n), .int .i64 (boxLo P 1 n), .int .i64 (boxLo P 2 n)], .agg #[.int .i64 (boxHi P 0 n), .int .i64 (boxHi P 1 n), .int .i64 (boxHi P 2 n)]]) ∧ Kept w w' := by
  have HP := Lib.hid hP
  clear hP
  obtain ⟨fb, off, rfl, hb, f0, f1, f2⟩ := rows3 HP.out hn0
  have LB : Lower fb w.heap.size := ⟨hb⟩
  simp only [Nat.zero_mul, Nat.add_zero] at f0 f1 f2
  go_enter Try.func66, Try.ntmps66
  go_wp2_with fail
  refine wp_region_tellC (C := Kept w) [.q, .q, .q, .q, .q, .q, .k undef, .k undef] (TwoI w (w.heap.size) (w.heap.size + 1) 6 7 24 #[.int .i64 0, .int .i64 0, .int .i64 0] #[.int .i64 0, .int .i64 0, .int .i64 0] #[.int .i64 (P 0 0), .int .i64 (P 0 1), .int .i64 (P 0 2)] #[.int .i64 (P 0 0), .int .i64 (P 0 1), .int .i64 (P 0 2)]) (by kernel_rfl) (by kernel_rfl) (fun b => by kernel_rfl) ?_ ?_ ?_ ?_
  · intro b
    refine ⟨by (repeat (first | exact Kept.refl _ | assumption | refine Kept.alloc ?_ _ | refine Kept.ext ?_ _ | refine Kept.drew ?_ | refine Kept.drewN ?_ _)), ?_, ?_⟩
    · exact heap_kp (alloc_now w _ _) (by (repeat (first | exact Kept.refl _ | assumption | refine Kept.alloc ?_ _ | refine Kept.ext ?_ _ | refine Kept.drew ?_ | refine Kept.drewN ?_ _)))
    · exact heap_kp (alloc_now _ _ _) (by (repeat (first | exact Kept.refl _ | assumption | refine Kept.alloc ?_ _ | refine Kept.ext ?_ _ | refine Kept.drew ?_ | refine Kept.drewN ?_ _)))
  · intro i L b w' w'' hs hI hk
    exact (hI.on hk).other (by rintro rfl; cases hs) (by rintro rfl; cases hs)
  · exact fun L b w' h => h.kept
  apply Exists.intro
  refine ⟨?_, ?_, ?_, ?_⟩
  · rintro b W ⟨y, rfl⟩
    simp only [swapL, Nat.reduceAdd]
    repeat (go_big_quiet_step (fail))
    refine wpQuiet_nil ?_
    rfl
  · simp only [EachS, and_true]
    refine ⟨?_, ?_⟩
    · intro L b w' hd hL hI
      have e3 := hI.hg
      rw [hL] at e3
      simp only [Bool.false_eq_true, if_false] at e3
      refine tells_put 24 (.tmp 2) (.tmp 8) rfl (w.heap.size) rfl rfl e3 (by kernel_rfl) rfl (by simp [Value.oneCell']) ?_
      exact ⟨rfl, hI.one (by omega) (by omega) (by simp) _⟩
    · intro L b w' hd hL hI
      have e3 := hI.hh
      rw [hL] at e3
      simp only [Bool.false_eq_true, if_false] at e3
      refine tells_put 24 (.tmp 3) (.tmp 11) rfl (w.heap.size + 1) rfl rfl e3 (by kernel_rfl) rfl (by simp [Value.oneCell']) ?_
      exact ⟨rfl, hI.two (by omega) (by omega) (by simp) _⟩
  · intro b b' d hd
    simp [callSlots, dullOp] at hd
  · intro L b w' hL hI
    have HG := Lib.hid hI.hg
    have HH := Lib.hid hI.hh
    rw [hL 6 (by decide)] at HG
    rw [hL 7 (by decide)] at HH
    simp only [if_true] at HG HH
    have HK := Lib.hid hI.kept
    clear hL hI
    obtain ⟨y, rfl⟩ := HK.out
    go_wp2_with fail
    go_loopw [14] (fun i wr => ∃ k : Nat, k ≤ n ∧ i = .int .i64 k ∧ BoxI w (w.heap.size) (w.heap.size + 1) P k wr) (fun i _ => n - (intOf i).toNat)
    case atStart => exact ⟨0, by omega, rfl, HK.out, HG.out, HH.out⟩
    case round =>
      obtain ⟨k, hk, rfl, ⟨z, rfl⟩, hg, hh⟩ := hrel
      have HG2 := Lib.hid hg
      have HH2 := Lib.hid hh
      obtain ⟨l0, l1, l2⟩ := cells3 hg
      obtain ⟨u0, u1, u2⟩ := cells3 hh
      clear hg hh
      have LG : Lower (w.heap.size) (adv (w.heap.size) z.obs.size) := ⟨by have := cell_lt l0; simpa using this⟩
      have LH : Lower (w.heap.size + 1) (adv (w.heap.size) z.obs.size) := ⟨by have := cell_lt u0; simpa using this⟩
      by_cases hlt : k < n
      · obtain ⟨fb', off', e, -, f0, f1, f2⟩ := rows3 HP.out hlt
        cases e
        go_wp2_with (first | (refine wp_putRow (cs := #[.int .i64 (min (boxLo P 0 k) (P k 0)), .int .i64 (min (boxLo P 1 k) (P k 1)), .int .i64 (min (boxLo P 2 k) (P k 2))]) _ rfl 24 (.tmp 2) (.tmp 33) rfl (w.heap.size) (by rfl) (by rfl) (heap_kp HG2.out (by (repeat (first | exact Kept.refl _ | assumption | refine Kept.alloc ?_ _ | refine Kept.ext ?_ _ | refine Kept.drew ?_ | refine Kept.drewN ?_ _)))) (by kernel_rfl) (by rfl) (by simp [Value.oneCell']) ?_; intro w2 h2 g2; have k2 : Kept w w2 := Kept.map_store (by (repeat (first | exact Kept.refl _ | assumption | refine Kept.alloc ?_ _ | refine Kept.ext ?_ _ | refine Kept.drew ?_ | refine Kept.drewN ?_ _))) (by simp) g2; have hh2 := block_of g2 (heap_kp HH2.out (by (repeat (first | exact Kept.refl _ | assumption | refine Kept.alloc ?_ _ | refine Kept.ext ?_ _ | refine Kept.drew ?_ | refine Kept.drewN ?_ _)))) (by omega); have hp2 : w2.heap[adv (w.heap.size) z.obs.size]? = some (.cells #[.int .i64 (P k 0), .int .i64 (P k 1), .int .i64 (P k 2)] 24 (0, 0)) := block_of g2 (alloc_now _ _ _) (by have := LG.lt; omega); obtain ⟨v0, v1, v2⟩ := cells3 hh2; obtain ⟨p0, p1, p2⟩ := cells3 hp2; have H2 := Lib.hid h2; have HH3 := Lib.hid hh2; have G2 := Lib.hid g2; have K2 := Lib.hid k2; clear h2 g2 k2 hh2 hp2) | (refine wp_putRow (cs := #[.int .i64 (max (boxHi P 0 k) (P k 0)), .int .i64 (max (boxHi P 1 k) (P k 1)), .int .i64 (max (boxHi P 2 k) (P k 2))]) _ rfl 24 (.tmp 3) (.tmp 49) rfl (w.heap.size + 1) (by rfl) (by rfl) HH3.out (by kernel_rfl) (by rfl) (by simp [Value.oneCell']) ?_; intro w3 h3 g3; have H3 := Lib.hid h3; have G3 := Lib.hid g3; clear h3 g3))
        go_roundw
        case rel => exact ⟨k + 1, by omega, by go_num, K2.out.map_store (by simp) G3.out, block_of G3.out H2.out (by omega), H3.out⟩
        case measure => simp [intOf]; omega
      · obtain rfl : k = n := by omega
        go_wp2_with fail
        refine wp_region_tellC (C := fun W => Kept w W ∧ W.heap[w.heap.size]? = some (.cells #[.int .i64 (boxLo P 0 k), .int .i64 (boxLo P 1 k), .int .i64 (boxLo P 2 k)] 24 (0, 0)) ∧ W.heap[w.heap.size + 1]? = some (.cells #[.int .i64 (boxHi P 0 k), .int .i64 (boxHi P 1 k), .int .i64 (boxHi P 2 k)] 24 (0, 0))) [.q, .q, .k undef, .k undef] (TwoI w (w.heap.size) (w.heap.size + 1) 2 3 24 #[.int .i64 (boxLo P 0 k), .int .i64 (boxLo P 1 k), .int .i64 (boxLo P 2 k)] #[.int .i64 (boxHi P 0 k), .int .i64 (boxHi P 1 k), .int .i64 (boxHi P 2 k)] #[.int .i64 (boxLo P 0 k), .int .i64 (boxLo P 1 k), .int .i64 (boxLo P 2 k)] #[.int .i64 (boxHi P 0 k), .int .i64 (boxHi P 1 k), .int .i64 (boxHi P 2 k)]) (by kernel_rfl) (by kernel_rfl) (fun b => by kernel_rfl) ?_ ?_ ?_ ?_
        · intro b
          exact ⟨by (repeat (first | exact Kept.refl _ | assumption | refine Kept.alloc ?_ _ | refine Kept.ext ?_ _ | refine Kept.drew ?_ | refine Kept.drewN ?_ _)), heap_kp HG2.out (by (repeat (first | exact Kept.refl _ | assumption | refine Kept.alloc ?_ _ | refine Kept.ext ?_ _ | refine Kept.drew ?_ | refine Kept.drewN ?_ _))), heap_kp HH2.out (by (repeat (first | exact Kept.refl _ | assumption | refine Kept.alloc ?_ _ | refine Kept.ext ?_ _ | refine Kept.drew ?_ | refine Kept.drewN ?_ _)))⟩
        · intro i L b w' w'' hs hI hk
          exact (hI.on hk).other (by rintro rfl; cases hs) (by rintro rfl; cases hs)
        · intro L b w' h
          have e1 := h.hg
          have e2 := h.hh
          rw [ite_self] at e1 e2
          exact ⟨h.kept, e1, e2⟩
        apply Exists.intro
        refine ⟨?_, ?_, ?_, ?_⟩
        · rintro b W ⟨hk, e1, e2⟩
          obtain ⟨l0, l1, l2⟩ := cells3 e1
          obtain ⟨u0, u1, u2⟩ := cells3 e2
          haveI : Lower (w.heap.size) W.heap.size := ⟨cell_lt l0⟩
          haveI : Lower (w.heap.size + 1) W.heap.size := ⟨cell_lt u0⟩
          clear e1 e2 hk
          simp only [swapL, Nat.reduceAdd]
          repeat (go_big_quiet_step (fail))
          refine wpQuiet_nil ?_
          rfl
        · simp only [EachS, and_true]
          refine ⟨?_, ?_⟩
          · intro L b w' hd hL hI
            have e3 := hI.hg
            rw [ite_self] at e3
            refine tells_put 24 (.tmp 2) (.tmp 51) (by rfl) (w.heap.size) (c := #[.int .i64 (boxLo P 0 k), .int .i64 (boxLo P 1 k), .int .i64 (boxLo P 2 k)]) (by rfl) (by rfl) e3 (by kernel_rfl) (by rfl) (by simp [Value.oneCell']) ?_
            exact ⟨rfl, hI.one (by omega) (by omega) (by simp) _⟩
          · intro L b w' hd hL hI
            have e3 := hI.hh
            rw [ite_self] at e3
            refine tells_put 24 (.tmp 3) (.tmp 52) (by rfl) (w.heap.size + 1) (c := #[.int .i64 (boxHi P 0 k), .int .i64 (boxHi P 1 k), .int .i64 (boxHi P 2 k)]) (by rfl) (by rfl) e3 (by kernel_rfl) (by rfl) (by simp [Value.oneCell']) ?_
            exact ⟨rfl, hI.two (by omega) (by omega) (by simp) _⟩
        · intro b b' d hd
          simp [callSlots, dullOp] at hd
        · intro L b w' hL hI
          have e1 := hI.hg
          have e2 := hI.hh
          rw [ite_self] at e1 e2
          obtain ⟨l0, l1, l2⟩ := cells3 e1
          obtain ⟨u0, u1, u2⟩ := cells3 e2
          have HK9 := Lib.hid hI.kept
          clear hL hI e1 e2
          go_wp2_with fail
          refine bodyPost_ret (by simp only [results, Try.results66]; go_simp; rfl) rfl ?_
          exact ⟨rfl, HK9.out⟩
set_option maxRecDepth 100000 in
set_option maxHeartbeats 16000000 in
theorem fnear_any (A B : Option Addr) (n cap m cap2 : Nat) (P Q : Nat → Nat → Int) (w : World) (hn : (0 < n ∧ n ≤ 1000) ∧ (0 < m ∧ m ≤ 1000)) (hP : RowsAt w A n 3 P) (hQ : RowsAt w B m 3 Q) (bP : Near1 P n) (bQ : Near1 Q m) :
    Calls Try.prog 52 #[.slice A n cap, .slice B m cap2] w fun r w' => r = .returned (.int .i64 (nearP P n Q m)) ∧ Kept w w' := by
  have h1 : ∀ w', Kept w w' → _ := fun w' hk => fbox_any A n cap P w' hn.1.1 hn.1.2 (hP.of hk)
  have h2 : ∀ w', Kept w w' → _ := fun w' hk => fbox_any B m cap2 Q w' hn.2.1 hn.2.2 (hQ.of hk)
  have H1 := Lib.hid h1
  have H2 := Lib.hid h2
  have a0 : ∀ c, c < 3 → (-4096 ≤ boxLo P c n ∧ boxLo P c n ≤ 4096) ∧ (-4096 ≤ boxHi P c n ∧ boxHi P c n ≤ 4096) := fun c hc => by
    rw [loB_box, hiB_box]
    exact loB_bd (t := 4096) hn.1.1 (fun i hi => by have := bP i hi; rcases (show c = 0 ∨ c = 1 ∨ c = 2 by omega) with rfl | rfl | rfl <;> omega) n (Nat.le_refl _)
  have b0 : ∀ c, c < 3 → (-4096 ≤ boxLo Q c m ∧ boxLo Q c m ≤ 4096) ∧ (-4096 ≤ boxHi Q c m ∧ boxHi Q c m ≤ 4096) := fun c hc => by
    rw [loB_box, hiB_box]
    exact loB_bd (t := 4096) hn.2.1 (fun i hi => by have := bQ i hi; rcases (show c = 0 ∨ c = 1 ∨ c = 2 by omega) with rfl | rfl | rfl <;> omega) m (Nat.le_refl _)
  have A0 := a0 0 (by omega)
  have A1 := a0 1 (by omega)
  have A2 := a0 2 (by omega)
  have B0 := b0 0 (by omega)
  have B1 := b0 1 (by omega)
  have B2 := b0 2 (by omega)
  have G0 := gapS_bd ⟨A0, B0⟩
  have G1 := gapS_bd ⟨A1, B1⟩
  have G2 := gapS_bd ⟨A2, B2⟩
  have E : nearP P n Q m = (gapS (boxLo P 0 n) (boxHi P 0 n) (boxLo Q 0 m) (boxHi Q 0 m)) * (gapS (boxLo P 0 n) (boxHi P 0 n) (boxLo Q 0 m) (boxHi Q 0 m)) + (gapS (boxLo P 1 n) (boxHi P 1 n) (boxLo Q 1 m) (boxHi Q 1 m)) * (gapS (boxLo P 1 n) (boxHi P 1 n) (boxLo Q 1 m) (boxHi Q 1 m)) + (gapS (boxLo P 2 n) (boxHi P 2 n) (boxLo Q 2 m) (boxHi Q 2 m)) * (gapS (boxLo P 2 n) (boxHi P 2 n) (boxLo Q 2 m) (boxHi Q 2 m)) := by
    unfold nearP
    simp only [loB_box, hiB_box]
  rw [E]
  obtain ⟨g0, e0⟩ : ∃ x, gapS (boxLo P 0 n) (boxHi P 0 n) (boxLo Q 0 m) (boxHi Q 0 m) = x := ⟨_, rfl⟩
  obtain ⟨g1, e1⟩ : ∃ x, gapS (boxLo P 1 n) (boxHi P 1 n) (boxLo Q 1 m) (boxHi Q 1 m) = x := ⟨_, rfl⟩
  obtain ⟨g2, e2⟩ : ∃ x, gapS (boxLo P 2 n) (boxHi P 2 n) (boxLo Q 2 m) (boxHi Q 2 m) = x := ⟨_, rfl⟩
  rw [e0] at G0 ⊢
  rw [e1] at G1 ⊢
  rw [e2] at G2 ⊢
  have E0 := Lib.hid e0
  have E1 := Lib.hid e1
  have E2 := Lib.hid e2
  clear E a0 b0 h1 h2 hP hQ bP bQ hn e0 e1 e2
  go_enter Try.func52, Try.ntmps52
  go_upto_region 3 with (first | (go_at_call 66; (with_reducible refine (H1.out _ (by (repeat (first | exact Kept.refl _ | assumption | refine Kept.alloc ?_ _ | refine Kept.ext ?_ _ | refine Kept.drew ?_ | refine Kept.drewN ?_ _)))).mono ?_); rintro e w1 ⟨rfl, x1, rfl⟩) | (go_at_call 66; (with_reducible refine (H2.out _ (by (repeat (first | exact Kept.refl _ | assumption | refine Kept.alloc ?_ _ | refine Kept.ext ?_ _ | refine Kept.drew ?_ | refine Kept.drewN ?_ _)))).mono ?_); rintro e w2 ⟨rfl, x2, rfl⟩))
  go_cut [9] from 20 to 47 (fun s9 wx => ∃ g, s9 = .pointer (some ⟨g, 0, none⟩) ∧ Kept w wx ∧ wx.cell? ⟨g, 0, none⟩ = some (.int .i64 g0) ∧ wx.cell? ⟨g, 1, none⟩ = some (.int .i64 g1) ∧ wx.cell? ⟨g, 2, none⟩ = some (.int .i64 g2))
  case first =>
    go_region_held3 (fun w' => w'.cell? ⟨adv w.heap.size x1.obs.size, 0, none⟩ = some (.int .i64 (boxLo P 0 n)) ∧ w'.cell? ⟨adv w.heap.size x1.obs.size, 1, none⟩ = some (.int .i64 (boxLo P 1 n)) ∧ w'.cell? ⟨adv w.heap.size x1.obs.size, 2, none⟩ = some (.int .i64 (boxLo P 2 n)) ∧ w'.cell? ⟨adv w.heap.size x1.obs.size + 1, 0, none⟩ = some (.int .i64 (boxHi P 0 n)) ∧ w'.cell? ⟨adv w.heap.size x1.obs.size + 1, 1, none⟩ = some (.int .i64 (boxHi P 1 n)) ∧ w'.cell? ⟨adv w.heap.size x1.obs.size + 1, 2, none⟩ = some (.int .i64 (boxHi P 2 n)) ∧ w'.cell? ⟨adv (adv w.heap.size x1.obs.size + 1 + 1) x2.obs.size, 0, none⟩ = some (.int .i64 (boxLo Q 0 m)) ∧ w'.cell? ⟨adv (adv w.heap.size x1.obs.size + 1 + 1) x2.obs.size, 1, none⟩ = some (.int .i64 (boxLo Q 1 m)) ∧ w'.cell? ⟨adv (adv w.heap.size x1.obs.size + 1 + 1) x2.obs.size, 2, none⟩ = some (.int .i64 (boxLo Q 2 m)) ∧ w'.cell? ⟨adv (adv w.heap.size x1.obs.size + 1 + 1) x2.obs.size + 1, 0, none⟩ = some (.int .i64 (boxHi Q 0 m)) ∧ w'.cell? ⟨adv (adv w.heap.size x1.obs.size + 1 + 1) x2.obs.size + 1, 1, none⟩ = some (.int .i64 (boxHi Q 1 m)) ∧ w'.cell? ⟨adv (adv w.heap.size x1.obs.size + 1 + 1) x2.obs.size + 1, 2, none⟩ = some (.int .i64 (boxHi Q 2 m))) ((refine ⟨?_, ?_, ?_, ?_, ?_, ?_, ?_, ?_, ?_, ?_, ?_, ?_⟩ <;> go_simp)) ((go_at_call 67; refine (fgap_any _ _ _ _ _ (by omega)).mono ?_; rintro e w1 ⟨rfl, rfl⟩))
    all_goals (go_wp2_with fail; go_meet)
    all_goals exact ⟨_, rfl, by (repeat (first | exact Kept.refl _ | assumption | refine Kept.alloc ?_ _ | refine Kept.ext ?_ _ | refine Kept.drew ?_ | refine Kept.drewN ?_ _)), by rw [← E0.out]; go_simp, by rw [← E1.out]; go_simp, by rw [← E2.out]; go_simp⟩
  case rest =>
  obtain ⟨g, rfl, hk, c0, c1, c2⟩ := hcut
  have LG : Lower g wc.heap.size := ⟨cell_lt c0⟩
  have HK := Lib.hid hk
  clear hk
  have m0 := mul_sq 8192 67108864 (show -8192 ≤ g0 ∧ g0 ≤ 8192 by omega) (show -8192 ≤ g0 ∧ g0 ≤ 8192 by omega) rfl
  have m1 := mul_sq 8192 67108864 (show -8192 ≤ g1 ∧ g1 ≤ 8192 by omega) (show -8192 ≤ g1 ∧ g1 ≤ 8192 by omega) rfl
  have m2 := mul_sq 8192 67108864 (show -8192 ≤ g2 ∧ g2 ≤ 8192 by omega) (show -8192 ≤ g2 ∧ g2 ≤ 8192 by omega) rfl
  go_wp2_with (go_at_call 68; refine (fdot_any _ _ _ _ _ _ _ (by omega)).mono ?_; rintro e w1 ⟨rfl, x6, rfl⟩)
  go_ret
  exact ⟨rfl, HK.out.trans (by (repeat (first | exact Kept.refl _ | assumption | refine Kept.alloc ?_ _ | refine Kept.ext ?_ _ | refine Kept.drew ?_ | refine Kept.drewN ?_ _)))⟩
end Go.Proofs.Ytodmdicegkjicaa

namespace Go.Proofs.Ytodmdicegkjicaa
set_option linter.unusedVariables false
set_option linter.unusedSimpArgs false
open Go.RowKit
set_option maxRecDepth 100000 in
set_option maxHeartbeats 8000000 in
theorem ffar_any (A B : Option Addr) (n cap m cap2 : Nat) (P Q : Nat → Nat → Int) (w : World) (hn : n ≤ 1000 ∧ m ≤ 1000) (hP : RowsAt w A n 3 P) (hQ : RowsAt w B m 3 Q) (bP : Near1 P n) (bQ : Near1 Q m) :
    Calls Try.prog 53 #[.slice A n cap, .slice B m cap2] w fun r w' => r = .returned (.int .i64 (farI P Q m n)) ∧ Kept w w' := by
  have HP := Lib.hid hP
  have HQ := Lib.hid hQ
  have BP := Lib.hid bP
  have BQ := Lib.hid bQ
  clear hP hQ bP bQ
  go_enter Try.func53, Try.ntmps53
  go_wp2_with fail
  go_loopw [5, 13] (fun o i wr => ∃ k : Nat, k ≤ n ∧ i = .int .i64 k ∧ o = .int .i64 (farI P Q m k) ∧ ∃ x, wr = ext w x) (fun _ i _ => n - (intOf i).toNat)
  case atStart => exact ⟨0, by omega, rfl, rfl, by (repeat (first | exact Kept.refl _ | assumption | refine Kept.alloc ?_ _ | refine Kept.ext ?_ _ | refine Kept.drew ?_ | refine Kept.drewN ?_ _))⟩
  case round =>
    obtain ⟨k, hk, rfl, rfl, x, rfl⟩ := hrel
    by_cases hlt : k < n
    · have pk := BP.out k hlt
      have fk := farI_bd BP.out BQ.out k hk
      obtain ⟨fb, off, rfl, lb, f0, f1, f2⟩ := rows3 HP.out hlt
      have LB : Lower fb w.heap.size := ⟨lb⟩
      clear lb
      go_wp2_with fail
      go_loopw [5, 19] (fun o i wr => ∃ j : Nat, j ≤ m ∧ i = .int .i64 j ∧ o = .int .i64 (farJ P Q k (farI P Q m k) j) ∧ ∃ x', wr = ext ((ext w x).alloc (.cells #[.int .i64 (P k 0), .int .i64 (P k 1), .int .i64 (P k 2)] 24)) x') (fun _ i _ => m - (intOf i).toNat)
      case atStart => exact ⟨0, by omega, rfl, rfl, by (repeat (first | exact Kept.refl _ | assumption | refine Kept.alloc ?_ _ | refine Kept.ext ?_ _ | refine Kept.drew ?_ | refine Kept.drewN ?_ _))⟩
      case round =>
        obtain ⟨j, hj, rfl, rfl, x', rfl⟩ := hrel
        by_cases hjt : j < m
        · have pj := BQ.out j hjt
          have gj := farJ_bd pk BQ.out fk j hj
          obtain ⟨gb, ofg, rfl, lg, g0, g1, g2⟩ := rows3 HQ.out hjt
          have LG : Lower gb w.heap.size := ⟨lg⟩
          clear lg
          have d0 := mul_sq 8192 67108864 (show -8192 ≤ P k 0 - Q j 0 ∧ P k 0 - Q j 0 ≤ 8192 by omega) (show -8192 ≤ P k 0 - Q j 0 ∧ P k 0 - Q j 0 ≤ 8192 by omega) rfl
          have d1 := mul_sq 8192 67108864 (show -8192 ≤ P k 1 - Q j 1 ∧ P k 1 - Q j 1 ≤ 8192 by omega) (show -8192 ≤ P k 1 - Q j 1 ∧ P k 1 - Q j 1 ≤ 8192 by omega) rfl
          have d2 := mul_sq 8192 67108864 (show -8192 ≤ P k 2 - Q j 2 ∧ P k 2 - Q j 2 ≤ 8192 by omega) (show -8192 ≤ P k 2 - Q j 2 ∧ P k 2 - Q j 2 ≤ 8192 by omega) rfl
          go_wp2_with (first | (go_at_call 69; refine (fvec_any _ _ _ _ _ _ _ (by omega)).mono ?_; rintro e w1 ⟨rfl, x, rfl⟩) | (go_at_call 68; refine (fdot_any _ _ _ _ _ _ _ (by omega)).mono ?_; rintro e w1 ⟨rfl, x, rfl⟩))
          go_roundw
          case rel => exact ⟨j + 1, by omega, by go_num, rfl, by (repeat (first | exact Kept.refl _ | assumption | refine Kept.alloc ?_ _ | refine Kept.ext ?_ _ | refine Kept.drew ?_ | refine Kept.drewN ?_ _))⟩
          case measure =>
            simp [intOf]
            omega
        · obtain rfl : j = m := by omega
          go_wp2_with fail
          go_roundw
          case rel => exact ⟨k + 1, by omega, by go_num, rfl, by (repeat (first | exact Kept.refl _ | assumption | refine Kept.alloc ?_ _ | refine Kept.ext ?_ _ | refine Kept.drew ?_ | refine Kept.drewN ?_ _))⟩
          case measure =>
            simp [intOf]
            omega
    · obtain rfl : k = n := by omega
      go_wp2_with fail
      go_ret
      exact ⟨rfl, by (repeat (first | exact Kept.refl _ | assumption | refine Kept.alloc ?_ _ | refine Kept.ext ?_ _ | refine Kept.drew ?_ | refine Kept.drewN ?_ _))⟩
end Go.Proofs.Ytodmdicegkjicaa

namespace Go.Proofs.Ytodmdicegkjicaa
set_option linter.unusedVariables false
set_option linter.unusedSimpArgs false
open Go.RowKit
theorem fcorners_any (p0 p1 p2 p3 p4 p5 p6 p7 p8 : Int) (w : World) :
    Calls Try.prog 51 #[.agg #[.int .i64 p0, .int .i64 p1, .int .i64 p2, .int .i64 p3, .int .i64 p4, .int .i64 p5, .int .i64 p6, .int .i64 p7, .int .i64 p8]] w fun e w' => e = .returned (.agg #[.int .i64 p0, .int .i64 p1, .int .i64 p2, .int .i64 p3, .int .i64 p4, .int .i64 p5, .int .i64 p6, .int .i64 p7, .int .i64 p8]) ∧ Kept w w' := by
  go_enter Try.func51, Try.ntmps51
  go_wp2
  refine bodyPost_ret (by simp only [results, Try.results51]; go_simp; rfl) rfl ?_
  exact ⟨rfl, by (repeat (first | exact Kept.refl _ | assumption | refine Kept.alloc ?_ _ | refine Kept.ext ?_ _ | refine Kept.drew ?_ | refine Kept.drewN ?_ _))⟩
end Go.Proofs.Ytodmdicegkjicaa

namespace Go.Proofs.Ytodmdicegkjicaa
set_option linter.unusedVariables false
set_option linter.unusedSimpArgs false
open Go.RowKit
theorem favg_any (lo hi c : Int) (w : World) :
    Calls Try.prog 54 #[.int .i64 lo, .int .i64 hi, .int .i64 c] w fun e w' => e = .returned (.agg #[.int .i64 (partS lo hi c).lo, .int .i64 (partS lo hi c).hi]) ∧ Kept w w' := by
  go_enter Try.func54, Try.ntmps54
  go_wp2_with (first | (go_at_call 70; refine (part_any _ _ _ _).mono ?_; rintro e w1 ⟨rfl, x, rfl⟩))
  refine bodyPost_ret (by simp only [results, Try.results54]; go_simp; rfl) rfl ?_
  exact ⟨rfl, by (repeat (first | exact Kept.refl _ | assumption | refine Kept.alloc ?_ _ | refine Kept.ext ?_ _ | refine Kept.drew ?_ | refine Kept.drewN ?_ _))⟩
end Go.Proofs.Ytodmdicegkjicaa

