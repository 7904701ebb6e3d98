/- Contracts: the box of a mesh, of the program and of the reference. Conditions: the lists' lengths are ints. -/
import Derived.Test.YtoadlneneijfaaaGce
import Derived.Test.YtoadlneneijfaaaTell
namespace Go.Proofs.Ytoadlneneijfaaa
set_option linter.unusedVariables false
set_option linter.unusedSimpArgs false
open Go.RowKit
def boxLo (P : Nat → Nat → Int) (j : Nat) : Nat → Int
  | 0 => P 0 j
  | k + 1 => min (boxLo P j k) (P k j)
def boxHi (P : Nat → Nat → Int) (j : Nat) : Nat → Int
  | 0 => P 0 j
  | k + 1 => max (boxHi P j k) (P k j)
def blo (n : Nat) (P : Nat → Nat → Int) (m : Nat) (F : Nat → Nat → Int) (j : Nat) : Int := if validE n P m F = 0 then boxLo P j n else 0
def bhi (n : Nat) (P : Nat → Nat → Int) (m : Nat) (F : Nat → Nat → Int) (j : Nat) : Int := if validE n P m F = 0 then boxHi P j n else 0
/-- A whole block is stored: the world goes on as one that is known there, and as before elsewhere. -/
theorem wp_putRow {P : Program} (w : World) {ops : Array Oper} {rest : List Oper} {o : Oper} {a : Act} {Q : Exit → Act → World → Prop} (hgd : o.guard = none) (ty : TypeId) (x y : Operand) (ho : o.op = .store ty x y)
    (g : Nat) {cs : Array Value} (hx : a.eval x = .pointer (some ⟨g, 0, none⟩)) (hy : a.eval y = .agg cs) {t : TypeId} {old : Array Value} (hg : w.heap[g]? = some (.cells old t (0, 0))) (hi : (P.info? ty).map (·.size) = some cs.size)
    (hold : old.size = cs.size) (h1 : cs.all (·.oneCell') = true)
    (h : ∀ w', w'.heap[g]? = some (.cells cs t (0, 0)) → w.grownBy w' (some g) → wpList P ops Q rest (a.put o.dst undef) w') : wpList P ops Q (o :: rest) a w :=
  wpList_store_row hgd ty x y ho g cs hx hy t old hg hi hold h1 (h _ (setRow_heap _ _ _ _ _ _ hg) (grown_setRow _ _ _))
theorem tells_put {P : Program} {K : Value → World → Prop} {w' : World} {ρ : Operand → Value} {o : Oper} (ty : TypeId) (px py : Operand) (ho : o.op = .store ty px py) (k : Nat) {c z : Array Value} {T : TypeId} (hp : ρ px = .pointer (some ⟨k, 0, none⟩)) (hy : ρ py = .agg c)
    (e3 : w'.heap[k]? = some (.cells z T (0, 0))) (hi : (P.info? ty).map (·.size) = some c.size) (hz : z.size = c.size) (h1 : c.all (·.oneCell') = true) (hK : K undef (w'.setRow k c)) : tellsUpon P K ((execOp ρ o).run P w') := by
  unfold execOp
  simp only [ho, hp, hy, Instr.storeAt, Instr.sureAddr, Sem.run_bind, Sem.run_pure, Result.andThen_ok, run_storeVar_row w' k T ty z c e3 hi hz h1]
  exact hK
theorem block_of {w w' : World} {g h : Nat} {o : Obj} (hg : w.grownBy w' (some g)) (hh : w.heap[h]? = some o) (hne : h ≠ g) : w'.heap[h]? = some o := by
  rw [hg.block h (Array.getElem?_eq_some_iff.1 hh).1 (fun e => hne (Option.some.inj e))]
  exact hh
/-- Two blocks, each stored in its turn. -/
structure TwoI (W : World) (g h i j : Nat) (T : TypeId) (z z' c c' : Array Value) (L : Nat → Bool) (b : Nat → Value) (w' : World) : Prop where
  kept : Kept W w'
  hg : w'.heap[g]? = some (.cells (if L i = true then c else z) T (0, 0))
  hh : w'.heap[h]? = some (.cells (if L j = true then c' else z') T (0, 0))
section
variable {W w' w'' : World} {g h i j : Nat} {T : TypeId} {z z' c c' : Array Value} {L : Nat → Bool} {b : Nat → Value}
theorem heap_kp {w w' : World} {b : Nat} {o : Obj} (h : w.heap[b]? = some o) (hk : Kept w w') : w'.heap[b]? = some o := by
  obtain ⟨x, rfl⟩ := hk
  rw [ext_block _ _ _ (Array.getElem?_eq_some_iff.1 h).1]
  exact h
theorem TwoI.on (hI : TwoI W g h i j T z z' c c' L b w') (hk : Kept w' w'') : TwoI W g h i j T z z' c c' L b w'' :=
  ⟨hI.kept.trans hk, heap_kp hI.hg hk, heap_kp hI.hh hk⟩
theorem TwoI.other (hI : TwoI W g h i j T z z' c c' L b w') {q : Nat} (h1 : q ≠ i) (h2 : q ≠ j) : TwoI W g h i j T z z' c c' (doneAt L q) b w' := by
  refine ⟨hI.kept, ?_, ?_⟩
  · rw [show doneAt L q i = L i from if_neg (Ne.symm h1)]; exact hI.hg
  · rw [show doneAt L q j = L j from if_neg (Ne.symm h2)]; exact hI.hh
theorem TwoI.one (hI : TwoI W g h i j T z z' c c' L b w') (hij : i ≠ j) (hgh : g ≠ h) (hW : W.heap.size ≤ g) (v : Value) : TwoI W g h i j T z z' c c' (doneAt L i) (tellAt b i v) (w'.setRow g c) := by
  refine ⟨hI.kept.map_store hW (grown_setRow _ _ _), ?_, ?_⟩
  · rw [show doneAt L i i = true from if_pos rfl]; exact setRow_heap _ _ _ _ _ _ hI.hg
  · rw [show doneAt L i j = L j from if_neg (Ne.symm hij)]; exact block_of (grown_setRow _ _ _) hI.hh (Ne.symm hgh)
theorem TwoI.two (hI : TwoI W g h i j T z z' c c' L b w') (hij : i ≠ j) (hgh : g ≠ h) (hW : W.heap.size ≤ h) (v : Value) : TwoI W g h i j T z z' c c' (doneAt L j) (tellAt b j v) (w'.setRow h c') := by
  refine ⟨hI.kept.map_store hW (grown_setRow _ _ _), ?_, ?_⟩
  · rw [show doneAt L j i = L i from if_neg hij]; exact block_of (grown_setRow _ _ _) hI.hg hgh
  · rw [show doneAt L j j = true from if_pos rfl]; exact setRow_heap _ _ _ _ _ _ hI.hh
end
/-- The state of the loop over the points. -/
def BoxI (W : World) (g h : Nat) (P : Nat → Nat → Int) (k : Nat) (wr : World) : Prop :=
  Kept W wr ∧ wr.heap[g]? = some (.cells #[.int .i64 (boxLo P 0 k), .int .i64 (boxLo P 1 k), .int .i64 (boxLo P 2 k)] 34 (0, 0)) ∧ wr.heap[h]? = some (.cells #[.int .i64 (boxHi P 0 k), .int .i64 (boxHi P 1 k), .int .i64 (boxHi P 2 k)] 34 (0, 0))
set_option maxRecDepth 100000 in
set_option maxHeartbeats 16000000 in
theorem sbox_any (A B : Option Addr) (n cap m cap2 : Nat) (P F : Nat → Nat → Int) (w : World) (hn : n ≤ 9223372036854775807 ∧ m ≤ 9223372036854775807) (hP : RowsAt w A n 3 P) (hF : RowsAt w B m 3 F) :
    Calls Try.prog 28 #[.agg #[.slice A n cap, .slice B m cap2]] w fun r w' => r = .returned (.tuple #[.agg #[.int .i64 (blo n P m F 0), .int .i64 (blo n P m F 1), .int .i64 (blo n P m F 2)], .agg #[.int .i64 (bhi n P m F 0), .int .i64 (bhi n P m F 1), .int .i64 (bhi n P m F 2)], .int .i64 (validE n P m F)]) ∧ Kept w w' := by
  have HP := Lib.hid hP
  have HF := Lib.hid hF
  clear hP hF
  by_cases hv : validE n P m F = 0
  case neg =>
    have c0 : ∀ c, blo n P m F c = 0 := fun c => if_neg hv
    have c1 : ∀ c, bhi n P m F c = 0 := fun c => if_neg hv
    rw [c0, c0, c0, c1, c1, c1]
    clear c0 c1
    obtain ⟨e, he⟩ : ∃ e, validE n P m F = e := ⟨_, rfl⟩
    rw [he] at hv
    have HV := Lib.hid he
    clear he
    have hv2 : (e == 0) = false := by simpa using hv
    have hv3 : decide (e = 0) = false := by simpa using hv
    go_enter Try.func28, Try.ntmps28
    go_wp2_with (go_at_call 30; refine (svalidate_any _ _ _ _ _ _ P F _ hn (HP.out.of (by (repeat (first | exact Kept.refl _ | assumption | refine Kept.alloc ?_ _ | refine Kept.ext ?_ _ | refine Kept.drew ?_ | refine Kept.drewN ?_ _)))) (HF.out.of (by (repeat (first | exact Kept.refl _ | assumption | refine Kept.alloc ?_ _ | refine Kept.ext ?_ _ | refine Kept.drew ?_ | refine Kept.drewN ?_ _))))).mono ?_; rintro e w1 ⟨rfl, x, rfl⟩; rw [HV.out])
    refine bodyPost_ret (by simp only [results, Try.results28]; go_simp; rfl) rfl ?_
    rw [HV.out]
    exact ⟨rfl, by (repeat (first | exact Kept.refl _ | assumption | refine Kept.alloc ?_ _ | refine Kept.ext ?_ _ | refine Kept.drew ?_ | refine Kept.drewN ?_ _))⟩
  have c0 : ∀ c, blo n P m F c = boxLo P c n := fun c => if_pos hv
  have c1 : ∀ c, bhi n P m F c = boxHi P c n := fun c => if_pos hv
  rw [c0, c0, c0, c1, c1, c1]
  clear c0 c1
  have HV := Lib.hid hv
  obtain ⟨n64, m96, -, hf, -⟩ := validE_ok hv
  have hn0 : 0 < n := by
    have := cornB_true (corn_of hf 0 (by omega))
    omega
  clear hv hf
  obtain ⟨fb, off, rfl, hb, f0, f1, f2⟩ := rows3 HP.out hn0
  have LB : Lower fb w.heap.size := ⟨hb⟩
  simp only [Nat.zero_mul, Nat.add_zero] at f0 f1 f2
  go_enter Try.func28, Try.ntmps28
  go_wp2_with (first | (go_at_call 30; refine (svalidate_any _ _ _ _ _ _ P F _ hn (HP.out.of (by (repeat (first | exact Kept.refl _ | assumption | refine Kept.alloc ?_ _ | refine Kept.ext ?_ _ | refine Kept.drew ?_ | refine Kept.drewN ?_ _)))) (HF.out.of (by (repeat (first | exact Kept.refl _ | assumption | refine Kept.alloc ?_ _ | refine Kept.ext ?_ _ | refine Kept.drew ?_ | refine Kept.drewN ?_ _))))).mono ?_; rintro e w1 ⟨rfl, x0, rfl⟩; rw [HV.out]) | fail)
  refine wp_region_tellC (C := Kept (w.alloc (.cells #[.slice (some ⟨fb, off, none⟩) n cap, .slice B m cap2] 25))) [.q, .q, .q, .q, .q, .q, .q, .q, .k undef, .k undef] (TwoI (w.alloc (.cells #[.slice (some ⟨fb, off, none⟩) n cap, .slice B m cap2] 25)) (w.heap.size + 1) (w.heap.size + 1 + 1) 8 9 34 #[.int .i64 0, .int .i64 0, .int .i64 0] #[.int .i64 0, .int .i64 0, .int .i64 0] #[.int .i64 (P 0 0), .int .i64 (P 0 1), .int .i64 (P 0 2)] #[.int .i64 (P 0 0), .int .i64 (P 0 1), .int .i64 (P 0 2)]) (by kernel_rfl) (by kernel_rfl) (fun b => by kernel_rfl) ?_ ?_ ?_ ?_
  · intro b
    refine ⟨by (repeat (first | exact Kept.refl _ | assumption | refine Kept.alloc ?_ _ | refine Kept.ext ?_ _ | refine Kept.drew ?_ | refine Kept.drewN ?_ _)), ?_, ?_⟩
    · exact heap_kp (alloc_now (w.alloc (.cells #[.slice (some ⟨fb, off, none⟩) n cap, .slice B m cap2] 25)) _ _) (by (repeat (first | exact Kept.refl _ | assumption | refine Kept.alloc ?_ _ | refine Kept.ext ?_ _ | refine Kept.drew ?_ | refine Kept.drewN ?_ _)))
    · exact heap_kp (alloc_now _ _ _) (by (repeat (first | exact Kept.refl _ | assumption | refine Kept.alloc ?_ _ | refine Kept.ext ?_ _ | refine Kept.drew ?_ | refine Kept.drewN ?_ _)))
  · intro i L b w' w'' hs hI hk
    exact (hI.on hk).other (by rintro rfl; cases hs) (by rintro rfl; cases hs)
  · exact fun L b w' h => h.kept
  apply Exists.intro
  refine ⟨?_, ?_, ?_, ?_⟩
  · rintro b W ⟨y, rfl⟩
    simp only [swapL, Nat.reduceAdd]
    repeat (go_big_quiet_step (fail))
    refine wpQuiet_nil ?_
    rfl
  · simp only [EachS, and_true]
    refine ⟨?_, ?_⟩
    · intro L b w' hd hL hI
      have e3 := hI.hg
      rw [hL] at e3
      simp only [Bool.false_eq_true, if_false] at e3
      refine tells_put 34 (.tmp 2) (.tmp 18) rfl (w.heap.size + 1) rfl rfl e3 (by kernel_rfl) rfl (by simp [Value.oneCell']) ?_
      exact ⟨rfl, hI.one (by omega) (by omega) (by simp) _⟩
    · intro L b w' hd hL hI
      have e3 := hI.hh
      rw [hL] at e3
      simp only [Bool.false_eq_true, if_false] at e3
      refine tells_put 34 (.tmp 3) (.tmp 22) rfl (w.heap.size + 1 + 1) rfl rfl e3 (by kernel_rfl) rfl (by simp [Value.oneCell']) ?_
      exact ⟨rfl, hI.two (by omega) (by omega) (by simp) _⟩
  · intro b b' d hd
    simp [callSlots, dullOp] at hd
  · intro L b w' hL hI
    have HG := Lib.hid hI.hg
    have HH := Lib.hid hI.hh
    rw [hL 8 (by decide)] at HG
    rw [hL 9 (by decide)] at HH
    simp only [if_true] at HG HH
    have HK := Lib.hid hI.kept
    clear hL hI
    obtain ⟨y, rfl⟩ := HK.out
    go_wp2_with fail
    go_loopw [26] (fun i wr => ∃ k : Nat, k ≤ n ∧ i = .int .i64 k ∧ BoxI (w.alloc (.cells #[.slice (some ⟨fb, off, none⟩) n cap, .slice B m cap2] 25)) (w.heap.size + 1) (w.heap.size + 1 + 1) P k wr) (fun i _ => n - (intOf i).toNat)
    case atStart => exact ⟨0, by omega, rfl, HK.out, HG.out, HH.out⟩
    case round =>
      obtain ⟨k, hk, rfl, ⟨z, rfl⟩, hg, hh⟩ := hrel
      have HG2 := Lib.hid hg
      have HH2 := Lib.hid hh
      obtain ⟨l0, l1, l2⟩ := cells3 hg
      obtain ⟨u0, u1, u2⟩ := cells3 hh
      clear hg hh
      have LG : Lower (w.heap.size + 1) (adv (w.heap.size + 1) z.obs.size) := ⟨by have := cell_lt l0; simpa using this⟩
      have LH : Lower (w.heap.size + 1 + 1) (adv (w.heap.size + 1) z.obs.size) := ⟨by have := cell_lt u0; simpa using this⟩
      by_cases hlt : k < n
      · obtain ⟨fb', off', e, -, f0, f1, f2⟩ := rows3 HP.out hlt
        cases e
        go_wp2_with (first | (refine wp_putRow (cs := #[.int .i64 (min (boxLo P 0 k) (P k 0)), .int .i64 (min (boxLo P 1 k) (P k 1)), .int .i64 (min (boxLo P 2 k) (P k 2))]) _ rfl 34 (.tmp 2) (.tmp 45) rfl (w.heap.size + 1) (by rfl) (by rfl) (heap_kp HG2.out (by (repeat (first | exact Kept.refl _ | assumption | refine Kept.alloc ?_ _ | refine Kept.ext ?_ _ | refine Kept.drew ?_ | refine Kept.drewN ?_ _)))) (by kernel_rfl) (by rfl) (by simp [Value.oneCell']) ?_; intro w2 h2 g2; have k2 : Kept (w.alloc (.cells #[.slice (some ⟨fb, off, none⟩) n cap, .slice B m cap2] 25)) w2 := Kept.map_store (by (repeat (first | exact Kept.refl _ | assumption | refine Kept.alloc ?_ _ | refine Kept.ext ?_ _ | refine Kept.drew ?_ | refine Kept.drewN ?_ _))) (by simp) g2; have hh2 := block_of g2 (heap_kp HH2.out (by (repeat (first | exact Kept.refl _ | assumption | refine Kept.alloc ?_ _ | refine Kept.ext ?_ _ | refine Kept.drew ?_ | refine Kept.drewN ?_ _)))) (by omega); have hp2 : w2.heap[adv (w.heap.size + 1) z.obs.size]? = some (.cells #[.int .i64 (P k 0), .int .i64 (P k 1), .int .i64 (P k 2)] 34 (0, 0)) := block_of g2 (alloc_now _ _ _) (by have := LG.lt; omega); obtain ⟨v0, v1, v2⟩ := cells3 hh2; obtain ⟨p0, p1, p2⟩ := cells3 hp2; have H2 := Lib.hid h2; have HH3 := Lib.hid hh2; have G2 := Lib.hid g2; have K2 := Lib.hid k2; clear h2 g2 k2 hh2 hp2) | (refine wp_putRow (cs := #[.int .i64 (max (boxHi P 0 k) (P k 0)), .int .i64 (max (boxHi P 1 k) (P k 1)), .int .i64 (max (boxHi P 2 k) (P k 2))]) _ rfl 34 (.tmp 3) (.tmp 61) rfl (w.heap.size + 1 + 1) (by rfl) (by rfl) HH3.out (by kernel_rfl) (by rfl) (by simp [Value.oneCell']) ?_; intro w3 h3 g3; have H3 := Lib.hid h3; have G3 := Lib.hid g3; clear h3 g3))
        go_roundw
        case rel => exact ⟨k + 1, by omega, by go_num, K2.out.map_store (by simp) G3.out, block_of G3.out H2.out (by omega), H3.out⟩
        case measure => simp [intOf]; omega
      · obtain rfl : k = n := by omega
        go_wp2_with fail
        refine wp_region_tellC (C := fun W => Kept (w.alloc (.cells #[.slice (some ⟨fb, off, none⟩) k cap, .slice B m cap2] 25)) W ∧ W.heap[w.heap.size + 1]? = some (.cells #[.int .i64 (boxLo P 0 k), .int .i64 (boxLo P 1 k), .int .i64 (boxLo P 2 k)] 34 (0, 0)) ∧ W.heap[w.heap.size + 1 + 1]? = some (.cells #[.int .i64 (boxHi P 0 k), .int .i64 (boxHi P 1 k), .int .i64 (boxHi P 2 k)] 34 (0, 0))) [.q, .q, .k undef, .k undef, .q] (TwoI (w.alloc (.cells #[.slice (some ⟨fb, off, none⟩) k cap, .slice B m cap2] 25)) (w.heap.size + 1) (w.heap.size + 1 + 1) 2 3 34 #[.int .i64 (boxLo P 0 k), .int .i64 (boxLo P 1 k), .int .i64 (boxLo P 2 k)] #[.int .i64 (boxHi P 0 k), .int .i64 (boxHi P 1 k), .int .i64 (boxHi P 2 k)] #[.int .i64 (boxLo P 0 k), .int .i64 (boxLo P 1 k), .int .i64 (boxLo P 2 k)] #[.int .i64 (boxHi P 0 k), .int .i64 (boxHi P 1 k), .int .i64 (boxHi P 2 k)]) (by kernel_rfl) (by kernel_rfl) (fun b => by kernel_rfl) ?_ ?_ ?_ ?_
        · intro b
          exact ⟨by (repeat (first | exact Kept.refl _ | assumption | refine Kept.alloc ?_ _ | refine Kept.ext ?_ _ | refine Kept.drew ?_ | refine Kept.drewN ?_ _)), heap_kp HG2.out (by (repeat (first | exact Kept.refl _ | assumption | refine Kept.alloc ?_ _ | refine Kept.ext ?_ _ | refine Kept.drew ?_ | refine Kept.drewN ?_ _))), heap_kp HH2.out (by (repeat (first | exact Kept.refl _ | assumption | refine Kept.alloc ?_ _ | refine Kept.ext ?_ _ | refine Kept.drew ?_ | refine Kept.drewN ?_ _)))⟩
        · intro i L b w' w'' hs hI hk
          exact (hI.on hk).other (by rintro rfl; cases hs) (by rintro rfl; cases hs)
        · intro L b w' h
          have e1 := h.hg
          have e2 := h.hh
          rw [ite_self] at e1 e2
          exact ⟨h.kept, e1, e2⟩
        apply Exists.intro
        refine ⟨?_, ?_, ?_, ?_⟩
        · rintro b W ⟨hk, e1, e2⟩
          obtain ⟨l0, l1, l2⟩ := cells3 e1
          obtain ⟨u0, u1, u2⟩ := cells3 e2
          haveI : Lower (w.heap.size + 1) W.heap.size := ⟨cell_lt l0⟩
          haveI : Lower (w.heap.size + 1 + 1) W.heap.size := ⟨cell_lt u0⟩
          clear e1 e2 hk
          simp only [swapL, Nat.reduceAdd]
          repeat (go_big_quiet_step (fail))
          refine wpQuiet_nil ?_
          rfl
        · simp only [EachS, and_true]
          refine ⟨?_, ?_⟩
          · intro L b w' hd hL hI
            have e3 := hI.hg
            rw [ite_self] at e3
            refine tells_put 34 (.tmp 2) (.tmp 63) (by rfl) (w.heap.size + 1) (c := #[.int .i64 (boxLo P 0 k), .int .i64 (boxLo P 1 k), .int .i64 (boxLo P 2 k)]) (by rfl) (by rfl) e3 (by kernel_rfl) (by rfl) (by simp [Value.oneCell']) ?_
            exact ⟨rfl, hI.one (by omega) (by omega) (by simp) _⟩
          · intro L b w' hd hL hI
            have e3 := hI.hh
            rw [ite_self] at e3
            refine tells_put 34 (.tmp 3) (.tmp 64) (by rfl) (w.heap.size + 1 + 1) (c := #[.int .i64 (boxHi P 0 k), .int .i64 (boxHi P 1 k), .int .i64 (boxHi P 2 k)]) (by rfl) (by rfl) e3 (by kernel_rfl) (by rfl) (by simp [Value.oneCell']) ?_
            exact ⟨rfl, hI.two (by omega) (by omega) (by simp) _⟩
        · intro b b' d hd
          simp [callSlots, dullOp] at hd
        · intro L b w' hL hI
          have e1 := hI.hg
          have e2 := hI.hh
          rw [ite_self] at e1 e2
          obtain ⟨l0, l1, l2⟩ := cells3 e1
          obtain ⟨u0, u1, u2⟩ := cells3 e2
          have HK9 := Lib.hid hI.kept
          clear hL hI e1 e2
          go_wp2_with fail
          refine bodyPost_ret (by simp only [results, Try.results28]; go_simp; rfl) rfl ?_
          rw [HV.out]
          exact ⟨rfl, (show Kept w (w.alloc (.cells #[.slice (some ⟨fb, off, none⟩) k cap, .slice B m cap2] 25)) by (repeat (first | exact Kept.refl _ | assumption | refine Kept.alloc ?_ _ | refine Kept.ext ?_ _ | refine Kept.drew ?_ | refine Kept.drewN ?_ _))).trans HK9.out⟩
end Go.Proofs.Ytoadlneneijfaaa
