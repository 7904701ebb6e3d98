/- Contract: boxes, of the reference. No conditions. Contracts: octahedra, of the program and of the reference. No conditions. Contracts: the box of a mesh, of the program and of the reference. Conditions: the lists' lengths are ints. Contract: a mesh in new memory, of the reference. Conditions: the lists are not long. A mesh in new memory while it is made: its two lists, the block that holds them, the result's block. Contracts: a mesh or its error, list by list. Conditions: the lists' lengths are ints. A point appended to the points of a mesh that is being made, in a drawn order: what is known at each step. No conditions but those of each theorem. Contract: an octahedron, of the program, lies in new memory. No conditions. -/
import Derived.Test.YtnbjealpcjfllaaGreatDoorGbl
import Derived.Test.YtnbjealpcjfllaaGreatDoorGrc
import Derived.Test.YtnbjealpcjfllaaGreatDoorTell
import Derived.Test.YtnbjealpcjfllaaGreatDoorCop
namespace Go.Proofs.YtnbjealpcjfllaaGreatDoor
set_option linter.unusedVariables false
set_option linter.unusedSimpArgs false
open Go.RowKit
end Go.Proofs.YtnbjealpcjfllaaGreatDoor

namespace Go.Proofs.YtnbjealpcjfllaaGreatDoor
set_option linter.unusedVariables false
set_option linter.unusedSimpArgs false
open Go.RowKit
def octaL : List (List Int) := [[0, 2, 4], [2, 1, 4], [1, 3, 4], [3, 0, 4], [2, 0, 5], [1, 2, 5], [3, 1, 5], [0, 3, 5]]
def octaF (i j : Nat) : Int := (octaL.getD i []).getD j 0
def octaPL (r : Int) : List (List Int) := [[r, 0, 0], [(-r), 0, 0], [0, r, 0], [0, (-r), 0], [0, 0, r], [0, 0, (-r)]]
def octaP (r : Int) (i j : Nat) : Int := ((octaPL r).getD i []).getD j 0
def octaE (r : Int) : Int := if frB r 1 64 = true then validE 6 (octaP r) 8 octaF else 1
theorem octaFs (V : World) : RowsAt (V.alloc (.cells #[.int .i64 0, .int .i64 2, .int .i64 4, .int .i64 2, .int .i64 1, .int .i64 4, .int .i64 1, .int .i64 3, .int .i64 4, .int .i64 3, .int .i64 0, .int .i64 4, .int .i64 2, .int .i64 0, .int .i64 5, .int .i64 1, .int .i64 2, .int .i64 5, .int .i64 3, .int .i64 1, .int .i64 5, .int .i64 0, .int .i64 3, .int .i64 5] 138)) (some ⟨V.heap.size, 0, none⟩) 8 3 octaF := by
  refine rows_of_owns (base := 0) (e := 138) (cap := 8) (World.ownsRow_lit V #[.int .i64 0, .int .i64 2, .int .i64 4, .int .i64 2, .int .i64 1, .int .i64 4, .int .i64 1, .int .i64 3, .int .i64 4, .int .i64 3, .int .i64 0, .int .i64 4, .int .i64 2, .int .i64 0, .int .i64 5, .int .i64 1, .int .i64 2, .int .i64 5, .int .i64 3, .int .i64 1, .int .i64 5, .int .i64 0, .int .i64 3, .int .i64 5] 8 (Nat.zero_le _) (by unfold maxLen; omega) rfl) ?_
  intro k hk j hj
  rcases (show k = 0 ∨ k = 1 ∨ k = 2 ∨ k = 3 ∨ k = 4 ∨ k = 5 ∨ k = 6 ∨ k = 7 by omega) with rfl | rfl | rfl | rfl | rfl | rfl | rfl | rfl <;> (rcases (show j = 0 ∨ j = 1 ∨ j = 2 by omega) with rfl | rfl | rfl <;> (unfold I64; decide))
theorem octaPs (V : World) (r : Int) (hr : 1 ≤ r ∧ r ≤ 64) : RowsAt (V.alloc (.cells #[.int .i64 r, .int .i64 0, .int .i64 0, .int .i64 (-r), .int .i64 0, .int .i64 0, .int .i64 0, .int .i64 r, .int .i64 0, .int .i64 0, .int .i64 (-r), .int .i64 0, .int .i64 0, .int .i64 0, .int .i64 r, .int .i64 0, .int .i64 0, .int .i64 (-r)] 136)) (some ⟨V.heap.size, 0, none⟩) 6 3 (octaP r) := by
  refine rows_of_owns (base := 0) (e := 136) (cap := 6) (World.ownsRow_lit V #[.int .i64 r, .int .i64 0, .int .i64 0, .int .i64 (-r), .int .i64 0, .int .i64 0, .int .i64 0, .int .i64 r, .int .i64 0, .int .i64 0, .int .i64 (-r), .int .i64 0, .int .i64 0, .int .i64 0, .int .i64 r, .int .i64 0, .int .i64 0, .int .i64 (-r)] 6 (Nat.zero_le _) (by unfold maxLen; omega) rfl) ?_
  intro k hk j hj
  rcases (show k = 0 ∨ k = 1 ∨ k = 2 ∨ k = 3 ∨ k = 4 ∨ k = 5 by omega) with rfl | rfl | rfl | rfl | rfl | rfl <;> (rcases (show j = 0 ∨ j = 1 ∨ j = 2 by omega) with rfl | rfl | rfl <;> (simp [octaP, octaPL, I64]; try omega))
theorem nosB : ∀ (j : Nat) (z : Int), (#[Value.slice none 0 0, Value.slice none 0 0])[j]? ≠ some (Value.int .i64 z) := fun j z e => by
  rcases (show j = 0 ∨ j = 1 ∨ 2 ≤ j by omega) with rfl | rfl | h
  · simp at e
  · simp at e
  · rw [Array.getElem?_eq_none (by simpa using h)] at e; cases e
end Go.Proofs.YtnbjealpcjfllaaGreatDoor

namespace Go.Proofs.YtnbjealpcjfllaaGreatDoor
set_option linter.unusedVariables false
set_option linter.unusedSimpArgs false
open Go.RowKit
def boxLo (P : Nat → Nat → Int) (j : Nat) : Nat → Int
  | 0 => P 0 j
  | k + 1 => min (boxLo P j k) (P k j)
def boxHi (P : Nat → Nat → Int) (j : Nat) : Nat → Int
  | 0 => P 0 j
  | k + 1 => max (boxHi P j k) (P k j)
def blo (n : Nat) (P : Nat → Nat → Int) (m : Nat) (F : Nat → Nat → Int) (j : Nat) : Int := if validE n P m F = 0 then boxLo P j n else 0
def bhi (n : Nat) (P : Nat → Nat → Int) (m : Nat) (F : Nat → Nat → Int) (j : Nat) : Int := if validE n P m F = 0 then boxHi P j n else 0
/-- A whole block is stored: the world goes on as one that is known there, and as before elsewhere. -/
theorem wp_putRow {P : Program} (w : World) {ops : Array Oper} {rest : List Oper} {o : Oper} {a : Act} {Q : Exit → Act → World → Prop} (hgd : o.guard = none) (ty : TypeId) (x y : Operand) (ho : o.op = .store ty x y)
    (g : Nat) {cs : Array Value} (hx : a.eval x = .pointer (some ⟨g, 0, none⟩)) (hy : a.eval y = .agg cs) {t : TypeId} {old : Array Value} (hg : w.heap[g]? = some (.cells old t (0, 0))) (hi : (P.info? ty).map (·.size) = some cs.size)
    (hold : old.size = cs.size) (h1 : cs.all (·.oneCell') = true)
    (h : ∀ w', w'.heap[g]? = some (.cells cs t (0, 0)) → w.grownBy w' (some g) → wpList P ops Q rest (a.put o.dst undef) w') : wpList P ops Q (o :: rest) a w :=
  wpList_store_row hgd ty x y ho g cs hx hy t old hg hi hold h1 (h _ (setRow_heap _ _ _ _ _ _ hg) (grown_setRow _ _ _))
theorem tells_put {P : Program} {K : Value → World → Prop} {w' : World} {ρ : Operand → Value} {o : Oper} (ty : TypeId) (px py : Operand) (ho : o.op = .store ty px py) (k : Nat) {c z : Array Value} {T : TypeId} (hp : ρ px = .pointer (some ⟨k, 0, none⟩)) (hy : ρ py = .agg c)
    (e3 : w'.heap[k]? = some (.cells z T (0, 0))) (hi : (P.info? ty).map (·.size) = some c.size) (hz : z.size = c.size) (h1 : c.all (·.oneCell') = true) (hK : K undef (w'.setRow k c)) : tellsUpon P K ((execOp ρ o).run P w') := by
  unfold execOp
  simp only [ho, hp, hy, Instr.storeAt, Instr.sureAddr, Sem.run_bind, Sem.run_pure, Result.andThen_ok, run_storeVar_row w' k T ty z c e3 hi hz h1]
  exact hK
theorem block_of {w w' : World} {g h : Nat} {o : Obj} (hg : w.grownBy w' (some g)) (hh : w.heap[h]? = some o) (hne : h ≠ g) : w'.heap[h]? = some o := by
  rw [hg.block h (Array.getElem?_eq_some_iff.1 hh).1 (fun e => hne (Option.some.inj e))]
  exact hh
/-- Two blocks, each stored in its turn. -/
structure TwoI (W : World) (g h i j : Nat) (T : TypeId) (z z' c c' : Array Value) (L : Nat → Bool) (b : Nat → Value) (w' : World) : Prop where
  kept : Kept W w'
  hg : w'.heap[g]? = some (.cells (if L i = true then c else z) T (0, 0))
  hh : w'.heap[h]? = some (.cells (if L j = true then c' else z') T (0, 0))
section
variable {W w' w'' : World} {g h i j : Nat} {T : TypeId} {z z' c c' : Array Value} {L : Nat → Bool} {b : Nat → Value}
theorem heap_kp {w w' : World} {b : Nat} {o : Obj} (h : w.heap[b]? = some o) (hk : Kept w w') : w'.heap[b]? = some o := by
  obtain ⟨x, rfl⟩ := hk
  rw [ext_block _ _ _ (Array.getElem?_eq_some_iff.1 h).1]
  exact h
theorem TwoI.on (hI : TwoI W g h i j T z z' c c' L b w') (hk : Kept w' w'') : TwoI W g h i j T z z' c c' L b w'' :=
  ⟨hI.kept.trans hk, heap_kp hI.hg hk, heap_kp hI.hh hk⟩
theorem TwoI.other (hI : TwoI W g h i j T z z' c c' L b w') {q : Nat} (h1 : q ≠ i) (h2 : q ≠ j) : TwoI W g h i j T z z' c c' (doneAt L q) b w' := by
  refine ⟨hI.kept, ?_, ?_⟩
  · rw [show doneAt L q i = L i from if_neg (Ne.symm h1)]; exact hI.hg
  · rw [show doneAt L q j = L j from if_neg (Ne.symm h2)]; exact hI.hh
theorem TwoI.one (hI : TwoI W g h i j T z z' c c' L b w') (hij : i ≠ j) (hgh : g ≠ h) (hW : W.heap.size ≤ g) (v : Value) : TwoI W g h i j T z z' c c' (doneAt L i) (tellAt b i v) (w'.setRow g c) := by
  refine ⟨hI.kept.map_store hW (grown_setRow _ _ _), ?_, ?_⟩
  · rw [show doneAt L i i = true from if_pos rfl]; exact setRow_heap _ _ _ _ _ _ hI.hg
  · rw [show doneAt L i j = L j from if_neg (Ne.symm hij)]; exact block_of (grown_setRow _ _ _) hI.hh (Ne.symm hgh)
theorem TwoI.two (hI : TwoI W g h i j T z z' c c' L b w') (hij : i ≠ j) (hgh : g ≠ h) (hW : W.heap.size ≤ h) (v : Value) : TwoI W g h i j T z z' c c' (doneAt L j) (tellAt b j v) (w'.setRow h c') := by
  refine ⟨hI.kept.map_store hW (grown_setRow _ _ _), ?_, ?_⟩
  · rw [show doneAt L j i = L i from if_neg hij]; exact block_of (grown_setRow _ _ _) hI.hg hgh
  · rw [show doneAt L j j = true from if_pos rfl]; exact setRow_heap _ _ _ _ _ _ hI.hh
end
/-- The state of the loop over the points. -/
def BoxI (W : World) (g h : Nat) (P : Nat → Nat → Int) (k : Nat) (wr : World) : Prop :=
  Kept W wr ∧ wr.heap[g]? = some (.cells #[.int .i64 (boxLo P 0 k), .int .i64 (boxLo P 1 k), .int .i64 (boxLo P 2 k)] 136 (0, 0)) ∧ wr.heap[h]? = some (.cells #[.int .i64 (boxHi P 0 k), .int .i64 (boxHi P 1 k), .int .i64 (boxHi P 2 k)] 136 (0, 0))
set_option maxRecDepth 100000 in
set_option maxHeartbeats 16000000 in
theorem sbox_any (A B : Option Addr) (n cap m cap2 : Nat) (P F : Nat → Nat → Int) (w : World) (hn : n ≤ 9223372036854775807 ∧ m ≤ 9223372036854775807) (hP : RowsAt w A n 3 P) (hF : RowsAt w B m 3 F) :
    Calls Tryz.prog 224 #[.agg #[.slice A n cap, .slice B m cap2]] w fun r w' => r = .returned (.tuple #[.agg #[.int .i64 (blo n P m F 0), .int .i64 (blo n P m F 1), .int .i64 (blo n P m F 2)], .agg #[.int .i64 (bhi n P m F 0), .int .i64 (bhi n P m F 1), .int .i64 (bhi n P m F 2)], .int .i64 (validE n P m F)]) ∧ Kept w w' := by
  have HP := Lib.hid hP
  have HF := Lib.hid hF
  clear hP hF
  by_cases hv : validE n P m F = 0
  case neg =>
    have c0 : ∀ c, blo n P m F c = 0 := fun c => if_neg hv
    have c1 : ∀ c, bhi n P m F c = 0 := fun c => if_neg hv
    rw [c0, c0, c0, c1, c1, c1]
    clear c0 c1
    obtain ⟨e, he⟩ : ∃ e, validE n P m F = e := ⟨_, rfl⟩
    rw [he] at hv
    have HV := Lib.hid he
    clear he
    have hv2 : (e == 0) = false := by simpa using hv
    have hv3 : decide (e = 0) = false := by simpa using hv
    go_enter Tryz.func224, Tryz.ntmps224
    go_wp2_with (go_at_call 71; refine (svalidate_any _ _ _ _ _ _ P F _ hn (HP.out.of (by (repeat (first | exact Kept.refl _ | assumption | refine Kept.alloc ?_ _ | refine Kept.ext ?_ _ | refine Kept.drew ?_ | refine Kept.drewN ?_ _)))) (HF.out.of (by (repeat (first | exact Kept.refl _ | assumption | refine Kept.alloc ?_ _ | refine Kept.ext ?_ _ | refine Kept.drew ?_ | refine Kept.drewN ?_ _))))).mono ?_; rintro e w1 ⟨rfl, x, rfl⟩; rw [HV.out])
    refine bodyPost_ret (by simp only [results, Tryz.results224]; go_simp; rfl) rfl ?_
    rw [HV.out]
    exact ⟨rfl, by (repeat (first | exact Kept.refl _ | assumption | refine Kept.alloc ?_ _ | refine Kept.ext ?_ _ | refine Kept.drew ?_ | refine Kept.drewN ?_ _))⟩
  have c0 : ∀ c, blo n P m F c = boxLo P c n := fun c => if_pos hv
  have c1 : ∀ c, bhi n P m F c = boxHi P c n := fun c => if_pos hv
  rw [c0, c0, c0, c1, c1, c1]
  clear c0 c1
  have HV := Lib.hid hv
  obtain ⟨n64, m96, -, hf, -⟩ := validE_ok hv
  have hn0 : 0 < n := by
    have := cornB_true (corn_of hf 0 (by omega))
    omega
  clear hv hf
  obtain ⟨fb, off, rfl, hb, f0, f1, f2⟩ := rows3 HP.out hn0
  have LB : Lower fb w.heap.size := ⟨hb⟩
  simp only [Nat.zero_mul, Nat.add_zero] at f0 f1 f2
  go_enter Tryz.func224, Tryz.ntmps224
  go_wp2_with (first | (go_at_call 71; refine (svalidate_any _ _ _ _ _ _ P F _ hn (HP.out.of (by (repeat (first | exact Kept.refl _ | assumption | refine Kept.alloc ?_ _ | refine Kept.ext ?_ _ | refine Kept.drew ?_ | refine Kept.drewN ?_ _)))) (HF.out.of (by (repeat (first | exact Kept.refl _ | assumption | refine Kept.alloc ?_ _ | refine Kept.ext ?_ _ | refine Kept.drew ?_ | refine Kept.drewN ?_ _))))).mono ?_; rintro e w1 ⟨rfl, x0, rfl⟩; rw [HV.out]) | fail)
  refine wp_region_tellC (C := Kept (w.alloc (.cells #[.slice (some ⟨fb, off, none⟩) n cap, .slice B m cap2] 42))) [.q, .q, .q, .q, .q, .q, .q, .q, .k undef, .k undef] (TwoI (w.alloc (.cells #[.slice (some ⟨fb, off, none⟩) n cap, .slice B m cap2] 42)) (w.heap.size + 1) (w.heap.size + 1 + 1) 8 9 136 #[.int .i64 0, .int .i64 0, .int .i64 0] #[.int .i64 0, .int .i64 0, .int .i64 0] #[.int .i64 (P 0 0), .int .i64 (P 0 1), .int .i64 (P 0 2)] #[.int .i64 (P 0 0), .int .i64 (P 0 1), .int .i64 (P 0 2)]) (by kernel_rfl) (by kernel_rfl) (fun b => by kernel_rfl) ?_ ?_ ?_ ?_
  · intro b
    refine ⟨by (repeat (first | exact Kept.refl _ | assumption | refine Kept.alloc ?_ _ | refine Kept.ext ?_ _ | refine Kept.drew ?_ | refine Kept.drewN ?_ _)), ?_, ?_⟩
    · exact heap_kp (alloc_now (w.alloc (.cells #[.slice (some ⟨fb, off, none⟩) n cap, .slice B m cap2] 42)) _ _) (by (repeat (first | exact Kept.refl _ | assumption | refine Kept.alloc ?_ _ | refine Kept.ext ?_ _ | refine Kept.drew ?_ | refine Kept.drewN ?_ _)))
    · exact heap_kp (alloc_now _ _ _) (by (repeat (first | exact Kept.refl _ | assumption | refine Kept.alloc ?_ _ | refine Kept.ext ?_ _ | refine Kept.drew ?_ | refine Kept.drewN ?_ _)))
  · intro i L b w' w'' hs hI hk
    exact (hI.on hk).other (by rintro rfl; cases hs) (by rintro rfl; cases hs)
  · exact fun L b w' h => h.kept
  apply Exists.intro
  refine ⟨?_, ?_, ?_, ?_⟩
  · rintro b W ⟨y, rfl⟩
    simp only [swapL, Nat.reduceAdd]
    repeat (go_big_quiet_step (fail))
    refine wpQuiet_nil ?_
    rfl
  · simp only [EachS, and_true]
    refine ⟨?_, ?_⟩
    · intro L b w' hd hL hI
      have e3 := hI.hg
      rw [hL] at e3
      simp only [Bool.false_eq_true, if_false] at e3
      refine tells_put 136 (.tmp 2) (.tmp 18) rfl (w.heap.size + 1) rfl rfl e3 (by kernel_rfl) rfl (by simp [Value.oneCell']) ?_
      exact ⟨rfl, hI.one (by omega) (by omega) (by simp) _⟩
    · intro L b w' hd hL hI
      have e3 := hI.hh
      rw [hL] at e3
      simp only [Bool.false_eq_true, if_false] at e3
      refine tells_put 136 (.tmp 3) (.tmp 22) rfl (w.heap.size + 1 + 1) rfl rfl e3 (by kernel_rfl) rfl (by simp [Value.oneCell']) ?_
      exact ⟨rfl, hI.two (by omega) (by omega) (by simp) _⟩
  · intro b b' d hd
    simp [callSlots, dullOp] at hd
  · intro L b w' hL hI
    have HG := Lib.hid hI.hg
    have HH := Lib.hid hI.hh
    rw [hL 8 (by decide)] at HG
    rw [hL 9 (by decide)] at HH
    simp only [if_true] at HG HH
    have HK := Lib.hid hI.kept
    clear hL hI
    obtain ⟨y, rfl⟩ := HK.out
    go_wp2_with fail
    go_loopw [26] (fun i wr => ∃ k : Nat, k ≤ n ∧ i = .int .i64 k ∧ BoxI (w.alloc (.cells #[.slice (some ⟨fb, off, none⟩) n cap, .slice B m cap2] 42)) (w.heap.size + 1) (w.heap.size + 1 + 1) P k wr) (fun i _ => n - (intOf i).toNat)
    case atStart => exact ⟨0, by omega, rfl, HK.out, HG.out, HH.out⟩
    case round =>
      obtain ⟨k, hk, rfl, ⟨z, rfl⟩, hg, hh⟩ := hrel
      have HG2 := Lib.hid hg
      have HH2 := Lib.hid hh
      obtain ⟨l0, l1, l2⟩ := cells3 hg
      obtain ⟨u0, u1, u2⟩ := cells3 hh
      clear hg hh
      have LG : Lower (w.heap.size + 1) (adv (w.heap.size + 1) z.obs.size) := ⟨by have := cell_lt l0; simpa using this⟩
      have LH : Lower (w.heap.size + 1 + 1) (adv (w.heap.size + 1) z.obs.size) := ⟨by have := cell_lt u0; simpa using this⟩
      by_cases hlt : k < n
      · obtain ⟨fb', off', e, -, f0, f1, f2⟩ := rows3 HP.out hlt
        cases e
        go_wp2_with (first | (refine wp_putRow (cs := #[.int .i64 (min (boxLo P 0 k) (P k 0)), .int .i64 (min (boxLo P 1 k) (P k 1)), .int .i64 (min (boxLo P 2 k) (P k 2))]) _ rfl 136 (.tmp 2) (.tmp 45) rfl (w.heap.size + 1) (by rfl) (by rfl) (heap_kp HG2.out (by (repeat (first | exact Kept.refl _ | assumption | refine Kept.alloc ?_ _ | refine Kept.ext ?_ _ | refine Kept.drew ?_ | refine Kept.drewN ?_ _)))) (by kernel_rfl) (by rfl) (by simp [Value.oneCell']) ?_; intro w2 h2 g2; have k2 : Kept (w.alloc (.cells #[.slice (some ⟨fb, off, none⟩) n cap, .slice B m cap2] 42)) w2 := Kept.map_store (by (repeat (first | exact Kept.refl _ | assumption | refine Kept.alloc ?_ _ | refine Kept.ext ?_ _ | refine Kept.drew ?_ | refine Kept.drewN ?_ _))) (by simp) g2; have hh2 := block_of g2 (heap_kp HH2.out (by (repeat (first | exact Kept.refl _ | assumption | refine Kept.alloc ?_ _ | refine Kept.ext ?_ _ | refine Kept.drew ?_ | refine Kept.drewN ?_ _)))) (by omega); have hp2 : w2.heap[adv (w.heap.size + 1) z.obs.size]? = some (.cells #[.int .i64 (P k 0), .int .i64 (P k 1), .int .i64 (P k 2)] 136 (0, 0)) := block_of g2 (alloc_now _ _ _) (by have := LG.lt; omega); obtain ⟨v0, v1, v2⟩ := cells3 hh2; obtain ⟨p0, p1, p2⟩ := cells3 hp2; have H2 := Lib.hid h2; have HH3 := Lib.hid hh2; have G2 := Lib.hid g2; have K2 := Lib.hid k2; clear h2 g2 k2 hh2 hp2) | (refine wp_putRow (cs := #[.int .i64 (max (boxHi P 0 k) (P k 0)), .int .i64 (max (boxHi P 1 k) (P k 1)), .int .i64 (max (boxHi P 2 k) (P k 2))]) _ rfl 136 (.tmp 3) (.tmp 61) rfl (w.heap.size + 1 + 1) (by rfl) (by rfl) HH3.out (by kernel_rfl) (by rfl) (by simp [Value.oneCell']) ?_; intro w3 h3 g3; have H3 := Lib.hid h3; have G3 := Lib.hid g3; clear h3 g3))
        go_roundw
        case rel => exact ⟨k + 1, by omega, by go_num, K2.out.map_store (by simp) G3.out, block_of G3.out H2.out (by omega), H3.out⟩
        case measure => simp [intOf]; omega
      · obtain rfl : k = n := by omega
        go_wp2_with fail
        refine wp_region_tellC (C := fun W => Kept (w.alloc (.cells #[.slice (some ⟨fb, off, none⟩) k cap, .slice B m cap2] 42)) W ∧ W.heap[w.heap.size + 1]? = some (.cells #[.int .i64 (boxLo P 0 k), .int .i64 (boxLo P 1 k), .int .i64 (boxLo P 2 k)] 136 (0, 0)) ∧ W.heap[w.heap.size + 1 + 1]? = some (.cells #[.int .i64 (boxHi P 0 k), .int .i64 (boxHi P 1 k), .int .i64 (boxHi P 2 k)] 136 (0, 0))) [.q, .q, .k undef, .k undef, .q] (TwoI (w.alloc (.cells #[.slice (some ⟨fb, off, none⟩) k cap, .slice B m cap2] 42)) (w.heap.size + 1) (w.heap.size + 1 + 1) 2 3 136 #[.int .i64 (boxLo P 0 k), .int .i64 (boxLo P 1 k), .int .i64 (boxLo P 2 k)] #[.int .i64 (boxHi P 0 k), .int .i64 (boxHi P 1 k), .int .i64 (boxHi P 2 k)] #[.int .i64 (boxLo P 0 k), .int .i64 (boxLo P 1 k), .int .i64 (boxLo P 2 k)] #[.int .i64 (boxHi P 0 k), .int .i64 (boxHi P 1 k), .int .i64 (boxHi P 2 k)]) (by kernel_rfl) (by kernel_rfl) (fun b => by kernel_rfl) ?_ ?_ ?_ ?_
        · intro b
          exact ⟨by (repeat (first | exact Kept.refl _ | assumption | refine Kept.alloc ?_ _ | refine Kept.ext ?_ _ | refine Kept.drew ?_ | refine Kept.drewN ?_ _)), heap_kp HG2.out (by (repeat (first | exact Kept.refl _ | assumption | refine Kept.alloc ?_ _ | refine Kept.ext ?_ _ | refine Kept.drew ?_ | refine Kept.drewN ?_ _))), heap_kp HH2.out (by (repeat (first | exact Kept.refl _ | assumption | refine Kept.alloc ?_ _ | refine Kept.ext ?_ _ | refine Kept.drew ?_ | refine Kept.drewN ?_ _)))⟩
        · intro i L b w' w'' hs hI hk
          exact (hI.on hk).other (by rintro rfl; cases hs) (by rintro rfl; cases hs)
        · intro L b w' h
          have e1 := h.hg
          have e2 := h.hh
          rw [ite_self] at e1 e2
          exact ⟨h.kept, e1, e2⟩
        apply Exists.intro
        refine ⟨?_, ?_, ?_, ?_⟩
        · rintro b W ⟨hk, e1, e2⟩
          obtain ⟨l0, l1, l2⟩ := cells3 e1
          obtain ⟨u0, u1, u2⟩ := cells3 e2
          haveI : Lower (w.heap.size + 1) W.heap.size := ⟨cell_lt l0⟩
          haveI : Lower (w.heap.size + 1 + 1) W.heap.size := ⟨cell_lt u0⟩
          clear e1 e2 hk
          simp only [swapL, Nat.reduceAdd]
          repeat (go_big_quiet_step (fail))
          refine wpQuiet_nil ?_
          rfl
        · simp only [EachS, and_true]
          refine ⟨?_, ?_⟩
          · intro L b w' hd hL hI
            have e3 := hI.hg
            rw [ite_self] at e3
            refine tells_put 136 (.tmp 2) (.tmp 63) (by rfl) (w.heap.size + 1) (c := #[.int .i64 (boxLo P 0 k), .int .i64 (boxLo P 1 k), .int .i64 (boxLo P 2 k)]) (by rfl) (by rfl) e3 (by kernel_rfl) (by rfl) (by simp [Value.oneCell']) ?_
            exact ⟨rfl, hI.one (by omega) (by omega) (by simp) _⟩
          · intro L b w' hd hL hI
            have e3 := hI.hh
            rw [ite_self] at e3
            refine tells_put 136 (.tmp 3) (.tmp 64) (by rfl) (w.heap.size + 1 + 1) (c := #[.int .i64 (boxHi P 0 k), .int .i64 (boxHi P 1 k), .int .i64 (boxHi P 2 k)]) (by rfl) (by rfl) e3 (by kernel_rfl) (by rfl) (by simp [Value.oneCell']) ?_
            exact ⟨rfl, hI.two (by omega) (by omega) (by simp) _⟩
        · intro b b' d hd
          simp [callSlots, dullOp] at hd
        · intro L b w' hL hI
          have e1 := hI.hg
          have e2 := hI.hh
          rw [ite_self] at e1 e2
          obtain ⟨l0, l1, l2⟩ := cells3 e1
          obtain ⟨u0, u1, u2⟩ := cells3 e2
          have HK9 := Lib.hid hI.kept
          clear hL hI e1 e2
          go_wp2_with fail
          refine bodyPost_ret (by simp only [results, Tryz.results224]; go_simp; rfl) rfl ?_
          rw [HV.out]
          exact ⟨rfl, (show Kept w (w.alloc (.cells #[.slice (some ⟨fb, off, none⟩) k cap, .slice B m cap2] 42)) by (repeat (first | exact Kept.refl _ | assumption | refine Kept.alloc ?_ _ | refine Kept.ext ?_ _ | refine Kept.drew ?_ | refine Kept.drewN ?_ _))).trans HK9.out⟩
end Go.Proofs.YtnbjealpcjfllaaGreatDoor

namespace Go.Proofs.YtnbjealpcjfllaaGreatDoor
set_option linter.unusedVariables false
set_option linter.unusedSimpArgs false
open Go.RowKit Go.Deep
theorem infoFace : (Tryz.prog.info? 138).map (fun i => (i.zero, i.size, i.bytes)) = some (some (.agg #[.int .i64 0, .int .i64 0, .int .i64 0]), 3, 24) := by kernel_rfl
theorem dn {L : Nat → Bool} {i j : Nat} (h : j ≠ i) : doneAt L i j = L j := if_neg h
theorem tn {b : Nat → Value} {i j : Nat} {v : Value} (h : j ≠ i) : tellAt b i v j = b j := if_neg h
/-- The state of the copy in a drawn order: 0 and 4 make the lists, 3 and 7 append, 9 stores. -/
structure CopI (W : World) (rb n : Nat) (P : Nat → Nat → Int) (m : Nat) (F : Nat → Nat → Int) (L : Nat → Bool) (b : Nat → Value) (w' : World) : Prop where
  kept : Kept W w'
  a3 : L 3 = true → L 0 = true
  a7 : L 7 = true → L 4 = true
  a9 : L 9 = true → L 3 = true ∧ L 7 = true ∧ L 8 = true
  s0 : L 0 = true → L 3 = false → w'.ownsRow W.heap.size 136 3 (b 0) 0 []
  s3 : L 3 = true → w'.ownsRow W.heap.size 136 3 (b 3) n (rowC 3 P n)
  s4 : L 4 = true → L 7 = false → w'.ownsRow W.heap.size 138 3 (b 4) 0 []
  s7 : L 7 = true → w'.ownsRow W.heap.size 138 3 (b 7) m (rowC 3 F m)
  a8 : L 8 = true → (L 3 = true ∧ L 7 = true) ∧ b 8 = .agg #[b 3, b 7]
  p : w'.heap[rb]? = some (.cells (if L 9 = true then #[b 3, b 7] else #[.slice none 0 0, .slice none 0 0]) 42 (0, 0))
section
variable {W : World} {rb n m : Nat} {P F : Nat → Nat → Int} {L : Nat → Bool} {b : Nat → Value} {w' w'' : World}
theorem CopI.on (h : CopI W rb n P m F L b w') (hk : Kept w' w'') : CopI W rb n P m F L b w'' :=
  ⟨h.kept.trans hk, h.a3, h.a7, h.a9, fun e e' => owns_kept (h.s0 e e') hk, fun e => owns_kept (h.s3 e) hk, fun e e' => owns_kept (h.s4 e e') hk, fun e => owns_kept (h.s7 e) hk, h.a8, fr_kept h.p hk⟩
theorem CopI.other (h : CopI W rb n P m F L b w') {i : Nat} (h0 : i ≠ 0) (h3 : i ≠ 3) (h4 : i ≠ 4) (h7 : i ≠ 7) (h8 : i ≠ 8) (h9 : i ≠ 9) : CopI W rb n P m F (doneAt L i) b w' := by
  refine ⟨h.kept, ?_, ?_, ?_, ?_, ?_, ?_, ?_, ?_, ?_⟩
  · rw [dn (Ne.symm h0), dn (Ne.symm h3)]; exact h.a3
  · rw [dn (Ne.symm h7), dn (Ne.symm h4)]; exact h.a7
  · rw [dn (Ne.symm h9), dn (Ne.symm h3), dn (Ne.symm h7), dn (Ne.symm h8)]; exact h.a9
  · rw [dn (Ne.symm h0), dn (Ne.symm h3)]; exact h.s0
  · rw [dn (Ne.symm h3)]; exact h.s3
  · rw [dn (Ne.symm h4), dn (Ne.symm h7)]; exact h.s4
  · rw [dn (Ne.symm h7)]; exact h.s7
  · rw [dn (Ne.symm h8), dn (Ne.symm h3), dn (Ne.symm h7)]; exact h.a8
  · rw [dn (Ne.symm h9)]; exact h.p
theorem CopI.no8 (h : CopI W rb n P m F L b w') (h3 : L 3 = false ∨ L 7 = false) : L 8 = false := by
  cases h8 : L 8 with
  | false => rfl
  | true =>
    have := (h.a8 h8).1
    rw [this.1, this.2] at h3
    simp at h3
theorem CopI.op4 (h : CopI W rb n P m F L b w') (d : L 4 = false) : CopI W rb n P m F (doneAt L 4) (tellAt b 4 (.slice (some ⟨w'.heap.size, 0, none⟩) 0 0)) (w'.alloc (.cells #[] 138)) := by
  have h' := h.on ((Kept.refl w').alloc (.cells #[] 138))
  exact ⟨h'.kept, h'.a3, fun _ => rfl, h'.a9, h'.s0, h'.s3, fun _ _ => own_new _ _ (kept_le h.kept), h'.s7, h'.a8, h'.p⟩
theorem CopI.op8 (h : CopI W rb n P m F L b w') (d3 : L 3 = true) (d7 : L 7 = true) (d9 : L 9 = false) : CopI W rb n P m F (doneAt L 8) (tellAt b 8 (.agg #[b 3, b 7])) w' :=
  ⟨h.kept, h.a3, h.a7, fun e => (by rw [show doneAt L 8 9 = L 9 from rfl, d9] at e; cases e), h.s0, h.s3, h.s4, h.s7, fun _ => ⟨⟨d3, d7⟩, rfl⟩, h.p⟩
theorem CopI.op9 {v : Value} (h : CopI W rb n P m F L b w') (d3 : L 3 = true) (d7 : L 7 = true) (d8 : L 8 = true) (hW : W.heap.size ≤ rb) (d9 : L 9 = false) :
    CopI W rb n P m F (doneAt L 9) (tellAt b 9 v) (w'.setRow rb #[b 3, b 7]) := by
  have hp := h.p
  have hg := grown_setRow w' rb #[b 3, b 7]
  refine ⟨row_kept2 h.kept hW, h.a3, h.a7, fun _ => ⟨d3, d7, d8⟩, fun _ e => (by rw [show doneAt L 9 3 = L 3 from rfl, d3] at e; cases e), fun e => (h.s3 d3).kept hg (.inr fun q => own_ne (h.s3 d3) hp (by decide) q.symm), fun _ e => (by rw [show doneAt L 9 7 = L 7 from rfl, d7] at e; cases e), fun e => (h.s7 d7).kept hg (.inr fun q => own_ne (h.s7 d7) hp (by decide) q.symm), h.a8, ?_⟩
  exact setRow_heap _ _ _ _ _ _ hp
end
end Go.Proofs.YtnbjealpcjfllaaGreatDoor
namespace Go.Proofs.YtnbjealpcjfllaaGreatDoor
set_option linter.unusedVariables false
set_option linter.unusedSimpArgs false
open Go.RowKit Go.Deep
/-- What a function returns that makes a mesh in new memory. -/
def MeshO (w w' : World) (r : Ending) (e : Int) (n : Nat) (P : Nat → Nat → Int) (m : Nat) (F : Nat → Nat → Int) : Prop :=
  ∃ A cap B cap2, r = .returned (.tuple #[.agg #[.slice A (okN e n) cap, .slice B (okN e m) cap2], .int .i64 e]) ∧ Kept w w' ∧ w'.ownsRow w.heap.size 136 3 (.slice A (okN e n) cap) (okN e n) (rowC 3 P (okN e n)) ∧ w'.ownsRow w.heap.size 138 3 (.slice B (okN e m) cap2) (okN e m) (rowC 3 F (okN e m))
theorem MeshO.no {w w' : World} {e : Int} {n m : Nat} {P F : Nat → Nat → Int} (he : e ≠ 0) (hk : Kept w w') : MeshO w w' (.returned (.tuple #[.agg #[.slice none 0 0, .slice none 0 0], .int .i64 e])) e n P m F := by
  unfold MeshO
  rw [show okN e n = 0 from if_neg he, show okN e m = 0 from if_neg he]
  exact ⟨none, 0, none, 0, rfl, hk, World.ownsRow_nil _ _ _ _, World.ownsRow_nil _ _ _ _⟩
/-- A mesh that is being made. -/
structure Msh2 (W : World) (rb mb : Nat) (vP : Value) (n : Nat) (P : Nat → Nat → Int) (vF : Value) (m : Nat) (F : Nat → Nat → Int) (wr : World) : Prop where
  kept : Kept W wr
  r : wr.heap[rb]? = some (.cells #[.slice none 0 0, .slice none 0 0] 42 (0, 0))
  q : wr.heap[mb]? = some (.cells #[vP, vF] 42 (0, 0))
  p : wr.ownsRow W.heap.size 136 3 vP n (rowC 3 P n)
  f : wr.ownsRow W.heap.size 138 3 vF m (rowC 3 F m)
section
variable {W wr wr' : World} {rb mb n m k g cap : Nat} {vP vF : Value} {P F P' F' : Nat → Nat → Int}
theorem Msh2.on (h : Msh2 W rb mb vP n P vF m F wr) (hk : Kept wr wr') : Msh2 W rb mb vP n P vF m F wr' :=
  ⟨h.kept.trans hk, fr_kept h.r hk, fr_kept h.q hk, owns_kept h.p hk, owns_kept h.f hk⟩
theorem Msh2.congr (h : Msh2 W rb mb vP n P vF m F wr) (hP : ∀ i, i < n → ∀ j, j < 3 → P i j = P' i j) (hF : ∀ i, i < m → ∀ j, j < 3 → F i j = F' i j) : Msh2 W rb mb vP n P' vF m F' wr := by
  refine ⟨h.kept, h.r, h.q, ?_, ?_⟩
  · rw [← rowC_congr hP]; exact h.p
  · rw [← rowC_congr hF]; exact h.f
/-- Faces stored into. -/
theorem Msh2.byF (h : Msh2 W rb mb vP n P (.slice (some ⟨g, 0, none⟩) m cap) m F wr) (hg : wr.grownBy wr' (some g)) (hp : wr'.ownsRow W.heap.size 138 3 (.slice (some ⟨g, 0, none⟩) m cap) m (rowC 3 F' m)) : Msh2 W rb mb vP n P (.slice (some ⟨g, 0, none⟩) m cap) m F' wr' := by
  have hb := (h.f.lt g rfl).1
  exact ⟨h.kept.map_store hb hg, own_keepsB h.f hg h.r (by decide), own_keepsB h.f hg h.q (by decide), h.p.kept hg (own_ne2 h.f h.p (by decide)), hp⟩
theorem Msh2.putF (h : Msh2 W rb mb vP n P (.slice (some ⟨g, 0, none⟩) m cap) m F wr) (hk : k < m) (z0 z1 z2 : Int) : Msh2 W rb mb vP n P (.slice (some ⟨g, 0, none⟩) m cap) m (putF F k z0 z1 z2) (wr.setCells g (k * 3) [.int .i64 z0, .int .i64 z1, .int .i64 z2]) :=
  h.byF (own_put h.f hk z0 z1 z2).2 (own_put h.f hk z0 z1 z2).1
end
end Go.Proofs.YtnbjealpcjfllaaGreatDoor
namespace Go.Proofs.YtnbjealpcjfllaaGreatDoor
set_option linter.unusedVariables false
set_option linter.unusedSimpArgs false
open Go.RowKit Go.Deep
/-- i1 loads the list, i5 makes the list of one point, i6 appends it, i8 stores the list; block pb is read meanwhile. -/
structure AppI (i1 i5 i6 i8 : Nat) (W : World) (rb mb pb : Nat) (pc : Array Value) (v : Value) (k : Nat) (P : Nat → Nat → Int) (vF : Value) (m : Nat) (F : Nat → Nat → Int) (L : Nat → Bool) (b : Nat → Value) (w' : World) : Prop where
  kept : Kept W w'
  pk : w'.heap[pb]? = some (.cells pc 136 (0, 0))
  pne : some pb ≠ v.ownBlock
  a8 : L i8 = true → L i6 = true ∧ L i1 = true
  n5 : L i5 = true → ∃ g, b i5 = .slice (some ⟨g, 0, none⟩) 1 1 ∧ (L i6 = false → w'.heap[g]? = some (.cells #[.int .i64 (P k 0), .int .i64 (P k 1), .int .i64 (P k 2)] 136 (0, 0)))
  s : L i6 = false → w'.ownsRow W.heap.size 136 3 v k (rowC 3 P k)
  t : L i6 = true → w'.ownsRow W.heap.size 136 3 (b i6) (k + 1) (rowC 3 P (k + 1))
  r : w'.heap[rb]? = some (.cells #[.slice none 0 0, .slice none 0 0] 42 (0, 0))
  q : w'.heap[mb]? = some (.cells #[if L i8 = true then b i6 else v, vF] 42 (0, 0))
  f : w'.ownsRow W.heap.size 138 3 vF m (rowC 3 F m)
section
variable {i1 i5 i6 i8 : Nat} {W : World} {rb mb pb k m : Nat} {pc : Array Value} {v vF : Value} {P F : Nat → Nat → Int} {L : Nat → Bool} {b : Nat → Value} {w' w'' : World}
theorem AppI.start {wr : World} (h : Msh2 W rb mb v k P vF m F wr) (hk : Kept wr w') (hp : w'.heap[pb]? = some (.cells pc 136 (0, 0))) (hne : wr.heap.size ≤ pb) : AppI i1 i5 i6 i8 W rb mb pb pc v k P vF m F (fun _ => false) b w' := by
  have h' := h.on hk
  refine ⟨h'.kept, hp, fun e => ?_, fun e => (by cases e), fun e => (by cases e), fun _ => h'.p, fun e => (by cases e), h'.r, h'.q, h'.f⟩
  have := (h.p.lt pb e.symm).2
  omega
theorem AppI.on (h : AppI i1 i5 i6 i8 W rb mb pb pc v k P vF m F L b w') (hk : Kept w' w'') : AppI i1 i5 i6 i8 W rb mb pb pc v k P vF m F L b w'' :=
  ⟨h.kept.trans hk, fr_kept h.pk hk, h.pne, h.a8, fun e => by
    obtain ⟨g, e1, e2⟩ := h.n5 e
    exact ⟨g, e1, fun e3 => fr_kept (e2 e3) hk⟩, fun e => owns_kept (h.s e) hk, fun e => owns_kept (h.t e) hk, fr_kept h.r hk, fr_kept h.q hk, owns_kept h.f hk⟩
theorem AppI.other (h : AppI i1 i5 i6 i8 W rb mb pb pc v k P vF m F L b w') {i : Nat} (h1 : i ≠ i1) (h5 : i ≠ i5) (h6 : i ≠ i6) (h8 : i ≠ i8) : AppI i1 i5 i6 i8 W rb mb pb pc v k P vF m F (doneAt L i) b w' := by
  have d1 : doneAt L i i1 = L i1 := if_neg (Ne.symm h1)
  have d5 : doneAt L i i5 = L i5 := if_neg (Ne.symm h5)
  have d6 : doneAt L i i6 = L i6 := if_neg (Ne.symm h6)
  have d8 : doneAt L i i8 = L i8 := if_neg (Ne.symm h8)
  refine ⟨h.kept, h.pk, h.pne, ?_, ?_, ?_, ?_, h.r, ?_, h.f⟩
  · rw [d8, d6, d1]; exact h.a8
  · rw [d5, d6]; exact h.n5
  · rw [d6]; exact h.s
  · rw [d6]; exact h.t
  · rw [d8]; exact h.q
theorem AppI.no8 (h : AppI i1 i5 i6 i8 W rb mb pb pc v k P vF m F L b w') (h3 : L i6 = false ∨ L i1 = false) : L i8 = false := by
  cases h8 : L i8 with
  | false => rfl
  | true =>
    have := h.a8 h8
    rw [this.1, this.2] at h3
    simp at h3
theorem AppI.op1 {u : Value} (h : AppI i1 i5 i6 i8 W rb mb pb pc v k P vF m F L b w') (hi : i1 < i5 ∧ i5 < i6 ∧ i6 < i8) (d : L i1 = false) : AppI i1 i5 i6 i8 W rb mb pb pc v k P vF m F (doneAt L i1) (tellAt b i1 u) w' := by
  have d5 : doneAt L i1 i5 = L i5 := if_neg (by omega)
  have d6 : doneAt L i1 i6 = L i6 := if_neg (by omega)
  have d8 : doneAt L i1 i8 = L i8 := if_neg (by omega)
  have t5 : tellAt b i1 u i5 = b i5 := if_neg (by omega)
  have t6 : tellAt b i1 u i6 = b i6 := if_neg (by omega)
  refine ⟨h.kept, h.pk, h.pne, ?_, ?_, ?_, ?_, h.r, ?_, h.f⟩
  · rw [d8, d6]; intro e; exact ⟨(h.a8 e).1, if_pos rfl⟩
  · rw [d5, d6, t5]; exact h.n5
  · rw [d6]; exact h.s
  · rw [d6, t6]; exact h.t
  · rw [d8, t6]; exact h.q
theorem AppI.op5 (h : AppI i1 i5 i6 i8 W rb mb pb pc v k P vF m F L b w') (hi : i1 < i5 ∧ i5 < i6 ∧ i6 < i8) :
    AppI i1 i5 i6 i8 W rb mb pb pc v k P vF m F (doneAt L i5) (tellAt b i5 (.slice (some ⟨w'.heap.size, 0, none⟩) 1 1)) (w'.alloc (.cells #[.int .i64 (P k 0), .int .i64 (P k 1), .int .i64 (P k 2)] 136)) := by
  have h' := h.on ((Kept.refl w').alloc (.cells #[.int .i64 (P k 0), .int .i64 (P k 1), .int .i64 (P k 2)] 136))
  have d1 : doneAt L i5 i1 = L i1 := if_neg (by omega)
  have d6 : doneAt L i5 i6 = L i6 := if_neg (by omega)
  have d8 : doneAt L i5 i8 = L i8 := if_neg (by omega)
  have t6 : tellAt b i5 (.slice (some ⟨w'.heap.size, 0, none⟩) 1 1) i6 = b i6 := if_neg (by omega)
  refine ⟨h'.kept, h'.pk, h'.pne, ?_, ?_, ?_, ?_, h'.r, ?_, h'.f⟩
  · rw [d8, d6, d1]; exact h'.a8
  · intro _; exact ⟨_, if_pos rfl, fun _ => heap_alloc_new w' _⟩
  · rw [d6]; exact h'.s
  · rw [d6, t6]; exact h'.t
  · rw [d8, t6]; exact h'.q
theorem AppI.op6 {v' : Value} (h : AppI i1 i5 i6 i8 W rb mb pb pc v k P vF m F L b w') (hi : i1 < i5 ∧ i5 < i6 ∧ i6 < i8) (d : L i6 = false) (hown : w''.ownsRow W.heap.size 136 3 v' (k + 1) (rowC 3 P (k + 1))) (hg : w'.grownBy w'' v.ownBlock) :
    AppI i1 i5 i6 i8 W rb mb pb pc v k P vF m F (doneAt L i6) (tellAt b i6 v') w'' := by
  have e8 := h.no8 (.inl d)
  have hp := h.s d
  have hq := h.q
  rw [e8] at hq
  have d1 : doneAt L i6 i1 = L i1 := if_neg (by omega)
  have d5 : doneAt L i6 i5 = L i5 := if_neg (by omega)
  have d6 : doneAt L i6 i6 = true := if_pos rfl
  have d8 : doneAt L i6 i8 = L i8 := if_neg (by omega)
  have t5 : tellAt b i6 v' i5 = b i5 := if_neg (by omega)
  have t6 : tellAt b i6 v' i6 = v' := if_pos rfl
  refine ⟨kept_grown h.kept hp (Nat.le_refl _) hg, ?_, h.pne, ?_, ?_, ?_, ?_, own_keepsB hp hg h.r (by decide), ?_, h.f.kept hg (own_ne2 hp h.f (by decide))⟩
  · rw [hg.block pb (Array.getElem?_eq_some_iff.1 h.pk).1 h.pne]; exact h.pk
  · rw [d8, e8]; intro e; cases e
  · rw [d5, t5]
    intro e
    obtain ⟨g, e1, -⟩ := h.n5 e
    exact ⟨g, e1, fun e3 => by rw [d6] at e3; cases e3⟩
  · rw [d6]; intro e; cases e
  · rw [t6]; exact fun _ => hown
  · rw [d8, e8]; exact own_keepsB hp hg hq (by decide)
theorem AppI.op8 {u : Value} (h : AppI i1 i5 i6 i8 W rb mb pb pc v k P vF m F L b w') (hi : i1 < i5 ∧ i5 < i6 ∧ i6 < i8) (d1 : L i1 = true) (d6 : L i6 = true) (d8 : L i8 = false) (hne : rb ≠ mb) (hle : W.heap.size ≤ mb) :
    AppI i1 i5 i6 i8 W rb mb pb pc v k P vF m F (doneAt L i8) (tellAt b i8 u) (w'.setCell ⟨mb, 0, none⟩ (b i6)) := by
  have hq := h.q
  rw [d8] at hq
  have hs : w'.grownBy (w'.setCell ⟨mb, 0, none⟩ (b i6)) (some mb) := ⟨rfl, rfl, rfl, by simp, fun i _ hi => heap_setCell_other w' ⟨mb, 0, none⟩ i _ (fun e => hi (by simp [e]))⟩
  have e1 : doneAt L i8 i1 = L i1 := if_neg (by omega)
  have e5 : doneAt L i8 i5 = L i5 := if_neg (by omega)
  have e6 : doneAt L i8 i6 = L i6 := if_neg (by omega)
  have e8 : doneAt L i8 i8 = true := if_pos rfl
  have t5 : tellAt b i8 u i5 = b i5 := if_neg (by omega)
  have t6 : tellAt b i8 u i6 = b i6 := if_neg (by omega)
  refine ⟨h.kept.setCell hle _, ?_, h.pne, ?_, ?_, ?_, ?_, ?_, ?_, h.f.kept hs (.inr fun q => own_ne h.f hq (by decide) q.symm)⟩
  · rw [hs.block pb (Array.getElem?_eq_some_iff.1 h.pk).1 ?_]
    · exact h.pk
    · intro e
      have e' : pb = mb := Option.some.inj e
      have hp := h.pk
      rw [e', hq] at hp
      simp only [Option.some.injEq, Obj.cells.injEq] at hp
      exact absurd hp.2.1 (by decide)
  · rw [e8, e6, e1]; exact fun _ => ⟨d6, d1⟩
  · rw [e5, e6, t5]
    intro e
    obtain ⟨g, q1, -⟩ := h.n5 e
    exact ⟨g, q1, fun e3 => by rw [d6] at e3; cases e3⟩
  · rw [e6, d6]; intro e; cases e
  · rw [t6]; exact fun _ => (h.t d6).kept hs (.inr fun q => own_ne (h.t d6) hq (by decide) q.symm)
  · rw [heap_setCell_other _ _ _ _ hne]; exact h.r
  · rw [e8, t6]
    rw [heap_setCell_same _ _ _ _ _ _ hq]
    rfl
theorem AppI.done (h : AppI i1 i5 i6 i8 W rb mb pb pc v k P vF m F L b w') (d6 : L i6 = true) (d8 : L i8 = true) : Msh2 W rb mb (b i6) (k + 1) P vF m F w' := by
  have hq := h.q
  rw [d8] at hq
  exact ⟨h.kept, h.r, hq, h.t d6, h.f⟩
theorem AppI.v0 (h : AppI i1 i5 i6 i8 W rb mb pb pc v k P vF m F L b w') (d1 : L i1 = false) : w'.cell? ⟨mb, 0, none⟩ = some v := by
  have hq := h.q
  rw [h.no8 (.inr d1)] at hq
  exact (cells2 hq).1
end
end Go.Proofs.YtnbjealpcjfllaaGreatDoor

namespace Go.Proofs.YtnbjealpcjfllaaGreatDoor
set_option linter.unusedVariables false
set_option linter.unusedSimpArgs false
open Go.RowKit
/-- What shape.result returns: the lists that it was given, or none. -/
def MeshX (A0 B0 : Option Addr) (w w' : World) (r : Ending) (e : Int) (n : Nat) (P : Nat → Nat → Int) (m : Nat) (F : Nat → Nat → Int) : Prop :=
  ∃ A cap B cap2, r = .returned (.tuple #[.agg #[.slice A (okN e n) cap, .slice B (okN e m) cap2], .int .i64 e]) ∧ Kept w w' ∧ RowsAt w' A (okN e n) 3 P ∧ RowsAt w' B (okN e m) 3 F ∧ (A = A0 ∨ A = none) ∧ (B = B0 ∨ B = none)
/-- What a function that makes a mesh in new memory returns. -/
def MeshF (w w' : World) (r : Ending) (e : Int) (n : Nat) (P : Nat → Nat → Int) (m : Nat) (F : Nat → Nat → Int) : Prop :=
  ∃ A cap B cap2, r = .returned (.tuple #[.agg #[.slice A (okN e n) cap, .slice B (okN e m) cap2], .int .i64 e]) ∧ Kept w w' ∧ RowsAt w' A (okN e n) 3 P ∧ RowsAt w' B (okN e m) 3 F ∧ (∀ a, A = some a → w.heap.size ≤ a.block) ∧ ∀ a, B = some a → w.heap.size ≤ a.block
theorem MeshO.fresh {w w' : World} {r : Ending} {e : Int} {n m : Nat} {P F : Nat → Nat → Int} (h : MeshO w w' r e n P m F) (hP : ∀ k, k < n → ∀ j, j < 3 → I64 (P k j)) (hF : ∀ k, k < m → ∀ j, j < 3 → I64 (F k j)) : MeshF w w' r e n P m F := by
  obtain ⟨A, cap, B, cap2, h1, h2, h3, h4⟩ := h
  refine ⟨A, cap, B, cap2, h1, h2, rows_of_owns h3 fun k hk => hP k (Nat.lt_of_lt_of_le hk (okN_le e n)), rows_of_owns h4 fun k hk => hF k (Nat.lt_of_lt_of_le hk (okN_le e m)), fun a ha => ?_, fun a ha => ?_⟩
  · subst ha
    exact (h3.lt a.block rfl).1
  · subst ha
    exact (h4.lt a.block rfl).1
set_option maxRecDepth 100000 in
theorem sresF_any (A B : Option Addr) (n cap m cap2 : Nat) (P F : Nat → Nat → Int) (w : World) (hn : n ≤ 9223372036854775807 ∧ m ≤ 9223372036854775807) (hP : RowsAt w A n 3 P) (hF : RowsAt w B m 3 F) :
    Calls Tryz.prog 205 #[.agg #[.slice A n cap, .slice B m cap2]] w fun r w' => MeshX A B w w' r (validE n P m F) n P m F := by
  have HP := Lib.hid hP
  have HF := Lib.hid hF
  clear hP hF
  unfold MeshX
  by_cases hv : validE n P m F = 0
  · have HV := Lib.hid hv
    clear hv
    go_enter Tryz.func205, Tryz.ntmps205
    go_wp2_with (go_at_call 71; refine (svalidate_any _ _ _ _ _ _ P F _ hn (HP.out.of (by (repeat (first | exact Kept.refl _ | assumption | refine Kept.alloc ?_ _ | refine Kept.ext ?_ _ | refine Kept.drew ?_ | refine Kept.drewN ?_ _)))) (HF.out.of (by (repeat (first | exact Kept.refl _ | assumption | refine Kept.alloc ?_ _ | refine Kept.ext ?_ _ | refine Kept.drew ?_ | refine Kept.drewN ?_ _))))).mono ?_; rintro e w1 ⟨rfl, x, rfl⟩; rw [HV.out])
    refine bodyPost_ret (by simp only [results, Tryz.results205]; go_simp; rfl) rfl ?_
    rw [HV.out]
    exact ⟨A, cap, B, cap2, rfl, by (repeat (first | exact Kept.refl _ | assumption | refine Kept.alloc ?_ _ | refine Kept.ext ?_ _ | refine Kept.drew ?_ | refine Kept.drewN ?_ _)), HP.out.of (by (repeat (first | exact Kept.refl _ | assumption | refine Kept.alloc ?_ _ | refine Kept.ext ?_ _ | refine Kept.drew ?_ | refine Kept.drewN ?_ _))), HF.out.of (by (repeat (first | exact Kept.refl _ | assumption | refine Kept.alloc ?_ _ | refine Kept.ext ?_ _ | refine Kept.drew ?_ | refine Kept.drewN ?_ _))), .inl rfl, .inl rfl⟩
  · obtain ⟨e, he⟩ : ∃ e, validE n P m F = e := ⟨_, rfl⟩
    rw [he] at hv
    have HV := Lib.hid he
    clear he
    have hv2 : (e == 0) = false := by simpa using hv
    have hv3 : decide (e = 0) = false := by simpa using hv
    go_enter Tryz.func205, Tryz.ntmps205
    go_wp2_with (go_at_call 71; refine (svalidate_any _ _ _ _ _ _ P F _ hn (HP.out.of (by (repeat (first | exact Kept.refl _ | assumption | refine Kept.alloc ?_ _ | refine Kept.ext ?_ _ | refine Kept.drew ?_ | refine Kept.drewN ?_ _)))) (HF.out.of (by (repeat (first | exact Kept.refl _ | assumption | refine Kept.alloc ?_ _ | refine Kept.ext ?_ _ | refine Kept.drew ?_ | refine Kept.drewN ?_ _))))).mono ?_; rintro e w1 ⟨rfl, x, rfl⟩; rw [HV.out])
    refine bodyPost_ret (by simp only [results, Tryz.results205]; go_simp; rfl) rfl ?_
    rw [HV.out]
    have ek : ∀ n, okN e n = 0 := fun n => if_neg hv
    rw [ek, ek]
    exact ⟨none, 0, none, 0, rfl, by (repeat (first | exact Kept.refl _ | assumption | refine Kept.alloc ?_ _ | refine Kept.ext ?_ _ | refine Kept.drew ?_ | refine Kept.drewN ?_ _)), RowsAt.nil0, RowsAt.nil0, .inr rfl, .inr rfl⟩
set_option maxRecDepth 100000 in
set_option maxHeartbeats 16000000 in
theorem soctaF_any (r : Int) (w : World) :
    Calls Tryz.prog 163 #[.int .i64 r] w fun q w' => MeshF w w' q (octaE r) 6 (octaP r) 8 octaF := by
  unfold MeshF
  cases h0 : frB r 1 64
  · have e : octaE r = 1 := if_neg (by rw [h0]; simp)
    rw [e]
    clear e
    go_enter Tryz.func163, Tryz.ntmps163
    go_wp2_with (first | (go_at_call 204; refine (ssize_any _ _).mono ?_; rintro e w1 ⟨rfl, rfl⟩))
    refine bodyPost_ret (by simp only [results, Tryz.results163]; go_simp; rfl) rfl ?_
    exact ⟨none, 0, none, 0, rfl, by (repeat (first | exact Kept.refl _ | assumption | refine Kept.alloc ?_ _ | refine Kept.ext ?_ _ | refine Kept.drew ?_ | refine Kept.drewN ?_ _)), RowsAt.nil0, RowsAt.nil0, fun _ q => (by cases q), fun _ q => (by cases q)⟩
  have HE := Lib.hid (show octaE r = validE 6 (octaP r) 8 octaF from if_pos h0)
  have br := frB_true h0
  go_enter Tryz.func163, Tryz.ntmps163
  go_wp2_with (first | (go_at_call 204; refine (ssize_any _ _).mono ?_; rintro e w1 ⟨rfl, rfl⟩))
  refine (sresF_any _ _ _ _ _ _ (octaP r) octaF _ (by omega) ?_ ?_).mono ?_
  · have := octaPs (w.alloc (.cells #[.slice none 0 0, .slice none 0 0] 42)) r br
    rw [World.size_alloc] at this
    exact this.of (by (repeat (first | exact Kept.refl _ | assumption | refine Kept.alloc ?_ _ | refine Kept.ext ?_ _ | refine Kept.drew ?_ | refine Kept.drewN ?_ _)))
  · have := octaFs ((w.alloc (.cells #[.slice none 0 0, .slice none 0 0] 42)).alloc (.cells #[.int .i64 r, .int .i64 0, .int .i64 0, .int .i64 (-r), .int .i64 0, .int .i64 0, .int .i64 0, .int .i64 r, .int .i64 0, .int .i64 0, .int .i64 (-r), .int .i64 0, .int .i64 0, .int .i64 0, .int .i64 r, .int .i64 0, .int .i64 0, .int .i64 (-r)] 136))
    simp only [World.size_alloc] at this
    exact this
  rintro q w1 ⟨A', cap', B', cap2', rfl, ⟨x9, rfl⟩, hP', hF', nA, nB⟩
  have hr9 : (ext (((w.alloc (.cells #[.slice none 0 0, .slice none 0 0] 42)).alloc (.cells #[.int .i64 r, .int .i64 0, .int .i64 0, .int .i64 (-r), .int .i64 0, .int .i64 0, .int .i64 0, .int .i64 r, .int .i64 0, .int .i64 0, .int .i64 (-r), .int .i64 0, .int .i64 0, .int .i64 0, .int .i64 r, .int .i64 0, .int .i64 0, .int .i64 (-r)] 136)).alloc (.cells #[.int .i64 0, .int .i64 2, .int .i64 4, .int .i64 2, .int .i64 1, .int .i64 4, .int .i64 1, .int .i64 3, .int .i64 4, .int .i64 3, .int .i64 0, .int .i64 4, .int .i64 2, .int .i64 0, .int .i64 5, .int .i64 1, .int .i64 2, .int .i64 5, .int .i64 3, .int .i64 1, .int .i64 5, .int .i64 0, .int .i64 3, .int .i64 5] 138)) x9).heap[w.heap.size]? = some (.cells #[.slice none 0 0, .slice none 0 0] 42 (0, 0)) := fr_kept (heap_alloc_new w _) (by (repeat (first | exact Kept.refl _ | assumption | refine Kept.alloc ?_ _ | refine Kept.ext ?_ _ | refine Kept.drew ?_ | refine Kept.drewN ?_ _)))
  have HR9 := Lib.hid hr9
  have HP9 := Lib.hid hP'
  have HF9 := Lib.hid hF'
  have NA := Lib.hid nA
  have NB := Lib.hid nB
  clear hr9 hP' hF' nA nB
  obtain ⟨ee, he⟩ : ∃ ee, validE 6 (octaP r) 8 octaF = ee := ⟨_, rfl⟩
  rw [he] at HP9 HF9 ⊢
  have HEE := Lib.hid he
  clear he
  obtain ⟨q1, q2, -, -⟩ := cells2 (setRow_heap _ _ _ #[.slice A' (okN ee 6) cap', .slice B' (okN ee 8) cap2'] _ _ HR9.out)
  go_wp2_with (refine wpList_store_row rfl 42 (.tmp 2) (.tmp 35) rfl w.heap.size _ rfl rfl _ _ HR9.out (by kernel_rfl) rfl (by simp [Value.oneCell']) ?_)
  refine bodyPost_ret (by simp only [results, Tryz.results163]; go_simp; rfl) rfl ?_
  rw [HE.out, HEE.out]
  exact ⟨A', cap', B', cap2', rfl, Kept.map_store (by (repeat (first | exact Kept.refl _ | assumption | refine Kept.alloc ?_ _ | refine Kept.ext ?_ _ | refine Kept.drew ?_ | refine Kept.drewN ?_ _))) (Nat.le_refl _) (grown_setRow _ _ _), HP9.out.far (grown_setRow _ _ _) HR9.out nosB (by omega), HF9.out.far (grown_setRow _ _ _) HR9.out nosB (by omega), fun a q => NA.out.elim (fun z => by rw [z] at q; cases q; simp) (fun z => by rw [z] at q; cases q), fun a q => NB.out.elim (fun z => by rw [z] at q; cases q; simp; omega) (fun z => by rw [z] at q; cases q)⟩
end Go.Proofs.YtnbjealpcjfllaaGreatDoor

