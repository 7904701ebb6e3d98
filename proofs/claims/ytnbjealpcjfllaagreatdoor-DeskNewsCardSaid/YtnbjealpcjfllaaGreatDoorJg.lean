/- Contract: reading an order, of the program. Conditions: the text is short. -/
import Derived.Test.YtnbjealpcjfllaaGreatDoorJf
import Derived.Test.YtnbjealpcjfllaaGreatDoorGbl
import Derived.Test.YtnbjealpcjfllaaGreatDoorKb
import Derived.Test.YtnbjealpcjfllaaGreatDoorJh
import Derived.Test.YtnbjealpcjfllaaGreatDoorCop
namespace Go.Proofs.YtnbjealpcjfllaaGreatDoor
set_option linter.unusedVariables false
set_option linter.unusedSimpArgs false
open Go.ChangeShapes Go.WideShapes Go.ChangeAt Go.RowKit Go.Deep
theorem sWords (l : List UInt8) (w : World) (hl : l.length ≤ 1000000) (h : Ld w) :
    Calls Tryz.prog 107 #[.string ⟨l.toArray⟩, .string ⟨#[32]⟩] w fun e w' => e = .returned (.slice (some ⟨w.heap.size, 0, none⟩) (wds 32 l).length (wds 32 l).length) ∧ Kept w w' ∧ TxAt w' (some ⟨w.heap.size, 0, none⟩) (wds 32 l) ∧ w'.heap.size = w.heap.size + 1 := by
  refine (sSplit ⟨l.toArray⟩ ⟨#[32]⟩ w (by rw [ba_size]; omega) (by decide) h).mono ?_
  rintro e w' ⟨rfl, rfl⟩
  rw [splitB_wds]
  have e1 : Lib.countB ⟨l.toArray⟩ ⟨#[32]⟩ + 1 = (wds 32 l).length := by rw [countB_one, wds_length]
  rw [e1]
  refine ⟨rfl, (Kept.refl _).alloc _, fun _ => ⟨w.heap.size, 0, rfl, by rw [World.size_alloc]; omega, fun k hk => ?_⟩, World.size_alloc _ _⟩
  unfold World.cell?
  have h := heap_alloc_new w (.cells ((wds 32 l).map strV).toArray 9)
  show (match (w.alloc (.cells ((wds 32 l).map strV).toArray 9)).heap[w.heap.size]? with | some (Obj.cells c elem frozen) => c[0 + k]? | x => none) = _
  rw [h]
  simp [hk]
theorem cellOf {w : World} {b j : Nat} {cs : Array Value} {T : TypeId} {v : Value} (h : w.heap[b]? = some (.cells cs T (0, 0))) (hj : cs[j]? = some v) : w.cell? ⟨b, j, none⟩ = some v := by
  unfold World.cell?
  simp only [h]
  exact hj
theorem zeroForm (w : World) : (zeroValue 120).run Tryz.prog w = .ok (fmV (0, 0, 0, false)) w := by kernel_rfl
def okF (o : Option Fm) : Prop := (o.getD (0, 0, 0, false)).1 ≤ 12 ∧ (o.getD (0, 0, 0, false)).2.1 ≤ 2 ∧ (o.getD (0, 0, 0, false)).2.2.1 ≤ 3
instance (o : Option Fm) : Decidable (okF o) := by unfold okF; infer_instance
theorem ite_bd {c : Prop} [Decidable c] {x e : Option Fm} (h1 : okF x) (h2 : okF e) : okF (if c then x else e) := by split <;> assumption
theorem formB_bd (w : List UInt8) : okF (formB w) := by
  unfold formB
  repeat (refine ite_bd (by decide) ?_)
  decide
theorem wds_len {c : UInt8} : ∀ (l : List UInt8), (∀ p ∈ wds c l, p.length ≤ l.length) ∧ (wds c l).length ≤ l.length + 1
  | [] => by simp [wds]
  | b :: r => by
    obtain ⟨h1, h2⟩ := wds_len (c := c) r
    unfold wds
    split
    · refine ⟨fun p hp => ?_, by simp; omega⟩
      rcases List.mem_cons.1 hp with rfl | q
      · simp
      · have := h1 p q
        simp
        omega
    · split
      · refine ⟨fun p hp => ?_, by simp⟩
        rcases List.mem_cons.1 hp with rfl | q
        · simp
        · cases q
      · rename_i h t e
        rw [e] at h1 h2
        refine ⟨fun p hp => ?_, by simp at h2 ⊢; omega⟩
        rcases List.mem_cons.1 hp with rfl | q
        · have := h1 h List.mem_cons_self
          simpa using this
        · have := h1 p (List.mem_cons_of_mem _ q)
          simp
          omega
/-- The six cells of an order. -/
def ordC (a b c : Int) (m : Bool) (x y : Value) : Array Value := #[.int .i64 a, .int .i64 b, .int .i64 c, .bool m, x, y]
def zerO : Array Value := #[.int .i64 0, .int .i64 0, .int .i64 0, .bool false, .slice none 0 0, .slice none 0 0]
/-- What reading an order returns. -/
def ParO (w w' : World) (e : Ending) (l : List UInt8) : Prop :=
  Kept w w' ∧ match parseB l with
  | none => e = .returned (.tuple #[.agg #[.int .i64 0, .int .i64 0, .int .i64 0, .bool false, .slice none 0 0, .slice none 0 0], .bool false])
  | some o => ∃ (a b : Int) (mo : Bool) (A B : Option Addr) (capA capB : Nat), e = .returned (.tuple #[.agg #[.int .i64 o.kind, .int .i64 a, .int .i64 b, .bool mo, .slice A o.names.length capA, .slice B o.nums.length capB], .bool true]) ∧ TxAt w' A o.names ∧ RowsAt w' B o.nums.length 1 (fun k _ => o.nums.getD k 0)
theorem ParO.no {w w' : World} {l : List UInt8} (h : parseB l = none) (hk : Kept w w') : ParO w w' (.returned (.tuple #[.agg #[.int .i64 0, .int .i64 0, .int .i64 0, .bool false, .slice none 0 0, .slice none 0 0], .bool false])) l := by
  refine ⟨hk, ?_⟩
  rw [h]
theorem setRow_same {w : World} {b : Nat} {T : TypeId} {cs : Array Value} (h : w.heap[b]? = some (.cells cs T (0, 0))) : w.setRow b cs = w := by
  unfold World.setRow
  cases w with
  | mk hp tp dr os out =>
    simp only at h ⊢
    congr 1
    apply Array.ext_getElem?
    intro q
    rw [Array.getElem?_modify]
    by_cases hq : b = q
    · subst hq
      rw [if_pos rfl, h]
      rfl
    · rw [if_neg hq]
theorem zer_cells {w : World} {b : Nat} {T : TypeId} (h : w.heap[b]? = some (.cells zerO T (0, 0))) : w.cell? ⟨b, 0, none⟩ = some (.int .i64 0) ∧ w.cell? ⟨b, 1, none⟩ = some (.int .i64 0) ∧ w.cell? ⟨b, 2, none⟩ = some (.int .i64 0) ∧ w.cell? ⟨b, 3, none⟩ = some (.bool false) ∧ w.cell? ⟨b, 4, none⟩ = some (.slice none 0 0) ∧ w.cell? ⟨b, 5, none⟩ = some (.slice none 0 0) :=
  ⟨cellOf h rfl, cellOf h rfl, cellOf h rfl, cellOf h rfl, cellOf h rfl, cellOf h rfl⟩
theorem ord_four {w : World} {b : Nat} {T : TypeId} {x0 x1 x2 : Int} {x3 : Bool} {x4 x5 : Value} (h : w.heap[b]? = some (.cells (ordC x0 x1 x2 x3 x4 x5) T (0, 0))) (v : Value) : (w.setCell ⟨b, 4, none⟩ v).heap[b]? = some (.cells (ordC x0 x1 x2 x3 v x5) T (0, 0)) := by
  simp [World.setCell, Array.getElem?_modify, h, ordC]
theorem ord_five {w : World} {b : Nat} {T : TypeId} {x0 x1 x2 : Int} {x3 : Bool} {x4 x5 : Value} (h : w.heap[b]? = some (.cells (ordC x0 x1 x2 x3 x4 x5) T (0, 0))) (v : Value) : (w.setCell ⟨b, 5, none⟩ v).heap[b]? = some (.cells (ordC x0 x1 x2 x3 x4 v) T (0, 0)) := by
  simp [World.setCell, Array.getElem?_modify, h, ordC]
theorem kb_cell9 (w : World) (b j : Nat) (u : Value) : KB (fun k => k = b) w (w.setCell ⟨b, j, none⟩ u) := (KB.refl (fun k => k = b) w).setCell (p := ⟨b, j, none⟩) (fun _ => rfl) u
theorem owns_ty9 {w : World} {base size n : Nat} {e : TypeId} {v : Value} {xs : List Value} (h : w.ownsRow base e size v n xs) {k : Nat} (hk : v.ownBlock = some k) : ∃ cs, w.heap[k]? = some (.cells cs e (0, 0)) := by
  rcases h.2 with ⟨rfl, -⟩ | ⟨g, cap, cur, rfl, hg, hh, r⟩
  · cases hk
  · simp only [Value.ownBlock, Option.some.injEq] at hk
    subst hk
    exact ⟨_, hh⟩
theorem frz9 {w : World} {b o : Nat} {cs : Array Value} {T : TypeId} (h : w.heap[b]? = some (.cells cs T (0, 0))) : w.frozen? ⟨b, o, none⟩ = false := by
  unfold World.frozen?
  simp [h]
theorem numsW_snoc : ∀ {l : List (List UInt8)} {x : List UInt8} {vs : List Int} {v : Int}, numsW l = some vs → numW x = some v → numsW (l ++ [x]) = some (vs ++ [v])
  | [], x, vs, v, h1, h2 => by
    simp only [numsW, Option.some.injEq] at h1
    subst h1
    simp [numsW, h2]
  | y :: l, x, vs, v, h1, h2 => by
    unfold numsW at h1
    cases hy : numW y with
    | none => rw [hy] at h1; simp at h1
    | some u =>
      cases hl : numsW l with
      | none => rw [hy, hl] at h1; simp at h1
      | some us =>
        rw [hy, hl] at h1
        simp only [Option.some.injEq] at h1
        subst h1
        show numsW (y :: (l ++ [x])) = _
        unfold numsW
        rw [hy, numsW_snoc hl h2]
        rfl
theorem numsW_bad : ∀ {l : List (List UInt8)} {x : List UInt8}, x ∈ l → numW x = none → numsW l = none
  | y :: l, x, hx, h => by
    unfold numsW
    rcases List.mem_cons.1 hx with rfl | q
    · rw [h]
    · rw [numsW_bad q h]
      cases numW y <;> rfl
theorem ints_rowC : ∀ (vs : List Int), vs.map (Value.int .i64) = rowC 1 (fun k _ => vs.getD k 0) vs.length := by
  intro vs
  apply List.ext_getElem?
  intro i
  by_cases hi : i < vs.length
  · have := rowC_get 1 (fun k _ => vs.getD k 0) (n := vs.length) (k := i) (j := 0) hi (by omega)
    rw [show i * 1 + 0 = i by omega] at this
    rw [this, List.getElem?_map, List.getElem?_eq_getElem hi]
    simp [hi]
  · rw [List.getElem?_eq_none (by simpa using hi), List.getElem?_eq_none (by rw [rowC_len]; omega)]
theorem owns_tx {w : World} {base n cap : Nat} {A : Option Addr} {l : List (List UInt8)} (h : w.ownsRow base 9 1 (.slice A n cap) n (l.map strV)) : TxAt w A l := fun h0 => by
  have hn : n = l.length := by
    have := h.1
    rw [List.length_map] at this
    omega
  subst hn
  rcases h.2 with ⟨-, q⟩ | ⟨g, c, cur, e, -, hg, -⟩
  · omega
  simp only [Value.slice.injEq] at e
  obtain ⟨rfl, -, rfl⟩ := e
  refine ⟨g, 0, rfl, (Array.getElem?_eq_some_iff.1 hg).1, fun k hk => ?_⟩
  rw [show 0 + k = k by omega, h.cellAt k (by omega), List.getElem?_map, List.getElem?_eq_getElem hk]
  rfl
theorem ord_cells {w : World} {b : Nat} {T : TypeId} {x0 x1 x2 : Int} {x3 : Bool} {x4 x5 : Value} (h : w.heap[b]? = some (.cells (ordC x0 x1 x2 x3 x4 x5) T (0, 0))) : w.cell? ⟨b, 0, none⟩ = some (.int .i64 x0) ∧ w.cell? ⟨b, 1, none⟩ = some (.int .i64 x1) ∧ w.cell? ⟨b, 2, none⟩ = some (.int .i64 x2) ∧ w.cell? ⟨b, 3, none⟩ = some (.bool x3) ∧ w.cell? ⟨b, 4, none⟩ = some x4 ∧ w.cell? ⟨b, 5, none⟩ = some x5 :=
  ⟨cellOf h rfl, cellOf h rfl, cellOf h rfl, cellOf h rfl, cellOf h rfl, cellOf h rfl⟩
theorem numsW_bd : ∀ {l : List (List UInt8)} {vs : List Int}, numsW l = some vs → ∀ v ∈ vs, -1000 ≤ v ∧ v ≤ 1000
  | [], vs, h, v, hv => by
    simp only [numsW, Option.some.injEq] at h
    subst h
    cases hv
  | x :: l, vs, h, v, hv => by
    unfold numsW at h
    cases hy : numW x with
    | none => rw [hy] at h; simp at h
    | some u =>
      cases hl : numsW l with
      | none => rw [hy, hl] at h; simp at h
      | some us =>
        rw [hy, hl] at h
        simp only [Option.some.injEq] at h
        subst h
        rcases List.mem_cons.1 hv with rfl | q
        · exact ((numW_iff _ _).1 hy).2
        · exact numsW_bd hl v q
theorem new_at2 {o : Obj} {n : Nat} (X : World) (h : X.heap.size = n) : (X.alloc o).heap[n]? = some o := by
  rw [← h]
  exact heap_alloc_new X o
theorem info_In : ((Tryz.prog.info? 3).map fun i => (i.zero, i.size, i.bytes)) = some (some (.int .i64 0), 1, 8) := by kernel_rfl
set_option maxRecDepth 100000 in
set_option maxHeartbeats 8000000 in
theorem dparse_one (l : List UInt8) (w : World) (hl : l.length ≤ 1000000) (h : Ld w) (hw : List UInt8) (tl : List (List UInt8)) (htl : tl.length = 0) (hws : wds 32 l = hw :: tl) :
    Calls Tryz.prog 61 #[.string ⟨l.toArray⟩] w fun e w' => ParO w w' e l := by
  have hwl := wds_len (c := 32) l
  have q1 : ∀ w', Kept w w' → _ := fun w' hk => sWords l w' hl (h.on hk)
  have q2 : ∀ w', _ := fun w' => dforms_any w'
  rw [hws] at q1 hwl
  simp only [List.length_cons, htl] at q1
  have Q1 := Lib.hid q1
  have Q2 := Lib.hid q2
  have hlw : hw.length ≤ maxLen := by
    have := hwl.1 hw List.mem_cons_self
    unfold maxLen
    omega
  have hwd : ∀ p ∈ tl, p.length ≤ 1000000 := fun p hp => Nat.le_trans (hwl.1 p (List.mem_cons_of_mem _ hp)) hl
  have hln : 0 ≤ 1000000 := by have := hwl.2; simp at this; omega
  obtain ⟨⟨ka, kb, kc, km⟩, hfm⟩ : ∃ f, (formB hw).getD (0, 0, 0, false) = f := ⟨_, rfl⟩
  obtain ⟨ok, hok⟩ : ∃ x, (formB hw).isSome = x := ⟨_, rfl⟩
  obtain ⟨pr, hpr⟩ : ∃ x, parseB l = x := ⟨_, rfl⟩
  have hpv : pr = if ok = true ∧ (rightB l && (fitB (0) (kb + kc) km && (tl.take kb).all wordB)) = true then (numsW (tl.drop kb)).map fun vs => ⟨ka, tl.take kb, vs⟩ else none := by
    rw [← hpr]
    unfold parseB
    rw [hws]
    simp only [htl]
    cases hf : formB hw with
    | none =>
      rw [hf] at hok
      rw [← hok]
      rfl
    | some f =>
      rw [hf] at hok hfm
      subst hok
      simp only [Option.getD_some] at hfm
      subst hfm
      simp only [Option.isSome_some, true_and]
  have hk3 : ka ≤ 12 ∧ kb ≤ 2 ∧ kc ≤ 3 := by
    have := formB_bd hw
    unfold okF at this
    rw [hfm] at this
    exact this
  have HFM := Lib.hid hfm
  have HOK := Lib.hid hok
  have HPR := Lib.hid hpr
  have HPV := Lib.hid hpv
  have HWD := Lib.hid hwd
  have HL := Lib.hid h
  clear q1 q2 hfm hok hws hwl hpr hpv hwd h
  go_enter Tryz.func61, Tryz.ntmps61
  go_wp2_with (go_at_call 107; (with_reducible refine (Q1.out _ (by (repeat (first | exact Kept.refl _ | assumption | refine Kept.alloc ?_ _ | refine Kept.ext ?_ _ | refine Kept.drew ?_ | refine Kept.drewN ?_ _)))).mono ?_); rintro e w1 ⟨rfl, ⟨y1, rfl⟩, t1, z1⟩; have T1 := Lib.hid t1; have Z1 := Lib.hid z1; clear t1 z1)
  refine wp_gen (fun W2 hW2 => ?_)
  have k2 : Kept w W2 := by rw [hW2]; (repeat (first | exact Kept.refl _ | assumption | refine Kept.alloc ?_ _ | refine Kept.ext ?_ _ | refine Kept.drew ?_ | refine Kept.drewN ?_ _))
  have t2 : TxAt W2 (some ⟨w.heap.size + 1, 0, none⟩) (hw :: tl) := by
    rw [hW2]
    have t := T1.out
    rw [World.size_alloc] at t
    exact t
  have tz : W2.heap[w.heap.size]? = some (.cells zerO 122 (0, 0)) := by rw [hW2]; exact fr_kept (heap_alloc_new w _) (by (repeat (first | exact Kept.refl _ | assumption | refine Kept.alloc ?_ _ | refine Kept.ext ?_ _ | refine Kept.drew ?_ | refine Kept.drewN ?_ _)))
  have K2 := Lib.hid k2
  have T2 := Lib.hid t2
  have TZ := Lib.hid tz
  clear hW2 k2 tz T1 Z1 Q1
  obtain ⟨bb, off, ea, lb, f0⟩ := t2.at (k := 0) (by simp)
  cases ea
  have f0 : W2.cell? ⟨w.heap.size + 1, 0, none⟩ = some (.string ⟨hw.toArray⟩) := f0
  have LB : Lower (w.heap.size + 1) W2.heap.size := ⟨lb⟩
  clear t2 lb
  have hF : frsB [.s, .q, .q, .q, .k (.tuple #[.agg #[.int .i64 ka, .int .i64 kb, .int .i64 kc, .bool km], .bool ok]), .q, .q, .q, .s, .s, .q] [⟨8, 9, 120, #[.int .i64 0, .int .i64 0, .int .i64 0, .bool false], #[.int .i64 ka, .int .i64 kb, .int .i64 kc, .bool km]⟩] = true := by kernel_rfl
  refine wp_region_tell [.s, .q, .q, .q, .k (.tuple #[.agg #[.int .i64 ka, .int .i64 kb, .int .i64 kc, .bool km], .bool ok]), .q, .q, .q, .s, .s, .q] (PI W2 ⟨8, 9, 120, #[.int .i64 0, .int .i64 0, .int .i64 0, .bool false], #[.int .i64 ka, .int .i64 kb, .int .i64 kc, .bool km]⟩) (by kernel_rfl) (by kernel_rfl) (fun b => by kernel_rfl) ?_ ?_ ?_ ?_
  · exact fun b => PI.start b
  · intro i L b w' w'' hs hI hk
    exact hI.quiet hk hF hs (by rintro rfl; cases hs)
  · exact fun _ _ _ h => h.fi.kept
  apply Exists.intro
  refine ⟨?_, ?_, ?_, ?_⟩
  · rintro b W ⟨x, rfl⟩
    simp only [swapL, Nat.reduceAdd]
    repeat (go_big_quiet_step (fail))
    refine wpQuiet_nil ?_
    rfl
  · simp only [EachS, and_true]
    refine ⟨?_, ?_, ?_, ?_⟩
    · intro L b w' _ hL hI
      go_simp
      exact (Q2.out w').mono fun e w'' ⟨m, h1, h2, h3⟩ => ⟨.map (some m), h1, rfl, hI.made h2 (show (0 : Nat) ≠ 8 from by decide) (show (0 : Nat) ≠ 9 from by decide) h3⟩
    · intro L b w' hd hL hI
      have e := fun (ρ : Operand → Value) (h1 : ρ (.tmp 18) = b 0) (h2 : ρ (.tmp 21) = strV hw) => PI.tells_look hI (hd { on := 0, ground := .data } (by simp) rfl) (i := 4) (show (4 : Nat) ≠ 8 from by decide) (show (4 : Nat) ≠ 9 from by decide) (show (4 : Nat) ≠ 0 from by decide) (ρ := ρ) (o := { dst := some 22, op := .lookup 182 (.tmp 18) (.tmp 21) true, type := 162, pos := "desk.go:125", after := #[{ on := 0, ground := .data }, { on := 3, ground := .data }], guard := none }) (.tmp 18) (.tmp 21) rfl hw hlw h1 h2 zeroForm
      rw [HFM.out, HOK.out] at e
      exact e _ rfl rfl
    · exact fun L b w' hd hL hI => PI.tells_alloc hI hF hL (show (8 : Nat) ≠ 0 from by decide) (by go_simp)
    · exact fun L b w' hd hL hI => PI.tells_store hI hF hL (hd { on := 8, ground := .data } (by simp) rfl) (show (9 : Nat) ≠ 0 from by decide) 120 (.tmp 5) (.tmp 23) rfl rfl rfl (by kernel_rfl) rfl (by kernel_rfl)
  · intro b1 b2 d9 hd
    simp [callSlots, dullOp] at hd
    all_goals (first | (rcases hd with rfl | rfl <;> rfl) | (subst hd; rfl))
  intro L b w1 hL hI
  obtain ⟨fb, e1, l1, h1⟩ := hI.fi.ends 0 rfl (hL 8 (by decide)) (hL 9 (by decide))
  have k1 := hI.fi.kept
  have e2 : b 8 = _ := e1
  clear hF hI hL e1
  simp only [e2]
  clear e2
  have g0 : w1.cell? ⟨fb, 0, none⟩ = some (.int .i64 ka) := cellOf h1 rfl
  have g1 : w1.cell? ⟨fb, 1, none⟩ = some (.int .i64 kb) := cellOf h1 rfl
  have g2 : w1.cell? ⟨fb, 2, none⟩ = some (.int .i64 kc) := cellOf h1 rfl
  have g3 : w1.cell? ⟨fb, 3, none⟩ = some (.bool km) := cellOf h1 rfl
  have LF : Lower fb w1.heap.size := ⟨(Array.getElem?_eq_some_iff.1 h1).1⟩
  have hfb : w.heap.size < fb := by
    have := K2.out.below.size
    have h2 := cell_lt f0
    have : W2.heap.size ≤ fb := l1
    omega
  have kw1 := K2.out.trans k1
  have tz1 : w1.heap[w.heap.size]? = some (.cells zerO 122 (0, 0)) := fr_kept TZ.out k1
  have LZ : Lower w.heap.size w1.heap.size := ⟨(Array.getElem?_eq_some_iff.1 tz1).1⟩
  have tx1 := T2.out.of k1
  have H1 := Lib.hid h1
  have KW1 := Lib.hid kw1
  have TZ1 := Lib.hid tz1
  have TX1 := Lib.hid tx1
  have q3 : ∀ w', _ := fun w' => disl_any ⟨l.toArray⟩ w'
  change ∀ w', Calls _ _ _ _ (fun e w'' => e = .returned (.bool (rightB l)) ∧ Kept w' w'') at q3
  obtain ⟨rt, hrt⟩ : ∃ x, rightB l = x := ⟨_, rfl⟩
  rw [hrt] at q3
  have hpv := HPV.out
  rw [hrt] at hpv
  have HPV2 := Lib.hid hpv
  have Q3 := Lib.hid q3
  clear h1 q3 kw1 tz1 tx1 k1 hpv hrt HPV T2 TZ
  by_cases hbad : ok = true ∧ rt = true ∧ fitB (0) (kb + kc) km = true
  case neg =>
    have hpn : pr = none := by
      rw [HPV2.out, if_neg]
      rintro ⟨a1, a2⟩
      simp only [Bool.and_eq_true] at a2
      exact hbad ⟨a1, a2.1, a2.2.1⟩
    have hfin : ∀ w', Kept w1 w' → ParO w w' (.returned (.tuple #[.agg #[.int .i64 0, .int .i64 0, .int .i64 0, .bool false, .slice none 0 0, .slice none 0 0], .bool false])) l := fun w' hk => ParO.no (HPR.out.trans hpn) (KW1.out.trans hk)
    have HFIN := Lib.hid hfin
    clear hfin hpn HPV2
    cases ok
    case false =>
      clear hbad
      obtain ⟨u0, u1, u2, u3, u4, u5⟩ := zer_cells TZ1.out
      go_wp2_with (refine wpList_store_row rfl 122 (.tmp 2) (.tmp 55) rfl w.heap.size zerO rfl rfl _ _ TZ1.out (by kernel_rfl) rfl (by simp [Value.oneCell', zerO]) ?_; rw [setRow_same TZ1.out])
      refine bodyPost_ret (by simp only [results, Tryz.results61]; go_simp; rfl) rfl ?_
      exact HFIN.out _ (by (repeat (first | exact Kept.refl _ | assumption | refine Kept.alloc ?_ _ | refine Kept.ext ?_ _ | refine Kept.drew ?_ | refine Kept.drewN ?_ _)))
    case true =>
    obtain ⟨u0, u1, u2, u3, u4, u5⟩ := zer_cells TZ1.out
    have hsame : ∀ y, (ext w1 y).setRow w.heap.size zerO = ext w1 y := fun y => setRow_same (fr_kept TZ1.out (by (repeat (first | exact Kept.refl _ | assumption | refine Kept.alloc ?_ _ | refine Kept.ext ?_ _ | refine Kept.drew ?_ | refine Kept.drewN ?_ _))))
    cases rt
    case false =>
      clear hbad
      go_wp2_with (first | (go_at_call 49; (with_reducible refine (Q3.out _).mono ?_); rintro e w3 ⟨rfl, y3, rfl⟩) | (refine wpList_store_row rfl 122 (.tmp 2) (.tmp 55) rfl w.heap.size zerO rfl rfl _ _ (fr_kept TZ1.out (by (repeat (first | exact Kept.refl _ | assumption | refine Kept.alloc ?_ _ | refine Kept.ext ?_ _ | refine Kept.drew ?_ | refine Kept.drewN ?_ _)))) (by kernel_rfl) rfl (by simp [Value.oneCell', zerO]) ?_; rw [hsame]))
      refine bodyPost_ret (by simp only [results, Tryz.results61]; go_simp; rfl) rfl ?_
      exact HFIN.out _ (by (repeat (first | exact Kept.refl _ | assumption | refine Kept.alloc ?_ _ | refine Kept.ext ?_ _ | refine Kept.drew ?_ | refine Kept.drewN ?_ _)))
    case true =>
    have hbad : fitB (0) (kb + kc) km = false := by
      cases q : fitB (0) (kb + kc) km with
      | false => rfl
      | true => exact absurd ⟨rfl, rfl, q⟩ hbad
    unfold fitB at hbad
    rw [Bool.or_eq_false_iff, decide_eq_false_iff_not, Bool.and_eq_false_iff] at hbad
    obtain ⟨b1, b2⟩ := hbad
    by_cases hlt : 0 < kb + kc
    · have l1 : ((0 : Nat) : Int) + 1 < 1 + kb + kc := by omega
      clear b2
      go_wp2_with (first | (go_at_call 49; (with_reducible refine (Q3.out _).mono ?_); rintro e w3 ⟨rfl, y3, rfl⟩) | (refine wpList_store_row rfl 122 (.tmp 2) (.tmp 55) rfl w.heap.size zerO rfl rfl _ _ (fr_kept TZ1.out (by (repeat (first | exact Kept.refl _ | assumption | refine Kept.alloc ?_ _ | refine Kept.ext ?_ _ | refine Kept.drew ?_ | refine Kept.drewN ?_ _)))) (by kernel_rfl) rfl (by simp [Value.oneCell', zerO]) ?_; rw [hsame]))
      refine bodyPost_ret (by simp only [results, Tryz.results61]; go_simp; rfl) rfl ?_
      exact HFIN.out _ (by (repeat (first | exact Kept.refl _ | assumption | refine Kept.alloc ?_ _ | refine Kept.ext ?_ _ | refine Kept.drew ?_ | refine Kept.drewN ?_ _)))
    · exact absurd (by omega : 0 = kb + kc) b1
  obtain ⟨rfl, rfl, hfit⟩ := hbad
  have hge : kb + kc ≤ 0 ∧ (kb + kc < 0 → km = true) := by
    unfold fitB at hfit
    rw [Bool.or_eq_true, decide_eq_true_eq, Bool.and_eq_true, decide_eq_true_eq] at hfit
    rcases hfit with q | q
    · exact ⟨by omega, fun h => by omega⟩
    · exact ⟨q.2, fun _ => q.1⟩
  obtain ⟨hge, hgm⟩ := hge
  have l1 : ¬ ((0 : Nat) : Int) + 1 < 1 + kb + kc := by omega
  have hpv : pr = if (tl.take kb).all wordB = true then (numsW (tl.drop kb)).map fun vs => ⟨ka, tl.take kb, vs⟩ else none := by
    rw [HPV2.out, hfit]
    simp
  have HPV3 := Lib.hid hpv
  clear hfit hpv HPV2
  obtain ⟨u0, u1, u2, u3, u4, u5⟩ := zer_cells TZ1.out
  by_cases hlt : kb + kc < 0
  · exact absurd hlt (by omega)
  · obtain rfl : kb = 0 := by omega
    obtain rfl : kc = 0 := by omega
    clear hgm
    go_wp2_with (first | (go_at_call 49; (with_reducible refine (Q3.out _).mono ?_); rintro e w3 ⟨rfl, y3, rfl⟩))
    obtain ⟨ob, hob⟩ : ∃ x, adv w1.heap.size y3.obs.size = x := ⟨_, rfl⟩
    have hob1 : w1.heap.size ≤ ob := by rw [← hob]; exact adv_le _ _
    try simp only [hob]
    refine wp_gen (fun W6 hW6 => ?_)
    have k16 : Kept w1 W6 := by rw [hW6]; (repeat (first | exact Kept.refl _ | assumption | refine Kept.alloc ?_ _ | refine Kept.ext ?_ _ | refine Kept.drew ?_ | refine Kept.drewN ?_ _))
    have k6 := KW1.out.trans k16
    have o6 : W6.heap[ob]? = some (.cells (ordC ka ((0 : Nat) : Int) ((0 : Nat) : Int) km (.slice none 0 0) (.slice none 0 0)) 122 (0, 0)) := by
      rw [hW6, ← hob]
      exact new_at2 _ (by simp only [ext_size])
    have tz6 := fr_kept TZ1.out k16
    have h16 := fr_kept H1.out k16
    have tx6 := TX1.out.of k16
    have hrb : w.heap.size ≠ ob := by
      have := (Array.getElem?_eq_some_iff.1 TZ1.out).1
      omega
    have hwb : w.heap.size + 1 ≠ ob := by
      have h3 := TX1.out.at (k := 0) (by simp)
      obtain ⟨b3, o3, e3, l3, -⟩ := h3
      cases e3
      omega
    have hfo : fb ≠ ob := by
      have := (Array.getElem?_eq_some_iff.1 H1.out).1
      omega
    have hlob : ob < W6.heap.size := (Array.getElem?_eq_some_iff.1 o6).1
    have K6 := Lib.hid k6
    have O6 := Lib.hid o6
    have TZ6 := Lib.hid tz6
    have H16 := Lib.hid h16
    have TX6 := Lib.hid tx6
    have hwob : w.heap.size ≤ ob := Nat.le_trans KW1.out.below.size hob1
    obtain ⟨iS, hiS, hzS⟩ := Option.map_eq_some_iff.1 info_St
    simp only [Prod.mk.injEq] at hzS
    have HIS := Lib.hid (And.intro hiS hzS)
    obtain ⟨iN, hiN, hzN⟩ := Option.map_eq_some_iff.1 info_In
    simp only [Prod.mk.injEq] at hzN
    have HIN := Lib.hid (And.intro hiN hzN)
    clear hiS hzS hiN hzN k16 k6 o6 tz6 h16 tx6 hW6 KW1 H1 TZ1 TX1 g0 g1 g2 g3 u0 u1 u2 u3 u4 u5 LF LZ f0 hob hob1
    have hfin : ∀ w', Kept w w' → pr = none → ParO w w' (.returned (.tuple #[.agg #[.int .i64 0, .int .i64 0, .int .i64 0, .bool false, .slice none 0 0, .slice none 0 0], .bool false])) l := fun w' hk hq => ParO.no (HPR.out.trans hq) hk
    have HFIN := Lib.hid hfin
    clear hfin
    obtain ⟨u0, u1, u2, u3, u4, u5⟩ := zer_cells TZ6.out
    obtain ⟨d0, d1, d2, d3, d4, d5⟩ := ord_cells O6.out
    have LZ : Lower w.heap.size W6.heap.size := ⟨cell_lt u0⟩
    have LO : Lower ob W6.heap.size := ⟨hlob⟩
    have g1 : W6.cell? ⟨fb, 1, none⟩ = some (.int .i64 0) := cellOf H16.out rfl
    have LF : Lower fb W6.heap.size := ⟨cell_lt g1⟩
    have hrow := setRow_heap _ _ _ (ordC ka (0 : Int) (0 : Int) km (.slice none 0 0) (.slice none 0 0)) _ _ TZ6.out
    obtain ⟨r0, r1, r2, r3, r4, r5⟩ := ord_cells hrow
    clear hrow
    refine wp_loop_rounds 1 ?_
    rw [rounds_succ]
    go_wp2_with fail
    refine wp_loop_rounds 1 ?_
    rw [rounds_succ]
    go_wp2_with (refine wpList_store_row rfl 122 (.tmp 2) (.tmp 118) rfl w.heap.size (ordC ka (0 : Int) (0 : Int) km (.slice none 0 0) (.slice none 0 0)) rfl rfl _ _ TZ6.out (by kernel_rfl) rfl (by simp [Value.oneCell', ordC]) ?_)
    refine bodyPost_ret (by simp only [results, Tryz.results61]; go_simp; rfl) rfl ?_
    have htn : tl = [] := List.length_eq_zero_iff.1 htl
    have hprs : parseB l = some ⟨ka, [], []⟩ := by
      rw [HPR.out, HPV3.out, htn]
      rfl
    refine ⟨row_kept2 K6.out (Nat.le_refl _), ?_⟩
    rw [hprs]
    exact ⟨0, 0, km, none, none, 0, 0, rfl, fun h0 => absurd h0 (by simp), fun h0 => absurd h0 (by simp)⟩
set_option maxRecDepth 100000 in
set_option maxHeartbeats 8000000 in
theorem dparse_more (l : List UInt8) (w : World) (hl : l.length ≤ 1000000) (h : Ld w) (hw : List UInt8) (tl : List (List UInt8)) (m : Nat) (htl : tl.length = m + 1) (hws : wds 32 l = hw :: tl) :
    Calls Tryz.prog 61 #[.string ⟨l.toArray⟩] w fun e w' => ParO w w' e l := by
  have hwl := wds_len (c := 32) l
  have q1 : ∀ w', Kept w w' → _ := fun w' hk => sWords l w' hl (h.on hk)
  have q2 : ∀ w', _ := fun w' => dforms_any w'
  rw [hws] at q1 hwl
  simp only [List.length_cons, htl] at q1
  have Q1 := Lib.hid q1
  have Q2 := Lib.hid q2
  have hlw : hw.length ≤ maxLen := by
    have := hwl.1 hw List.mem_cons_self
    unfold maxLen
    omega
  have hwd : ∀ p ∈ tl, p.length ≤ 1000000 := fun p hp => Nat.le_trans (hwl.1 p (List.mem_cons_of_mem _ hp)) hl
  have hln : m + 1 ≤ 1000000 := by have := hwl.2; simp at this; omega
  obtain ⟨⟨ka, kb, kc, km⟩, hfm⟩ : ∃ f, (formB hw).getD (0, 0, 0, false) = f := ⟨_, rfl⟩
  obtain ⟨ok, hok⟩ : ∃ x, (formB hw).isSome = x := ⟨_, rfl⟩
  obtain ⟨pr, hpr⟩ : ∃ x, parseB l = x := ⟨_, rfl⟩
  have hpv : pr = if ok = true ∧ (rightB l && (fitB (m + 1) (kb + kc) km && (tl.take kb).all wordB)) = true then (numsW (tl.drop kb)).map fun vs => ⟨ka, tl.take kb, vs⟩ else none := by
    rw [← hpr]
    unfold parseB
    rw [hws]
    simp only [htl]
    cases hf : formB hw with
    | none =>
      rw [hf] at hok
      rw [← hok]
      rfl
    | some f =>
      rw [hf] at hok hfm
      subst hok
      simp only [Option.getD_some] at hfm
      subst hfm
      simp only [Option.isSome_some, true_and]
  have hk3 : ka ≤ 12 ∧ kb ≤ 2 ∧ kc ≤ 3 := by
    have := formB_bd hw
    unfold okF at this
    rw [hfm] at this
    exact this
  have HFM := Lib.hid hfm
  have HOK := Lib.hid hok
  have HPR := Lib.hid hpr
  have HPV := Lib.hid hpv
  have HWD := Lib.hid hwd
  have HL := Lib.hid h
  clear q1 q2 hfm hok hws hwl hpr hpv hwd h
  go_enter Tryz.func61, Tryz.ntmps61
  go_wp2_with (go_at_call 107; (with_reducible refine (Q1.out _ (by (repeat (first | exact Kept.refl _ | assumption | refine Kept.alloc ?_ _ | refine Kept.ext ?_ _ | refine Kept.drew ?_ | refine Kept.drewN ?_ _)))).mono ?_); rintro e w1 ⟨rfl, ⟨y1, rfl⟩, t1, z1⟩; have T1 := Lib.hid t1; have Z1 := Lib.hid z1; clear t1 z1)
  refine wp_gen (fun W2 hW2 => ?_)
  have k2 : Kept w W2 := by rw [hW2]; (repeat (first | exact Kept.refl _ | assumption | refine Kept.alloc ?_ _ | refine Kept.ext ?_ _ | refine Kept.drew ?_ | refine Kept.drewN ?_ _))
  have t2 : TxAt W2 (some ⟨w.heap.size + 1, 0, none⟩) (hw :: tl) := by
    rw [hW2]
    have t := T1.out
    rw [World.size_alloc] at t
    exact t
  have tz : W2.heap[w.heap.size]? = some (.cells zerO 122 (0, 0)) := by rw [hW2]; exact fr_kept (heap_alloc_new w _) (by (repeat (first | exact Kept.refl _ | assumption | refine Kept.alloc ?_ _ | refine Kept.ext ?_ _ | refine Kept.drew ?_ | refine Kept.drewN ?_ _)))
  have K2 := Lib.hid k2
  have T2 := Lib.hid t2
  have TZ := Lib.hid tz
  clear hW2 k2 tz T1 Z1 Q1
  obtain ⟨bb, off, ea, lb, f0⟩ := t2.at (k := 0) (by simp)
  cases ea
  have f0 : W2.cell? ⟨w.heap.size + 1, 0, none⟩ = some (.string ⟨hw.toArray⟩) := f0
  have LB : Lower (w.heap.size + 1) W2.heap.size := ⟨lb⟩
  clear t2 lb
  have hF : frsB [.s, .q, .q, .q, .k (.tuple #[.agg #[.int .i64 ka, .int .i64 kb, .int .i64 kc, .bool km], .bool ok]), .q, .q, .q, .s, .s, .q] [⟨8, 9, 120, #[.int .i64 0, .int .i64 0, .int .i64 0, .bool false], #[.int .i64 ka, .int .i64 kb, .int .i64 kc, .bool km]⟩] = true := by kernel_rfl
  refine wp_region_tell [.s, .q, .q, .q, .k (.tuple #[.agg #[.int .i64 ka, .int .i64 kb, .int .i64 kc, .bool km], .bool ok]), .q, .q, .q, .s, .s, .q] (PI W2 ⟨8, 9, 120, #[.int .i64 0, .int .i64 0, .int .i64 0, .bool false], #[.int .i64 ka, .int .i64 kb, .int .i64 kc, .bool km]⟩) (by kernel_rfl) (by kernel_rfl) (fun b => by kernel_rfl) ?_ ?_ ?_ ?_
  · exact fun b => PI.start b
  · intro i L b w' w'' hs hI hk
    exact hI.quiet hk hF hs (by rintro rfl; cases hs)
  · exact fun _ _ _ h => h.fi.kept
  apply Exists.intro
  refine ⟨?_, ?_, ?_, ?_⟩
  · rintro b W ⟨x, rfl⟩
    simp only [swapL, Nat.reduceAdd]
    repeat (go_big_quiet_step (fail))
    refine wpQuiet_nil ?_
    rfl
  · simp only [EachS, and_true]
    refine ⟨?_, ?_, ?_, ?_⟩
    · intro L b w' _ hL hI
      go_simp
      exact (Q2.out w').mono fun e w'' ⟨m, h1, h2, h3⟩ => ⟨.map (some m), h1, rfl, hI.made h2 (show (0 : Nat) ≠ 8 from by decide) (show (0 : Nat) ≠ 9 from by decide) h3⟩
    · intro L b w' hd hL hI
      have e := fun (ρ : Operand → Value) (h1 : ρ (.tmp 18) = b 0) (h2 : ρ (.tmp 21) = strV hw) => PI.tells_look hI (hd { on := 0, ground := .data } (by simp) rfl) (i := 4) (show (4 : Nat) ≠ 8 from by decide) (show (4 : Nat) ≠ 9 from by decide) (show (4 : Nat) ≠ 0 from by decide) (ρ := ρ) (o := { dst := some 22, op := .lookup 182 (.tmp 18) (.tmp 21) true, type := 162, pos := "desk.go:125", after := #[{ on := 0, ground := .data }, { on := 3, ground := .data }], guard := none }) (.tmp 18) (.tmp 21) rfl hw hlw h1 h2 zeroForm
      rw [HFM.out, HOK.out] at e
      exact e _ rfl rfl
    · exact fun L b w' hd hL hI => PI.tells_alloc hI hF hL (show (8 : Nat) ≠ 0 from by decide) (by go_simp)
    · exact fun L b w' hd hL hI => PI.tells_store hI hF hL (hd { on := 8, ground := .data } (by simp) rfl) (show (9 : Nat) ≠ 0 from by decide) 120 (.tmp 5) (.tmp 23) rfl rfl rfl (by kernel_rfl) rfl (by kernel_rfl)
  · intro b1 b2 d9 hd
    simp [callSlots, dullOp] at hd
    all_goals (first | (rcases hd with rfl | rfl <;> rfl) | (subst hd; rfl))
  intro L b w1 hL hI
  obtain ⟨fb, e1, l1, h1⟩ := hI.fi.ends 0 rfl (hL 8 (by decide)) (hL 9 (by decide))
  have k1 := hI.fi.kept
  have e2 : b 8 = _ := e1
  clear hF hI hL e1
  simp only [e2]
  clear e2
  have g0 : w1.cell? ⟨fb, 0, none⟩ = some (.int .i64 ka) := cellOf h1 rfl
  have g1 : w1.cell? ⟨fb, 1, none⟩ = some (.int .i64 kb) := cellOf h1 rfl
  have g2 : w1.cell? ⟨fb, 2, none⟩ = some (.int .i64 kc) := cellOf h1 rfl
  have g3 : w1.cell? ⟨fb, 3, none⟩ = some (.bool km) := cellOf h1 rfl
  have LF : Lower fb w1.heap.size := ⟨(Array.getElem?_eq_some_iff.1 h1).1⟩
  have hfb : w.heap.size < fb := by
    have := K2.out.below.size
    have h2 := cell_lt f0
    have : W2.heap.size ≤ fb := l1
    omega
  have kw1 := K2.out.trans k1
  have tz1 : w1.heap[w.heap.size]? = some (.cells zerO 122 (0, 0)) := fr_kept TZ.out k1
  have LZ : Lower w.heap.size w1.heap.size := ⟨(Array.getElem?_eq_some_iff.1 tz1).1⟩
  have tx1 := T2.out.of k1
  have H1 := Lib.hid h1
  have KW1 := Lib.hid kw1
  have TZ1 := Lib.hid tz1
  have TX1 := Lib.hid tx1
  have q3 : ∀ w', _ := fun w' => disl_any ⟨l.toArray⟩ w'
  change ∀ w', Calls _ _ _ _ (fun e w'' => e = .returned (.bool (rightB l)) ∧ Kept w' w'') at q3
  obtain ⟨rt, hrt⟩ : ∃ x, rightB l = x := ⟨_, rfl⟩
  rw [hrt] at q3
  have hpv := HPV.out
  rw [hrt] at hpv
  have HPV2 := Lib.hid hpv
  have Q3 := Lib.hid q3
  clear h1 q3 kw1 tz1 tx1 k1 hpv hrt HPV T2 TZ
  by_cases hbad : ok = true ∧ rt = true ∧ fitB (m + 1) (kb + kc) km = true
  case neg =>
    have hpn : pr = none := by
      rw [HPV2.out, if_neg]
      rintro ⟨a1, a2⟩
      simp only [Bool.and_eq_true] at a2
      exact hbad ⟨a1, a2.1, a2.2.1⟩
    have hfin : ∀ w', Kept w1 w' → ParO w w' (.returned (.tuple #[.agg #[.int .i64 0, .int .i64 0, .int .i64 0, .bool false, .slice none 0 0, .slice none 0 0], .bool false])) l := fun w' hk => ParO.no (HPR.out.trans hpn) (KW1.out.trans hk)
    have HFIN := Lib.hid hfin
    clear hfin hpn HPV2
    cases ok
    case false =>
      clear hbad
      obtain ⟨u0, u1, u2, u3, u4, u5⟩ := zer_cells TZ1.out
      go_wp2_with (refine wpList_store_row rfl 122 (.tmp 2) (.tmp 55) rfl w.heap.size zerO rfl rfl _ _ TZ1.out (by kernel_rfl) rfl (by simp [Value.oneCell', zerO]) ?_; rw [setRow_same TZ1.out])
      refine bodyPost_ret (by simp only [results, Tryz.results61]; go_simp; rfl) rfl ?_
      exact HFIN.out _ (by (repeat (first | exact Kept.refl _ | assumption | refine Kept.alloc ?_ _ | refine Kept.ext ?_ _ | refine Kept.drew ?_ | refine Kept.drewN ?_ _)))
    case true =>
    obtain ⟨u0, u1, u2, u3, u4, u5⟩ := zer_cells TZ1.out
    have hsame : ∀ y, (ext w1 y).setRow w.heap.size zerO = ext w1 y := fun y => setRow_same (fr_kept TZ1.out (by (repeat (first | exact Kept.refl _ | assumption | refine Kept.alloc ?_ _ | refine Kept.ext ?_ _ | refine Kept.drew ?_ | refine Kept.drewN ?_ _))))
    cases rt
    case false =>
      clear hbad
      go_wp2_with (first | (go_at_call 49; (with_reducible refine (Q3.out _).mono ?_); rintro e w3 ⟨rfl, y3, rfl⟩) | (refine wpList_store_row rfl 122 (.tmp 2) (.tmp 55) rfl w.heap.size zerO rfl rfl _ _ (fr_kept TZ1.out (by (repeat (first | exact Kept.refl _ | assumption | refine Kept.alloc ?_ _ | refine Kept.ext ?_ _ | refine Kept.drew ?_ | refine Kept.drewN ?_ _)))) (by kernel_rfl) rfl (by simp [Value.oneCell', zerO]) ?_; rw [hsame]))
      refine bodyPost_ret (by simp only [results, Tryz.results61]; go_simp; rfl) rfl ?_
      exact HFIN.out _ (by (repeat (first | exact Kept.refl _ | assumption | refine Kept.alloc ?_ _ | refine Kept.ext ?_ _ | refine Kept.drew ?_ | refine Kept.drewN ?_ _)))
    case true =>
    have hbad : fitB (m + 1) (kb + kc) km = false := by
      cases q : fitB (m + 1) (kb + kc) km with
      | false => rfl
      | true => exact absurd ⟨rfl, rfl, q⟩ hbad
    unfold fitB at hbad
    rw [Bool.or_eq_false_iff, decide_eq_false_iff_not, Bool.and_eq_false_iff] at hbad
    obtain ⟨b1, b2⟩ := hbad
    by_cases hlt : m + 1 < kb + kc
    · have l1 : ((m + 1 : Nat) : Int) + 1 < 1 + kb + kc := by omega
      clear b2
      go_wp2_with (first | (go_at_call 49; (with_reducible refine (Q3.out _).mono ?_); rintro e w3 ⟨rfl, y3, rfl⟩) | (refine wpList_store_row rfl 122 (.tmp 2) (.tmp 55) rfl w.heap.size zerO rfl rfl _ _ (fr_kept TZ1.out (by (repeat (first | exact Kept.refl _ | assumption | refine Kept.alloc ?_ _ | refine Kept.ext ?_ _ | refine Kept.drew ?_ | refine Kept.drewN ?_ _)))) (by kernel_rfl) rfl (by simp [Value.oneCell', zerO]) ?_; rw [hsame]))
      refine bodyPost_ret (by simp only [results, Tryz.results61]; go_simp; rfl) rfl ?_
      exact HFIN.out _ (by (repeat (first | exact Kept.refl _ | assumption | refine Kept.alloc ?_ _ | refine Kept.ext ?_ _ | refine Kept.drew ?_ | refine Kept.drewN ?_ _)))
    · have l1 : ¬ ((m + 1 : Nat) : Int) + 1 < 1 + kb + kc := by omega
      have l2 : (1 : Int) + kb + kc < ((m + 1 : Nat) : Int) + 1 := by omega
      have hm : km = false := by
        rcases b2 with q | q
        · exact q
        · rw [decide_eq_false_iff_not] at q
          omega
      subst hm
      clear b2
      go_wp2_with (first | (go_at_call 49; (with_reducible refine (Q3.out _).mono ?_); rintro e w3 ⟨rfl, y3, rfl⟩) | (refine wpList_store_row rfl 122 (.tmp 2) (.tmp 55) rfl w.heap.size zerO rfl rfl _ _ (fr_kept TZ1.out (by (repeat (first | exact Kept.refl _ | assumption | refine Kept.alloc ?_ _ | refine Kept.ext ?_ _ | refine Kept.drew ?_ | refine Kept.drewN ?_ _)))) (by kernel_rfl) rfl (by simp [Value.oneCell', zerO]) ?_; rw [hsame]))
      refine bodyPost_ret (by simp only [results, Tryz.results61]; go_simp; rfl) rfl ?_
      exact HFIN.out _ (by (repeat (first | exact Kept.refl _ | assumption | refine Kept.alloc ?_ _ | refine Kept.ext ?_ _ | refine Kept.drew ?_ | refine Kept.drewN ?_ _)))
  obtain ⟨rfl, rfl, hfit⟩ := hbad
  have hge : kb + kc ≤ m + 1 ∧ (kb + kc < m + 1 → km = true) := by
    unfold fitB at hfit
    rw [Bool.or_eq_true, decide_eq_true_eq, Bool.and_eq_true, decide_eq_true_eq] at hfit
    rcases hfit with q | q
    · exact ⟨by omega, fun h => by omega⟩
    · exact ⟨q.2, fun _ => q.1⟩
  obtain ⟨hge, hgm⟩ := hge
  have l1 : ¬ ((m + 1 : Nat) : Int) + 1 < 1 + kb + kc := by omega
  have hpv : pr = if (tl.take kb).all wordB = true then (numsW (tl.drop kb)).map fun vs => ⟨ka, tl.take kb, vs⟩ else none := by
    rw [HPV2.out, hfit]
    simp
  have HPV3 := Lib.hid hpv
  clear hfit hpv HPV2
  obtain ⟨u0, u1, u2, u3, u4, u5⟩ := zer_cells TZ1.out
  by_cases hlt : kb + kc < m + 1
  · have hm := hgm hlt
    subst hm
    have l2 : (1 : Int) + kb + kc < ((m + 1 : Nat) : Int) + 1 := by omega
    clear hgm
    go_wp2_with (first | (go_at_call 49; (with_reducible refine (Q3.out _).mono ?_); rintro e w3 ⟨rfl, y3, rfl⟩))
    obtain ⟨ob, hob⟩ : ∃ x, adv w1.heap.size y3.obs.size = x := ⟨_, rfl⟩
    have hob1 : w1.heap.size ≤ ob := by rw [← hob]; exact adv_le _ _
    simp only [hob, Nat.add_sub_cancel_left]
    refine wp_gen (fun W6 hW6 => ?_)
    have k16 : Kept w1 W6 := by rw [hW6]; (repeat (first | exact Kept.refl _ | assumption | refine Kept.alloc ?_ _ | refine Kept.ext ?_ _ | refine Kept.drew ?_ | refine Kept.drewN ?_ _))
    have k6 := KW1.out.trans k16
    have o6 : W6.heap[ob]? = some (.cells (ordC ka kb kc true (.slice none 0 0) (.slice none 0 0)) 122 (0, 0)) := by
      rw [hW6, ← hob]
      exact new_at2 _ (by simp only [ext_size])
    have tz6 := fr_kept TZ1.out k16
    have h16 := fr_kept H1.out k16
    have tx6 := TX1.out.of k16
    have hrb : w.heap.size ≠ ob := by
      have := (Array.getElem?_eq_some_iff.1 TZ1.out).1
      omega
    have hwb : w.heap.size + 1 ≠ ob := by
      have h3 := TX1.out.at (k := 0) (by simp)
      obtain ⟨b3, o3, e3, l3, -⟩ := h3
      cases e3
      omega
    have hfo : fb ≠ ob := by
      have := (Array.getElem?_eq_some_iff.1 H1.out).1
      omega
    have hlob : ob < W6.heap.size := (Array.getElem?_eq_some_iff.1 o6).1
    have K6 := Lib.hid k6
    have O6 := Lib.hid o6
    have TZ6 := Lib.hid tz6
    have H16 := Lib.hid h16
    have TX6 := Lib.hid tx6
    have hwob : w.heap.size ≤ ob := Nat.le_trans KW1.out.below.size hob1
    obtain ⟨iS, hiS, hzS⟩ := Option.map_eq_some_iff.1 info_St
    simp only [Prod.mk.injEq] at hzS
    have HIS := Lib.hid (And.intro hiS hzS)
    obtain ⟨iN, hiN, hzN⟩ := Option.map_eq_some_iff.1 info_In
    simp only [Prod.mk.injEq] at hzN
    have HIN := Lib.hid (And.intro hiN hzN)
    clear hiS hzS hiN hzN k16 k6 o6 tz6 h16 tx6 hW6 KW1 H1 TZ1 TX1 g0 g1 g2 g3 u0 u1 u2 u3 u4 u5 LF LZ f0 hob hob1
    have hfin : ∀ w', Kept w w' → pr = none → ParO w w' (.returned (.tuple #[.agg #[.int .i64 0, .int .i64 0, .int .i64 0, .bool false, .slice none 0 0, .slice none 0 0], .bool false])) l := fun w' hk hq => ParO.no (HPR.out.trans hq) hk
    have HFIN := Lib.hid hfin
    clear hfin
    go_loopw [10, 64] (fun v10 i wr => ∃ (k : Nat) (vN : Value), k ≤ kb ∧ i = .int .i64 k ∧ KB (fun q => q = ob) W6 wr ∧ wr.heap[ob]? = some (.cells (ordC ka kb kc true vN (.slice none 0 0)) 122 (0, 0)) ∧ wr.ownsRow W6.heap.size 9 1 vN k ((tl.take k).map strV) ∧ (tl.take k).all wordB = true) (fun _ i _ => kb - (intOf i).toNat)
    case atStart => exact ⟨0, _, Nat.zero_le _, rfl, KB.refl _ _, O6.out, by simpa using World.ownsRow_nil _ _ _ _, by simp⟩
    case round =>
      obtain ⟨k, vN, hk, rfl, hkb, hoc, hon, hal⟩ := hrel
      have hkw : Kept w wr := KB.kept_new K6.out hkb fun q hq e => by omega
      have tz7 := hkb.at TZ6.out hrb
      obtain ⟨u0, u1, u2, u3, u4, u5⟩ := zer_cells tz7
      have LZ : Lower w.heap.size wr.heap.size := ⟨cell_lt u0⟩
      have LO : Lower ob wr.heap.size := ⟨(Array.getElem?_eq_some_iff.1 hoc).1⟩
      have HKB := Lib.hid hkb
      have HOC := Lib.hid hoc
      have HON := Lib.hid hon
      have HAL := Lib.hid hal
      have HKW := Lib.hid hkw
      have TZ7 := Lib.hid tz7
      by_cases hlt2 : k < kb
      · have hkt : k < tl.length := by omega
        obtain ⟨b3, o3, e3, l3, c3⟩ := TX6.out.at (k := k + 1) (by simpa using hkt)
        cases e3
        rw [List.getElem_cons_succ] at c3
        obtain ⟨x, hx⟩ : ∃ x, tl[k] = x := ⟨_, rfl⟩
        rw [hx] at c3
        have c4 : wr.cell? ⟨w.heap.size + 1, 1 + k, none⟩ = some (.string ⟨x.toArray⟩) := by
          have := hkb.cell c3 hwb
          rw [show 0 + (k + 1) = 1 + k by omega] at this
          exact this
        have LW : Lower (w.heap.size + 1) wr.heap.size := ⟨cell_lt c4⟩
        have htk : (tl.take (k + 1)).all wordB = wordB x := by
          rw [List.take_succ_eq_append_getElem hkt, List.all_append, HAL.out, hx]
          simp
        have htm : (tl.take (k + 1)).map strV = (tl.take k).map strV ++ [strV x] := by
          rw [List.take_succ_eq_append_getElem hkt, List.map_append, hx]
          rfl
        have q8 : ∀ w', _ := fun w' => disw_any ⟨x.toArray⟩ w'
        change ∀ w', Calls _ _ _ _ (fun e w'' => e = .returned (.bool (wordB x)) ∧ Kept w' w'') at q8
        cases hwx : wordB x
        case false =>
          rw [hwx] at q8 htk
          have hpn : pr = none := by
            rw [HPV3.out, if_neg]
            intro q
            have h2 : (tl.take (k + 1)).all wordB = true := by
              rw [List.all_eq_true] at q ⊢
              intro y hy
              exact q y (List.take_subset_take_left tl (by omega) hy)
            rw [htk] at h2
            cases h2
          have hsame : ∀ y, (ext wr y).setRow w.heap.size zerO = ext wr y := fun y => setRow_same (fr_kept TZ7.out (by (repeat (first | exact Kept.refl _ | assumption | refine Kept.alloc ?_ _ | refine Kept.ext ?_ _ | refine Kept.drew ?_ | refine Kept.drewN ?_ _))))
          have HPN := Lib.hid hpn
          have Q8 := Lib.hid q8
          clear hpn q8 htk htm hwx hx hkb hoc hon hal hkw tz7
          go_wp2_with (first | (go_at_call 109; (with_reducible refine (Q8.out _).mono ?_); rintro e w8 ⟨rfl, y8, rfl⟩) | (refine wpList_store_row rfl 122 (.tmp 2) (.tmp 71) rfl w.heap.size zerO rfl rfl _ _ (fr_kept TZ7.out (by (repeat (first | exact Kept.refl _ | assumption | refine Kept.alloc ?_ _ | refine Kept.ext ?_ _ | refine Kept.drew ?_ | refine Kept.drewN ?_ _)))) (by kernel_rfl) rfl (by simp [Value.oneCell', zerO]) ?_; rw [hsame]))
          refine bodyPost_ret (by simp only [results, Tryz.results61]; go_simp; rfl) rfl ?_
          exact HFIN.out _ (HKW.out.trans (by (repeat (first | exact Kept.refl _ | assumption | refine Kept.alloc ?_ _ | refine Kept.ext ?_ _ | refine Kept.drew ?_ | refine Kept.drewN ?_ _)))) HPN.out
        case true =>
          rw [hwx] at q8 htk
          have Q8 := Lib.hid q8
          have HTK := Lib.hid htk
          have HTM := Lib.hid htm
          obtain ⟨NA, ncp, rfl⟩ := own_slice2 hon
          have d4 : wr.cell? ⟨ob, 4, none⟩ = some (.slice NA k ncp) := cellOf hoc rfl
          clear q8 htk htm hwx hx hkb hoc hon hal hkw tz7
          go_wp2_with (first | (go_at_call 109; (with_reducible refine (Q8.out _).mono ?_); rintro e w8 ⟨rfl, y8, rfl⟩) | (at_builtin; refine wpList_append_lies _ rfl (.tmp 73) (.tmp 75) 22 rfl W6.heap.size 9 iS _ 1 16 Tryz.underlying22 HIS.out.1 HIS.out.2.1 HIS.out.2.2.1 HIS.out.2.2.2 rfl (by omega) _ _ _ rfl (owns_kept HON.out (by (repeat (first | exact Kept.refl _ | assumption | refine Kept.alloc ?_ _ | refine Kept.ext ?_ _ | refine Kept.drew ?_ | refine Kept.drewN ?_ _)))) _ 1 1 [.string ⟨x.toArray⟩] rfl rfl (lit_at _ _ (by go_simp)) (lit_one _ rfl) (by omega) (by unfold maxLen; omega) (by omega) (by rw [World.size_alloc]; exact Nat.le_trans HKB.out.size (Nat.le_trans (kept_le (by (repeat (first | exact Kept.refl _ | assumption | refine Kept.alloc ?_ _ | refine Kept.ext ?_ _ | refine Kept.drew ?_ | refine Kept.drewN ?_ _)))) (Nat.le_succ _))) _ rfl ?_; intro g1 cp1 w9 k1 k2 k3 k4; have o9 := own_keepsB (owns_kept HON.out (by (repeat (first | exact Kept.refl _ | assumption | refine Kept.alloc ?_ _ | refine Kept.ext ?_ _ | refine Kept.drew ?_ | refine Kept.drewN ?_ _)))) k2 (fr_kept HOC.out (by (repeat (first | exact Kept.refl _ | assumption | refine Kept.alloc ?_ _ | refine Kept.ext ?_ _ | refine Kept.drew ?_ | refine Kept.drewN ?_ _)))) (by decide); have d9 : w9.cell? ⟨ob, 4, none⟩ = some (.slice NA k ncp) := cellOf o9 rfl; have x9 : w9.frozen? ⟨ob, 4, none⟩ = false := frz9 o9; have LO9 : Lower ob w9.heap.size := ⟨cell_lt d9⟩; have O9 := Lib.hid o9; clear o9; have E1 := Lib.hid k2; have F1 := Lib.hid k1; have G1 := Lib.hid k3; clear k1 k2 k3 k4))
          go_roundw
          case rel =>
            have kb9 : KB (fun q => q = ob) W6 w9 := (HKB.out.on (by (repeat (first | exact Kept.refl _ | assumption | refine Kept.alloc ?_ _ | refine Kept.ext ?_ _ | refine Kept.drew ?_ | refine Kept.drewN ?_ _)))).grown E1.out fun q e hq => by
              have := (HON.out.lt q e).1
              omega
            refine ⟨k + 1, _, by omega, by go_num, kb9.setCell (p := ⟨ob, 4, none⟩) (fun _ => rfl) _, ord_four O9.out _, ?_, HTK.out⟩
            rw [HTM.out]
            refine (kb_cell9 w9 ob 4 _).owns F1.out fun q e1 e2 => ?_
            subst e2
            obtain ⟨cs9, t9⟩ := owns_ty9 F1.out e1
            rw [O9.out] at t9
            injection t9 with t9
            injection t9 with _ t9 _
            exact absurd t9 (by decide)
          case measure => simp [intOf]; omega
      · obtain rfl : k = kb := by omega
        have h7 := hkb.at H16.out hfo
        have g1 : wr.cell? ⟨fb, 1, none⟩ = some (.int .i64 k) := cellOf h7 rfl
        have LF : Lower fb wr.heap.size := ⟨cell_lt g1⟩
        clear hkb hoc hon hal hkw tz7 h7
        by_cases hkm : k = m + 1
        · exact absurd hlt (by omega)
        have hkm2 : k < m + 1 := by omega
        obtain ⟨W7, rfl⟩ : ∃ x, x = wr := ⟨_, rfl⟩
        obtain ⟨rs, hrs⟩ : ∃ x, tl.drop k = x := ⟨_, rfl⟩
        have hrl : rs.length = m + 1 - k := by rw [← hrs, List.length_drop, htl]
        obtain ⟨nn, hnn⟩ : ∃ x, m + 1 + 1 - (1 + k) = x := ⟨_, rfl⟩
        have hnr : rs.length = nn := by omega
        have hrx : ∀ j (hj : j < rs.length), ∃ (h2 : k + j < tl.length), tl[k + j] = rs[j] := fun j hj => ⟨by omega, by subst hrs; rw [List.getElem_drop]⟩
        have HRX := Lib.hid hrx
        have HRS := Lib.hid hrs
        obtain ⟨NA, ncp, rfl⟩ := own_slice2 HON.out
        clear hrs hrx hrl
        go_wp2_with fail
        simp only [hnn]
        have hnb : nn ≤ 1000001 := by omega
        have HNN := Lib.hid hnn
        have HNR := Lib.hid hnr
        have hkb2 := HKB.out
        have hlob2 : ob < W7.heap.size := (Array.getElem?_eq_some_iff.1 HOC.out).1
        clear hnn hnr hkb2
        go_loopw [12, 85] (fun v12 i wr => ∃ (j : Nat) (vM : Value) (vs : List Int), j ≤ nn ∧ i = .int .i64 j ∧ KB (fun q => q = ob) W7 wr ∧ wr.heap[ob]? = some (.cells (ordC ka k kc true (.slice NA k ncp) vM) 122 (0, 0)) ∧ wr.ownsRow W7.heap.size 3 1 vM j (vs.map (Value.int .i64)) ∧ vs.length = j ∧ numsW (rs.take j) = some vs) (fun _ i _ => nn - (intOf i).toNat)
        case atStart => exact ⟨0, _, [], Nat.zero_le _, rfl, KB.refl _ _, HOC.out, by simpa using World.ownsRow_nil _ _ _ _, rfl, rfl⟩
        case round =>
          obtain ⟨j, vM, vs, hj, rfl, hkc, hoc, hom, hvl, hnw⟩ := hrel
          have hkw2 : Kept w wr := KB.kept_new HKW.out hkc fun q hq e => by omega
          have tz7 := hkc.at TZ7.out hrb
          obtain ⟨u0, u1, u2, u3, u4, u5⟩ := zer_cells tz7
          have LZ : Lower w.heap.size wr.heap.size := ⟨cell_lt u0⟩
          have LO : Lower ob wr.heap.size := ⟨(Array.getElem?_eq_some_iff.1 hoc).1⟩
          have HKC := Lib.hid hkc
          have HOC2 := Lib.hid hoc
          have HOM := Lib.hid hom
          have HVL := Lib.hid hvl
          have HNW := Lib.hid hnw
          have HKW2 := Lib.hid hkw2
          have TZ8 := Lib.hid tz7
          by_cases hlt3 : j < nn
          · have hjr : j < rs.length := by rw [HNR.out]; exact hlt3
            obtain ⟨hkj, hxe⟩ := HRX.out j hjr
            obtain ⟨b3, o3, e3, l3, c3⟩ := TX6.out.at (k := k + j + 1) (by simpa using hkj)
            cases e3
            rw [List.getElem_cons_succ, hxe] at c3
            obtain ⟨x, hx⟩ : ∃ x, rs[j] = x := ⟨_, rfl⟩
            rw [hx] at c3
            have c4 : wr.cell? ⟨w.heap.size + 1, 1 + k + j, none⟩ = some (.string ⟨x.toArray⟩) := by
              have := hkc.cell (HKB.out.cell c3 hwb) hwb
              rw [show 0 + (k + j + 1) = 1 + k + j by omega] at this
              exact this
            have LW : Lower (w.heap.size + 1) wr.heap.size := ⟨cell_lt c4⟩
            have hxm : x ∈ rs := by rw [← hx]; exact List.getElem_mem hjr
            have hxl : x.length ≤ 1000000 := by
              refine HWD.out x ?_
              rw [← hx, ← hxe]
              exact List.getElem_mem hkj
            have q9 : ∀ w', Kept wr w' → _ := fun w' hk => sAtoi ⟨x.toArray⟩ w' (by rw [ba_size]; omega) (HL.out.on (hkw2.trans hk))
            change ∀ w', Kept wr w' → Calls _ _ _ _ (fun e w'' => ∃ v ev, e = .returned (.tuple #[.int .i64 v, ev]) ∧ Kept w' w'' ∧ I64 v ∧ ((ev = .nilIface ∧ Lib.atoiAll x = .ok v) ∨ ((∃ t p, ev = .iface t p) ∧ ∀ u, Lib.atoiAll x ≠ .ok u))) at q9
            have hsame : ∀ W, Kept wr W → W.setRow w.heap.size zerO = W := fun W hk => setRow_same (fr_kept TZ8.out hk)
            cases hnx : numW x with
            | none =>
              have hpn : pr = none := by
                rw [HPV3.out]
                split
                · rw [HRS.out, numsW_bad hxm hnx]
                  rfl
                · rfl
              have HPN := Lib.hid hpn
              have HSM := Lib.hid hsame
              by_cases hat : ∃ u, Lib.atoiAll x = .ok u
              · obtain ⟨u, hu⟩ := hat
                have q9 : ∀ w', Kept wr w' → Calls Tryz.prog 110 #[.string ⟨x.toArray⟩] w' (fun e w'' => e = .returned (.tuple #[.int .i64 u, .nilIface]) ∧ Kept w' w'') := fun w' hk => (q9 w' hk).mono fun e w'' ⟨v, ev, e1, e2, e3, e4⟩ => by
                  rcases e4 with ⟨rfl, e5⟩ | ⟨-, e5⟩
                  · rw [hu] at e5
                    injection e5 with e5
                    subst e5
                    exact ⟨e1, e2⟩
                  · exact absurd hu (e5 u)
                have hub := Lib.atoiAll_bounds hu
                have q10 : ∀ w', Kept wr w' → _ := fun w' hk => sItoa u w' (by omega) (HL.out.on (hkw2.trans hk))
                obtain ⟨z, hz⟩ : ∃ z, Lib.itoa u = z := ⟨_, rfl⟩
                have hbz : z = x → u < -1000 ∨ 1000 < u := fun e => by
                  rcases Int.lt_or_le u (-1000) with q | q
                  · exact .inl q
                  · rcases Int.lt_or_le 1000 u with q' | q'
                    · exact .inr q'
                    · have := (numW_iff x u).2 ⟨by rw [hz, e], q, q'⟩
                      rw [hnx] at this
                      cases this
                rw [hz] at q10
                have Q9 := Lib.hid q9
                have Q10 := Lib.hid q10
                clear q9 q10 hpn hnx hxm hx hxe hkj hjr hsame hub hz hkc hoc hom hvl hnw hkw2 tz7 hu
                by_cases hzx : z = x
                · subst hzx
                  rcases hbz rfl with hb | hb
                  all_goals (
                    go_wp2_with (first | (go_at_call 110; (with_reducible refine (Q9.out _ (by (repeat (first | exact Kept.refl _ | assumption | refine Kept.alloc ?_ _ | refine Kept.ext ?_ _ | refine Kept.drew ?_ | refine Kept.drewN ?_ _)))).mono ?_); rintro e w8 ⟨rfl, y8, rfl⟩) | (go_at_call 80; (with_reducible refine (Q10.out _ (by (repeat (first | exact Kept.refl _ | assumption | refine Kept.alloc ?_ _ | refine Kept.ext ?_ _ | refine Kept.drew ?_ | refine Kept.drewN ?_ _)))).mono ?_); rintro e w8 ⟨rfl, y9, rfl⟩) | (refine wpList_store_row rfl 122 (.tmp 2) (.tmp 110) rfl w.heap.size zerO rfl rfl _ _ (fr_kept TZ8.out (by (repeat (first | exact Kept.refl _ | assumption | refine Kept.alloc ?_ _ | refine Kept.ext ?_ _ | refine Kept.drew ?_ | refine Kept.drewN ?_ _)))) (by kernel_rfl) rfl (by simp [Value.oneCell', zerO]) ?_; rw [HSM.out _ (by (repeat (first | exact Kept.refl _ | assumption | refine Kept.alloc ?_ _ | refine Kept.ext ?_ _ | refine Kept.drew ?_ | refine Kept.drewN ?_ _)))]))
                    refine bodyPost_ret (by simp only [results, Tryz.results61]; go_simp; rfl) rfl ?_
                    exact HFIN.out _ (HKW2.out.trans (by (repeat (first | exact Kept.refl _ | assumption | refine Kept.alloc ?_ _ | refine Kept.ext ?_ _ | refine Kept.drew ?_ | refine Kept.drewN ?_ _)))) HPN.out)
                · have z1 : (z == x) = false := beq_false_of_ne hzx
                  have z2 : (z != x) = true := by simpa using hzx
                  have z3 : decide (z = x) = false := decide_eq_false hzx
                  clear hbz
                  go_wp2_with (first | (go_at_call 110; (with_reducible refine (Q9.out _ (by (repeat (first | exact Kept.refl _ | assumption | refine Kept.alloc ?_ _ | refine Kept.ext ?_ _ | refine Kept.drew ?_ | refine Kept.drewN ?_ _)))).mono ?_); rintro e w8 ⟨rfl, y8, rfl⟩) | (go_at_call 80; (with_reducible refine (Q10.out _ (by (repeat (first | exact Kept.refl _ | assumption | refine Kept.alloc ?_ _ | refine Kept.ext ?_ _ | refine Kept.drew ?_ | refine Kept.drewN ?_ _)))).mono ?_); rintro e w8 ⟨rfl, y9, rfl⟩) | (refine wpList_store_row rfl 122 (.tmp 2) (.tmp 110) rfl w.heap.size zerO rfl rfl _ _ (fr_kept TZ8.out (by (repeat (first | exact Kept.refl _ | assumption | refine Kept.alloc ?_ _ | refine Kept.ext ?_ _ | refine Kept.drew ?_ | refine Kept.drewN ?_ _)))) (by kernel_rfl) rfl (by simp [Value.oneCell', zerO]) ?_; rw [HSM.out _ (by (repeat (first | exact Kept.refl _ | assumption | refine Kept.alloc ?_ _ | refine Kept.ext ?_ _ | refine Kept.drew ?_ | refine Kept.drewN ?_ _)))]))
                  refine bodyPost_ret (by simp only [results, Tryz.results61]; go_simp; rfl) rfl ?_
                  exact HFIN.out _ (HKW2.out.trans (by (repeat (first | exact Kept.refl _ | assumption | refine Kept.alloc ?_ _ | refine Kept.ext ?_ _ | refine Kept.drew ?_ | refine Kept.drewN ?_ _)))) HPN.out
              · have q9 : ∀ w', Kept wr w' → Calls Tryz.prog 110 #[.string ⟨x.toArray⟩] w' (fun e w'' => ∃ v t p, e = .returned (.tuple #[.int .i64 v, .iface t p]) ∧ Kept w' w'') := fun w' hk => (q9 w' hk).mono fun e w'' ⟨v, ev, e1, e2, e3, e4⟩ => by
                  rcases e4 with ⟨rfl, e5⟩ | ⟨⟨t, p, rfl⟩, -⟩
                  · exact absurd ⟨v, e5⟩ hat
                  · exact ⟨v, t, p, e1, e2⟩
                have Q9 := Lib.hid q9
                clear q9 hpn hnx hxm hx hxe hkj hjr hsame hkc hoc hom hvl hnw hkw2 tz7 hat
                go_wp2_with (first | (go_at_call 110; (with_reducible refine (Q9.out _ (by (repeat (first | exact Kept.refl _ | assumption | refine Kept.alloc ?_ _ | refine Kept.ext ?_ _ | refine Kept.drew ?_ | refine Kept.drewN ?_ _)))).mono ?_); rintro e w8 ⟨v9, t9, p9, rfl, y8, rfl⟩) | (refine wpList_store_row rfl 122 (.tmp 2) (.tmp 110) rfl w.heap.size zerO rfl rfl _ _ (fr_kept TZ8.out (by (repeat (first | exact Kept.refl _ | assumption | refine Kept.alloc ?_ _ | refine Kept.ext ?_ _ | refine Kept.drew ?_ | refine Kept.drewN ?_ _)))) (by kernel_rfl) rfl (by simp [Value.oneCell', zerO]) ?_; rw [HSM.out _ (by (repeat (first | exact Kept.refl _ | assumption | refine Kept.alloc ?_ _ | refine Kept.ext ?_ _ | refine Kept.drew ?_ | refine Kept.drewN ?_ _)))]))
                refine bodyPost_ret (by simp only [results, Tryz.results61]; go_simp; rfl) rfl ?_
                exact HFIN.out _ (HKW2.out.trans (by (repeat (first | exact Kept.refl _ | assumption | refine Kept.alloc ?_ _ | refine Kept.ext ?_ _ | refine Kept.drew ?_ | refine Kept.drewN ?_ _)))) HPN.out
            | some u =>
              obtain ⟨i1, i2, i3⟩ := (numW_iff x u).1 hnx
              have hu : Lib.atoiAll x = .ok u := by rw [i1]; exact atoi_itoa ⟨by omega, by omega⟩
              have q9 : ∀ w', Kept wr w' → Calls Tryz.prog 110 #[.string ⟨x.toArray⟩] w' (fun e w'' => e = .returned (.tuple #[.int .i64 u, .nilIface]) ∧ Kept w' w'') := fun w' hk => (q9 w' hk).mono fun e w'' ⟨v, ev, e1, e2, e3, e4⟩ => by
                rcases e4 with ⟨rfl, e5⟩ | ⟨-, e5⟩
                · rw [hu] at e5
                  injection e5 with e5
                  subst e5
                  exact ⟨e1, e2⟩
                · exact absurd hu (e5 u)
              have q10 : ∀ w', Kept wr w' → _ := fun w' hk => sItoa u w' (by omega) (HL.out.on (hkw2.trans hk))
              rw [← i1] at q10
              have hnw2 : numsW (rs.take (j + 1)) = some (vs ++ [u]) := by
                rw [List.take_succ_eq_append_getElem hjr, hx]
                exact numsW_snoc hnw hnx
              have HNW2 := Lib.hid hnw2
              have Q9 := Lib.hid q9
              have Q10 := Lib.hid q10
              obtain ⟨MA, mcp, rfl⟩ := own_slice2 hom
              have d5 : wr.cell? ⟨ob, 5, none⟩ = some (.slice MA j mcp) := cellOf hoc rfl
              clear q9 q10 hnx hxm hx hxe hkj hjr hsame hkc hoc hom hvl hnw hkw2 tz7 hu i1 hnw2
              go_wp2_with (first | (go_at_call 110; (with_reducible refine (Q9.out _ (by (repeat (first | exact Kept.refl _ | assumption | refine Kept.alloc ?_ _ | refine Kept.ext ?_ _ | refine Kept.drew ?_ | refine Kept.drewN ?_ _)))).mono ?_); rintro e w8 ⟨rfl, y8, rfl⟩) | (go_at_call 80; (with_reducible refine (Q10.out _ (by (repeat (first | exact Kept.refl _ | assumption | refine Kept.alloc ?_ _ | refine Kept.ext ?_ _ | refine Kept.drew ?_ | refine Kept.drewN ?_ _)))).mono ?_); rintro e w8 ⟨rfl, y9, rfl⟩) | (at_builtin; refine wpList_append_lies _ rfl (.tmp 112) (.tmp 114) 90 rfl W7.heap.size 3 iN _ 1 8 Tryz.underlying90 HIN.out.1 HIN.out.2.1 HIN.out.2.2.1 HIN.out.2.2.2 rfl (by omega) _ _ _ rfl (owns_kept HOM.out (by (repeat (first | exact Kept.refl _ | assumption | refine Kept.alloc ?_ _ | refine Kept.ext ?_ _ | refine Kept.drew ?_ | refine Kept.drewN ?_ _)))) _ 1 1 [.int .i64 u] rfl rfl (lit_at _ _ (by go_simp)) (lit_one _ rfl) (by omega) (by unfold maxLen; omega) (by omega) (by rw [World.size_alloc]; exact Nat.le_trans HKC.out.size (Nat.le_trans (kept_le (by (repeat (first | exact Kept.refl _ | assumption | refine Kept.alloc ?_ _ | refine Kept.ext ?_ _ | refine Kept.drew ?_ | refine Kept.drewN ?_ _)))) (Nat.le_succ _))) _ rfl ?_; intro g1 cp1 w9 k1 k2 k3 k4; have o9 := own_keepsB (owns_kept HOM.out (by (repeat (first | exact Kept.refl _ | assumption | refine Kept.alloc ?_ _ | refine Kept.ext ?_ _ | refine Kept.drew ?_ | refine Kept.drewN ?_ _)))) k2 (fr_kept HOC2.out (by (repeat (first | exact Kept.refl _ | assumption | refine Kept.alloc ?_ _ | refine Kept.ext ?_ _ | refine Kept.drew ?_ | refine Kept.drewN ?_ _)))) (by decide); have d9 : w9.cell? ⟨ob, 5, none⟩ = some (.slice MA j mcp) := cellOf o9 rfl; have x9 : w9.frozen? ⟨ob, 5, none⟩ = false := frz9 o9; have LO9 : Lower ob w9.heap.size := ⟨cell_lt d9⟩; have O9 := Lib.hid o9; clear o9; have E1 := Lib.hid k2; have F1 := Lib.hid k1; have G1 := Lib.hid k3; clear k1 k2 k3 k4))
              go_roundw
              case rel =>
                have kb9 : KB (fun q => q = ob) W7 w9 := (HKC.out.on (by (repeat (first | exact Kept.refl _ | assumption | refine Kept.alloc ?_ _ | refine Kept.ext ?_ _ | refine Kept.drew ?_ | refine Kept.drewN ?_ _)))).grown E1.out fun q e hq => by
                  have := (HOM.out.lt q e).1
                  omega
                refine ⟨j + 1, _, vs ++ [u], by omega, by go_num, kb9.setCell (p := ⟨ob, 5, none⟩) (fun _ => rfl) _, ord_five O9.out _, ?_, by rw [List.length_append, HVL.out]; rfl, HNW2.out⟩
                rw [List.map_append]
                refine (kb_cell9 w9 ob 5 _).owns F1.out fun q e1 e2 => ?_
                subst e2
                obtain ⟨cs9, t9⟩ := owns_ty9 F1.out e1
                rw [O9.out] at t9
                injection t9 with t9
                injection t9 with _ t9 _
                exact absurd t9 (by decide)
              case measure => simp [intOf]; omega
          · obtain rfl : j = nn := by omega
            obtain ⟨MA, mcp, rfl⟩ := own_slice2 hom
            obtain ⟨d0, d1, d2, d3, d4, d5⟩ := ord_cells hoc
            clear hkc hoc hom hvl hnw hkw2 tz7
            have hrow := setRow_heap _ _ _ (ordC ka k kc true (.slice NA k ncp) (.slice MA j mcp)) _ _ TZ8.out
            obtain ⟨r0, r1, r2, r3, r4, r5⟩ := ord_cells hrow
            clear hrow
            go_wp2_with (refine wpList_store_row rfl 122 (.tmp 2) (.tmp 118) rfl w.heap.size (ordC ka k kc true (.slice NA k ncp) (.slice MA j mcp)) rfl rfl _ _ TZ8.out (by kernel_rfl) rfl (by simp [Value.oneCell', ordC]) ?_)
            refine bodyPost_ret (by simp only [results, Tryz.results61]; go_simp; rfl) rfl ?_
            have hprs : parseB l = some ⟨ka, tl.take k, vs⟩ := by
              rw [HPR.out, HPV3.out, if_pos HAL.out, HRS.out]
              have := HNW.out
              rw [List.take_of_length_le (by rw [HNR.out]; exact Nat.le_refl _)] at this
              rw [this]
              rfl
            refine ⟨row_kept2 HKW2.out (Nat.le_refl _), ?_⟩
            rw [hprs]
            have hk9 : (tl.take k).length = k := by rw [List.length_take]; omega
            have ks : KB (fun q => q = w.heap.size) wr (wr.setRow w.heap.size (ordC ka k kc true (.slice NA k ncp) (.slice MA j mcp))) := (KB.refl _ wr).grown (grown_setRow _ _ _) (fun q e _ => by first | exact (Option.some.inj e).symm | exact Option.some.inj e)
            have hlt6 : w.heap.size < W6.heap.size := by
              have := (Array.getElem?_eq_some_iff.1 TZ6.out).1
              exact this
            have hN1 := HKC.out.owns HON.out (fun q e1 e2 => by
              subst e2
              obtain ⟨cs9, t9⟩ := owns_ty9 HON.out e1
              rw [HOC.out] at t9
              injection t9 with t9
              injection t9 with _ t9 _
              exact absurd t9 (by decide))
            have hN2 := ks.owns hN1 (fun q e1 e2 => by
              have := (hN1.lt q e1).1
              omega)
            have hM2 := ks.owns HOM.out (fun q e1 e2 => by
              have := (HOM.out.lt q e1).1
              have := HKB.out.size
              omega)
            have hM3 : RowsAt (wr.setRow w.heap.size (ordC ka k kc true (.slice NA k ncp) (.slice MA j mcp))) MA j 1 (fun q _ => vs.getD q 0) := by
              rw [ints_rowC, HVL.out] at hM2
              refine rows_of_owns hM2 fun q hq _ _ => ?_
              have hq2 : q < vs.length := by rw [HVL.out]; exact hq
              have := numsW_bd HNW.out vs[q] (List.getElem_mem hq2)
              have e9 : vs.getD q 0 = vs[q] := by simp [hq2]
              show I64 (vs.getD q 0)
              rw [e9]
              unfold I64
              omega
            refine ⟨(k : Int), kc, true, NA, MA, ncp, mcp, ?_, owns_tx hN2, ?_⟩
            · show _ = Ending.returned (.tuple #[.agg #[.int .i64 ka, .int .i64 (k : Int), .int .i64 kc, .bool true, .slice NA (tl.take k).length ncp, .slice MA vs.length mcp], .bool true])
              rw [hk9, HVL.out]
            · show RowsAt _ MA vs.length 1 _
              rw [HVL.out]
              exact hM3
  · have l2 : ¬ (1 : Int) + kb + kc < ((m + 1 : Nat) : Int) + 1 := by omega
    clear hgm
    go_wp2_with (first | (go_at_call 49; (with_reducible refine (Q3.out _).mono ?_); rintro e w3 ⟨rfl, y3, rfl⟩))
    obtain ⟨ob, hob⟩ : ∃ x, adv w1.heap.size y3.obs.size = x := ⟨_, rfl⟩
    have hob1 : w1.heap.size ≤ ob := by rw [← hob]; exact adv_le _ _
    simp only [hob, Nat.add_sub_cancel_left]
    refine wp_gen (fun W6 hW6 => ?_)
    have k16 : Kept w1 W6 := by rw [hW6]; (repeat (first | exact Kept.refl _ | assumption | refine Kept.alloc ?_ _ | refine Kept.ext ?_ _ | refine Kept.drew ?_ | refine Kept.drewN ?_ _))
    have k6 := KW1.out.trans k16
    have o6 : W6.heap[ob]? = some (.cells (ordC ka kb kc km (.slice none 0 0) (.slice none 0 0)) 122 (0, 0)) := by
      rw [hW6, ← hob]
      exact new_at2 _ (by simp only [ext_size])
    have tz6 := fr_kept TZ1.out k16
    have h16 := fr_kept H1.out k16
    have tx6 := TX1.out.of k16
    have hrb : w.heap.size ≠ ob := by
      have := (Array.getElem?_eq_some_iff.1 TZ1.out).1
      omega
    have hwb : w.heap.size + 1 ≠ ob := by
      have h3 := TX1.out.at (k := 0) (by simp)
      obtain ⟨b3, o3, e3, l3, -⟩ := h3
      cases e3
      omega
    have hfo : fb ≠ ob := by
      have := (Array.getElem?_eq_some_iff.1 H1.out).1
      omega
    have hlob : ob < W6.heap.size := (Array.getElem?_eq_some_iff.1 o6).1
    have K6 := Lib.hid k6
    have O6 := Lib.hid o6
    have TZ6 := Lib.hid tz6
    have H16 := Lib.hid h16
    have TX6 := Lib.hid tx6
    have hwob : w.heap.size ≤ ob := Nat.le_trans KW1.out.below.size hob1
    obtain ⟨iS, hiS, hzS⟩ := Option.map_eq_some_iff.1 info_St
    simp only [Prod.mk.injEq] at hzS
    have HIS := Lib.hid (And.intro hiS hzS)
    obtain ⟨iN, hiN, hzN⟩ := Option.map_eq_some_iff.1 info_In
    simp only [Prod.mk.injEq] at hzN
    have HIN := Lib.hid (And.intro hiN hzN)
    clear hiS hzS hiN hzN k16 k6 o6 tz6 h16 tx6 hW6 KW1 H1 TZ1 TX1 g0 g1 g2 g3 u0 u1 u2 u3 u4 u5 LF LZ f0 hob hob1
    have hfin : ∀ w', Kept w w' → pr = none → ParO w w' (.returned (.tuple #[.agg #[.int .i64 0, .int .i64 0, .int .i64 0, .bool false, .slice none 0 0, .slice none 0 0], .bool false])) l := fun w' hk hq => ParO.no (HPR.out.trans hq) hk
    have HFIN := Lib.hid hfin
    clear hfin
    go_loopw [10, 64] (fun v10 i wr => ∃ (k : Nat) (vN : Value), k ≤ kb ∧ i = .int .i64 k ∧ KB (fun q => q = ob) W6 wr ∧ wr.heap[ob]? = some (.cells (ordC ka kb kc km vN (.slice none 0 0)) 122 (0, 0)) ∧ wr.ownsRow W6.heap.size 9 1 vN k ((tl.take k).map strV) ∧ (tl.take k).all wordB = true) (fun _ i _ => kb - (intOf i).toNat)
    case atStart => exact ⟨0, _, Nat.zero_le _, rfl, KB.refl _ _, O6.out, by simpa using World.ownsRow_nil _ _ _ _, by simp⟩
    case round =>
      obtain ⟨k, vN, hk, rfl, hkb, hoc, hon, hal⟩ := hrel
      have hkw : Kept w wr := KB.kept_new K6.out hkb fun q hq e => by omega
      have tz7 := hkb.at TZ6.out hrb
      obtain ⟨u0, u1, u2, u3, u4, u5⟩ := zer_cells tz7
      have LZ : Lower w.heap.size wr.heap.size := ⟨cell_lt u0⟩
      have LO : Lower ob wr.heap.size := ⟨(Array.getElem?_eq_some_iff.1 hoc).1⟩
      have HKB := Lib.hid hkb
      have HOC := Lib.hid hoc
      have HON := Lib.hid hon
      have HAL := Lib.hid hal
      have HKW := Lib.hid hkw
      have TZ7 := Lib.hid tz7
      by_cases hlt2 : k < kb
      · have hkt : k < tl.length := by omega
        obtain ⟨b3, o3, e3, l3, c3⟩ := TX6.out.at (k := k + 1) (by simpa using hkt)
        cases e3
        rw [List.getElem_cons_succ] at c3
        obtain ⟨x, hx⟩ : ∃ x, tl[k] = x := ⟨_, rfl⟩
        rw [hx] at c3
        have c4 : wr.cell? ⟨w.heap.size + 1, 1 + k, none⟩ = some (.string ⟨x.toArray⟩) := by
          have := hkb.cell c3 hwb
          rw [show 0 + (k + 1) = 1 + k by omega] at this
          exact this
        have LW : Lower (w.heap.size + 1) wr.heap.size := ⟨cell_lt c4⟩
        have htk : (tl.take (k + 1)).all wordB = wordB x := by
          rw [List.take_succ_eq_append_getElem hkt, List.all_append, HAL.out, hx]
          simp
        have htm : (tl.take (k + 1)).map strV = (tl.take k).map strV ++ [strV x] := by
          rw [List.take_succ_eq_append_getElem hkt, List.map_append, hx]
          rfl
        have q8 : ∀ w', _ := fun w' => disw_any ⟨x.toArray⟩ w'
        change ∀ w', Calls _ _ _ _ (fun e w'' => e = .returned (.bool (wordB x)) ∧ Kept w' w'') at q8
        cases hwx : wordB x
        case false =>
          rw [hwx] at q8 htk
          have hpn : pr = none := by
            rw [HPV3.out, if_neg]
            intro q
            have h2 : (tl.take (k + 1)).all wordB = true := by
              rw [List.all_eq_true] at q ⊢
              intro y hy
              exact q y (List.take_subset_take_left tl (by omega) hy)
            rw [htk] at h2
            cases h2
          have hsame : ∀ y, (ext wr y).setRow w.heap.size zerO = ext wr y := fun y => setRow_same (fr_kept TZ7.out (by (repeat (first | exact Kept.refl _ | assumption | refine Kept.alloc ?_ _ | refine Kept.ext ?_ _ | refine Kept.drew ?_ | refine Kept.drewN ?_ _))))
          have HPN := Lib.hid hpn
          have Q8 := Lib.hid q8
          clear hpn q8 htk htm hwx hx hkb hoc hon hal hkw tz7
          go_wp2_with (first | (go_at_call 109; (with_reducible refine (Q8.out _).mono ?_); rintro e w8 ⟨rfl, y8, rfl⟩) | (refine wpList_store_row rfl 122 (.tmp 2) (.tmp 71) rfl w.heap.size zerO rfl rfl _ _ (fr_kept TZ7.out (by (repeat (first | exact Kept.refl _ | assumption | refine Kept.alloc ?_ _ | refine Kept.ext ?_ _ | refine Kept.drew ?_ | refine Kept.drewN ?_ _)))) (by kernel_rfl) rfl (by simp [Value.oneCell', zerO]) ?_; rw [hsame]))
          refine bodyPost_ret (by simp only [results, Tryz.results61]; go_simp; rfl) rfl ?_
          exact HFIN.out _ (HKW.out.trans (by (repeat (first | exact Kept.refl _ | assumption | refine Kept.alloc ?_ _ | refine Kept.ext ?_ _ | refine Kept.drew ?_ | refine Kept.drewN ?_ _)))) HPN.out
        case true =>
          rw [hwx] at q8 htk
          have Q8 := Lib.hid q8
          have HTK := Lib.hid htk
          have HTM := Lib.hid htm
          obtain ⟨NA, ncp, rfl⟩ := own_slice2 hon
          have d4 : wr.cell? ⟨ob, 4, none⟩ = some (.slice NA k ncp) := cellOf hoc rfl
          clear q8 htk htm hwx hx hkb hoc hon hal hkw tz7
          go_wp2_with (first | (go_at_call 109; (with_reducible refine (Q8.out _).mono ?_); rintro e w8 ⟨rfl, y8, rfl⟩) | (at_builtin; refine wpList_append_lies _ rfl (.tmp 73) (.tmp 75) 22 rfl W6.heap.size 9 iS _ 1 16 Tryz.underlying22 HIS.out.1 HIS.out.2.1 HIS.out.2.2.1 HIS.out.2.2.2 rfl (by omega) _ _ _ rfl (owns_kept HON.out (by (repeat (first | exact Kept.refl _ | assumption | refine Kept.alloc ?_ _ | refine Kept.ext ?_ _ | refine Kept.drew ?_ | refine Kept.drewN ?_ _)))) _ 1 1 [.string ⟨x.toArray⟩] rfl rfl (lit_at _ _ (by go_simp)) (lit_one _ rfl) (by omega) (by unfold maxLen; omega) (by omega) (by rw [World.size_alloc]; exact Nat.le_trans HKB.out.size (Nat.le_trans (kept_le (by (repeat (first | exact Kept.refl _ | assumption | refine Kept.alloc ?_ _ | refine Kept.ext ?_ _ | refine Kept.drew ?_ | refine Kept.drewN ?_ _)))) (Nat.le_succ _))) _ rfl ?_; intro g1 cp1 w9 k1 k2 k3 k4; have o9 := own_keepsB (owns_kept HON.out (by (repeat (first | exact Kept.refl _ | assumption | refine Kept.alloc ?_ _ | refine Kept.ext ?_ _ | refine Kept.drew ?_ | refine Kept.drewN ?_ _)))) k2 (fr_kept HOC.out (by (repeat (first | exact Kept.refl _ | assumption | refine Kept.alloc ?_ _ | refine Kept.ext ?_ _ | refine Kept.drew ?_ | refine Kept.drewN ?_ _)))) (by decide); have d9 : w9.cell? ⟨ob, 4, none⟩ = some (.slice NA k ncp) := cellOf o9 rfl; have x9 : w9.frozen? ⟨ob, 4, none⟩ = false := frz9 o9; have LO9 : Lower ob w9.heap.size := ⟨cell_lt d9⟩; have O9 := Lib.hid o9; clear o9; have E1 := Lib.hid k2; have F1 := Lib.hid k1; have G1 := Lib.hid k3; clear k1 k2 k3 k4))
          go_roundw
          case rel =>
            have kb9 : KB (fun q => q = ob) W6 w9 := (HKB.out.on (by (repeat (first | exact Kept.refl _ | assumption | refine Kept.alloc ?_ _ | refine Kept.ext ?_ _ | refine Kept.drew ?_ | refine Kept.drewN ?_ _)))).grown E1.out fun q e hq => by
              have := (HON.out.lt q e).1
              omega
            refine ⟨k + 1, _, by omega, by go_num, kb9.setCell (p := ⟨ob, 4, none⟩) (fun _ => rfl) _, ord_four O9.out _, ?_, HTK.out⟩
            rw [HTM.out]
            refine (kb_cell9 w9 ob 4 _).owns F1.out fun q e1 e2 => ?_
            subst e2
            obtain ⟨cs9, t9⟩ := owns_ty9 F1.out e1
            rw [O9.out] at t9
            injection t9 with t9
            injection t9 with _ t9 _
            exact absurd t9 (by decide)
          case measure => simp [intOf]; omega
      · obtain rfl : k = kb := by omega
        have h7 := hkb.at H16.out hfo
        have g1 : wr.cell? ⟨fb, 1, none⟩ = some (.int .i64 k) := cellOf h7 rfl
        have LF : Lower fb wr.heap.size := ⟨cell_lt g1⟩
        clear hkb hoc hon hal hkw tz7 h7
        by_cases hkm : k = m + 1
        · obtain rfl : kc = 0 := by omega
          have hdn : tl.drop k = [] := List.drop_eq_nil_iff.2 (by omega)
          obtain ⟨NA, ncp, rfl⟩ := own_slice2 HON.out
          have HDN := Lib.hid hdn
          have Hkm := Lib.hid hkm
          clear hdn hkm
          have e0 : k + 1 - (1 + k) = 0 := by omega
          simp only [← Hkm.out]
          go_wp2_with fail
          obtain ⟨d0, d1, d2, d3, d4, d5⟩ := ord_cells HOC.out
          have hrow := setRow_heap _ _ _ (ordC ka k (0 : Int) km (.slice NA k ncp) (.slice none 0 0)) _ _ TZ7.out
          obtain ⟨r0, r1, r2, r3, r4, r5⟩ := ord_cells hrow
          clear hrow
          try simp only [e0]
          refine wp_loop_rounds 1 ?_
          rw [rounds_succ]
          go_wp2_with (refine wpList_store_row rfl 122 (.tmp 2) (.tmp 118) rfl w.heap.size (ordC ka k (0 : Int) km (.slice NA k ncp) (.slice none 0 0)) rfl rfl _ _ TZ7.out (by kernel_rfl) rfl (by simp [Value.oneCell', ordC]) ?_)
          refine bodyPost_ret (by simp only [results, Tryz.results61]; go_simp; rfl) rfl ?_
          have hprs : parseB l = some ⟨ka, tl.take k, []⟩ := by
            rw [HPR.out, HPV3.out, if_pos HAL.out, HDN.out]
            rfl
          refine ⟨row_kept2 HKW.out (Nat.le_refl _), ?_⟩
          rw [hprs]
          have hk9 : (tl.take k).length = k := by rw [List.length_take, htl]; have := Hkm.out; omega
          have ks : KB (fun q => q = w.heap.size) wr (wr.setRow w.heap.size (ordC ka k (0 : Int) km (.slice NA k ncp) (.slice none 0 0))) := (KB.refl _ wr).grown (grown_setRow _ _ _) (fun q e _ => by first | exact (Option.some.inj e).symm | exact Option.some.inj e)
          have hlt6 : w.heap.size < W6.heap.size := (Array.getElem?_eq_some_iff.1 TZ6.out).1
          have hN2 := ks.owns HON.out (fun q e1 e2 => by
            have := (HON.out.lt q e1).1
            omega)
          refine ⟨(k : Int), 0, km, NA, none, ncp, 0, ?_, owns_tx hN2, fun h0 => absurd h0 (by simp)⟩
          show _ = Ending.returned (.tuple #[.agg #[.int .i64 ka, .int .i64 k, .int .i64 0, .bool km, .slice NA (tl.take k).length ncp, .slice none 0 0], .bool true])
          rw [hk9]
        have hkm2 : k < m + 1 := by omega
        obtain ⟨W7, rfl⟩ : ∃ x, x = wr := ⟨_, rfl⟩
        obtain ⟨rs, hrs⟩ : ∃ x, tl.drop k = x := ⟨_, rfl⟩
        have hrl : rs.length = m + 1 - k := by rw [← hrs, List.length_drop, htl]
        obtain ⟨nn, hnn⟩ : ∃ x, m + 1 + 1 - (1 + k) = x := ⟨_, rfl⟩
        have hnr : rs.length = nn := by omega
        have hrx : ∀ j (hj : j < rs.length), ∃ (h2 : k + j < tl.length), tl[k + j] = rs[j] := fun j hj => ⟨by omega, by subst hrs; rw [List.getElem_drop]⟩
        have HRX := Lib.hid hrx
        have HRS := Lib.hid hrs
        obtain ⟨NA, ncp, rfl⟩ := own_slice2 HON.out
        clear hrs hrx hrl
        go_wp2_with fail
        simp only [hnn]
        have hnb : nn ≤ 1000001 := by omega
        have HNN := Lib.hid hnn
        have HNR := Lib.hid hnr
        have hkb2 := HKB.out
        have hlob2 : ob < W7.heap.size := (Array.getElem?_eq_some_iff.1 HOC.out).1
        clear hnn hnr hkb2
        go_loopw [12, 85] (fun v12 i wr => ∃ (j : Nat) (vM : Value) (vs : List Int), j ≤ nn ∧ i = .int .i64 j ∧ KB (fun q => q = ob) W7 wr ∧ wr.heap[ob]? = some (.cells (ordC ka k kc km (.slice NA k ncp) vM) 122 (0, 0)) ∧ wr.ownsRow W7.heap.size 3 1 vM j (vs.map (Value.int .i64)) ∧ vs.length = j ∧ numsW (rs.take j) = some vs) (fun _ i _ => nn - (intOf i).toNat)
        case atStart => exact ⟨0, _, [], Nat.zero_le _, rfl, KB.refl _ _, HOC.out, by simpa using World.ownsRow_nil _ _ _ _, rfl, rfl⟩
        case round =>
          obtain ⟨j, vM, vs, hj, rfl, hkc, hoc, hom, hvl, hnw⟩ := hrel
          have hkw2 : Kept w wr := KB.kept_new HKW.out hkc fun q hq e => by omega
          have tz7 := hkc.at TZ7.out hrb
          obtain ⟨u0, u1, u2, u3, u4, u5⟩ := zer_cells tz7
          have LZ : Lower w.heap.size wr.heap.size := ⟨cell_lt u0⟩
          have LO : Lower ob wr.heap.size := ⟨(Array.getElem?_eq_some_iff.1 hoc).1⟩
          have HKC := Lib.hid hkc
          have HOC2 := Lib.hid hoc
          have HOM := Lib.hid hom
          have HVL := Lib.hid hvl
          have HNW := Lib.hid hnw
          have HKW2 := Lib.hid hkw2
          have TZ8 := Lib.hid tz7
          by_cases hlt3 : j < nn
          · have hjr : j < rs.length := by rw [HNR.out]; exact hlt3
            obtain ⟨hkj, hxe⟩ := HRX.out j hjr
            obtain ⟨b3, o3, e3, l3, c3⟩ := TX6.out.at (k := k + j + 1) (by simpa using hkj)
            cases e3
            rw [List.getElem_cons_succ, hxe] at c3
            obtain ⟨x, hx⟩ : ∃ x, rs[j] = x := ⟨_, rfl⟩
            rw [hx] at c3
            have c4 : wr.cell? ⟨w.heap.size + 1, 1 + k + j, none⟩ = some (.string ⟨x.toArray⟩) := by
              have := hkc.cell (HKB.out.cell c3 hwb) hwb
              rw [show 0 + (k + j + 1) = 1 + k + j by omega] at this
              exact this
            have LW : Lower (w.heap.size + 1) wr.heap.size := ⟨cell_lt c4⟩
            have hxm : x ∈ rs := by rw [← hx]; exact List.getElem_mem hjr
            have hxl : x.length ≤ 1000000 := by
              refine HWD.out x ?_
              rw [← hx, ← hxe]
              exact List.getElem_mem hkj
            have q9 : ∀ w', Kept wr w' → _ := fun w' hk => sAtoi ⟨x.toArray⟩ w' (by rw [ba_size]; omega) (HL.out.on (hkw2.trans hk))
            change ∀ w', Kept wr w' → Calls _ _ _ _ (fun e w'' => ∃ v ev, e = .returned (.tuple #[.int .i64 v, ev]) ∧ Kept w' w'' ∧ I64 v ∧ ((ev = .nilIface ∧ Lib.atoiAll x = .ok v) ∨ ((∃ t p, ev = .iface t p) ∧ ∀ u, Lib.atoiAll x ≠ .ok u))) at q9
            have hsame : ∀ W, Kept wr W → W.setRow w.heap.size zerO = W := fun W hk => setRow_same (fr_kept TZ8.out hk)
            cases hnx : numW x with
            | none =>
              have hpn : pr = none := by
                rw [HPV3.out]
                split
                · rw [HRS.out, numsW_bad hxm hnx]
                  rfl
                · rfl
              have HPN := Lib.hid hpn
              have HSM := Lib.hid hsame
              by_cases hat : ∃ u, Lib.atoiAll x = .ok u
              · obtain ⟨u, hu⟩ := hat
                have q9 : ∀ w', Kept wr w' → Calls Tryz.prog 110 #[.string ⟨x.toArray⟩] w' (fun e w'' => e = .returned (.tuple #[.int .i64 u, .nilIface]) ∧ Kept w' w'') := fun w' hk => (q9 w' hk).mono fun e w'' ⟨v, ev, e1, e2, e3, e4⟩ => by
                  rcases e4 with ⟨rfl, e5⟩ | ⟨-, e5⟩
                  · rw [hu] at e5
                    injection e5 with e5
                    subst e5
                    exact ⟨e1, e2⟩
                  · exact absurd hu (e5 u)
                have hub := Lib.atoiAll_bounds hu
                have q10 : ∀ w', Kept wr w' → _ := fun w' hk => sItoa u w' (by omega) (HL.out.on (hkw2.trans hk))
                obtain ⟨z, hz⟩ : ∃ z, Lib.itoa u = z := ⟨_, rfl⟩
                have hbz : z = x → u < -1000 ∨ 1000 < u := fun e => by
                  rcases Int.lt_or_le u (-1000) with q | q
                  · exact .inl q
                  · rcases Int.lt_or_le 1000 u with q' | q'
                    · exact .inr q'
                    · have := (numW_iff x u).2 ⟨by rw [hz, e], q, q'⟩
                      rw [hnx] at this
                      cases this
                rw [hz] at q10
                have Q9 := Lib.hid q9
                have Q10 := Lib.hid q10
                clear q9 q10 hpn hnx hxm hx hxe hkj hjr hsame hub hz hkc hoc hom hvl hnw hkw2 tz7 hu
                by_cases hzx : z = x
                · subst hzx
                  rcases hbz rfl with hb | hb
                  all_goals (
                    go_wp2_with (first | (go_at_call 110; (with_reducible refine (Q9.out _ (by (repeat (first | exact Kept.refl _ | assumption | refine Kept.alloc ?_ _ | refine Kept.ext ?_ _ | refine Kept.drew ?_ | refine Kept.drewN ?_ _)))).mono ?_); rintro e w8 ⟨rfl, y8, rfl⟩) | (go_at_call 80; (with_reducible refine (Q10.out _ (by (repeat (first | exact Kept.refl _ | assumption | refine Kept.alloc ?_ _ | refine Kept.ext ?_ _ | refine Kept.drew ?_ | refine Kept.drewN ?_ _)))).mono ?_); rintro e w8 ⟨rfl, y9, rfl⟩) | (refine wpList_store_row rfl 122 (.tmp 2) (.tmp 110) rfl w.heap.size zerO rfl rfl _ _ (fr_kept TZ8.out (by (repeat (first | exact Kept.refl _ | assumption | refine Kept.alloc ?_ _ | refine Kept.ext ?_ _ | refine Kept.drew ?_ | refine Kept.drewN ?_ _)))) (by kernel_rfl) rfl (by simp [Value.oneCell', zerO]) ?_; rw [HSM.out _ (by (repeat (first | exact Kept.refl _ | assumption | refine Kept.alloc ?_ _ | refine Kept.ext ?_ _ | refine Kept.drew ?_ | refine Kept.drewN ?_ _)))]))
                    refine bodyPost_ret (by simp only [results, Tryz.results61]; go_simp; rfl) rfl ?_
                    exact HFIN.out _ (HKW2.out.trans (by (repeat (first | exact Kept.refl _ | assumption | refine Kept.alloc ?_ _ | refine Kept.ext ?_ _ | refine Kept.drew ?_ | refine Kept.drewN ?_ _)))) HPN.out)
                · have z1 : (z == x) = false := beq_false_of_ne hzx
                  have z2 : (z != x) = true := by simpa using hzx
                  have z3 : decide (z = x) = false := decide_eq_false hzx
                  clear hbz
                  go_wp2_with (first | (go_at_call 110; (with_reducible refine (Q9.out _ (by (repeat (first | exact Kept.refl _ | assumption | refine Kept.alloc ?_ _ | refine Kept.ext ?_ _ | refine Kept.drew ?_ | refine Kept.drewN ?_ _)))).mono ?_); rintro e w8 ⟨rfl, y8, rfl⟩) | (go_at_call 80; (with_reducible refine (Q10.out _ (by (repeat (first | exact Kept.refl _ | assumption | refine Kept.alloc ?_ _ | refine Kept.ext ?_ _ | refine Kept.drew ?_ | refine Kept.drewN ?_ _)))).mono ?_); rintro e w8 ⟨rfl, y9, rfl⟩) | (refine wpList_store_row rfl 122 (.tmp 2) (.tmp 110) rfl w.heap.size zerO rfl rfl _ _ (fr_kept TZ8.out (by (repeat (first | exact Kept.refl _ | assumption | refine Kept.alloc ?_ _ | refine Kept.ext ?_ _ | refine Kept.drew ?_ | refine Kept.drewN ?_ _)))) (by kernel_rfl) rfl (by simp [Value.oneCell', zerO]) ?_; rw [HSM.out _ (by (repeat (first | exact Kept.refl _ | assumption | refine Kept.alloc ?_ _ | refine Kept.ext ?_ _ | refine Kept.drew ?_ | refine Kept.drewN ?_ _)))]))
                  refine bodyPost_ret (by simp only [results, Tryz.results61]; go_simp; rfl) rfl ?_
                  exact HFIN.out _ (HKW2.out.trans (by (repeat (first | exact Kept.refl _ | assumption | refine Kept.alloc ?_ _ | refine Kept.ext ?_ _ | refine Kept.drew ?_ | refine Kept.drewN ?_ _)))) HPN.out
              · have q9 : ∀ w', Kept wr w' → Calls Tryz.prog 110 #[.string ⟨x.toArray⟩] w' (fun e w'' => ∃ v t p, e = .returned (.tuple #[.int .i64 v, .iface t p]) ∧ Kept w' w'') := fun w' hk => (q9 w' hk).mono fun e w'' ⟨v, ev, e1, e2, e3, e4⟩ => by
                  rcases e4 with ⟨rfl, e5⟩ | ⟨⟨t, p, rfl⟩, -⟩
                  · exact absurd ⟨v, e5⟩ hat
                  · exact ⟨v, t, p, e1, e2⟩
                have Q9 := Lib.hid q9
                clear q9 hpn hnx hxm hx hxe hkj hjr hsame hkc hoc hom hvl hnw hkw2 tz7 hat
                go_wp2_with (first | (go_at_call 110; (with_reducible refine (Q9.out _ (by (repeat (first | exact Kept.refl _ | assumption | refine Kept.alloc ?_ _ | refine Kept.ext ?_ _ | refine Kept.drew ?_ | refine Kept.drewN ?_ _)))).mono ?_); rintro e w8 ⟨v9, t9, p9, rfl, y8, rfl⟩) | (refine wpList_store_row rfl 122 (.tmp 2) (.tmp 110) rfl w.heap.size zerO rfl rfl _ _ (fr_kept TZ8.out (by (repeat (first | exact Kept.refl _ | assumption | refine Kept.alloc ?_ _ | refine Kept.ext ?_ _ | refine Kept.drew ?_ | refine Kept.drewN ?_ _)))) (by kernel_rfl) rfl (by simp [Value.oneCell', zerO]) ?_; rw [HSM.out _ (by (repeat (first | exact Kept.refl _ | assumption | refine Kept.alloc ?_ _ | refine Kept.ext ?_ _ | refine Kept.drew ?_ | refine Kept.drewN ?_ _)))]))
                refine bodyPost_ret (by simp only [results, Tryz.results61]; go_simp; rfl) rfl ?_
                exact HFIN.out _ (HKW2.out.trans (by (repeat (first | exact Kept.refl _ | assumption | refine Kept.alloc ?_ _ | refine Kept.ext ?_ _ | refine Kept.drew ?_ | refine Kept.drewN ?_ _)))) HPN.out
            | some u =>
              obtain ⟨i1, i2, i3⟩ := (numW_iff x u).1 hnx
              have hu : Lib.atoiAll x = .ok u := by rw [i1]; exact atoi_itoa ⟨by omega, by omega⟩
              have q9 : ∀ w', Kept wr w' → Calls Tryz.prog 110 #[.string ⟨x.toArray⟩] w' (fun e w'' => e = .returned (.tuple #[.int .i64 u, .nilIface]) ∧ Kept w' w'') := fun w' hk => (q9 w' hk).mono fun e w'' ⟨v, ev, e1, e2, e3, e4⟩ => by
                rcases e4 with ⟨rfl, e5⟩ | ⟨-, e5⟩
                · rw [hu] at e5
                  injection e5 with e5
                  subst e5
                  exact ⟨e1, e2⟩
                · exact absurd hu (e5 u)
              have q10 : ∀ w', Kept wr w' → _ := fun w' hk => sItoa u w' (by omega) (HL.out.on (hkw2.trans hk))
              rw [← i1] at q10
              have hnw2 : numsW (rs.take (j + 1)) = some (vs ++ [u]) := by
                rw [List.take_succ_eq_append_getElem hjr, hx]
                exact numsW_snoc hnw hnx
              have HNW2 := Lib.hid hnw2
              have Q9 := Lib.hid q9
              have Q10 := Lib.hid q10
              obtain ⟨MA, mcp, rfl⟩ := own_slice2 hom
              have d5 : wr.cell? ⟨ob, 5, none⟩ = some (.slice MA j mcp) := cellOf hoc rfl
              clear q9 q10 hnx hxm hx hxe hkj hjr hsame hkc hoc hom hvl hnw hkw2 tz7 hu i1 hnw2
              go_wp2_with (first | (go_at_call 110; (with_reducible refine (Q9.out _ (by (repeat (first | exact Kept.refl _ | assumption | refine Kept.alloc ?_ _ | refine Kept.ext ?_ _ | refine Kept.drew ?_ | refine Kept.drewN ?_ _)))).mono ?_); rintro e w8 ⟨rfl, y8, rfl⟩) | (go_at_call 80; (with_reducible refine (Q10.out _ (by (repeat (first | exact Kept.refl _ | assumption | refine Kept.alloc ?_ _ | refine Kept.ext ?_ _ | refine Kept.drew ?_ | refine Kept.drewN ?_ _)))).mono ?_); rintro e w8 ⟨rfl, y9, rfl⟩) | (at_builtin; refine wpList_append_lies _ rfl (.tmp 112) (.tmp 114) 90 rfl W7.heap.size 3 iN _ 1 8 Tryz.underlying90 HIN.out.1 HIN.out.2.1 HIN.out.2.2.1 HIN.out.2.2.2 rfl (by omega) _ _ _ rfl (owns_kept HOM.out (by (repeat (first | exact Kept.refl _ | assumption | refine Kept.alloc ?_ _ | refine Kept.ext ?_ _ | refine Kept.drew ?_ | refine Kept.drewN ?_ _)))) _ 1 1 [.int .i64 u] rfl rfl (lit_at _ _ (by go_simp)) (lit_one _ rfl) (by omega) (by unfold maxLen; omega) (by omega) (by rw [World.size_alloc]; exact Nat.le_trans HKC.out.size (Nat.le_trans (kept_le (by (repeat (first | exact Kept.refl _ | assumption | refine Kept.alloc ?_ _ | refine Kept.ext ?_ _ | refine Kept.drew ?_ | refine Kept.drewN ?_ _)))) (Nat.le_succ _))) _ rfl ?_; intro g1 cp1 w9 k1 k2 k3 k4; have o9 := own_keepsB (owns_kept HOM.out (by (repeat (first | exact Kept.refl _ | assumption | refine Kept.alloc ?_ _ | refine Kept.ext ?_ _ | refine Kept.drew ?_ | refine Kept.drewN ?_ _)))) k2 (fr_kept HOC2.out (by (repeat (first | exact Kept.refl _ | assumption | refine Kept.alloc ?_ _ | refine Kept.ext ?_ _ | refine Kept.drew ?_ | refine Kept.drewN ?_ _)))) (by decide); have d9 : w9.cell? ⟨ob, 5, none⟩ = some (.slice MA j mcp) := cellOf o9 rfl; have x9 : w9.frozen? ⟨ob, 5, none⟩ = false := frz9 o9; have LO9 : Lower ob w9.heap.size := ⟨cell_lt d9⟩; have O9 := Lib.hid o9; clear o9; have E1 := Lib.hid k2; have F1 := Lib.hid k1; have G1 := Lib.hid k3; clear k1 k2 k3 k4))
              go_roundw
              case rel =>
                have kb9 : KB (fun q => q = ob) W7 w9 := (HKC.out.on (by (repeat (first | exact Kept.refl _ | assumption | refine Kept.alloc ?_ _ | refine Kept.ext ?_ _ | refine Kept.drew ?_ | refine Kept.drewN ?_ _)))).grown E1.out fun q e hq => by
                  have := (HOM.out.lt q e).1
                  omega
                refine ⟨j + 1, _, vs ++ [u], by omega, by go_num, kb9.setCell (p := ⟨ob, 5, none⟩) (fun _ => rfl) _, ord_five O9.out _, ?_, by rw [List.length_append, HVL.out]; rfl, HNW2.out⟩
                rw [List.map_append]
                refine (kb_cell9 w9 ob 5 _).owns F1.out fun q e1 e2 => ?_
                subst e2
                obtain ⟨cs9, t9⟩ := owns_ty9 F1.out e1
                rw [O9.out] at t9
                injection t9 with t9
                injection t9 with _ t9 _
                exact absurd t9 (by decide)
              case measure => simp [intOf]; omega
          · obtain rfl : j = nn := by omega
            obtain ⟨MA, mcp, rfl⟩ := own_slice2 hom
            obtain ⟨d0, d1, d2, d3, d4, d5⟩ := ord_cells hoc
            clear hkc hoc hom hvl hnw hkw2 tz7
            have hrow := setRow_heap _ _ _ (ordC ka k kc km (.slice NA k ncp) (.slice MA j mcp)) _ _ TZ8.out
            obtain ⟨r0, r1, r2, r3, r4, r5⟩ := ord_cells hrow
            clear hrow
            go_wp2_with (refine wpList_store_row rfl 122 (.tmp 2) (.tmp 118) rfl w.heap.size (ordC ka k kc km (.slice NA k ncp) (.slice MA j mcp)) rfl rfl _ _ TZ8.out (by kernel_rfl) rfl (by simp [Value.oneCell', ordC]) ?_)
            refine bodyPost_ret (by simp only [results, Tryz.results61]; go_simp; rfl) rfl ?_
            have hprs : parseB l = some ⟨ka, tl.take k, vs⟩ := by
              rw [HPR.out, HPV3.out, if_pos HAL.out, HRS.out]
              have := HNW.out
              rw [List.take_of_length_le (by rw [HNR.out]; exact Nat.le_refl _)] at this
              rw [this]
              rfl
            refine ⟨row_kept2 HKW2.out (Nat.le_refl _), ?_⟩
            rw [hprs]
            have hk9 : (tl.take k).length = k := by rw [List.length_take]; omega
            have ks : KB (fun q => q = w.heap.size) wr (wr.setRow w.heap.size (ordC ka k kc km (.slice NA k ncp) (.slice MA j mcp))) := (KB.refl _ wr).grown (grown_setRow _ _ _) (fun q e _ => by first | exact (Option.some.inj e).symm | exact Option.some.inj e)
            have hlt6 : w.heap.size < W6.heap.size := by
              have := (Array.getElem?_eq_some_iff.1 TZ6.out).1
              exact this
            have hN1 := HKC.out.owns HON.out (fun q e1 e2 => by
              subst e2
              obtain ⟨cs9, t9⟩ := owns_ty9 HON.out e1
              rw [HOC.out] at t9
              injection t9 with t9
              injection t9 with _ t9 _
              exact absurd t9 (by decide))
            have hN2 := ks.owns hN1 (fun q e1 e2 => by
              have := (hN1.lt q e1).1
              omega)
            have hM2 := ks.owns HOM.out (fun q e1 e2 => by
              have := (HOM.out.lt q e1).1
              have := HKB.out.size
              omega)
            have hM3 : RowsAt (wr.setRow w.heap.size (ordC ka k kc km (.slice NA k ncp) (.slice MA j mcp))) MA j 1 (fun q _ => vs.getD q 0) := by
              rw [ints_rowC, HVL.out] at hM2
              refine rows_of_owns hM2 fun q hq _ _ => ?_
              have hq2 : q < vs.length := by rw [HVL.out]; exact hq
              have := numsW_bd HNW.out vs[q] (List.getElem_mem hq2)
              have e9 : vs.getD q 0 = vs[q] := by simp [hq2]
              show I64 (vs.getD q 0)
              rw [e9]
              unfold I64
              omega
            refine ⟨(k : Int), kc, km, NA, MA, ncp, mcp, ?_, owns_tx hN2, ?_⟩
            · show _ = Ending.returned (.tuple #[.agg #[.int .i64 ka, .int .i64 (k : Int), .int .i64 kc, .bool km, .slice NA (tl.take k).length ncp, .slice MA vs.length mcp], .bool true])
              rw [hk9, HVL.out]
            · show RowsAt _ MA vs.length 1 _
              rw [HVL.out]
              exact hM3
theorem dparse_any (l : List UInt8) (w : World) (hl : l.length ≤ 1000000) (h : Ld w) :
    Calls Tryz.prog 61 #[.string ⟨l.toArray⟩] w fun e w' => ParO w w' e l := by
  obtain ⟨ws, hws⟩ : ∃ x, wds 32 l = x := ⟨_, rfl⟩
  rcases ws with _ | ⟨hw, tl⟩
  · exact absurd hws (wds_ne 32 l)
  · rcases hn : tl.length with _ | m
    · exact dparse_one l w hl h hw tl hn hws
    · exact dparse_more l w hl h hw tl m hn hws
end Go.Proofs.YtnbjealpcjfllaaGreatDoor
