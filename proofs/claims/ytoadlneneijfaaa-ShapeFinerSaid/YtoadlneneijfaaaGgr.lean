/- Contract: groups of faces, of the program. Conditions: the surface is closed. -/
import Derived.Test.YtoadlneneijfaaaGva
import Derived.Test.YtoadlneneijfaaaGcl
namespace Go.Proofs.Ytoadlneneijfaaa
set_option linter.unusedVariables false
set_option linter.unusedSimpArgs false
open Go.RowKit  Go.Maps
theorem putS {ops : Array Oper} {rest : List Oper} {o : Oper} {a : Act} {Q : Exit → Act → World → Prop} {w : World} {b n : Nat} {c : Int × Int → Int} {m x v : Operand} {p q z : Int} (hM : MapS w b n c) (hg : o.guard = none) (hop : o.op = Op.mapUpdate 78 m x v) (hn : n < maxLen) (hm : a.eval m = .map (some b)) (hx : a.eval x = .agg #[.int .i64 p, .int .i64 q]) (hv : a.eval v = .int .i64 z) (hz : I64 z) (hok : sideOk (p, q))
    (hK : ∀ w', MapS w' b (n + 1) (fun s => if s = (p, q) then z else c s) → w.grownBy w' (some b) → wpList Try.prog ops Q rest (a.put o.dst undef) w') : wpList Try.prog ops Q (o :: rest) a w :=
  wp_putI w hg m x v _ hop (Keyed.of_law lawSide) Try.underlying78 Try.underlying3 b n c hM hn (p, q) z hm hx hv hz (keyOf_side _ hok) (fun j e => sideV_inj _ _ e) hK
theorem infoInt : (Try.prog.info? 3).map (fun i => (i.zero, i.size, i.bytes)) = some (some (.int .i64 0), 1, 8) := by kernel_rfl
theorem cnB_le (p : Nat → Bool) : ∀ n, cnB p n ≤ n
  | 0 => Nat.le_refl _
  | n + 1 => by have := cnB_le p n; unfold cnB; split <;> omega
theorem rowU_by {w w' : World} {ub k g : Nat} {S : Nat → Bool} (h : RowU w ub k S) (hg : w.grownBy w' (some g)) (hne : ub ≠ g) : RowU w' ub k S := by
  have hb := hg.block ub h.lt (by simpa using hne)
  refine ⟨fun j hj => ?_, fun j hj => ?_, Nat.lt_of_lt_of_le h.lt hg.size⟩
  · have := h.cell j hj
    unfold World.cell? at this ⊢
    simp only [hb]
    exact this
  · have := h.froz j hj
    unfold World.frozen? at this ⊢
    simp only [hb]
    exact this
theorem kept_size2 {w w' : World} (h : Kept w w') : w.heap.size ≤ w'.heap.size := by
  obtain ⟨x, rfl⟩ := h
  rw [ext_size]
  exact adv_le _ _
theorem mapS_by {w w' : World} {b n g : Nat} {c : Int × Int → Int} (h : MapS w b n c) (hg : w.grownBy w' (some g)) (hne : b ≠ g) : MapS w' b n c := by
  obtain ⟨D, h1, h2, h3⟩ := h
  exact ⟨D, h1.kept hg (by simpa using hne), h2, h3⟩
/-- How many of the first k bools of block ub are false. -/
def unN (w : World) (ub k : Nat) : Nat := cnB (fun j => match w.cell? ⟨ub, j, none⟩ with | some (.bool false) => true | _ => false) k
theorem unN_of {w : World} {ub k : Nat} {S : Nat → Bool} (h : RowU w ub k S) : unN w ub k = cnB (fun j => !S j) k :=
  cnB_congr fun j hj => by
    rw [h.cell j hj]
    cases S j <;> rfl
def slLen : Value → Nat
  | .slice _ n _ => n
  | _ => 0
set_option maxRecDepth 100000 in
set_option maxHeartbeats 32000000 in
theorem groupsF_any (A B : Option Addr) (n cap m cap2 : Nat) (F : Nat → Nat → Int) (al : Nat → Nat) (w : World) (hm : m ≤ 96) (hF : RowsAt w B m 3 F) (ho : Oth F al m) :
    Calls Try.prog 120 #[.agg #[.slice A n cap, .slice B m cap2], .func (.func 121) #[] #[], .func (.func 122) #[] #[]] w fun r w' => ∃ c : Nat, r = .returned (.int .i64 c) ∧ Kept w w' ∧ GrN (fun _ => True) (adjF al m) m c := by
  have HF := Lib.hid hF
  have IF : ∀ k, k < m → ∀ j, j < 3 → I64 (F k j) := fun k hk j hj => by
    obtain ⟨b, off, -, -, hc⟩ := hF (by omega)
    exact (hc k hk j hj).2
  have HO := Lib.hid ho
  clear hF ho
  obtain ⟨i0, hi, hz0, hz1, hz2⟩ := info_parts infoBool
  have HI := Lib.hid (And.intro hi (And.intro hz0 (And.intro hz1 hz2)))
  clear hi hz0 hz1 hz2
  obtain ⟨j0, hi, hz0, hz1, hz2⟩ := info_parts infoInt
  have HJ := Lib.hid (And.intro hi (And.intro hz0 (And.intro hz1 hz2)))
  clear hi hz0 hz1 hz2
  have hmm := @run_makeMap Try.prog
  go_enter Try.func120, Try.ntmps120
  go_wp2_with fail
  clear hmm
  go_loopw [24] (fun i wr => ∃ k : Nat, k ≤ m ∧ i = .int .i64 k ∧ Kept (w.alloc (.cells #[.slice A n cap, .slice B m cap2] 25)) wr ∧ MapS wr (w.heap.size + 1) (3 * k) (ownF F (3 * k))) (fun i _ => m - (intOf i).toNat)
  case atStart => exact ⟨0, by omega, rfl, by (repeat (first | exact Kept.refl _ | assumption | refine Kept.alloc ?_ _ | refine Kept.ext ?_ _ | refine Kept.drew ?_ | refine Kept.drewN ?_ _)), by
    have := MapI.made (P := Try.prog) (k := 81) (e := 3) (kv := sideV) (ok := sideOk) (w.alloc (.cells #[.slice A n cap, .slice B m cap2] 25))
    rw [World.size_alloc] at this
    exact this⟩
  case round =>
    obtain ⟨k, hk, rfl, hkw, hM⟩ := hrel
    have HM := Lib.hid hM
    have hk0 : Kept w wr := (by (repeat (first | exact Kept.refl _ | assumption | refine Kept.alloc ?_ _ | refine Kept.ext ?_ _ | refine Kept.drew ?_ | refine Kept.drewN ?_ _)) : Kept w (w.alloc (.cells #[.slice A n cap, .slice B m cap2] 25))).trans hkw
    have hmb : w.heap.size + 1 < wr.heap.size := hM.lt
    clear hM
    by_cases hlt : k < m
    · obtain ⟨fb, off, rfl, hb, f0, f1, f2⟩ := rows3 (HF.out.of hk0) hlt
      have LB : Lower fb wr.heap.size := ⟨hb⟩
      have HK := Lib.hid hkw
      clear hb hk0 hkw
      go_wp2_with (first | (go_at_call 77; refine (ssides_any _ _ _ _).mono ?_; rintro e w1 ⟨rfl, x, rfl⟩))
      refine wp_loop_rounds 4 ?_
      rw [rounds_succ]
      go_wp2_with (at_mapUpdate; refine putS (HM.out.kept (by (repeat (first | exact Kept.refl _ | assumption | refine Kept.alloc ?_ _ | refine Kept.ext ?_ _ | refine Kept.drew ?_ | refine Kept.drewN ?_ _)))) rfl rfl (by unfold maxLen; omega) rfl rfl rfl (by unfold I64; omega) ⟨IF k hlt 0 (by omega), IF k hlt 1 (by omega)⟩ ?_; intro w5 hM1 hg1; have HM1 := Lib.hid hM1; have HG1 := Lib.hid hg1; clear hM1 hg1)
      have k5 := (HK.out.trans (by (repeat (first | exact Kept.refl _ | assumption | refine Kept.alloc ?_ _ | refine Kept.ext ?_ _ | refine Kept.drew ?_ | refine Kept.drewN ?_ _)))).map_store (by simp) HG1.out
      have K5 := Lib.hid k5
      clear k5
      rw [rounds_succ]
      go_wp2_with (at_mapUpdate; refine putS (HM1.out.kept (by (repeat (first | exact Kept.refl _ | assumption | refine Kept.alloc ?_ _ | refine Kept.ext ?_ _ | refine Kept.drew ?_ | refine Kept.drewN ?_ _)))) rfl rfl (by unfold maxLen; omega) rfl rfl rfl (by unfold I64; omega) ⟨IF k hlt 1 (by omega), IF k hlt 2 (by omega)⟩ ?_; intro w6 hM2 hg2; have HM2 := Lib.hid hM2; have HG2 := Lib.hid hg2; clear hM2 hg2)
      have k6 := (K5.out.trans (by (repeat (first | exact Kept.refl _ | assumption | refine Kept.alloc ?_ _ | refine Kept.ext ?_ _ | refine Kept.drew ?_ | refine Kept.drewN ?_ _)))).map_store (by simp) HG2.out
      have K6 := Lib.hid k6
      clear k6
      rw [rounds_succ]
      go_wp2_with (at_mapUpdate; refine putS (HM2.out.kept (by (repeat (first | exact Kept.refl _ | assumption | refine Kept.alloc ?_ _ | refine Kept.ext ?_ _ | refine Kept.drew ?_ | refine Kept.drewN ?_ _)))) rfl rfl (by unfold maxLen; omega) rfl rfl rfl (by unfold I64; omega) ⟨IF k hlt 2 (by omega), IF k hlt 0 (by omega)⟩ ?_; intro w7 hM3 hg3; have HM3 := Lib.hid hM3; have HG3 := Lib.hid hg3; clear hM3 hg3)
      have k7 := (K6.out.trans (by (repeat (first | exact Kept.refl _ | assumption | refine Kept.alloc ?_ _ | refine Kept.ext ?_ _ | refine Kept.drew ?_ | refine Kept.drewN ?_ _)))).map_store (by simp) HG3.out
      have K7 := Lib.hid k7
      clear k7
      rw [rounds_succ]
      go_wp2_with fail
      go_roundw
      case rel =>
        obtain ⟨o1, o2, o3⟩ := own3 F k
        refine ⟨k + 1, by omega, by go_num, K7.out, ?_⟩
        rw [o3, o2, o1]
        exact HM3.out
      case measure => simp [intOf]; omega
    · obtain rfl : k = m := by omega
      have kb : wr.cell? ⟨w.heap.size, 1, none⟩ = some (.slice B k cap2) := kept_cell (w := (w.alloc (.cells #[.slice A n cap, .slice B k cap2] 25))) (by go_simp) hkw
      have LBX : Lower w.heap.size wr.heap.size := ⟨cell_lt kb⟩
      have HK := Lib.hid hkw
      clear hk0 hkw
      go_wp2_with (at_make; refine wpList_make_row _ rfl _ _ _ rfl 4 i0 _ Try.underlying76 HI.out.1 HI.out.2.1 HI.out.2.2.1 rfl .i64 .i64 k rfl rfl ?_ (by omega) ?_)
      · rw [HI.out.2.2.2]; omega
      obtain ⟨ub, hub⟩ : ∃ ub, wr.heap.size = ub := ⟨_, rfl⟩
      have hub0 : w.heap.size + 1 < ub := by rw [← hub]; exact hmb
      obtain ⟨pf, hpf⟩ := GrN.ex (fun _ => True) (adjF al k)
      have hkb := (HK.out.trans (by (repeat (first | exact Kept.refl _ | assumption | refine Kept.alloc ?_ _ | refine Kept.ext ?_ _ | refine Kept.drew ?_ | refine Kept.drewN ?_ _)) : Kept wr (wr.alloc (.cells (madeCells #[.bool false] k) 4))))
      have hU := RowU.made wr k 4
      have HS := Lib.hid (And.intro hkb (And.intro (HM.out.kept (by (repeat (first | exact Kept.refl _ | assumption | refine Kept.alloc ?_ _ | refine Kept.ext ?_ _ | refine Kept.drew ?_ | refine Kept.drewN ?_ _)) : Kept wr (wr.alloc (.cells (madeCells #[.bool false] k) 4)))) hU))
      clear hkb hU kb LBX hmb
      rw [hub]
      go_loopw [13, 46] (fun nn i wq => ∃ (r c : Nat) (S : Nat → Bool), r ≤ k ∧ i = .int .i64 r ∧ nn = .int .i64 c ∧ c ≤ r ∧ Outs (fun _ => True) (adjF al k) pf r S c ∧ Kept (w.alloc (.cells #[.slice A n cap, .slice B k cap2] 25)) wq ∧ MapS wq (w.heap.size + 1) (3 * k) (ownF F (3 * k)) ∧ RowU wq ub k S) (fun _ i _ => k - (intOf i).toNat)
      case atStart => exact ⟨0, 0, fun _ => false, by omega, rfl, rfl, by omega, Outs.start, HS.out.1, HS.out.2.1, by rw [← hub]; exact HS.out.2.2⟩
      case round =>
        clear HK HM HS
        obtain ⟨r, c, S, hr, rfl, rfl, hc, hO, hkw, hM, hU⟩ := hrel
        have LU : Lower ub wr.heap.size := ⟨hU.lt⟩
        have kb : wr.cell? ⟨w.heap.size, 1, none⟩ = some (.slice B k cap2) := kept_cell (w := (w.alloc (.cells #[.slice A n cap, .slice B k cap2] 25))) (by go_simp) hkw
        have LBX : Lower w.heap.size wr.heap.size := ⟨cell_lt kb⟩
        have HOu := Lib.hid hO
        have HKW := Lib.hid hkw
        have HM := Lib.hid hM
        have HU := Lib.hid hU
        by_cases hlt : r < k
        · have cu := hU.cell r hlt
          have fu := hU.froz r hlt
          have g1 : decide ((r : Int) < k) = true := decide_eq_true (by omega)
          clear hO hM
          cases hs : S r with
          | true =>
            rw [hs] at cu
            clear hkw hU
            go_wp2_with fail
            go_roundw
            case rel => exact ⟨r + 1, c, S, by omega, by go_num, rfl, by omega, HOu.out.seen (hpf r) hs, HKW.out, HM.out, HU.out⟩
            case measure => simp [intOf]; omega
          | false =>
            rw [hs] at cu
            have hk0 : Kept w wr := (by (repeat (first | exact Kept.refl _ | assumption | refine Kept.alloc ?_ _ | refine Kept.ext ?_ _ | refine Kept.drew ?_ | refine Kept.drewN ?_ _)) : Kept w (w.alloc (.cells #[.slice A n cap, .slice B k cap2] 25))).trans hkw
            obtain ⟨fb, off, rfl, hb, f0, f1, f2⟩ := rows3 (HF.out.of hk0) hlt
            have LB : Lower fb wr.heap.size := ⟨hb⟩
            clear hkw hU hk0 hb
            go_wp2_with (first | (go_at_call 121; refine (gAll_any _ _ _ _).mono ?_; rintro e w1 ⟨rfl, xi, rfl⟩) | (refine wp_putU _ rfl _ _ rfl ub k _ (HU.out.kept (by (repeat (first | exact Kept.refl _ | assumption | refine Kept.alloc ?_ _ | refine Kept.ext ?_ _ | refine Kept.drew ?_ | refine Kept.drewN ?_ _)))) r true rfl rfl (by omega) ?_; intro w2 hU2 hg2))
            have q1 := (HKW.out.trans (by (repeat (first | exact Kept.refl _ | assumption | refine Kept.alloc ?_ _ | refine Kept.ext ?_ _ | refine Kept.drew ?_ | refine Kept.drewN ?_ _)))).map_store (by simp; omega) hg2
            have q2 := mapS_by (HM.out.kept (by (repeat (first | exact Kept.refl _ | assumption | refine Kept.alloc ?_ _ | refine Kept.ext ?_ _ | refine Kept.drew ?_ | refine Kept.drewN ?_ _)))) hg2 (by omega)
            have q3 := ownsQ.one (base := w.heap.size + 1 + 1) (e := 3) w2 (.int .i64 r) (by have := hU2.lt; omega)
            have HU2lt := Lib.hid hU2.lt
            have HQ := Lib.hid (And.intro (q1.trans (by (repeat (first | exact Kept.refl _ | assumption | refine Kept.alloc ?_ _ | refine Kept.ext ?_ _ | refine Kept.drew ?_ | refine Kept.drewN ?_ _)) : Kept w2 (w2.alloc (.cells #[.int .i64 (r : Int)] 3)))) (And.intro (q2.kept (by (repeat (first | exact Kept.refl _ | assumption | refine Kept.alloc ?_ _ | refine Kept.ext ?_ _ | refine Kept.drew ?_ | refine Kept.drewN ?_ _)) : Kept w2 (w2.alloc (.cells #[.int .i64 (r : Int)] 3)))) (And.intro (hU2.kept (by (repeat (first | exact Kept.refl _ | assumption | refine Kept.alloc ?_ _ | refine Kept.ext ?_ _ | refine Kept.drew ?_ | refine Kept.drewN ?_ _)) : Kept w2 (w2.alloc (.cells #[.int .i64 (r : Int)] 3)))) q3)))
            clear q1 q2 q3 hU2 hg2
            go_loopw [15] (fun v wq => ∃ (W : List Nat) (S' : Nat → Bool) (x : Nat), Bfs (adjF al k) k r S S' W x (fun _ => True) ∧ Kept (w.alloc (.cells #[.slice A n cap, .slice (some ⟨fb, off, none⟩) k cap2] 25)) wq ∧ MapS wq (w.heap.size + 1) (3 * k) (ownF F (3 * k)) ∧ RowU wq ub k S' ∧ ownsQ wq (w.heap.size + 1 + 1) 3 v W.length (W.map fun y : Nat => Value.int .i64 (y : Int)) ∧ v.ownBlock ≠ some ub ∧ 2 * cnB (fun j => !S' j) k + W.length ≤ 200) (fun v wq => 2 * unN wq ub k + slLen v)
            case atStart => exact ⟨[r], upd S r, 0, Bfs.start hlt 0, HQ.out.1, HQ.out.2.1, HQ.out.2.2.1, HQ.out.2.2.2, by have := HU2lt.out; simp [Value.ownBlock]; omega, by have := cnB_le (fun j => !(upd S r j)) k; simp only [List.length_singleton]; omega⟩
            case round =>
              clear HKW HM HU HQ cu fu LBX LU
              obtain ⟨W, S', x, hB, hkw, hM, hU, hQ, hne, hm200⟩ := hrel
              obtain ⟨g, o, qc, rfl, hgb, hgl, hqn, hqc⟩ := hQ.form
              have LU : Lower ub wr.heap.size := ⟨hU.lt⟩
              have LG : Lower g wr.heap.size := ⟨hgl⟩
              have kb : wr.cell? ⟨w.heap.size, 1, none⟩ = some (.slice (some ⟨fb, off, none⟩) k cap2) := kept_cell (w := (w.alloc (.cells #[.slice A n cap, .slice (some ⟨fb, off, none⟩) k cap2] 25))) (by go_simp) hkw
              have LBX : Lower w.heap.size wr.heap.size := ⟨cell_lt kb⟩
              have hgu : g ≠ ub := fun e => hne (by simp [Value.ownBlock, e])
              clear hne
              have HBf := Lib.hid hB
              have HKW := Lib.hid hkw
              have HM := Lib.hid hM
              have HU := Lib.hid hU
              cases W with
              | nil =>
                simp only [List.length_nil] at *
                clear hB hkw hM hU hQ
                go_wp2_with fail
                go_roundw
                case rel => exact ⟨r + 1, c + 1, S', by omega, by go_num, by go_num, by omega, HOu.out.one (hpf r) trivial hs (HBf.out.fin HOu.out.clo), HKW.out, HM.out, HU.out⟩
                case measure => simp [intOf]; omega
              | cons y W =>
                have hk0 : Kept w wr := (by (repeat (first | exact Kept.refl _ | assumption | refine Kept.alloc ?_ _ | refine Kept.ext ?_ _ | refine Kept.drew ?_ | refine Kept.drewN ?_ _)) : Kept w (w.alloc (.cells #[.slice A n cap, .slice (some ⟨fb, off, none⟩) k cap2] 25))).trans hkw
                obtain ⟨hB1, hy⟩ := hB.pop
                have HG1 := Lib.hid (hB.wq y (by simp)).2.2
                have c0 : wr.cell? ⟨g, o, none⟩ = some (.int .i64 (y : Int)) := by simpa using hQ.at (j := 0) (by simp)
                obtain ⟨fb', off', e, hb', f0, f1, f2⟩ := rows3 (HF.out.of hk0) hy
                cases e
                have LB : Lower fb wr.heap.size := ⟨hb'⟩
                have hun := unN_of hU
                obtain ⟨l, hl⟩ : ∃ l, W.length = l := ⟨_, rfl⟩
                obtain ⟨M0, hM0⟩ : ∃ M0, 2 * cnB (fun j => !S' j) k + l = M0 := ⟨_, rfl⟩
                simp only [List.length_cons, hl] at hQ hm200 hqn ⊢
                have g2 : decide (((l + 1 : Nat) : Int) > 0) = true := decide_eq_true (by omega)
                have HB1 := Lib.hid hB1
                have HL := Lib.hid hl
                have HUN := Lib.hid hun
                by_cases hq1 : qc = 1
                · subst hq1
                  obtain rfl : l = 0 := by omega
                  have hQ1 := ownsQ.pop1 (by simpa [hl] using hQ)
                  have HQ := Lib.hid hQ1
                  have HM0 := Lib.hid hM0
                  clear hB hkw hM hU hQ hk0 hB1 hQ1 hb' hun hl HBf hM0
                  go_wp2_with (first | (go_at_call 77; refine (ssides_any _ _ _ _).mono ?_; rintro e w1 ⟨rfl, x, rfl⟩))
                  go_loopw [15, 84] (fun v j wq => ∃ (W1 : List Nat) (S1 : Nat → Bool) (q : Nat), q ≤ 3 ∧ j = .int .i64 q ∧ Bfs (adjF al k) k r S S1 W1 y (fun z => ∃ l, l < q ∧ al (3 * y + l) / 3 = z ∧ True) ∧ Kept (w.alloc (.cells #[.slice A n cap, .slice (some ⟨fb, off, none⟩) k cap2] 25)) wq ∧ MapS wq (w.heap.size + 1) (3 * k) (ownF F (3 * k)) ∧ RowU wq ub k S1 ∧ ownsQ wq (w.heap.size + 1 + 1) 3 v W1.length (W1.map fun y : Nat => Value.int .i64 (y : Int)) ∧ v.ownBlock ≠ some ub ∧ 2 * cnB (fun j => !S1 j) k + W1.length ≤ M0) (fun _ j _ => 3 - (intOf j).toNat)
                  case atStart => exact ⟨W, S', 0, by omega, rfl, HB1.out.weak (fun z ⟨l, h, _⟩ _ => absurd h (by omega)), HKW.out.trans (by (repeat (first | exact Kept.refl _ | assumption | refine Kept.alloc ?_ _ | refine Kept.ext ?_ _ | refine Kept.drew ?_ | refine Kept.drewN ?_ _))), HM.out.kept (by (repeat (first | exact Kept.refl _ | assumption | refine Kept.alloc ?_ _ | refine Kept.ext ?_ _ | refine Kept.drew ?_ | refine Kept.drewN ?_ _))), HU.out.kept (by (repeat (first | exact Kept.refl _ | assumption | refine Kept.alloc ?_ _ | refine Kept.ext ?_ _ | refine Kept.drew ?_ | refine Kept.drewN ?_ _))), by rw [HL.out]; exact HQ.out.on (by (repeat (first | exact Kept.refl _ | assumption | refine Kept.alloc ?_ _ | refine Kept.ext ?_ _ | refine Kept.drew ?_ | refine Kept.drewN ?_ _))), by simpa [Value.ownBlock] using hgu, by rw [HL.out]; exact Nat.le_of_eq HM0.out⟩
                  case round =>
                    clear HKW HM HU HQ c0 kb LBX LG LU
                    obtain ⟨W1, S1, q, hq, rfl, hB, hkw, hM, hU, hQ, hne, hM1⟩ := hrel
                    obtain ⟨g1, o1, qc1, rfl, hgb1, hgl1, hqn1, hqc1⟩ := hQ.form
                    have hgu1 : g1 ≠ ub := fun e => hne (by simp [Value.ownBlock, e])
                    have LU : Lower ub wr.heap.size := ⟨hU.lt⟩
                    have kb : wr.cell? ⟨w.heap.size, 1, none⟩ = some (.slice (some ⟨fb, off, none⟩) k cap2) := kept_cell (w := (w.alloc (.cells #[.slice A n cap, .slice (some ⟨fb, off, none⟩) k cap2] 25))) (by go_simp) hkw
                    have LBX : Lower w.heap.size wr.heap.size := ⟨cell_lt kb⟩
                    have HBf := Lib.hid hB
                    have HKW := Lib.hid hkw
                    have HMI := Lib.hid hM
                    have HU := Lib.hid hU
                    have HQ := Lib.hid hQ
                    have HM1 := Lib.hid hM1
                    have hW96 : W1.length ≤ 500 := by have := HM1.out; have h5 := HM0.out; omega
                    by_cases hlt3 : q < 3
                    · obtain ⟨n1, n2, n3⟩ := HO.out.nb (3 * y + q) (by omega)
                      obtain ⟨t, ht⟩ : ∃ t, al (3 * y + q) / 3 = t := ⟨_, rfl⟩
                      have htk : t < k := by omega
                      have cu := hU.cell t htk
                      have fu := hU.froz t htk
                      have HT := Lib.hid ht
                      have hob := ownF_back HO.out (show 3 * y + q < 3 * k by omega)
                      rw [ht] at hob
                      clear hB hkw hM hU hQ hne hM1 n1 n2 n3 ht
                      rcases (show q = 0 ∨ q = 1 ∨ q = 2 by omega) with rfl | rfl | rfl
                      · have i0 := IF y hy 0 (by omega)
                        have i1 := IF y hy 1 (by omega)
                        have HI3 := Lib.hid (And.intro i0 i1)
                        clear i0 i1
                        rw [nxt_at y 0 (by omega), tl_at F y _ (by omega), tl_at F y _ (by omega)] at hob
                        have HOB := Lib.hid hob
                        clear hob
                        cases hs1 : S1 t with
                        | true =>
                          rw [hs1] at cu
                          go_wp2_with (first | (go_at_call 78; refine (sback_any _ _ _).mono ?_; rintro e w1 ⟨rfl, xb, rfl⟩) | (at_lookup; refine wp_lookI _ (by rfl) _ _ _ rfl (Keyed.of_law lawSide) Try.underlying78 Try.underlying3 (zeroInt _) (w.heap.size + 1) (3 * k) (ownF F (3 * k)) (HMI.out.kept (by (repeat (first | exact Kept.refl _ | assumption | refine Kept.alloc ?_ _ | refine Kept.ext ?_ _ | refine Kept.drew ?_ | refine Kept.drewN ?_ _)))) (F y 1, F y 0) rfl rfl ⟨HI3.out.2, HI3.out.1⟩ (keyOf_side _ ⟨HI3.out.2, HI3.out.1⟩) ?_; rw [show ownF F (3 * k) (F y 1, F y 0) = (t : Int) from HOB.out]) | (go_at_call 122; refine (gEach_any _ _ _).mono ?_; rintro e w1 ⟨rfl, xe, rfl⟩))
                          go_roundw
                          case rel => exact ⟨W1, S1, 0+1, by omega, by go_num, HBf.out.weak (fun z ⟨l, h1, h2, h3⟩ _ => by
                              by_cases e : l = 0
                              · subst e; right; rw [← h2, HT.out]; exact hs1
                              · left; exact ⟨l, by omega, h2, h3⟩), HKW.out.trans (by (repeat (first | exact Kept.refl _ | assumption | refine Kept.alloc ?_ _ | refine Kept.ext ?_ _ | refine Kept.drew ?_ | refine Kept.drewN ?_ _))), HMI.out.kept (by (repeat (first | exact Kept.refl _ | assumption | refine Kept.alloc ?_ _ | refine Kept.ext ?_ _ | refine Kept.drew ?_ | refine Kept.drewN ?_ _))), HU.out.kept (by (repeat (first | exact Kept.refl _ | assumption | refine Kept.alloc ?_ _ | refine Kept.ext ?_ _ | refine Kept.drew ?_ | refine Kept.drewN ?_ _))), HQ.out.on (by (repeat (first | exact Kept.refl _ | assumption | refine Kept.alloc ?_ _ | refine Kept.ext ?_ _ | refine Kept.drew ?_ | refine Kept.drewN ?_ _))), by simpa [Value.ownBlock] using hgu1, HM1.out⟩
                          case measure => simp [intOf]
                        | false =>
                          rw [hs1] at cu
                          go_wp2_with (first | (go_at_call 78; refine (sback_any _ _ _).mono ?_; rintro e w1 ⟨rfl, xb, rfl⟩) | (at_lookup; refine wp_lookI _ (by rfl) _ _ _ rfl (Keyed.of_law lawSide) Try.underlying78 Try.underlying3 (zeroInt _) (w.heap.size + 1) (3 * k) (ownF F (3 * k)) (HMI.out.kept (by (repeat (first | exact Kept.refl _ | assumption | refine Kept.alloc ?_ _ | refine Kept.ext ?_ _ | refine Kept.drew ?_ | refine Kept.drewN ?_ _)))) (F y 1, F y 0) rfl rfl ⟨HI3.out.2, HI3.out.1⟩ (keyOf_side _ ⟨HI3.out.2, HI3.out.1⟩) ?_; rw [show ownF F (3 * k) (F y 1, F y 0) = (t : Int) from HOB.out]) | (go_at_call 122; refine (gEach_any _ _ _).mono ?_; rintro e w1 ⟨rfl, xe, rfl⟩) | (refine wp_putU _ rfl _ _ rfl ub k _ (HU.out.kept (by (repeat (first | exact Kept.refl _ | assumption | refine Kept.alloc ?_ _ | refine Kept.ext ?_ _ | refine Kept.drew ?_ | refine Kept.drewN ?_ _)))) t true rfl rfl htk ?_; intro w2 hU2 hg2; have k2 := (HKW.out.trans (by (repeat (first | exact Kept.refl _ | assumption | refine Kept.alloc ?_ _ | refine Kept.ext ?_ _ | refine Kept.drew ?_ | refine Kept.drewN ?_ _)))).map_store (by simp; omega) hg2; have m2 := mapS_by (HMI.out.kept (by (repeat (first | exact Kept.refl _ | assumption | refine Kept.alloc ?_ _ | refine Kept.ext ?_ _ | refine Kept.drew ?_ | refine Kept.drewN ?_ _)))) hg2 (by omega); have s2 := (HQ.out.on (by (repeat (first | exact Kept.refl _ | assumption | refine Kept.alloc ?_ _ | refine Kept.ext ?_ _ | refine Kept.drew ?_ | refine Kept.drewN ?_ _)))).kept hg2 (by simpa [Value.ownBlock] using hgu1); have HH2 := Lib.hid (And.intro k2 (And.intro m2 (And.intro hU2 s2))); clear hU2 hg2 k2 m2 s2) | (at_builtin; refine wpList_append_q _ rfl _ _ 97 rfl (w.heap.size + 1 + 1) 3 j0 _ 8 Try.underlying97 HJ.out.1 HJ.out.2.1 HJ.out.2.2.1 HJ.out.2.2.2 (by rfl) (.slice (some ⟨g1, o1, none⟩) W1.length qc1) W1.length _ rfl (HH2.out.2.2.2.on (by (repeat (first | exact Kept.refl _ | assumption | refine Kept.alloc ?_ _ | refine Kept.ext ?_ _ | refine Kept.drew ?_ | refine Kept.drewN ?_ _)))) _ 1 (.int .i64 (t : Int)) rfl (by go_simp) rfl (by unfold maxLen; omega) (by omega) (by have := kept_size2 HH2.out.1; simp at this ⊢; omega) ?_; intro v3 w3 hq3 hg3 hor3; have hg4 : World.grownBy _ w3 (some g1) := hg3; have hor4 : v3.ownBlock = some g1 ∨ _ := hor3; have HH3 := Lib.hid (And.intro hq3 (And.intro hg4 hor4)); clear hq3 hg3 hor3 hg4 hor4))
                          have hk3 : Kept (w.alloc (.cells #[.slice A n cap, .slice (some ⟨fb, off, none⟩) k cap2] 25)) w3 := by
                              refine Kept.map_store ?_ ?_ HH3.out.2.1
                              · exact HH2.out.1.trans (by (repeat (first | exact Kept.refl _ | assumption | refine Kept.alloc ?_ _ | refine Kept.ext ?_ _ | refine Kept.drew ?_ | refine Kept.drewN ?_ _)))
                              · simp; omega
                          have hm3 := mapS_by (HH2.out.2.1.kept (by (repeat (first | exact Kept.refl _ | assumption | refine Kept.alloc ?_ _ | refine Kept.ext ?_ _ | refine Kept.drew ?_ | refine Kept.drewN ?_ _)) : Kept w2 (w2.alloc (.cells #[.int .i64 (t : Int)] 3)))) HH3.out.2.1 (by omega)
                          have hu3 := rowU_by (HH2.out.2.2.1.kept (by (repeat (first | exact Kept.refl _ | assumption | refine Kept.alloc ?_ _ | refine Kept.ext ?_ _ | refine Kept.drew ?_ | refine Kept.drewN ?_ _)) : Kept w2 (w2.alloc (.cells #[.int .i64 (t : Int)] 3)))) HH3.out.2.1 (Ne.symm hgu1)
                          have hul := HH2.out.2.2.1.lt
                          have hn3 : v3.ownBlock ≠ some ub := by
                              rcases HH3.out.2.2 with e | e
                              · rw [e]; simpa [Value.ownBlock] using hgu1
                              · rw [e]; simp; omega
                          have HK3 := Lib.hid (And.intro hk3 (And.intro hm3 (And.intro hu3 hn3)))
                          clear hk3 hm3 hu3 hul hn3
                          go_roundw
                          case rel => exact ⟨W1 ++ [t], upd S1 t, 0+1, by omega, by go_num, (HBf.out.put HG1.out htk ⟨3 * y + 0, by omega, by omega, HT.out⟩ hs1).weak (fun z ⟨l, h1, h2, h3⟩ _ => by
                              by_cases e : l = 0
                              · subst e; left; right; rw [← h2, HT.out]
                              · left; left; exact ⟨l, by omega, h2, h3⟩), HK3.out.1, HK3.out.2.1, HK3.out.2.2.1, by simpa using HH3.out.1, HK3.out.2.2.2, by have e1 := cnB_upd htk hs1; have e2 := HM1.out; simp only [List.length_append, List.length_singleton]; omega⟩
                          case measure => simp [intOf]
                      · have i0 := IF y hy 1 (by omega)
                        have i1 := IF y hy 2 (by omega)
                        have HI3 := Lib.hid (And.intro i0 i1)
                        clear i0 i1
                        rw [nxt_at y 1 (by omega), tl_at F y _ (by omega), tl_at F y _ (by omega)] at hob
                        have HOB := Lib.hid hob
                        clear hob
                        cases hs1 : S1 t with
                        | true =>
                          rw [hs1] at cu
                          go_wp2_with (first | (go_at_call 78; refine (sback_any _ _ _).mono ?_; rintro e w1 ⟨rfl, xb, rfl⟩) | (at_lookup; refine wp_lookI _ (by rfl) _ _ _ rfl (Keyed.of_law lawSide) Try.underlying78 Try.underlying3 (zeroInt _) (w.heap.size + 1) (3 * k) (ownF F (3 * k)) (HMI.out.kept (by (repeat (first | exact Kept.refl _ | assumption | refine Kept.alloc ?_ _ | refine Kept.ext ?_ _ | refine Kept.drew ?_ | refine Kept.drewN ?_ _)))) (F y 2, F y 1) rfl rfl ⟨HI3.out.2, HI3.out.1⟩ (keyOf_side _ ⟨HI3.out.2, HI3.out.1⟩) ?_; rw [show ownF F (3 * k) (F y 2, F y 1) = (t : Int) from HOB.out]) | (go_at_call 122; refine (gEach_any _ _ _).mono ?_; rintro e w1 ⟨rfl, xe, rfl⟩))
                          go_roundw
                          case rel => exact ⟨W1, S1, 1+1, by omega, by go_num, HBf.out.weak (fun z ⟨l, h1, h2, h3⟩ _ => by
                              by_cases e : l = 1
                              · subst e; right; rw [← h2, HT.out]; exact hs1
                              · left; exact ⟨l, by omega, h2, h3⟩), HKW.out.trans (by (repeat (first | exact Kept.refl _ | assumption | refine Kept.alloc ?_ _ | refine Kept.ext ?_ _ | refine Kept.drew ?_ | refine Kept.drewN ?_ _))), HMI.out.kept (by (repeat (first | exact Kept.refl _ | assumption | refine Kept.alloc ?_ _ | refine Kept.ext ?_ _ | refine Kept.drew ?_ | refine Kept.drewN ?_ _))), HU.out.kept (by (repeat (first | exact Kept.refl _ | assumption | refine Kept.alloc ?_ _ | refine Kept.ext ?_ _ | refine Kept.drew ?_ | refine Kept.drewN ?_ _))), HQ.out.on (by (repeat (first | exact Kept.refl _ | assumption | refine Kept.alloc ?_ _ | refine Kept.ext ?_ _ | refine Kept.drew ?_ | refine Kept.drewN ?_ _))), by simpa [Value.ownBlock] using hgu1, HM1.out⟩
                          case measure => simp [intOf]
                        | false =>
                          rw [hs1] at cu
                          go_wp2_with (first | (go_at_call 78; refine (sback_any _ _ _).mono ?_; rintro e w1 ⟨rfl, xb, rfl⟩) | (at_lookup; refine wp_lookI _ (by rfl) _ _ _ rfl (Keyed.of_law lawSide) Try.underlying78 Try.underlying3 (zeroInt _) (w.heap.size + 1) (3 * k) (ownF F (3 * k)) (HMI.out.kept (by (repeat (first | exact Kept.refl _ | assumption | refine Kept.alloc ?_ _ | refine Kept.ext ?_ _ | refine Kept.drew ?_ | refine Kept.drewN ?_ _)))) (F y 2, F y 1) rfl rfl ⟨HI3.out.2, HI3.out.1⟩ (keyOf_side _ ⟨HI3.out.2, HI3.out.1⟩) ?_; rw [show ownF F (3 * k) (F y 2, F y 1) = (t : Int) from HOB.out]) | (go_at_call 122; refine (gEach_any _ _ _).mono ?_; rintro e w1 ⟨rfl, xe, rfl⟩) | (refine wp_putU _ rfl _ _ rfl ub k _ (HU.out.kept (by (repeat (first | exact Kept.refl _ | assumption | refine Kept.alloc ?_ _ | refine Kept.ext ?_ _ | refine Kept.drew ?_ | refine Kept.drewN ?_ _)))) t true rfl rfl htk ?_; intro w2 hU2 hg2; have k2 := (HKW.out.trans (by (repeat (first | exact Kept.refl _ | assumption | refine Kept.alloc ?_ _ | refine Kept.ext ?_ _ | refine Kept.drew ?_ | refine Kept.drewN ?_ _)))).map_store (by simp; omega) hg2; have m2 := mapS_by (HMI.out.kept (by (repeat (first | exact Kept.refl _ | assumption | refine Kept.alloc ?_ _ | refine Kept.ext ?_ _ | refine Kept.drew ?_ | refine Kept.drewN ?_ _)))) hg2 (by omega); have s2 := (HQ.out.on (by (repeat (first | exact Kept.refl _ | assumption | refine Kept.alloc ?_ _ | refine Kept.ext ?_ _ | refine Kept.drew ?_ | refine Kept.drewN ?_ _)))).kept hg2 (by simpa [Value.ownBlock] using hgu1); have HH2 := Lib.hid (And.intro k2 (And.intro m2 (And.intro hU2 s2))); clear hU2 hg2 k2 m2 s2) | (at_builtin; refine wpList_append_q _ rfl _ _ 97 rfl (w.heap.size + 1 + 1) 3 j0 _ 8 Try.underlying97 HJ.out.1 HJ.out.2.1 HJ.out.2.2.1 HJ.out.2.2.2 (by rfl) (.slice (some ⟨g1, o1, none⟩) W1.length qc1) W1.length _ rfl (HH2.out.2.2.2.on (by (repeat (first | exact Kept.refl _ | assumption | refine Kept.alloc ?_ _ | refine Kept.ext ?_ _ | refine Kept.drew ?_ | refine Kept.drewN ?_ _)))) _ 1 (.int .i64 (t : Int)) rfl (by go_simp) rfl (by unfold maxLen; omega) (by omega) (by have := kept_size2 HH2.out.1; simp at this ⊢; omega) ?_; intro v3 w3 hq3 hg3 hor3; have hg4 : World.grownBy _ w3 (some g1) := hg3; have hor4 : v3.ownBlock = some g1 ∨ _ := hor3; have HH3 := Lib.hid (And.intro hq3 (And.intro hg4 hor4)); clear hq3 hg3 hor3 hg4 hor4))
                          have hk3 : Kept (w.alloc (.cells #[.slice A n cap, .slice (some ⟨fb, off, none⟩) k cap2] 25)) w3 := by
                              refine Kept.map_store ?_ ?_ HH3.out.2.1
                              · exact HH2.out.1.trans (by (repeat (first | exact Kept.refl _ | assumption | refine Kept.alloc ?_ _ | refine Kept.ext ?_ _ | refine Kept.drew ?_ | refine Kept.drewN ?_ _)))
                              · simp; omega
                          have hm3 := mapS_by (HH2.out.2.1.kept (by (repeat (first | exact Kept.refl _ | assumption | refine Kept.alloc ?_ _ | refine Kept.ext ?_ _ | refine Kept.drew ?_ | refine Kept.drewN ?_ _)) : Kept w2 (w2.alloc (.cells #[.int .i64 (t : Int)] 3)))) HH3.out.2.1 (by omega)
                          have hu3 := rowU_by (HH2.out.2.2.1.kept (by (repeat (first | exact Kept.refl _ | assumption | refine Kept.alloc ?_ _ | refine Kept.ext ?_ _ | refine Kept.drew ?_ | refine Kept.drewN ?_ _)) : Kept w2 (w2.alloc (.cells #[.int .i64 (t : Int)] 3)))) HH3.out.2.1 (Ne.symm hgu1)
                          have hul := HH2.out.2.2.1.lt
                          have hn3 : v3.ownBlock ≠ some ub := by
                              rcases HH3.out.2.2 with e | e
                              · rw [e]; simpa [Value.ownBlock] using hgu1
                              · rw [e]; simp; omega
                          have HK3 := Lib.hid (And.intro hk3 (And.intro hm3 (And.intro hu3 hn3)))
                          clear hk3 hm3 hu3 hul hn3
                          go_roundw
                          case rel => exact ⟨W1 ++ [t], upd S1 t, 1+1, by omega, by go_num, (HBf.out.put HG1.out htk ⟨3 * y + 1, by omega, by omega, HT.out⟩ hs1).weak (fun z ⟨l, h1, h2, h3⟩ _ => by
                              by_cases e : l = 1
                              · subst e; left; right; rw [← h2, HT.out]
                              · left; left; exact ⟨l, by omega, h2, h3⟩), HK3.out.1, HK3.out.2.1, HK3.out.2.2.1, by simpa using HH3.out.1, HK3.out.2.2.2, by have e1 := cnB_upd htk hs1; have e2 := HM1.out; simp only [List.length_append, List.length_singleton]; omega⟩
                          case measure => simp [intOf]
                      · have i0 := IF y hy 2 (by omega)
                        have i1 := IF y hy 0 (by omega)
                        have HI3 := Lib.hid (And.intro i0 i1)
                        clear i0 i1
                        rw [nxt_at y 2 (by omega), tl_at F y _ (by omega), tl_at F y _ (by omega)] at hob
                        have HOB := Lib.hid hob
                        clear hob
                        cases hs1 : S1 t with
                        | true =>
                          rw [hs1] at cu
                          go_wp2_with (first | (go_at_call 78; refine (sback_any _ _ _).mono ?_; rintro e w1 ⟨rfl, xb, rfl⟩) | (at_lookup; refine wp_lookI _ (by rfl) _ _ _ rfl (Keyed.of_law lawSide) Try.underlying78 Try.underlying3 (zeroInt _) (w.heap.size + 1) (3 * k) (ownF F (3 * k)) (HMI.out.kept (by (repeat (first | exact Kept.refl _ | assumption | refine Kept.alloc ?_ _ | refine Kept.ext ?_ _ | refine Kept.drew ?_ | refine Kept.drewN ?_ _)))) (F y 0, F y 2) rfl rfl ⟨HI3.out.2, HI3.out.1⟩ (keyOf_side _ ⟨HI3.out.2, HI3.out.1⟩) ?_; rw [show ownF F (3 * k) (F y 0, F y 2) = (t : Int) from HOB.out]) | (go_at_call 122; refine (gEach_any _ _ _).mono ?_; rintro e w1 ⟨rfl, xe, rfl⟩))
                          go_roundw
                          case rel => exact ⟨W1, S1, 2+1, by omega, by go_num, HBf.out.weak (fun z ⟨l, h1, h2, h3⟩ _ => by
                              by_cases e : l = 2
                              · subst e; right; rw [← h2, HT.out]; exact hs1
                              · left; exact ⟨l, by omega, h2, h3⟩), HKW.out.trans (by (repeat (first | exact Kept.refl _ | assumption | refine Kept.alloc ?_ _ | refine Kept.ext ?_ _ | refine Kept.drew ?_ | refine Kept.drewN ?_ _))), HMI.out.kept (by (repeat (first | exact Kept.refl _ | assumption | refine Kept.alloc ?_ _ | refine Kept.ext ?_ _ | refine Kept.drew ?_ | refine Kept.drewN ?_ _))), HU.out.kept (by (repeat (first | exact Kept.refl _ | assumption | refine Kept.alloc ?_ _ | refine Kept.ext ?_ _ | refine Kept.drew ?_ | refine Kept.drewN ?_ _))), HQ.out.on (by (repeat (first | exact Kept.refl _ | assumption | refine Kept.alloc ?_ _ | refine Kept.ext ?_ _ | refine Kept.drew ?_ | refine Kept.drewN ?_ _))), by simpa [Value.ownBlock] using hgu1, HM1.out⟩
                          case measure => simp [intOf]
                        | false =>
                          rw [hs1] at cu
                          go_wp2_with (first | (go_at_call 78; refine (sback_any _ _ _).mono ?_; rintro e w1 ⟨rfl, xb, rfl⟩) | (at_lookup; refine wp_lookI _ (by rfl) _ _ _ rfl (Keyed.of_law lawSide) Try.underlying78 Try.underlying3 (zeroInt _) (w.heap.size + 1) (3 * k) (ownF F (3 * k)) (HMI.out.kept (by (repeat (first | exact Kept.refl _ | assumption | refine Kept.alloc ?_ _ | refine Kept.ext ?_ _ | refine Kept.drew ?_ | refine Kept.drewN ?_ _)))) (F y 0, F y 2) rfl rfl ⟨HI3.out.2, HI3.out.1⟩ (keyOf_side _ ⟨HI3.out.2, HI3.out.1⟩) ?_; rw [show ownF F (3 * k) (F y 0, F y 2) = (t : Int) from HOB.out]) | (go_at_call 122; refine (gEach_any _ _ _).mono ?_; rintro e w1 ⟨rfl, xe, rfl⟩) | (refine wp_putU _ rfl _ _ rfl ub k _ (HU.out.kept (by (repeat (first | exact Kept.refl _ | assumption | refine Kept.alloc ?_ _ | refine Kept.ext ?_ _ | refine Kept.drew ?_ | refine Kept.drewN ?_ _)))) t true rfl rfl htk ?_; intro w2 hU2 hg2; have k2 := (HKW.out.trans (by (repeat (first | exact Kept.refl _ | assumption | refine Kept.alloc ?_ _ | refine Kept.ext ?_ _ | refine Kept.drew ?_ | refine Kept.drewN ?_ _)))).map_store (by simp; omega) hg2; have m2 := mapS_by (HMI.out.kept (by (repeat (first | exact Kept.refl _ | assumption | refine Kept.alloc ?_ _ | refine Kept.ext ?_ _ | refine Kept.drew ?_ | refine Kept.drewN ?_ _)))) hg2 (by omega); have s2 := (HQ.out.on (by (repeat (first | exact Kept.refl _ | assumption | refine Kept.alloc ?_ _ | refine Kept.ext ?_ _ | refine Kept.drew ?_ | refine Kept.drewN ?_ _)))).kept hg2 (by simpa [Value.ownBlock] using hgu1); have HH2 := Lib.hid (And.intro k2 (And.intro m2 (And.intro hU2 s2))); clear hU2 hg2 k2 m2 s2) | (at_builtin; refine wpList_append_q _ rfl _ _ 97 rfl (w.heap.size + 1 + 1) 3 j0 _ 8 Try.underlying97 HJ.out.1 HJ.out.2.1 HJ.out.2.2.1 HJ.out.2.2.2 (by rfl) (.slice (some ⟨g1, o1, none⟩) W1.length qc1) W1.length _ rfl (HH2.out.2.2.2.on (by (repeat (first | exact Kept.refl _ | assumption | refine Kept.alloc ?_ _ | refine Kept.ext ?_ _ | refine Kept.drew ?_ | refine Kept.drewN ?_ _)))) _ 1 (.int .i64 (t : Int)) rfl (by go_simp) rfl (by unfold maxLen; omega) (by omega) (by have := kept_size2 HH2.out.1; simp at this ⊢; omega) ?_; intro v3 w3 hq3 hg3 hor3; have hg4 : World.grownBy _ w3 (some g1) := hg3; have hor4 : v3.ownBlock = some g1 ∨ _ := hor3; have HH3 := Lib.hid (And.intro hq3 (And.intro hg4 hor4)); clear hq3 hg3 hor3 hg4 hor4))
                          have hk3 : Kept (w.alloc (.cells #[.slice A n cap, .slice (some ⟨fb, off, none⟩) k cap2] 25)) w3 := by
                              refine Kept.map_store ?_ ?_ HH3.out.2.1
                              · exact HH2.out.1.trans (by (repeat (first | exact Kept.refl _ | assumption | refine Kept.alloc ?_ _ | refine Kept.ext ?_ _ | refine Kept.drew ?_ | refine Kept.drewN ?_ _)))
                              · simp; omega
                          have hm3 := mapS_by (HH2.out.2.1.kept (by (repeat (first | exact Kept.refl _ | assumption | refine Kept.alloc ?_ _ | refine Kept.ext ?_ _ | refine Kept.drew ?_ | refine Kept.drewN ?_ _)) : Kept w2 (w2.alloc (.cells #[.int .i64 (t : Int)] 3)))) HH3.out.2.1 (by omega)
                          have hu3 := rowU_by (HH2.out.2.2.1.kept (by (repeat (first | exact Kept.refl _ | assumption | refine Kept.alloc ?_ _ | refine Kept.ext ?_ _ | refine Kept.drew ?_ | refine Kept.drewN ?_ _)) : Kept w2 (w2.alloc (.cells #[.int .i64 (t : Int)] 3)))) HH3.out.2.1 (Ne.symm hgu1)
                          have hul := HH2.out.2.2.1.lt
                          have hn3 : v3.ownBlock ≠ some ub := by
                              rcases HH3.out.2.2 with e | e
                              · rw [e]; simpa [Value.ownBlock] using hgu1
                              · rw [e]; simp; omega
                          have HK3 := Lib.hid (And.intro hk3 (And.intro hm3 (And.intro hu3 hn3)))
                          clear hk3 hm3 hu3 hul hn3
                          go_roundw
                          case rel => exact ⟨W1 ++ [t], upd S1 t, 2+1, by omega, by go_num, (HBf.out.put HG1.out htk ⟨3 * y + 2, by omega, by omega, HT.out⟩ hs1).weak (fun z ⟨l, h1, h2, h3⟩ _ => by
                              by_cases e : l = 2
                              · subst e; left; right; rw [← h2, HT.out]
                              · left; left; exact ⟨l, by omega, h2, h3⟩), HK3.out.1, HK3.out.2.1, HK3.out.2.2.1, by simpa using HH3.out.1, HK3.out.2.2.2, by have e1 := cnB_upd htk hs1; have e2 := HM1.out; simp only [List.length_append, List.length_singleton]; omega⟩
                          case measure => simp [intOf]
                    · obtain rfl : q = 3 := by omega
                      clear hB hkw hM hU hQ hne hM1
                      go_wp2_with fail
                      go_roundw
                      case rel => exact ⟨W1, S1, y, HBf.out.weak (fun z _ ⟨a, a1, a2, a3⟩ => .inl ⟨a % 3, by omega, by rw [show 3 * y + a % 3 = a by omega]; exact a3, trivial⟩), HKW.out, HMI.out, HU.out, HQ.out, by simpa [Value.ownBlock] using hgu1, by have e1 := HM0.out; have e2 := HM1.out; omega⟩
                      case measure => have e1 := unN_of HU.out; have e2 := HUN.out; have e3 := HM0.out; have e4 := HM1.out; rw [e1, e2]; simp [slLen]; omega
                · have hQ1 := ownsQ.pop (by simpa [hl] using hQ)
                  have HQ := Lib.hid hQ1
                  have HM0 := Lib.hid hM0
                  clear hB hkw hM hU hQ hk0 hB1 hQ1 hb' hun hl HBf hM0
                  go_wp2_with (first | (go_at_call 77; refine (ssides_any _ _ _ _).mono ?_; rintro e w1 ⟨rfl, x, rfl⟩))
                  go_loopw [15, 84] (fun v j wq => ∃ (W1 : List Nat) (S1 : Nat → Bool) (q : Nat), q ≤ 3 ∧ j = .int .i64 q ∧ Bfs (adjF al k) k r S S1 W1 y (fun z => ∃ l, l < q ∧ al (3 * y + l) / 3 = z ∧ True) ∧ Kept (w.alloc (.cells #[.slice A n cap, .slice (some ⟨fb, off, none⟩) k cap2] 25)) wq ∧ MapS wq (w.heap.size + 1) (3 * k) (ownF F (3 * k)) ∧ RowU wq ub k S1 ∧ ownsQ wq (w.heap.size + 1 + 1) 3 v W1.length (W1.map fun y : Nat => Value.int .i64 (y : Int)) ∧ v.ownBlock ≠ some ub ∧ 2 * cnB (fun j => !S1 j) k + W1.length ≤ M0) (fun _ j _ => 3 - (intOf j).toNat)
                  case atStart => exact ⟨W, S', 0, by omega, rfl, HB1.out.weak (fun z ⟨l, h, _⟩ _ => absurd h (by omega)), HKW.out.trans (by (repeat (first | exact Kept.refl _ | assumption | refine Kept.alloc ?_ _ | refine Kept.ext ?_ _ | refine Kept.drew ?_ | refine Kept.drewN ?_ _))), HM.out.kept (by (repeat (first | exact Kept.refl _ | assumption | refine Kept.alloc ?_ _ | refine Kept.ext ?_ _ | refine Kept.drew ?_ | refine Kept.drewN ?_ _))), HU.out.kept (by (repeat (first | exact Kept.refl _ | assumption | refine Kept.alloc ?_ _ | refine Kept.ext ?_ _ | refine Kept.drew ?_ | refine Kept.drewN ?_ _))), by rw [HL.out]; exact HQ.out.on (by (repeat (first | exact Kept.refl _ | assumption | refine Kept.alloc ?_ _ | refine Kept.ext ?_ _ | refine Kept.drew ?_ | refine Kept.drewN ?_ _))), by simpa [Value.ownBlock] using hgu, by rw [HL.out]; exact Nat.le_of_eq HM0.out⟩
                  case round =>
                    clear HKW HM HU HQ c0 kb LBX LG LU
                    obtain ⟨W1, S1, q, hq, rfl, hB, hkw, hM, hU, hQ, hne, hM1⟩ := hrel
                    obtain ⟨g1, o1, qc1, rfl, hgb1, hgl1, hqn1, hqc1⟩ := hQ.form
                    have hgu1 : g1 ≠ ub := fun e => hne (by simp [Value.ownBlock, e])
                    have LU : Lower ub wr.heap.size := ⟨hU.lt⟩
                    have kb : wr.cell? ⟨w.heap.size, 1, none⟩ = some (.slice (some ⟨fb, off, none⟩) k cap2) := kept_cell (w := (w.alloc (.cells #[.slice A n cap, .slice (some ⟨fb, off, none⟩) k cap2] 25))) (by go_simp) hkw
                    have LBX : Lower w.heap.size wr.heap.size := ⟨cell_lt kb⟩
                    have HBf := Lib.hid hB
                    have HKW := Lib.hid hkw
                    have HMI := Lib.hid hM
                    have HU := Lib.hid hU
                    have HQ := Lib.hid hQ
                    have HM1 := Lib.hid hM1
                    have hW96 : W1.length ≤ 500 := by have := HM1.out; have h5 := HM0.out; omega
                    by_cases hlt3 : q < 3
                    · obtain ⟨n1, n2, n3⟩ := HO.out.nb (3 * y + q) (by omega)
                      obtain ⟨t, ht⟩ : ∃ t, al (3 * y + q) / 3 = t := ⟨_, rfl⟩
                      have htk : t < k := by omega
                      have cu := hU.cell t htk
                      have fu := hU.froz t htk
                      have HT := Lib.hid ht
                      have hob := ownF_back HO.out (show 3 * y + q < 3 * k by omega)
                      rw [ht] at hob
                      clear hB hkw hM hU hQ hne hM1 n1 n2 n3 ht
                      rcases (show q = 0 ∨ q = 1 ∨ q = 2 by omega) with rfl | rfl | rfl
                      · have i0 := IF y hy 0 (by omega)
                        have i1 := IF y hy 1 (by omega)
                        have HI3 := Lib.hid (And.intro i0 i1)
                        clear i0 i1
                        rw [nxt_at y 0 (by omega), tl_at F y _ (by omega), tl_at F y _ (by omega)] at hob
                        have HOB := Lib.hid hob
                        clear hob
                        cases hs1 : S1 t with
                        | true =>
                          rw [hs1] at cu
                          go_wp2_with (first | (go_at_call 78; refine (sback_any _ _ _).mono ?_; rintro e w1 ⟨rfl, xb, rfl⟩) | (at_lookup; refine wp_lookI _ (by rfl) _ _ _ rfl (Keyed.of_law lawSide) Try.underlying78 Try.underlying3 (zeroInt _) (w.heap.size + 1) (3 * k) (ownF F (3 * k)) (HMI.out.kept (by (repeat (first | exact Kept.refl _ | assumption | refine Kept.alloc ?_ _ | refine Kept.ext ?_ _ | refine Kept.drew ?_ | refine Kept.drewN ?_ _)))) (F y 1, F y 0) rfl rfl ⟨HI3.out.2, HI3.out.1⟩ (keyOf_side _ ⟨HI3.out.2, HI3.out.1⟩) ?_; rw [show ownF F (3 * k) (F y 1, F y 0) = (t : Int) from HOB.out]) | (go_at_call 122; refine (gEach_any _ _ _).mono ?_; rintro e w1 ⟨rfl, xe, rfl⟩))
                          go_roundw
                          case rel => exact ⟨W1, S1, 0+1, by omega, by go_num, HBf.out.weak (fun z ⟨l, h1, h2, h3⟩ _ => by
                              by_cases e : l = 0
                              · subst e; right; rw [← h2, HT.out]; exact hs1
                              · left; exact ⟨l, by omega, h2, h3⟩), HKW.out.trans (by (repeat (first | exact Kept.refl _ | assumption | refine Kept.alloc ?_ _ | refine Kept.ext ?_ _ | refine Kept.drew ?_ | refine Kept.drewN ?_ _))), HMI.out.kept (by (repeat (first | exact Kept.refl _ | assumption | refine Kept.alloc ?_ _ | refine Kept.ext ?_ _ | refine Kept.drew ?_ | refine Kept.drewN ?_ _))), HU.out.kept (by (repeat (first | exact Kept.refl _ | assumption | refine Kept.alloc ?_ _ | refine Kept.ext ?_ _ | refine Kept.drew ?_ | refine Kept.drewN ?_ _))), HQ.out.on (by (repeat (first | exact Kept.refl _ | assumption | refine Kept.alloc ?_ _ | refine Kept.ext ?_ _ | refine Kept.drew ?_ | refine Kept.drewN ?_ _))), by simpa [Value.ownBlock] using hgu1, HM1.out⟩
                          case measure => simp [intOf]
                        | false =>
                          rw [hs1] at cu
                          go_wp2_with (first | (go_at_call 78; refine (sback_any _ _ _).mono ?_; rintro e w1 ⟨rfl, xb, rfl⟩) | (at_lookup; refine wp_lookI _ (by rfl) _ _ _ rfl (Keyed.of_law lawSide) Try.underlying78 Try.underlying3 (zeroInt _) (w.heap.size + 1) (3 * k) (ownF F (3 * k)) (HMI.out.kept (by (repeat (first | exact Kept.refl _ | assumption | refine Kept.alloc ?_ _ | refine Kept.ext ?_ _ | refine Kept.drew ?_ | refine Kept.drewN ?_ _)))) (F y 1, F y 0) rfl rfl ⟨HI3.out.2, HI3.out.1⟩ (keyOf_side _ ⟨HI3.out.2, HI3.out.1⟩) ?_; rw [show ownF F (3 * k) (F y 1, F y 0) = (t : Int) from HOB.out]) | (go_at_call 122; refine (gEach_any _ _ _).mono ?_; rintro e w1 ⟨rfl, xe, rfl⟩) | (refine wp_putU _ rfl _ _ rfl ub k _ (HU.out.kept (by (repeat (first | exact Kept.refl _ | assumption | refine Kept.alloc ?_ _ | refine Kept.ext ?_ _ | refine Kept.drew ?_ | refine Kept.drewN ?_ _)))) t true rfl rfl htk ?_; intro w2 hU2 hg2; have k2 := (HKW.out.trans (by (repeat (first | exact Kept.refl _ | assumption | refine Kept.alloc ?_ _ | refine Kept.ext ?_ _ | refine Kept.drew ?_ | refine Kept.drewN ?_ _)))).map_store (by simp; omega) hg2; have m2 := mapS_by (HMI.out.kept (by (repeat (first | exact Kept.refl _ | assumption | refine Kept.alloc ?_ _ | refine Kept.ext ?_ _ | refine Kept.drew ?_ | refine Kept.drewN ?_ _)))) hg2 (by omega); have s2 := (HQ.out.on (by (repeat (first | exact Kept.refl _ | assumption | refine Kept.alloc ?_ _ | refine Kept.ext ?_ _ | refine Kept.drew ?_ | refine Kept.drewN ?_ _)))).kept hg2 (by simpa [Value.ownBlock] using hgu1); have HH2 := Lib.hid (And.intro k2 (And.intro m2 (And.intro hU2 s2))); clear hU2 hg2 k2 m2 s2) | (at_builtin; refine wpList_append_q _ rfl _ _ 97 rfl (w.heap.size + 1 + 1) 3 j0 _ 8 Try.underlying97 HJ.out.1 HJ.out.2.1 HJ.out.2.2.1 HJ.out.2.2.2 (by rfl) (.slice (some ⟨g1, o1, none⟩) W1.length qc1) W1.length _ rfl (HH2.out.2.2.2.on (by (repeat (first | exact Kept.refl _ | assumption | refine Kept.alloc ?_ _ | refine Kept.ext ?_ _ | refine Kept.drew ?_ | refine Kept.drewN ?_ _)))) _ 1 (.int .i64 (t : Int)) rfl (by go_simp) rfl (by unfold maxLen; omega) (by omega) (by have := kept_size2 HH2.out.1; simp at this ⊢; omega) ?_; intro v3 w3 hq3 hg3 hor3; have hg4 : World.grownBy _ w3 (some g1) := hg3; have hor4 : v3.ownBlock = some g1 ∨ _ := hor3; have HH3 := Lib.hid (And.intro hq3 (And.intro hg4 hor4)); clear hq3 hg3 hor3 hg4 hor4))
                          have hk3 : Kept (w.alloc (.cells #[.slice A n cap, .slice (some ⟨fb, off, none⟩) k cap2] 25)) w3 := by
                              refine Kept.map_store ?_ ?_ HH3.out.2.1
                              · exact HH2.out.1.trans (by (repeat (first | exact Kept.refl _ | assumption | refine Kept.alloc ?_ _ | refine Kept.ext ?_ _ | refine Kept.drew ?_ | refine Kept.drewN ?_ _)))
                              · simp; omega
                          have hm3 := mapS_by (HH2.out.2.1.kept (by (repeat (first | exact Kept.refl _ | assumption | refine Kept.alloc ?_ _ | refine Kept.ext ?_ _ | refine Kept.drew ?_ | refine Kept.drewN ?_ _)) : Kept w2 (w2.alloc (.cells #[.int .i64 (t : Int)] 3)))) HH3.out.2.1 (by omega)
                          have hu3 := rowU_by (HH2.out.2.2.1.kept (by (repeat (first | exact Kept.refl _ | assumption | refine Kept.alloc ?_ _ | refine Kept.ext ?_ _ | refine Kept.drew ?_ | refine Kept.drewN ?_ _)) : Kept w2 (w2.alloc (.cells #[.int .i64 (t : Int)] 3)))) HH3.out.2.1 (Ne.symm hgu1)
                          have hul := HH2.out.2.2.1.lt
                          have hn3 : v3.ownBlock ≠ some ub := by
                              rcases HH3.out.2.2 with e | e
                              · rw [e]; simpa [Value.ownBlock] using hgu1
                              · rw [e]; simp; omega
                          have HK3 := Lib.hid (And.intro hk3 (And.intro hm3 (And.intro hu3 hn3)))
                          clear hk3 hm3 hu3 hul hn3
                          go_roundw
                          case rel => exact ⟨W1 ++ [t], upd S1 t, 0+1, by omega, by go_num, (HBf.out.put HG1.out htk ⟨3 * y + 0, by omega, by omega, HT.out⟩ hs1).weak (fun z ⟨l, h1, h2, h3⟩ _ => by
                              by_cases e : l = 0
                              · subst e; left; right; rw [← h2, HT.out]
                              · left; left; exact ⟨l, by omega, h2, h3⟩), HK3.out.1, HK3.out.2.1, HK3.out.2.2.1, by simpa using HH3.out.1, HK3.out.2.2.2, by have e1 := cnB_upd htk hs1; have e2 := HM1.out; simp only [List.length_append, List.length_singleton]; omega⟩
                          case measure => simp [intOf]
                      · have i0 := IF y hy 1 (by omega)
                        have i1 := IF y hy 2 (by omega)
                        have HI3 := Lib.hid (And.intro i0 i1)
                        clear i0 i1
                        rw [nxt_at y 1 (by omega), tl_at F y _ (by omega), tl_at F y _ (by omega)] at hob
                        have HOB := Lib.hid hob
                        clear hob
                        cases hs1 : S1 t with
                        | true =>
                          rw [hs1] at cu
                          go_wp2_with (first | (go_at_call 78; refine (sback_any _ _ _).mono ?_; rintro e w1 ⟨rfl, xb, rfl⟩) | (at_lookup; refine wp_lookI _ (by rfl) _ _ _ rfl (Keyed.of_law lawSide) Try.underlying78 Try.underlying3 (zeroInt _) (w.heap.size + 1) (3 * k) (ownF F (3 * k)) (HMI.out.kept (by (repeat (first | exact Kept.refl _ | assumption | refine Kept.alloc ?_ _ | refine Kept.ext ?_ _ | refine Kept.drew ?_ | refine Kept.drewN ?_ _)))) (F y 2, F y 1) rfl rfl ⟨HI3.out.2, HI3.out.1⟩ (keyOf_side _ ⟨HI3.out.2, HI3.out.1⟩) ?_; rw [show ownF F (3 * k) (F y 2, F y 1) = (t : Int) from HOB.out]) | (go_at_call 122; refine (gEach_any _ _ _).mono ?_; rintro e w1 ⟨rfl, xe, rfl⟩))
                          go_roundw
                          case rel => exact ⟨W1, S1, 1+1, by omega, by go_num, HBf.out.weak (fun z ⟨l, h1, h2, h3⟩ _ => by
                              by_cases e : l = 1
                              · subst e; right; rw [← h2, HT.out]; exact hs1
                              · left; exact ⟨l, by omega, h2, h3⟩), HKW.out.trans (by (repeat (first | exact Kept.refl _ | assumption | refine Kept.alloc ?_ _ | refine Kept.ext ?_ _ | refine Kept.drew ?_ | refine Kept.drewN ?_ _))), HMI.out.kept (by (repeat (first | exact Kept.refl _ | assumption | refine Kept.alloc ?_ _ | refine Kept.ext ?_ _ | refine Kept.drew ?_ | refine Kept.drewN ?_ _))), HU.out.kept (by (repeat (first | exact Kept.refl _ | assumption | refine Kept.alloc ?_ _ | refine Kept.ext ?_ _ | refine Kept.drew ?_ | refine Kept.drewN ?_ _))), HQ.out.on (by (repeat (first | exact Kept.refl _ | assumption | refine Kept.alloc ?_ _ | refine Kept.ext ?_ _ | refine Kept.drew ?_ | refine Kept.drewN ?_ _))), by simpa [Value.ownBlock] using hgu1, HM1.out⟩
                          case measure => simp [intOf]
                        | false =>
                          rw [hs1] at cu
                          go_wp2_with (first | (go_at_call 78; refine (sback_any _ _ _).mono ?_; rintro e w1 ⟨rfl, xb, rfl⟩) | (at_lookup; refine wp_lookI _ (by rfl) _ _ _ rfl (Keyed.of_law lawSide) Try.underlying78 Try.underlying3 (zeroInt _) (w.heap.size + 1) (3 * k) (ownF F (3 * k)) (HMI.out.kept (by (repeat (first | exact Kept.refl _ | assumption | refine Kept.alloc ?_ _ | refine Kept.ext ?_ _ | refine Kept.drew ?_ | refine Kept.drewN ?_ _)))) (F y 2, F y 1) rfl rfl ⟨HI3.out.2, HI3.out.1⟩ (keyOf_side _ ⟨HI3.out.2, HI3.out.1⟩) ?_; rw [show ownF F (3 * k) (F y 2, F y 1) = (t : Int) from HOB.out]) | (go_at_call 122; refine (gEach_any _ _ _).mono ?_; rintro e w1 ⟨rfl, xe, rfl⟩) | (refine wp_putU _ rfl _ _ rfl ub k _ (HU.out.kept (by (repeat (first | exact Kept.refl _ | assumption | refine Kept.alloc ?_ _ | refine Kept.ext ?_ _ | refine Kept.drew ?_ | refine Kept.drewN ?_ _)))) t true rfl rfl htk ?_; intro w2 hU2 hg2; have k2 := (HKW.out.trans (by (repeat (first | exact Kept.refl _ | assumption | refine Kept.alloc ?_ _ | refine Kept.ext ?_ _ | refine Kept.drew ?_ | refine Kept.drewN ?_ _)))).map_store (by simp; omega) hg2; have m2 := mapS_by (HMI.out.kept (by (repeat (first | exact Kept.refl _ | assumption | refine Kept.alloc ?_ _ | refine Kept.ext ?_ _ | refine Kept.drew ?_ | refine Kept.drewN ?_ _)))) hg2 (by omega); have s2 := (HQ.out.on (by (repeat (first | exact Kept.refl _ | assumption | refine Kept.alloc ?_ _ | refine Kept.ext ?_ _ | refine Kept.drew ?_ | refine Kept.drewN ?_ _)))).kept hg2 (by simpa [Value.ownBlock] using hgu1); have HH2 := Lib.hid (And.intro k2 (And.intro m2 (And.intro hU2 s2))); clear hU2 hg2 k2 m2 s2) | (at_builtin; refine wpList_append_q _ rfl _ _ 97 rfl (w.heap.size + 1 + 1) 3 j0 _ 8 Try.underlying97 HJ.out.1 HJ.out.2.1 HJ.out.2.2.1 HJ.out.2.2.2 (by rfl) (.slice (some ⟨g1, o1, none⟩) W1.length qc1) W1.length _ rfl (HH2.out.2.2.2.on (by (repeat (first | exact Kept.refl _ | assumption | refine Kept.alloc ?_ _ | refine Kept.ext ?_ _ | refine Kept.drew ?_ | refine Kept.drewN ?_ _)))) _ 1 (.int .i64 (t : Int)) rfl (by go_simp) rfl (by unfold maxLen; omega) (by omega) (by have := kept_size2 HH2.out.1; simp at this ⊢; omega) ?_; intro v3 w3 hq3 hg3 hor3; have hg4 : World.grownBy _ w3 (some g1) := hg3; have hor4 : v3.ownBlock = some g1 ∨ _ := hor3; have HH3 := Lib.hid (And.intro hq3 (And.intro hg4 hor4)); clear hq3 hg3 hor3 hg4 hor4))
                          have hk3 : Kept (w.alloc (.cells #[.slice A n cap, .slice (some ⟨fb, off, none⟩) k cap2] 25)) w3 := by
                              refine Kept.map_store ?_ ?_ HH3.out.2.1
                              · exact HH2.out.1.trans (by (repeat (first | exact Kept.refl _ | assumption | refine Kept.alloc ?_ _ | refine Kept.ext ?_ _ | refine Kept.drew ?_ | refine Kept.drewN ?_ _)))
                              · simp; omega
                          have hm3 := mapS_by (HH2.out.2.1.kept (by (repeat (first | exact Kept.refl _ | assumption | refine Kept.alloc ?_ _ | refine Kept.ext ?_ _ | refine Kept.drew ?_ | refine Kept.drewN ?_ _)) : Kept w2 (w2.alloc (.cells #[.int .i64 (t : Int)] 3)))) HH3.out.2.1 (by omega)
                          have hu3 := rowU_by (HH2.out.2.2.1.kept (by (repeat (first | exact Kept.refl _ | assumption | refine Kept.alloc ?_ _ | refine Kept.ext ?_ _ | refine Kept.drew ?_ | refine Kept.drewN ?_ _)) : Kept w2 (w2.alloc (.cells #[.int .i64 (t : Int)] 3)))) HH3.out.2.1 (Ne.symm hgu1)
                          have hul := HH2.out.2.2.1.lt
                          have hn3 : v3.ownBlock ≠ some ub := by
                              rcases HH3.out.2.2 with e | e
                              · rw [e]; simpa [Value.ownBlock] using hgu1
                              · rw [e]; simp; omega
                          have HK3 := Lib.hid (And.intro hk3 (And.intro hm3 (And.intro hu3 hn3)))
                          clear hk3 hm3 hu3 hul hn3
                          go_roundw
                          case rel => exact ⟨W1 ++ [t], upd S1 t, 1+1, by omega, by go_num, (HBf.out.put HG1.out htk ⟨3 * y + 1, by omega, by omega, HT.out⟩ hs1).weak (fun z ⟨l, h1, h2, h3⟩ _ => by
                              by_cases e : l = 1
                              · subst e; left; right; rw [← h2, HT.out]
                              · left; left; exact ⟨l, by omega, h2, h3⟩), HK3.out.1, HK3.out.2.1, HK3.out.2.2.1, by simpa using HH3.out.1, HK3.out.2.2.2, by have e1 := cnB_upd htk hs1; have e2 := HM1.out; simp only [List.length_append, List.length_singleton]; omega⟩
                          case measure => simp [intOf]
                      · have i0 := IF y hy 2 (by omega)
                        have i1 := IF y hy 0 (by omega)
                        have HI3 := Lib.hid (And.intro i0 i1)
                        clear i0 i1
                        rw [nxt_at y 2 (by omega), tl_at F y _ (by omega), tl_at F y _ (by omega)] at hob
                        have HOB := Lib.hid hob
                        clear hob
                        cases hs1 : S1 t with
                        | true =>
                          rw [hs1] at cu
                          go_wp2_with (first | (go_at_call 78; refine (sback_any _ _ _).mono ?_; rintro e w1 ⟨rfl, xb, rfl⟩) | (at_lookup; refine wp_lookI _ (by rfl) _ _ _ rfl (Keyed.of_law lawSide) Try.underlying78 Try.underlying3 (zeroInt _) (w.heap.size + 1) (3 * k) (ownF F (3 * k)) (HMI.out.kept (by (repeat (first | exact Kept.refl _ | assumption | refine Kept.alloc ?_ _ | refine Kept.ext ?_ _ | refine Kept.drew ?_ | refine Kept.drewN ?_ _)))) (F y 0, F y 2) rfl rfl ⟨HI3.out.2, HI3.out.1⟩ (keyOf_side _ ⟨HI3.out.2, HI3.out.1⟩) ?_; rw [show ownF F (3 * k) (F y 0, F y 2) = (t : Int) from HOB.out]) | (go_at_call 122; refine (gEach_any _ _ _).mono ?_; rintro e w1 ⟨rfl, xe, rfl⟩))
                          go_roundw
                          case rel => exact ⟨W1, S1, 2+1, by omega, by go_num, HBf.out.weak (fun z ⟨l, h1, h2, h3⟩ _ => by
                              by_cases e : l = 2
                              · subst e; right; rw [← h2, HT.out]; exact hs1
                              · left; exact ⟨l, by omega, h2, h3⟩), HKW.out.trans (by (repeat (first | exact Kept.refl _ | assumption | refine Kept.alloc ?_ _ | refine Kept.ext ?_ _ | refine Kept.drew ?_ | refine Kept.drewN ?_ _))), HMI.out.kept (by (repeat (first | exact Kept.refl _ | assumption | refine Kept.alloc ?_ _ | refine Kept.ext ?_ _ | refine Kept.drew ?_ | refine Kept.drewN ?_ _))), HU.out.kept (by (repeat (first | exact Kept.refl _ | assumption | refine Kept.alloc ?_ _ | refine Kept.ext ?_ _ | refine Kept.drew ?_ | refine Kept.drewN ?_ _))), HQ.out.on (by (repeat (first | exact Kept.refl _ | assumption | refine Kept.alloc ?_ _ | refine Kept.ext ?_ _ | refine Kept.drew ?_ | refine Kept.drewN ?_ _))), by simpa [Value.ownBlock] using hgu1, HM1.out⟩
                          case measure => simp [intOf]
                        | false =>
                          rw [hs1] at cu
                          go_wp2_with (first | (go_at_call 78; refine (sback_any _ _ _).mono ?_; rintro e w1 ⟨rfl, xb, rfl⟩) | (at_lookup; refine wp_lookI _ (by rfl) _ _ _ rfl (Keyed.of_law lawSide) Try.underlying78 Try.underlying3 (zeroInt _) (w.heap.size + 1) (3 * k) (ownF F (3 * k)) (HMI.out.kept (by (repeat (first | exact Kept.refl _ | assumption | refine Kept.alloc ?_ _ | refine Kept.ext ?_ _ | refine Kept.drew ?_ | refine Kept.drewN ?_ _)))) (F y 0, F y 2) rfl rfl ⟨HI3.out.2, HI3.out.1⟩ (keyOf_side _ ⟨HI3.out.2, HI3.out.1⟩) ?_; rw [show ownF F (3 * k) (F y 0, F y 2) = (t : Int) from HOB.out]) | (go_at_call 122; refine (gEach_any _ _ _).mono ?_; rintro e w1 ⟨rfl, xe, rfl⟩) | (refine wp_putU _ rfl _ _ rfl ub k _ (HU.out.kept (by (repeat (first | exact Kept.refl _ | assumption | refine Kept.alloc ?_ _ | refine Kept.ext ?_ _ | refine Kept.drew ?_ | refine Kept.drewN ?_ _)))) t true rfl rfl htk ?_; intro w2 hU2 hg2; have k2 := (HKW.out.trans (by (repeat (first | exact Kept.refl _ | assumption | refine Kept.alloc ?_ _ | refine Kept.ext ?_ _ | refine Kept.drew ?_ | refine Kept.drewN ?_ _)))).map_store (by simp; omega) hg2; have m2 := mapS_by (HMI.out.kept (by (repeat (first | exact Kept.refl _ | assumption | refine Kept.alloc ?_ _ | refine Kept.ext ?_ _ | refine Kept.drew ?_ | refine Kept.drewN ?_ _)))) hg2 (by omega); have s2 := (HQ.out.on (by (repeat (first | exact Kept.refl _ | assumption | refine Kept.alloc ?_ _ | refine Kept.ext ?_ _ | refine Kept.drew ?_ | refine Kept.drewN ?_ _)))).kept hg2 (by simpa [Value.ownBlock] using hgu1); have HH2 := Lib.hid (And.intro k2 (And.intro m2 (And.intro hU2 s2))); clear hU2 hg2 k2 m2 s2) | (at_builtin; refine wpList_append_q _ rfl _ _ 97 rfl (w.heap.size + 1 + 1) 3 j0 _ 8 Try.underlying97 HJ.out.1 HJ.out.2.1 HJ.out.2.2.1 HJ.out.2.2.2 (by rfl) (.slice (some ⟨g1, o1, none⟩) W1.length qc1) W1.length _ rfl (HH2.out.2.2.2.on (by (repeat (first | exact Kept.refl _ | assumption | refine Kept.alloc ?_ _ | refine Kept.ext ?_ _ | refine Kept.drew ?_ | refine Kept.drewN ?_ _)))) _ 1 (.int .i64 (t : Int)) rfl (by go_simp) rfl (by unfold maxLen; omega) (by omega) (by have := kept_size2 HH2.out.1; simp at this ⊢; omega) ?_; intro v3 w3 hq3 hg3 hor3; have hg4 : World.grownBy _ w3 (some g1) := hg3; have hor4 : v3.ownBlock = some g1 ∨ _ := hor3; have HH3 := Lib.hid (And.intro hq3 (And.intro hg4 hor4)); clear hq3 hg3 hor3 hg4 hor4))
                          have hk3 : Kept (w.alloc (.cells #[.slice A n cap, .slice (some ⟨fb, off, none⟩) k cap2] 25)) w3 := by
                              refine Kept.map_store ?_ ?_ HH3.out.2.1
                              · exact HH2.out.1.trans (by (repeat (first | exact Kept.refl _ | assumption | refine Kept.alloc ?_ _ | refine Kept.ext ?_ _ | refine Kept.drew ?_ | refine Kept.drewN ?_ _)))
                              · simp; omega
                          have hm3 := mapS_by (HH2.out.2.1.kept (by (repeat (first | exact Kept.refl _ | assumption | refine Kept.alloc ?_ _ | refine Kept.ext ?_ _ | refine Kept.drew ?_ | refine Kept.drewN ?_ _)) : Kept w2 (w2.alloc (.cells #[.int .i64 (t : Int)] 3)))) HH3.out.2.1 (by omega)
                          have hu3 := rowU_by (HH2.out.2.2.1.kept (by (repeat (first | exact Kept.refl _ | assumption | refine Kept.alloc ?_ _ | refine Kept.ext ?_ _ | refine Kept.drew ?_ | refine Kept.drewN ?_ _)) : Kept w2 (w2.alloc (.cells #[.int .i64 (t : Int)] 3)))) HH3.out.2.1 (Ne.symm hgu1)
                          have hul := HH2.out.2.2.1.lt
                          have hn3 : v3.ownBlock ≠ some ub := by
                              rcases HH3.out.2.2 with e | e
                              · rw [e]; simpa [Value.ownBlock] using hgu1
                              · rw [e]; simp; omega
                          have HK3 := Lib.hid (And.intro hk3 (And.intro hm3 (And.intro hu3 hn3)))
                          clear hk3 hm3 hu3 hul hn3
                          go_roundw
                          case rel => exact ⟨W1 ++ [t], upd S1 t, 2+1, by omega, by go_num, (HBf.out.put HG1.out htk ⟨3 * y + 2, by omega, by omega, HT.out⟩ hs1).weak (fun z ⟨l, h1, h2, h3⟩ _ => by
                              by_cases e : l = 2
                              · subst e; left; right; rw [← h2, HT.out]
                              · left; left; exact ⟨l, by omega, h2, h3⟩), HK3.out.1, HK3.out.2.1, HK3.out.2.2.1, by simpa using HH3.out.1, HK3.out.2.2.2, by have e1 := cnB_upd htk hs1; have e2 := HM1.out; simp only [List.length_append, List.length_singleton]; omega⟩
                          case measure => simp [intOf]
                    · obtain rfl : q = 3 := by omega
                      clear hB hkw hM hU hQ hne hM1
                      go_wp2_with fail
                      go_roundw
                      case rel => exact ⟨W1, S1, y, HBf.out.weak (fun z _ ⟨a, a1, a2, a3⟩ => .inl ⟨a % 3, by omega, by rw [show 3 * y + a % 3 = a by omega]; exact a3, trivial⟩), HKW.out, HMI.out, HU.out, HQ.out, by simpa [Value.ownBlock] using hgu1, by have e1 := HM0.out; have e2 := HM1.out; omega⟩
                      case measure => have e1 := unN_of HU.out; have e2 := HUN.out; have e3 := HM0.out; have e4 := HM1.out; rw [e1, e2]; simp [slLen]; omega
        · obtain rfl : r = k := by omega
          have g1 : decide ((r : Int) < r) = false := decide_eq_false (by omega)
          clear hO hM hU
          have hk0 : Kept w wr := (by (repeat (first | exact Kept.refl _ | assumption | refine Kept.alloc ?_ _ | refine Kept.ext ?_ _ | refine Kept.drew ?_ | refine Kept.drewN ?_ _)) : Kept w (w.alloc (.cells #[.slice A n cap, .slice B r cap2] 25))).trans hkw
          go_wp2_with fail
          refine bodyPost_ret (by simp only [results, Try.results120]; go_simp; rfl) rfl ?_
          exact ⟨c, rfl, hk0, HOu.out.fin hpf⟩
end Go.Proofs.Ytoadlneneijfaaa
