/- Contract: groups of faces of a list, of the reference. Conditions: the list's faces are faces of the mesh. -/
import Derived.Test.YtoadlneneijfaaaGgr
import Derived.Test.YtoadlneneijfaaaGrm
namespace Go.Proofs.Ytoadlneneijfaaa
set_option linter.unusedVariables false
set_option linter.unusedSimpArgs false
open Go.RowKit  Go.Maps
/-- Places of a list of faces whose faces have a side in common. -/
def adjL (F : Nat → Nat → Int) (fs : Nat → Nat) (nf : Nat) (pt : Int) (a b : Nat) : Prop := b < nf ∧ comP (F (fs a)) (F (fs b)) pt
theorem rows1 {w : World} {A : Option Addr} {n k : Nat} {f : Nat → Nat → Int} (h : RowsAt w A n 1 f) (hk : k < n) : ∃ b off, A = some ⟨b, off, none⟩ ∧ b < w.heap.size ∧ w.cell? ⟨b, off + k, none⟩ = some (.int .i64 (f k 0)) := by
  obtain ⟨b, off, h1, h2, h3⟩ := h (by omega)
  refine ⟨b, off, h1, h2, ?_⟩
  have := (h3 k hk 0 (by omega)).1
  simpa using this
set_option maxRecDepth 100000 in
set_option maxHeartbeats 32000000 in
theorem r2groups_any (A B C : Option Addr) (n cap m cap2 nf capf : Nat) (F : Nat → Nat → Int) (fs : Nat → Nat) (pt : Int) (w : World) (hm : m ≤ 96) (hnf : nf ≤ 96) (hF : RowsAt w B m 3 F) (hC : RowsAt w C nf 1 fun k _ => (fs k : Int)) (hfs : ∀ k, k < nf → fs k < m) :
    Calls Try.prog 105 #[.agg #[.slice A n cap, .slice B m cap2], .slice C nf capf, .int .i64 pt] w fun r w' => ∃ c : Nat, r = .returned (.int .i64 c) ∧ Kept w w' ∧ GrN (fun _ => True) (adjL F fs nf pt) nf c := by
  have HF := Lib.hid hF
  have HC := Lib.hid hC
  have HFS := Lib.hid hfs
  clear hF hC hfs
  obtain ⟨i0, hi, hz0, hz1, hz2⟩ := info_parts infoBool
  have HI := Lib.hid (And.intro hi (And.intro hz0 (And.intro hz1 hz2)))
  clear hi hz0 hz1 hz2
  obtain ⟨j0, hi, hz0, hz1, hz2⟩ := info_parts infoInt
  have HJ := Lib.hid (And.intro hi (And.intro hz0 (And.intro hz1 hz2)))
  clear hi hz0 hz1 hz2
  go_enter Try.func105, Try.ntmps105
  go_wp2_with (at_make; refine wpList_make_row _ rfl _ _ _ rfl 4 i0 _ Try.underlying76 HI.out.1 HI.out.2.1 HI.out.2.2.1 rfl .i64 .i64 nf rfl rfl ?_ (by omega) ?_)
  · rw [HI.out.2.2.2]; omega
  obtain ⟨ub, hub⟩ : ∃ ub, w.heap.size + 1 = ub := ⟨_, rfl⟩
  obtain ⟨pf, hpf⟩ := GrN.ex (fun _ => True) (adjL F fs nf pt)
  have hU := RowU.made (w.alloc (.cells #[.slice A n cap, .slice B m cap2] 25)) nf 4
  rw [World.size_alloc] at hU
  have HS := Lib.hid (And.intro (by (repeat (first | exact Kept.refl _ | assumption | refine Kept.alloc ?_ _ | refine Kept.ext ?_ _ | refine Kept.drew ?_ | refine Kept.drewN ?_ _)) : Kept (w.alloc (.cells #[.slice A n cap, .slice B m cap2] 25)) ((w.alloc (.cells #[.slice A n cap, .slice B m cap2] 25)).alloc (.cells (madeCells #[.bool false] nf) 4))) hU)
  clear hU
  rw [hub] at HS ⊢
  go_loopw [8, 9] (fun nn i wq => ∃ (r c : Nat) (S : Nat → Bool), r ≤ nf ∧ i = .int .i64 r ∧ nn = .int .i64 c ∧ c ≤ r ∧ Outs (fun _ => True) (adjL F fs nf pt) pf r S c ∧ Kept (w.alloc (.cells #[.slice A n cap, .slice B m cap2] 25)) wq ∧ RowU wq ub nf S) (fun _ i _ => nf - (intOf i).toNat)
  case atStart => exact ⟨0, 0, fun _ => false, by omega, rfl, rfl, by omega, Outs.start, HS.out.1, HS.out.2⟩
  case round =>
    clear HS
    obtain ⟨r, c, S, hr, rfl, rfl, hc, hO, hkw, hU⟩ := hrel
    have LU : Lower ub wr.heap.size := ⟨hU.lt⟩
    have kb : wr.cell? ⟨w.heap.size, 1, none⟩ = some (.slice B m cap2) := kept_cell (w := (w.alloc (.cells #[.slice A n cap, .slice B m cap2] 25))) (by go_simp) hkw
    have LBX : Lower w.heap.size wr.heap.size := ⟨cell_lt kb⟩
    have HOu := Lib.hid hO
    have HKW := Lib.hid hkw
    have HU := Lib.hid hU
    by_cases hlt : r < nf
    · have cu := hU.cell r hlt
      have fu := hU.froz r hlt
      have g1 : decide ((r : Int) < nf) = true := decide_eq_true (by omega)
      clear hO hkw hU
      cases hs : S r with
      | true =>
        rw [hs] at cu
        go_wp2_with fail
        go_roundw
        case rel => exact ⟨r + 1, c, S, by omega, by go_num, rfl, by omega, HOu.out.seen (hpf r) hs, HKW.out, HU.out⟩
        case measure => simp [intOf]; omega
      | false =>
        rw [hs] at cu
        go_wp2_with (refine wp_putU _ rfl _ _ rfl ub nf _ (HU.out.kept (by (repeat (first | exact Kept.refl _ | assumption | refine Kept.alloc ?_ _ | refine Kept.ext ?_ _ | refine Kept.drew ?_ | refine Kept.drewN ?_ _)))) r true rfl rfl (by omega) ?_; intro w2 hU2 hg2)
        have q1 := (HKW.out.trans (by (repeat (first | exact Kept.refl _ | assumption | refine Kept.alloc ?_ _ | refine Kept.ext ?_ _ | refine Kept.drew ?_ | refine Kept.drewN ?_ _)))).map_store (by simp; omega) hg2
        have q3 := ownsQ.one (base := ub + 1) (e := 3) w2 (.int .i64 r) (by have := hU2.lt; omega)
        have HU2lt := Lib.hid hU2.lt
        have HQ := Lib.hid (And.intro (q1.trans (by (repeat (first | exact Kept.refl _ | assumption | refine Kept.alloc ?_ _ | refine Kept.ext ?_ _ | refine Kept.drew ?_ | refine Kept.drewN ?_ _)) : Kept w2 (w2.alloc (.cells #[.int .i64 (r : Int)] 3)))) (And.intro (hU2.kept (by (repeat (first | exact Kept.refl _ | assumption | refine Kept.alloc ?_ _ | refine Kept.ext ?_ _ | refine Kept.drew ?_ | refine Kept.drewN ?_ _)) : Kept w2 (w2.alloc (.cells #[.int .i64 (r : Int)] 3)))) q3))
        clear q1 q3 hU2 hg2
        go_loopw [10] (fun v wq => ∃ (W : List Nat) (S' : Nat → Bool) (x : Nat), Bfs (adjL F fs nf pt) nf r S S' W x (fun _ => True) ∧ Kept (w.alloc (.cells #[.slice A n cap, .slice B m cap2] 25)) wq ∧ RowU wq ub nf S' ∧ ownsQ wq (ub + 1) 3 v W.length (W.map fun y : Nat => Value.int .i64 (y : Int)) ∧ v.ownBlock ≠ some ub ∧ 2 * cnB (fun j => !S' j) nf + W.length ≤ 200) (fun v wq => 2 * unN wq ub nf + slLen v)
        case atStart => exact ⟨[r], upd S r, 0, Bfs.start hlt 0, HQ.out.1, HQ.out.2.1, HQ.out.2.2, by have := HU2lt.out; simp [Value.ownBlock]; omega, by have := cnB_le (fun j => !(upd S r j)) nf; simp only [List.length_singleton]; omega⟩
        case round =>
          clear HKW HU HQ cu fu LBX LU kb
          obtain ⟨W, S', x, hB, hkw, hU, hQ, hne, hm200⟩ := hrel
          obtain ⟨g, o, qc, rfl, hgb, hgl, hqn, hqc⟩ := hQ.form
          have LU : Lower ub wr.heap.size := ⟨hU.lt⟩
          have LG : Lower g wr.heap.size := ⟨hgl⟩
          have kb : wr.cell? ⟨w.heap.size, 1, none⟩ = some (.slice B m cap2) := kept_cell (w := (w.alloc (.cells #[.slice A n cap, .slice B m cap2] 25))) (by go_simp) hkw
          have LBX : Lower w.heap.size wr.heap.size := ⟨cell_lt kb⟩
          have hgu : g ≠ ub := fun e => hne (by simp [Value.ownBlock, e])
          clear hne
          have HBf := Lib.hid hB
          have HKW := Lib.hid hkw
          have HU := Lib.hid hU
          cases W with
          | nil =>
            simp only [List.length_nil] at *
            clear hB hkw hU hQ
            go_wp2_with fail
            go_roundw
            case rel => exact ⟨r + 1, c + 1, S', by omega, by go_num, by go_num, by omega, HOu.out.one (hpf r) trivial hs (HBf.out.fin HOu.out.clo), HKW.out, HU.out⟩
            case measure => simp [intOf]; omega
          | cons y W =>
            obtain ⟨hB1, hy⟩ := hB.pop
            have HG1 := Lib.hid (hB.wq y (by simp)).2.2
            have c0 : wr.cell? ⟨g, o, none⟩ = some (.int .i64 (y : Int)) := by simpa using hQ.at (j := 0) (by simp)
            have hun := unN_of hU
            obtain ⟨l, hl⟩ : ∃ l, W.length = l := ⟨_, rfl⟩
            obtain ⟨M0, hM0⟩ : ∃ M0, 2 * cnB (fun j => !S' j) nf + l = M0 := ⟨_, rfl⟩
            simp only [List.length_cons, hl] at hQ hm200 hqn ⊢
            have g2 : decide (((l + 1 : Nat) : Int) > 0) = true := decide_eq_true (by omega)
            have HB1 := Lib.hid hB1
            have HL := Lib.hid hl
            have HUN := Lib.hid hun
            by_cases hq1 : qc = 1
            · subst hq1
              obtain rfl : l = 0 := by omega
              have hQ1 := ownsQ.pop1 (by simpa [hl] using hQ)
              have HQ := Lib.hid hQ1
              have HM0 := Lib.hid hM0
              clear hB hkw hU hQ hB1 hQ1 hun hl HBf hM0
              go_wp2_with fail
              go_loopw [10, 12] (fun v j wq => ∃ (W1 : List Nat) (S1 : Nat → Bool) (q : Nat), q ≤ nf ∧ j = .int .i64 q ∧ Bfs (adjL F fs nf pt) nf r S S1 W1 y (fun z => z < q) ∧ Kept (w.alloc (.cells #[.slice A n cap, .slice B m cap2] 25)) wq ∧ RowU wq ub nf S1 ∧ ownsQ wq (ub + 1) 3 v W1.length (W1.map fun y : Nat => Value.int .i64 (y : Int)) ∧ v.ownBlock ≠ some ub ∧ 2 * cnB (fun j => !S1 j) nf + W1.length ≤ M0) (fun _ j _ => nf - (intOf j).toNat)
              case atStart => exact ⟨W, S', 0, by omega, rfl, HB1.out.weak (fun z h _ => absurd h (by omega)), HKW.out.trans (by (repeat (first | exact Kept.refl _ | assumption | refine Kept.alloc ?_ _ | refine Kept.ext ?_ _ | refine Kept.drew ?_ | refine Kept.drewN ?_ _))), HU.out.kept (by (repeat (first | exact Kept.refl _ | assumption | refine Kept.alloc ?_ _ | refine Kept.ext ?_ _ | refine Kept.drew ?_ | refine Kept.drewN ?_ _))), by rw [HL.out]; exact HQ.out.on (by (repeat (first | exact Kept.refl _ | assumption | refine Kept.alloc ?_ _ | refine Kept.ext ?_ _ | refine Kept.drew ?_ | refine Kept.drewN ?_ _))), by simpa [Value.ownBlock] using hgu, by rw [HL.out]; exact Nat.le_of_eq HM0.out⟩
              case round =>
                clear HKW HU HQ c0 kb LBX LG LU
                obtain ⟨W1, S1, q, hq, rfl, hB, hkw, hU, hQ, hne, hM1⟩ := hrel
                obtain ⟨g1, o1, qc1, rfl, hgb1, hgl1, hqn1, hqc1⟩ := hQ.form
                have hgu1 : g1 ≠ ub := fun e => hne (by simp [Value.ownBlock, e])
                have LU : Lower ub wr.heap.size := ⟨hU.lt⟩
                have kb : wr.cell? ⟨w.heap.size, 1, none⟩ = some (.slice B m cap2) := kept_cell (w := (w.alloc (.cells #[.slice A n cap, .slice B m cap2] 25))) (by go_simp) hkw
                have LBX : Lower w.heap.size wr.heap.size := ⟨cell_lt kb⟩
                have HBf := Lib.hid hB
                have HKW := Lib.hid hkw
                have HU := Lib.hid hU
                have HQ := Lib.hid hQ
                have HM1 := Lib.hid hM1
                have hW96 : W1.length ≤ 500 := by have := HM1.out; have h5 := HM0.out; omega
                by_cases hlt3 : q < nf
                · have cu := hU.cell q hlt3
                  have fu := hU.froz q hlt3
                  have hk0 : Kept w wr := (by (repeat (first | exact Kept.refl _ | assumption | refine Kept.alloc ?_ _ | refine Kept.ext ?_ _ | refine Kept.drew ?_ | refine Kept.drewN ?_ _)) : Kept w (w.alloc (.cells #[.slice A n cap, .slice B m cap2] 25))).trans hkw
                  have g3 : decide ((q : Int) < nf) = true := decide_eq_true (by omega)
                  cases hs1 : S1 q with
                  | true =>
                    rw [hs1] at cu
                    clear hB hkw hU hQ hne hM1 hk0
                    go_wp2_with fail
                    ((first | (with_reducible refine wp_region_kept2 (by kernel_rfl) (by kernel_rfl) ?_) | refine wp_region_kept (by kernel_rfl) (by kernel_rfl) ?_); (repeat (go_big_quiet_step (first | fail))); refine wpQuiet_nil ?_; intro x)
                    go_wp2_with fail
                    go_roundw
                    case rel => exact ⟨W1, S1, q + 1, by omega, by go_num, HBf.out.weak (fun z h1 _ => by
                        by_cases e : z = q
                        · subst e; exact .inr hs1
                        · exact .inl (by omega)), HKW.out.trans (by (repeat (first | exact Kept.refl _ | assumption | refine Kept.alloc ?_ _ | refine Kept.ext ?_ _ | refine Kept.drew ?_ | refine Kept.drewN ?_ _))), HU.out.kept (by (repeat (first | exact Kept.refl _ | assumption | refine Kept.alloc ?_ _ | refine Kept.ext ?_ _ | refine Kept.drew ?_ | refine Kept.drewN ?_ _))), HQ.out.on (by (repeat (first | exact Kept.refl _ | assumption | refine Kept.alloc ?_ _ | refine Kept.ext ?_ _ | refine Kept.drew ?_ | refine Kept.drewN ?_ _))), by simpa [Value.ownBlock] using hgu1, HM1.out⟩
                    case measure => simp [intOf]; omega
                  | false =>
                    rw [hs1] at cu
                    obtain ⟨cb, coff, rfl, hcb, cy⟩ := rows1 (HC.out.of hk0) hy
                    obtain ⟨cb', coff', e, -, cq⟩ := rows1 (HC.out.of hk0) hlt3
                    cases e
                    have LC : Lower cb wr.heap.size := ⟨hcb⟩
                    have y1 := HFS.out y hy
                    have y2 := HFS.out q hlt3
                    obtain ⟨t1, ht1⟩ : ∃ t, fs y = t := ⟨_, rfl⟩
                    obtain ⟨t2, ht2⟩ : ∃ t, fs q = t := ⟨_, rfl⟩
                    rw [ht1] at y1 cy
                    rw [ht2] at y2 cq
                    obtain ⟨fb, off, rfl, hb, f0, f1, f2⟩ := rows3 (HF.out.of hk0) y1
                    obtain ⟨fb', off', e, -, h0, h1, h2⟩ := rows3 (HF.out.of hk0) y2
                    cases e
                    have LB : Lower fb wr.heap.size := ⟨hb⟩
                    obtain ⟨b, hb2⟩ := comP_dec (F t1) (F t2) pt
                    have HB2 := Lib.hid hb2
                    have HT := Lib.hid (And.intro ht1 ht2)
                    clear hB hkw hU hQ hne hM1 hk0 hb hcb hb2 ht1 ht2
                    go_wp2_with fail
                    ((first | (with_reducible refine wp_region_kept2 (by kernel_rfl) (by kernel_rfl) ?_) | refine wp_region_kept (by kernel_rfl) (by kernel_rfl) ?_); (repeat (go_big_quiet_step (first | (go_at_call 125; exact Calls.kept_of (r2common_is (F t1) (F t2) pt b HB2.out _))))); refine wpQuiet_nil ?_; intro x)
                    cases b with
                    | false =>
                      go_wp2_with fail
                      go_roundw
                      case rel => exact ⟨W1, S1, q + 1, by omega, by go_num, HBf.out.weak (fun z h1 h2 => by
                          by_cases e : z = q
                          · subst e; exact absurd (HB2.out.2 (by rw [← HT.out.1, ← HT.out.2]; exact h2.2)) (by simp)
                          · exact .inl (by omega)), HKW.out.trans (by (repeat (first | exact Kept.refl _ | assumption | refine Kept.alloc ?_ _ | refine Kept.ext ?_ _ | refine Kept.drew ?_ | refine Kept.drewN ?_ _))), HU.out.kept (by (repeat (first | exact Kept.refl _ | assumption | refine Kept.alloc ?_ _ | refine Kept.ext ?_ _ | refine Kept.drew ?_ | refine Kept.drewN ?_ _))), HQ.out.on (by (repeat (first | exact Kept.refl _ | assumption | refine Kept.alloc ?_ _ | refine Kept.ext ?_ _ | refine Kept.drew ?_ | refine Kept.drewN ?_ _))), by simpa [Value.ownBlock] using hgu1, HM1.out⟩
                      case measure => simp [intOf]; omega
                    | true =>
                      go_wp2_with (first | (refine wp_putU _ rfl _ _ rfl ub nf _ (HU.out.kept (by (repeat (first | exact Kept.refl _ | assumption | refine Kept.alloc ?_ _ | refine Kept.ext ?_ _ | refine Kept.drew ?_ | refine Kept.drewN ?_ _)))) q true rfl rfl hlt3 ?_; intro w2 hU2 hg2; have k2 := (HKW.out.trans (by (repeat (first | exact Kept.refl _ | assumption | refine Kept.alloc ?_ _ | refine Kept.ext ?_ _ | refine Kept.drew ?_ | refine Kept.drewN ?_ _)))).map_store (by simp; omega) hg2; have s2 := (HQ.out.on (by (repeat (first | exact Kept.refl _ | assumption | refine Kept.alloc ?_ _ | refine Kept.ext ?_ _ | refine Kept.drew ?_ | refine Kept.drewN ?_ _)))).kept hg2 (by simpa [Value.ownBlock] using hgu1); have HH2 := Lib.hid (And.intro k2 (And.intro hU2 s2)); clear hU2 hg2 k2 s2) | (at_builtin; refine wpList_append_q _ rfl _ _ 97 rfl (ub + 1) 3 j0 _ 8 Try.underlying97 HJ.out.1 HJ.out.2.1 HJ.out.2.2.1 HJ.out.2.2.2 (by rfl) (.slice (some ⟨g1, o1, none⟩) W1.length qc1) W1.length _ rfl (HH2.out.2.2.on (by (repeat (first | exact Kept.refl _ | assumption | refine Kept.alloc ?_ _ | refine Kept.ext ?_ _ | refine Kept.drew ?_ | refine Kept.drewN ?_ _)))) _ 1 (.int .i64 (q : Int)) rfl (by go_simp) rfl (by unfold maxLen; omega) (by omega) (by have := HH2.out.2.1.lt; simp; omega) ?_; intro v3 w3 hq3 hg3 hor3; have hg4 : World.grownBy _ w3 (some g1) := hg3; have hor4 : v3.ownBlock = some g1 ∨ _ := hor3; have HH3 := Lib.hid (And.intro hq3 (And.intro hg4 hor4)); clear hq3 hg3 hor3 hg4 hor4))
                      have hk3 : Kept (w.alloc (.cells #[.slice A n cap, .slice (some ⟨fb, off, none⟩) m cap2] 25)) w3 := by
                        refine Kept.map_store ?_ ?_ HH3.out.2.1
                        · exact HH2.out.1.trans (by (repeat (first | exact Kept.refl _ | assumption | refine Kept.alloc ?_ _ | refine Kept.ext ?_ _ | refine Kept.drew ?_ | refine Kept.drewN ?_ _)))
                        · simp; omega
                      have hu3 := rowU_by (HH2.out.2.1.kept (by (repeat (first | exact Kept.refl _ | assumption | refine Kept.alloc ?_ _ | refine Kept.ext ?_ _ | refine Kept.drew ?_ | refine Kept.drewN ?_ _)) : Kept w2 (w2.alloc (.cells #[.int .i64 (q : Int)] 3)))) HH3.out.2.1 (Ne.symm hgu1)
                      have hul := HH2.out.2.1.lt
                      have hn3 : v3.ownBlock ≠ some ub := by
                        rcases HH3.out.2.2 with e | e
                        · rw [e]; simpa [Value.ownBlock] using hgu1
                        · rw [e]; simp; omega
                      have HK3 := Lib.hid (And.intro hk3 (And.intro hu3 hn3))
                      clear hk3 hu3 hul hn3
                      go_roundw
                      case rel => exact ⟨W1 ++ [q], upd S1 q, q + 1, by omega, by go_num, (HBf.out.put HG1.out hlt3 ⟨hlt3, by rw [HT.out.1, HT.out.2]; have := HB2.out; simpa using this⟩ hs1).weak (fun z h1 _ => by
                          by_cases e : z = q
                          · exact .inl (.inr e)
                          · exact .inl (.inl (by omega))), HK3.out.1, HK3.out.2.1, by simpa using HH3.out.1, HK3.out.2.2, by have e1 := cnB_upd hlt3 hs1; have e2 := HM1.out; simp only [List.length_append, List.length_singleton]; omega⟩
                      case measure => simp [intOf]; omega
                · obtain rfl : q = nf := by omega
                  have g3 : decide ((q : Int) < q) = false := decide_eq_false (by omega)
                  clear hB hkw hU hQ hne hM1
                  go_wp2_with fail
                  go_roundw
                  case rel => exact ⟨W1, S1, y, HBf.out.weak (fun z _ h => .inl h.1), HKW.out, HU.out, HQ.out, by simpa [Value.ownBlock] using hgu1, by have e1 := HM0.out; have e2 := HM1.out; omega⟩
                  case measure => have e1 := unN_of HU.out; have e2 := HUN.out; have e3 := HM0.out; have e4 := HM1.out; rw [e1, e2]; simp [slLen]; omega
            · have hQ1 := ownsQ.pop (by simpa [hl] using hQ)
              have HQ := Lib.hid hQ1
              have HM0 := Lib.hid hM0
              clear hB hkw hU hQ hB1 hQ1 hun hl HBf hM0
              go_wp2_with fail
              go_loopw [10, 12] (fun v j wq => ∃ (W1 : List Nat) (S1 : Nat → Bool) (q : Nat), q ≤ nf ∧ j = .int .i64 q ∧ Bfs (adjL F fs nf pt) nf r S S1 W1 y (fun z => z < q) ∧ Kept (w.alloc (.cells #[.slice A n cap, .slice B m cap2] 25)) wq ∧ RowU wq ub nf S1 ∧ ownsQ wq (ub + 1) 3 v W1.length (W1.map fun y : Nat => Value.int .i64 (y : Int)) ∧ v.ownBlock ≠ some ub ∧ 2 * cnB (fun j => !S1 j) nf + W1.length ≤ M0) (fun _ j _ => nf - (intOf j).toNat)
              case atStart => exact ⟨W, S', 0, by omega, rfl, HB1.out.weak (fun z h _ => absurd h (by omega)), HKW.out.trans (by (repeat (first | exact Kept.refl _ | assumption | refine Kept.alloc ?_ _ | refine Kept.ext ?_ _ | refine Kept.drew ?_ | refine Kept.drewN ?_ _))), HU.out.kept (by (repeat (first | exact Kept.refl _ | assumption | refine Kept.alloc ?_ _ | refine Kept.ext ?_ _ | refine Kept.drew ?_ | refine Kept.drewN ?_ _))), by rw [HL.out]; exact HQ.out.on (by (repeat (first | exact Kept.refl _ | assumption | refine Kept.alloc ?_ _ | refine Kept.ext ?_ _ | refine Kept.drew ?_ | refine Kept.drewN ?_ _))), by simpa [Value.ownBlock] using hgu, by rw [HL.out]; exact Nat.le_of_eq HM0.out⟩
              case round =>
                clear HKW HU HQ c0 kb LBX LG LU
                obtain ⟨W1, S1, q, hq, rfl, hB, hkw, hU, hQ, hne, hM1⟩ := hrel
                obtain ⟨g1, o1, qc1, rfl, hgb1, hgl1, hqn1, hqc1⟩ := hQ.form
                have hgu1 : g1 ≠ ub := fun e => hne (by simp [Value.ownBlock, e])
                have LU : Lower ub wr.heap.size := ⟨hU.lt⟩
                have kb : wr.cell? ⟨w.heap.size, 1, none⟩ = some (.slice B m cap2) := kept_cell (w := (w.alloc (.cells #[.slice A n cap, .slice B m cap2] 25))) (by go_simp) hkw
                have LBX : Lower w.heap.size wr.heap.size := ⟨cell_lt kb⟩
                have HBf := Lib.hid hB
                have HKW := Lib.hid hkw
                have HU := Lib.hid hU
                have HQ := Lib.hid hQ
                have HM1 := Lib.hid hM1
                have hW96 : W1.length ≤ 500 := by have := HM1.out; have h5 := HM0.out; omega
                by_cases hlt3 : q < nf
                · have cu := hU.cell q hlt3
                  have fu := hU.froz q hlt3
                  have hk0 : Kept w wr := (by (repeat (first | exact Kept.refl _ | assumption | refine Kept.alloc ?_ _ | refine Kept.ext ?_ _ | refine Kept.drew ?_ | refine Kept.drewN ?_ _)) : Kept w (w.alloc (.cells #[.slice A n cap, .slice B m cap2] 25))).trans hkw
                  have g3 : decide ((q : Int) < nf) = true := decide_eq_true (by omega)
                  cases hs1 : S1 q with
                  | true =>
                    rw [hs1] at cu
                    clear hB hkw hU hQ hne hM1 hk0
                    go_wp2_with fail
                    ((first | (with_reducible refine wp_region_kept2 (by kernel_rfl) (by kernel_rfl) ?_) | refine wp_region_kept (by kernel_rfl) (by kernel_rfl) ?_); (repeat (go_big_quiet_step (first | fail))); refine wpQuiet_nil ?_; intro x)
                    go_wp2_with fail
                    go_roundw
                    case rel => exact ⟨W1, S1, q + 1, by omega, by go_num, HBf.out.weak (fun z h1 _ => by
                        by_cases e : z = q
                        · subst e; exact .inr hs1
                        · exact .inl (by omega)), HKW.out.trans (by (repeat (first | exact Kept.refl _ | assumption | refine Kept.alloc ?_ _ | refine Kept.ext ?_ _ | refine Kept.drew ?_ | refine Kept.drewN ?_ _))), HU.out.kept (by (repeat (first | exact Kept.refl _ | assumption | refine Kept.alloc ?_ _ | refine Kept.ext ?_ _ | refine Kept.drew ?_ | refine Kept.drewN ?_ _))), HQ.out.on (by (repeat (first | exact Kept.refl _ | assumption | refine Kept.alloc ?_ _ | refine Kept.ext ?_ _ | refine Kept.drew ?_ | refine Kept.drewN ?_ _))), by simpa [Value.ownBlock] using hgu1, HM1.out⟩
                    case measure => simp [intOf]; omega
                  | false =>
                    rw [hs1] at cu
                    obtain ⟨cb, coff, rfl, hcb, cy⟩ := rows1 (HC.out.of hk0) hy
                    obtain ⟨cb', coff', e, -, cq⟩ := rows1 (HC.out.of hk0) hlt3
                    cases e
                    have LC : Lower cb wr.heap.size := ⟨hcb⟩
                    have y1 := HFS.out y hy
                    have y2 := HFS.out q hlt3
                    obtain ⟨t1, ht1⟩ : ∃ t, fs y = t := ⟨_, rfl⟩
                    obtain ⟨t2, ht2⟩ : ∃ t, fs q = t := ⟨_, rfl⟩
                    rw [ht1] at y1 cy
                    rw [ht2] at y2 cq
                    obtain ⟨fb, off, rfl, hb, f0, f1, f2⟩ := rows3 (HF.out.of hk0) y1
                    obtain ⟨fb', off', e, -, h0, h1, h2⟩ := rows3 (HF.out.of hk0) y2
                    cases e
                    have LB : Lower fb wr.heap.size := ⟨hb⟩
                    obtain ⟨b, hb2⟩ := comP_dec (F t1) (F t2) pt
                    have HB2 := Lib.hid hb2
                    have HT := Lib.hid (And.intro ht1 ht2)
                    clear hB hkw hU hQ hne hM1 hk0 hb hcb hb2 ht1 ht2
                    go_wp2_with fail
                    ((first | (with_reducible refine wp_region_kept2 (by kernel_rfl) (by kernel_rfl) ?_) | refine wp_region_kept (by kernel_rfl) (by kernel_rfl) ?_); (repeat (go_big_quiet_step (first | (go_at_call 125; exact Calls.kept_of (r2common_is (F t1) (F t2) pt b HB2.out _))))); refine wpQuiet_nil ?_; intro x)
                    cases b with
                    | false =>
                      go_wp2_with fail
                      go_roundw
                      case rel => exact ⟨W1, S1, q + 1, by omega, by go_num, HBf.out.weak (fun z h1 h2 => by
                          by_cases e : z = q
                          · subst e; exact absurd (HB2.out.2 (by rw [← HT.out.1, ← HT.out.2]; exact h2.2)) (by simp)
                          · exact .inl (by omega)), HKW.out.trans (by (repeat (first | exact Kept.refl _ | assumption | refine Kept.alloc ?_ _ | refine Kept.ext ?_ _ | refine Kept.drew ?_ | refine Kept.drewN ?_ _))), HU.out.kept (by (repeat (first | exact Kept.refl _ | assumption | refine Kept.alloc ?_ _ | refine Kept.ext ?_ _ | refine Kept.drew ?_ | refine Kept.drewN ?_ _))), HQ.out.on (by (repeat (first | exact Kept.refl _ | assumption | refine Kept.alloc ?_ _ | refine Kept.ext ?_ _ | refine Kept.drew ?_ | refine Kept.drewN ?_ _))), by simpa [Value.ownBlock] using hgu1, HM1.out⟩
                      case measure => simp [intOf]; omega
                    | true =>
                      go_wp2_with (first | (refine wp_putU _ rfl _ _ rfl ub nf _ (HU.out.kept (by (repeat (first | exact Kept.refl _ | assumption | refine Kept.alloc ?_ _ | refine Kept.ext ?_ _ | refine Kept.drew ?_ | refine Kept.drewN ?_ _)))) q true rfl rfl hlt3 ?_; intro w2 hU2 hg2; have k2 := (HKW.out.trans (by (repeat (first | exact Kept.refl _ | assumption | refine Kept.alloc ?_ _ | refine Kept.ext ?_ _ | refine Kept.drew ?_ | refine Kept.drewN ?_ _)))).map_store (by simp; omega) hg2; have s2 := (HQ.out.on (by (repeat (first | exact Kept.refl _ | assumption | refine Kept.alloc ?_ _ | refine Kept.ext ?_ _ | refine Kept.drew ?_ | refine Kept.drewN ?_ _)))).kept hg2 (by simpa [Value.ownBlock] using hgu1); have HH2 := Lib.hid (And.intro k2 (And.intro hU2 s2)); clear hU2 hg2 k2 s2) | (at_builtin; refine wpList_append_q _ rfl _ _ 97 rfl (ub + 1) 3 j0 _ 8 Try.underlying97 HJ.out.1 HJ.out.2.1 HJ.out.2.2.1 HJ.out.2.2.2 (by rfl) (.slice (some ⟨g1, o1, none⟩) W1.length qc1) W1.length _ rfl (HH2.out.2.2.on (by (repeat (first | exact Kept.refl _ | assumption | refine Kept.alloc ?_ _ | refine Kept.ext ?_ _ | refine Kept.drew ?_ | refine Kept.drewN ?_ _)))) _ 1 (.int .i64 (q : Int)) rfl (by go_simp) rfl (by unfold maxLen; omega) (by omega) (by have := HH2.out.2.1.lt; simp; omega) ?_; intro v3 w3 hq3 hg3 hor3; have hg4 : World.grownBy _ w3 (some g1) := hg3; have hor4 : v3.ownBlock = some g1 ∨ _ := hor3; have HH3 := Lib.hid (And.intro hq3 (And.intro hg4 hor4)); clear hq3 hg3 hor3 hg4 hor4))
                      have hk3 : Kept (w.alloc (.cells #[.slice A n cap, .slice (some ⟨fb, off, none⟩) m cap2] 25)) w3 := by
                        refine Kept.map_store ?_ ?_ HH3.out.2.1
                        · exact HH2.out.1.trans (by (repeat (first | exact Kept.refl _ | assumption | refine Kept.alloc ?_ _ | refine Kept.ext ?_ _ | refine Kept.drew ?_ | refine Kept.drewN ?_ _)))
                        · simp; omega
                      have hu3 := rowU_by (HH2.out.2.1.kept (by (repeat (first | exact Kept.refl _ | assumption | refine Kept.alloc ?_ _ | refine Kept.ext ?_ _ | refine Kept.drew ?_ | refine Kept.drewN ?_ _)) : Kept w2 (w2.alloc (.cells #[.int .i64 (q : Int)] 3)))) HH3.out.2.1 (Ne.symm hgu1)
                      have hul := HH2.out.2.1.lt
                      have hn3 : v3.ownBlock ≠ some ub := by
                        rcases HH3.out.2.2 with e | e
                        · rw [e]; simpa [Value.ownBlock] using hgu1
                        · rw [e]; simp; omega
                      have HK3 := Lib.hid (And.intro hk3 (And.intro hu3 hn3))
                      clear hk3 hu3 hul hn3
                      go_roundw
                      case rel => exact ⟨W1 ++ [q], upd S1 q, q + 1, by omega, by go_num, (HBf.out.put HG1.out hlt3 ⟨hlt3, by rw [HT.out.1, HT.out.2]; have := HB2.out; simpa using this⟩ hs1).weak (fun z h1 _ => by
                          by_cases e : z = q
                          · exact .inl (.inr e)
                          · exact .inl (.inl (by omega))), HK3.out.1, HK3.out.2.1, by simpa using HH3.out.1, HK3.out.2.2, by have e1 := cnB_upd hlt3 hs1; have e2 := HM1.out; simp only [List.length_append, List.length_singleton]; omega⟩
                      case measure => simp [intOf]; omega
                · obtain rfl : q = nf := by omega
                  have g3 : decide ((q : Int) < q) = false := decide_eq_false (by omega)
                  clear hB hkw hU hQ hne hM1
                  go_wp2_with fail
                  go_roundw
                  case rel => exact ⟨W1, S1, y, HBf.out.weak (fun z _ h => .inl h.1), HKW.out, HU.out, HQ.out, by simpa [Value.ownBlock] using hgu1, by have e1 := HM0.out; have e2 := HM1.out; omega⟩
                  case measure => have e1 := unN_of HU.out; have e2 := HUN.out; have e3 := HM0.out; have e4 := HM1.out; rw [e1, e2]; simp [slLen]; omega
    · obtain rfl : r = nf := by omega
      have g1 : decide ((r : Int) < r) = false := decide_eq_false (by omega)
      clear hO hU
      have hk0 : Kept w wr := (by (repeat (first | exact Kept.refl _ | assumption | refine Kept.alloc ?_ _ | refine Kept.ext ?_ _ | refine Kept.drew ?_ | refine Kept.drewN ?_ _)) : Kept w (w.alloc (.cells #[.slice A n cap, .slice B m cap2] 25))).trans hkw
      go_wp2_with fail
      refine bodyPost_ret (by simp only [results, Try.results105]; go_simp; rfl) rfl ?_
      exact ⟨c, rfl, hk0, HOu.out.fin hpf⟩
end Go.Proofs.Ytoadlneneijfaaa
