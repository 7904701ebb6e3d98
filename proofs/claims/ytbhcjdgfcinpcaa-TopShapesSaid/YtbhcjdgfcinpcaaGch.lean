/- Contracts: a list of faces in new memory, and a mesh whose points are changed by a function value, of the program. Conditions: the lists are not long; what the function value returns. -/
import Derived.Test.YtbhcjdgfcinpcaaGcq
import Derived.Test.YtbhcjdgfcinpcaaGmr
import Derived.Lib.SliceRun
import Derived.Laws.ByValue
namespace Go.Proofs.Ytbhcjdgfcinpcaa
set_option linter.unusedVariables false
set_option linter.unusedSimpArgs false
open Go.RowKit Go.Deep
theorem wpList_append_rows {P : Program} {w : World} {ops : Array Oper} {rest : List Oper} {op : Oper} {a : Act} {Q : Exit → Act → World → Prop} (hgd : op.guard = none) (s x : Operand) (t : TypeId)
    (ho : op.op = .call { callee := .builtin .append, args := #[s, x], argTypes := #[t, t] })
    (base : Nat) (e : TypeId) (i : TypeInfo) (z : Value) (c bytes : Nat) (ht : P.underlying t = some (.slice e)) (hi : P.info? e = some i) (hz : i.zero = some z)
    (hsize : i.size = c) (hby : i.bytes = bytes) (hzs : z.cells.size = c) (hc : 0 < c) (hbase : base ≤ w.heap.size)
    (v : Value) (n : Nat) (xs : List Value) (hs : a.eval s = v) (hown : w.ownsRow base e c v n xs)
    (A : Option Addr) (m cp : Nat) (f : Nat → Nat → Int) (hx : a.eval x = .slice A m cp) (hr : RowsAt w A m c f) (h63 : n + m ≤ maxLen) (hbytes : (n + m) * bytes ≤ 140737488355328)
    (h : ∀ A' cp' w', w'.ownsRow base e c (.slice A' (n + m) cp') (n + m) (xs ++ rowC c f m) → w.grownBy w' v.ownBlock → wpList P ops Q rest (a.put op.dst (.slice A' (n + m) cp')) w') : wpList P ops Q (op :: rest) a w := by
  refine wpList_plain hgd fun K hK => ?_
  obtain ⟨v', w', hrun, h2, h3, h9⟩ := run_append_rows (P := P) base t op.type e i z c bytes ht hi hz hsize hby hzs hc v n xs hown A m cp f hr h63 hbytes hbase
  obtain ⟨A', cp', rfl⟩ := own_slice2 h2
  unfold Oper.wp execOp
  simp only [ho, resolve, invoke, builtin, Sem.run_bind, Sem.run_pure, Result.andThen_ok, List.map_toArray, List.map_cons, List.map_nil, hs, hx, hrun]
  exact hK _ _ (h A' cp' w' h2 h3)
theorem clone_any (B : Option Addr) (m cap2 : Nat) (F : Nat → Nat → Int) (w : World) (hm : m ≤ 1000) (hF : RowsAt w B m 3 F) :
    Calls Try.prog 50 #[.slice B m cap2] w fun r w' => ∃ v, r = .returned v ∧ Kept w w' ∧ w'.ownsRow w.heap.size 55 3 v m (rowC 3 F m) := by
  have HF := Lib.hid hF
  have q22 : ∀ (w : World) (a : Option Addr) (n c n' c' : Nat), (binOp .eql 23 (.slice a n c) (.slice none n' c')).run Try.prog w = .ok (.bool a.isNone) w := fun w a n c n' c' => Lib.run_eql_slice_nil w _ _ a n c n' c' Try.underlying23
  obtain ⟨i1, hi, hz0, hz1, hz2⟩ := info_parts infoFace
  have HJ := Lib.hid (And.intro hi (And.intro hz0 (And.intro hz1 hz2)))
  clear hi hz0 hz1 hz2
  rcases B with _ | ad
  · have h0 : m = 0 := by
      rcases Nat.eq_zero_or_pos m with h | h
      · exact h
      · obtain ⟨b, off, h, -⟩ := hF h
        cases h
    subst h0
    clear hF HF
    go_enter Try.func50, Try.ntmps50
    go_wp2_with fail
    go_ret
    exact ⟨_, rfl, by (repeat (first | exact Kept.refl _ | assumption | refine Kept.alloc ?_ _ | refine Kept.ext ?_ _ | refine Kept.drew ?_ | refine Kept.drewN ?_ _)), World.ownsRow_nil _ _ _ _⟩
  · clear hF
    go_enter Try.func50, Try.ntmps50
    go_wp2_with (at_builtin; refine wpList_append_rows rfl _ _ 23 rfl w.heap.size 55 i1 _ 3 24 Try.underlying23 HJ.out.1 HJ.out.2.1 HJ.out.2.2.1 HJ.out.2.2.2 rfl (by omega) (by simp) _ 0 [] rfl (own_new _ _ (Nat.le_refl _)) (some ad) m cap2 F rfl (HF.out.of (by (repeat (first | exact Kept.refl _ | assumption | refine Kept.alloc ?_ _ | refine Kept.ext ?_ _ | refine Kept.drew ?_ | refine Kept.drewN ?_ _)))) (by unfold maxLen; omega) (by omega) ?_; intro A' cp' w' k1 k2; have K2 := Lib.hid k2; have K1 := Lib.hid k1; clear k1 k2)
    go_ret
    have k1 := K1.out
    simp only [Nat.zero_add, List.nil_append] at k1 ⊢
    exact ⟨_, rfl, kept_grown (W := w) (by (repeat (first | exact Kept.refl _ | assumption | refine Kept.alloc ?_ _ | refine Kept.ext ?_ _ | refine Kept.drew ?_ | refine Kept.drewN ?_ _))) (own_new (c := 3) _ _ (Nat.le_refl _)) (Nat.le_refl _) K2.out, k1⟩
theorem mix_same {m q q' : Nat} {F F' : Nat → Nat → Int} (h : ∀ i, i < m → ∀ j, j < 3 → F' i j = F i j) : ∀ i, i < m → ∀ j, j < 3 → mixF q F' F i j = mixF q' F' F i j := by
  intro i hi j hj
  unfold mixF
  rw [h i hi j hj]
  split <;> split <;> rfl
set_option maxRecDepth 100000 in
set_option maxHeartbeats 16000000 in
theorem changed_turn (A B : Option Addr) (n cap m cap2 : Nat) (P F : Nat → Nat → Int) (turned : Bool) (P' F' : Nat → Nat → Int) (w : World) (hn : n ≤ 1000 ∧ m ≤ 1000) (hP : RowsAt w A n 3 P) (hF : RowsAt w B m 3 F)
    (hI : ∀ k, k < n → ∀ j, j < 3 → I64 (P' k j)) (hF' : ∀ i, i < m → ∀ j, j < 3 → F' i j = if turned = true then mirF F i j else F i j)
    (hto : ∀ W i, i < n → Kept w W → Calls Try.prog 44 #[.agg #[.int .i64 (P i 0), .int .i64 (P i 1), .int .i64 (P i 2)]] W fun r w' => r = .returned (.agg #[.int .i64 (P' i 0), .int .i64 (P' i 1), .int .i64 (P' i 2)]) ∧ Kept W w') :
    Calls Try.prog 35 #[.agg #[.slice A n cap, .slice B m cap2], .bool turned, .func (.func 44) #[] #[]] w fun r w' => MeshO w w' r (validE n P' m F') n P' m F' := by
  have HP := Lib.hid hP
  have HF := Lib.hid hF
  have HI := Lib.hid hI
  have HF' := Lib.hid hF'
  have HT := Lib.hid hto
  have HFI := Lib.hid (rows_I hF)
  obtain ⟨e, he⟩ : ∃ e, validE n P' m F' = e := ⟨_, rfl⟩
  rw [he]
  have HE := Lib.hid he
  clear he
  clear hP hF hI hF' hto
  obtain ⟨i0, hi, hz0, hz1, hz2⟩ := info_parts infoPoint
  have HJ := Lib.hid (And.intro hi (And.intro hz0 (And.intro hz1 hz2)))
  clear hi hz0 hz1 hz2
  go_enter Try.func35, Try.ntmps35
  go_wp2_with fail
  refine (clone_any _ _ _ F _ (by omega) (HF.out.of (by (repeat (first | exact Kept.refl _ | assumption | refine Kept.alloc ?_ _ | refine Kept.ext ?_ _ | refine Kept.drew ?_ | refine Kept.drewN ?_ _))))).mono ?_
  rintro r w1 ⟨vF, rfl, ⟨x0, rfl⟩, ho⟩
  obtain ⟨B1, c2, rfl⟩ := own_slice2 ho
  have H2 := Lib.hid ho
  clear ho
  go_wp2_with fail
  go_loopw [20] (fun i wr => ∃ k : Nat, k ≤ n ∧ i = .int .i64 k ∧ ∃ v, Msh2 (w.alloc (.cells #[.slice A n cap, .slice B m cap2] 25)) (w.heap.size + 1) (adv (w.heap.size + 1 + 1) x0.obs.size) v k P' (.slice B1 m c2) m F wr) (fun i _ => n - (intOf i).toNat)
  case atStart =>
    refine ⟨0, by omega, rfl, .slice none 0 0, by (repeat (first | exact Kept.refl _ | assumption | refine Kept.alloc ?_ _ | refine Kept.ext ?_ _ | refine Kept.drew ?_ | refine Kept.drewN ?_ _)), ?_, ?_, World.ownsRow_nil _ _ _ _, own_mono (owns_kept H2.out (by (repeat (first | exact Kept.refl _ | assumption | refine Kept.alloc ?_ _ | refine Kept.ext ?_ _ | refine Kept.drew ?_ | refine Kept.drewN ?_ _)))) ?_⟩
    · exact fr_kept (alloc_now (w.alloc (.cells #[.slice A n cap, .slice B m cap2] 25)) _ _) (by (repeat (first | exact Kept.refl _ | assumption | refine Kept.alloc ?_ _ | refine Kept.ext ?_ _ | refine Kept.drew ?_ | refine Kept.drewN ?_ _)))
    · exact alloc_at2 _ _ _
    · simp
  case round =>
    obtain ⟨k, hk, rfl, v, hM⟩ := hrel
    obtain ⟨A2, cp2, rfl, hcp⟩ := own_sl hM.p
    by_cases hlt : k < n
    · obtain ⟨b, off, rfl, hb, f0, f1, f2⟩ := rows3 ((HP.out.of (by (repeat (first | exact Kept.refl _ | assumption | refine Kept.alloc ?_ _ | refine Kept.ext ?_ _ | refine Kept.drew ?_ | refine Kept.drewN ?_ _)) : Kept w (w.alloc (.cells #[.slice A n cap, .slice B m cap2] 25)))).of hM.kept) hlt
      have LB : Lower b wr.heap.size := ⟨hb⟩
      obtain ⟨m0, m1, z0, z1⟩ := cells2 hM.q
      have LM : Lower (adv (w.heap.size + 1 + 1) x0.obs.size) wr.heap.size := ⟨cell_lt m0⟩
      have HM := Lib.hid hM
      clear hM hb
      go_wp2_with fail
      refine wp_region_tellC (C := fun W' => Kept (w.alloc (.cells #[.slice (some ⟨b, off, none⟩) n cap, .slice B m cap2] 25)) W' ∧ W'.heap[wr.heap.size]? = some (.cells #[.int .i64 (P k 0), .int .i64 (P k 1), .int .i64 (P k 2)] 27 (0, 0))) [.q, .k (.slice A2 k cp2), .q, .q, .q, .s, .s, .q, .k undef] (AppI 1 5 6 8 (w.alloc (.cells #[.slice (some ⟨b, off, none⟩) n cap, .slice B m cap2] 25)) (w.heap.size + 1) (adv (w.heap.size + 1 + 1) x0.obs.size) wr.heap.size #[.int .i64 (P k 0), .int .i64 (P k 1), .int .i64 (P k 2)] (.slice A2 k cp2) k P' (.slice B1 m c2) m F) (by kernel_rfl) (by kernel_rfl) (fun b => by kernel_rfl) ?_ ?_ ?_ ?_
      · exact fun bb => AppI.start HM.out (by (repeat (first | exact Kept.refl _ | assumption | refine Kept.alloc ?_ _ | refine Kept.ext ?_ _ | refine Kept.drew ?_ | refine Kept.drewN ?_ _))) (alloc_at2 _ _ _) (Nat.le_refl _)
      · intro i L b w' w'' hs hI hk
        exact (hI.on hk).other (by rintro rfl; cases hs) (by rintro rfl; cases hs) (by rintro rfl; cases hs) (by rintro rfl; cases hs)
      · exact fun L b w' h => ⟨h.kept, h.pk⟩
      apply Exists.intro
      refine ⟨?_, ?_, ?_, ?_⟩
      · rintro bb W ⟨hk, e1⟩
        obtain ⟨l0, l1, l2⟩ := cells3 e1
        have LL : Lower wr.heap.size W.heap.size := ⟨cell_lt l0⟩
        have hkw : Kept w W := (by (repeat (first | exact Kept.refl _ | assumption | refine Kept.alloc ?_ _ | refine Kept.ext ?_ _ | refine Kept.drew ?_ | refine Kept.drewN ?_ _)) : Kept w (w.alloc (.cells #[.slice (some ⟨b, off, none⟩) n cap, .slice B m cap2] 25))).trans hk
        simp only [swapL, Nat.reduceAdd]
        repeat (go_big_quiet_step (exact Calls.kept_of (HT.out _ k hlt (hkw.ext _))))
        refine wpQuiet_nil ?_
        rfl
      · simp only [EachS, and_true]
        refine ⟨?_, ?_, ?_, ?_⟩
        · intro L b w' hd hL hI
          have h0 := hI.v0 hL
          have LQ : Lower (adv (w.heap.size + 1 + 1) x0.obs.size) w'.heap.size := ⟨cell_lt h0⟩
          go_simp
          exact ⟨rfl, hI.op1 (by omega) hL⟩
        · intro L b w' hd hL hI
          go_simp
          exact ⟨rfl, hI.op5 (by omega)⟩
        · intro L b w' hd hL hI
          have d5 : L 5 = true := hd { on := 5, ground := .data } (by simp) rfl
          obtain ⟨g5, e5, e6⟩ := hI.n5 d5
          have hs := hI.s hL
          refine tells_append (.tmp 25) (.tmp 29) 22 (by rfl) _ 27 i0 _ 3 24 Try.underlying22 HJ.out.1 HJ.out.2.1 HJ.out.2.2.1 HJ.out.2.2.2 (by rfl) (by omega) (kept_le hI.kept) _ k (rowC 3 P' k) (by rfl) hs (some ⟨g5, 0, none⟩) 1 1 _ e5 (one_rows (e6 hL) ⟨HI.out k hlt 0 (by omega), HI.out k hlt 1 (by omega), HI.out k hlt 2 (by omega)⟩) (by unfold maxLen; omega) (by omega) ?_
          intro v' w'' k1 k2 k3
          rw [rowC_one3, ← rowC_succ3] at k1
          exact ⟨rfl, hI.op6 (by omega) hL k1 k2⟩
        · intro L b w' hd hL hI
          have d1 : L 1 = true := hd { on := 1, ground := .phase } (by simp) rfl
          have d6 : L 6 = true := hd { on := 6, ground := .phase } (by simp) rfl
          have h8 := hI.op8 (u := undef) (by omega) d1 d6 hL (by simp [adv]; omega) (by simp [adv]; omega)
          obtain ⟨q0, -, q1, -⟩ := cells2 hI.q
          obtain ⟨A6, c6, e6⟩ := own_slice2 (hI.t d6)
          rw [e6] at h8
          have LQ : Lower (adv (w.heap.size + 1 + 1) x0.obs.size) w'.heap.size := ⟨cell_lt q0⟩
          go_simp
          exact ⟨rfl, h8⟩
      · intro b b' d hd
        simp [callSlots, dullOp] at hd
        subst hd
        rfl
      · intro L b w' hL hI
        have hM := hI.done (hL 6 (by decide)) (hL 8 (by decide))
        have HM2 := Lib.hid hM
        clear hM hL hI
        go_wp2_with fail
        go_roundw
        case rel => exact ⟨k + 1, by omega, by go_num, _, HM2.out⟩
        case measure => simp [intOf]; omega
    · obtain rfl : k = n := by omega
      have hM := hM.congr (fun _ _ _ _ => rfl) (mix_none (P' := F'))
      have kb : wr.cell? ⟨w.heap.size, 1, none⟩ = some (.slice B m cap2) := kept_cell (w := (w.alloc (.cells #[.slice A k cap, .slice B m cap2] 25))) (by go_simp) hM.kept
      have LB : Lower w.heap.size wr.heap.size := ⟨cell_lt kb⟩
      have HM := Lib.hid hM
      clear hM hlt
      go_wp2_with fail
      clear kb LB
      go_loopw [36] (fun i wr => ∃ q : Nat, q ≤ m ∧ i = .int .i64 q ∧ Msh2 (w.alloc (.cells #[.slice A k cap, .slice B m cap2] 25)) (w.heap.size + 1) (adv (w.heap.size + 1 + 1) x0.obs.size) (.slice A2 k cp2) k P' (.slice B1 m c2) m (mixF q F' F) wr) (fun i _ => m - (intOf i).toNat)
      case atStart => exact ⟨0, by omega, rfl, HM.out.on (by (repeat (first | exact Kept.refl _ | assumption | refine Kept.alloc ?_ _ | refine Kept.ext ?_ _ | refine Kept.drew ?_ | refine Kept.drewN ?_ _)))⟩
      have HK := Lib.hid HM.out.kept
      clear HM
      case round =>
        obtain ⟨q, hq, rfl, hM⟩ := hrel
        by_cases hlt : q < m
        · obtain ⟨b, off, rfl, hb, f0, f1, f2⟩ := rows3 ((HF.out.of (by (repeat (first | exact Kept.refl _ | assumption | refine Kept.alloc ?_ _ | refine Kept.ext ?_ _ | refine Kept.drew ?_ | refine Kept.drewN ?_ _)) : Kept w (w.alloc (.cells #[.slice A k cap, .slice B m cap2] 25)))).of hM.kept) hlt
          have LB : Lower b wr.heap.size := ⟨hb⟩
          have HM := Lib.hid hM
          clear hM hb
          cases turned
          case false =>
            have hF2 : ∀ i, i < m → ∀ j, j < 3 → F' i j = F i j := fun i hi j hj => by rw [HF'.out i hi j hj]; rfl
            have HF2 := Lib.hid hF2
            clear hF2
            go_wp2_with fail
            go_roundw
            case rel => exact ⟨q + 1, by omega, by go_num, (HM.out.on (by (repeat (first | exact Kept.refl _ | assumption | refine Kept.alloc ?_ _ | refine Kept.ext ?_ _ | refine Kept.drew ?_ | refine Kept.drewN ?_ _)))).congr (fun _ _ _ _ => rfl) (mix_same HF2.out)⟩
            case measure => simp [intOf]; omega
          case true =>
            have hF2 : ∀ i, i < m → ∀ j, j < 3 → F' i j = mirF F i j := fun i hi j hj => by rw [HF'.out i hi j hj]; rfl
            have HF2 := Lib.hid hF2
            clear hF2
            obtain ⟨g, rfl, hg1, hg2⟩ := own_head HM.out.f (by omega)
            obtain ⟨m0, m1, -, -⟩ := cells2 HM.out.q
            have LM : Lower (adv (w.heap.size + 1 + 1) x0.obs.size) wr.heap.size := ⟨cell_lt m0⟩
            have LG : Lower g wr.heap.size := ⟨hg2⟩
            clear hg1 hg2
            go_wp2_with (refine wpList_store_mid rfl 55 (.tmp 52) (.tmp 51) rfl g (q * 3) #[.int .i64 (F q 0), .int .i64 (F q 2), .int .i64 (F q 1)] (by rfl) (by rfl) (own_there (owns_kept HM.out.f (by (repeat (first | exact Kept.refl _ | assumption | refine Kept.alloc ?_ _ | refine Kept.ext ?_ _ | refine Kept.drew ?_ | refine Kept.drewN ?_ _)))) hlt) (by kernel_rfl) (by simp [Value.oneCell']) ?_)
            go_roundw
            case rel => exact ⟨q + 1, by omega, by go_num, ((HM.out.on (by (repeat (first | exact Kept.refl _ | assumption | refine Kept.alloc ?_ _ | refine Kept.ext ?_ _ | refine Kept.drew ?_ | refine Kept.drewN ?_ _)))).putF hlt _ _ _).congr (fun _ _ _ _ => rfl) (mix_put (HF2.out q hlt 0 (by omega)).symm (HF2.out q hlt 1 (by omega)).symm (HF2.out q hlt 2 (by omega)).symm)⟩
            case measure => simp [intOf]; omega
        · obtain rfl : q = m := by omega
          have hM := hM.congr (fun _ _ _ _ => rfl) mix_all
          obtain ⟨m0, m1, -, -⟩ := cells2 hM.q
          have LM : Lower (adv (w.heap.size + 1 + 1) x0.obs.size) wr.heap.size := ⟨cell_lt m0⟩
          have HM := Lib.hid hM
          clear hM hlt
          go_wp2_with fail
          have hI2 : ∀ i, i < q → ∀ j, j < 3 → I64 (F' i j) := fun i hi j hj => by
            rw [HF'.out i hi j hj]
            split
            · exact mirF_I HFI.out i hi j hj
            · exact HFI.out i hi j hj
          refine (sresultK_any _ _ _ _ _ _ P' F' _ (by omega) (rows_of_owns HM.out.p HI.out) (rows_of_owns HM.out.f hI2)).mono ?_
          rintro r w1 ⟨rfl, x9, rfl⟩
          have HR := Lib.hid (fr_kept HM.out.r (by (repeat (first | exact Kept.refl _ | assumption | refine Kept.alloc ?_ _ | refine Kept.ext ?_ _ | refine Kept.drew ?_ | refine Kept.drewN ?_ _)) : Kept wr (ext wr x9)))
          rw [HE.out]
          clear hI2
          obtain ⟨q1, q2, -, -⟩ := cells2 (setRow_heap _ _ _ #[.slice (okA e A2) (okN e k) (okN e cp2), .slice (okA e B1) (okN e q) (okN e c2)] _ _ HR.out)
          go_wp2_with (refine wpList_store_row rfl 25 (.tmp 6) (.tmp 56) rfl (w.heap.size + 1) _ rfl rfl _ _ HR.out (by kernel_rfl) rfl (by simp [Value.oneCell']) ?_)
          refine bodyPost_ret (by simp only [results, Try.results35]; go_simp; rfl) rfl ?_
          exact HM.out.fin (by (repeat (first | exact Kept.refl _ | assumption | refine Kept.alloc ?_ _ | refine Kept.ext ?_ _ | refine Kept.drew ?_ | refine Kept.drewN ?_ _))) e (by (repeat (first | exact Kept.refl _ | assumption | refine Kept.alloc ?_ _ | refine Kept.ext ?_ _ | refine Kept.drew ?_ | refine Kept.drewN ?_ _))) (by simp)
set_option maxRecDepth 100000 in
set_option maxHeartbeats 16000000 in
theorem changed_mirror (A B : Option Addr) (n cap m cap2 : Nat) (P F : Nat → Nat → Int) (turned : Bool) (P' F' : Nat → Nat → Int) (w : World) (hn : n ≤ 1000 ∧ m ≤ 1000) (hP : RowsAt w A n 3 P) (hF : RowsAt w B m 3 F)
    (hI : ∀ k, k < n → ∀ j, j < 3 → I64 (P' k j)) (hF' : ∀ i, i < m → ∀ j, j < 3 → F' i j = if turned = true then mirF F i j else F i j)
    (hto : ∀ W i, i < n → Kept w W → Calls Try.prog 45 #[.agg #[.int .i64 (P i 0), .int .i64 (P i 1), .int .i64 (P i 2)]] W fun r w' => r = .returned (.agg #[.int .i64 (P' i 0), .int .i64 (P' i 1), .int .i64 (P' i 2)]) ∧ Kept W w') :
    Calls Try.prog 35 #[.agg #[.slice A n cap, .slice B m cap2], .bool turned, .func (.func 45) #[] #[]] w fun r w' => MeshO w w' r (validE n P' m F') n P' m F' := by
  have HP := Lib.hid hP
  have HF := Lib.hid hF
  have HI := Lib.hid hI
  have HF' := Lib.hid hF'
  have HT := Lib.hid hto
  have HFI := Lib.hid (rows_I hF)
  obtain ⟨e, he⟩ : ∃ e, validE n P' m F' = e := ⟨_, rfl⟩
  rw [he]
  have HE := Lib.hid he
  clear he
  clear hP hF hI hF' hto
  obtain ⟨i0, hi, hz0, hz1, hz2⟩ := info_parts infoPoint
  have HJ := Lib.hid (And.intro hi (And.intro hz0 (And.intro hz1 hz2)))
  clear hi hz0 hz1 hz2
  go_enter Try.func35, Try.ntmps35
  go_wp2_with fail
  refine (clone_any _ _ _ F _ (by omega) (HF.out.of (by (repeat (first | exact Kept.refl _ | assumption | refine Kept.alloc ?_ _ | refine Kept.ext ?_ _ | refine Kept.drew ?_ | refine Kept.drewN ?_ _))))).mono ?_
  rintro r w1 ⟨vF, rfl, ⟨x0, rfl⟩, ho⟩
  obtain ⟨B1, c2, rfl⟩ := own_slice2 ho
  have H2 := Lib.hid ho
  clear ho
  go_wp2_with fail
  go_loopw [20] (fun i wr => ∃ k : Nat, k ≤ n ∧ i = .int .i64 k ∧ ∃ v, Msh2 (w.alloc (.cells #[.slice A n cap, .slice B m cap2] 25)) (w.heap.size + 1) (adv (w.heap.size + 1 + 1) x0.obs.size) v k P' (.slice B1 m c2) m F wr) (fun i _ => n - (intOf i).toNat)
  case atStart =>
    refine ⟨0, by omega, rfl, .slice none 0 0, by (repeat (first | exact Kept.refl _ | assumption | refine Kept.alloc ?_ _ | refine Kept.ext ?_ _ | refine Kept.drew ?_ | refine Kept.drewN ?_ _)), ?_, ?_, World.ownsRow_nil _ _ _ _, own_mono (owns_kept H2.out (by (repeat (first | exact Kept.refl _ | assumption | refine Kept.alloc ?_ _ | refine Kept.ext ?_ _ | refine Kept.drew ?_ | refine Kept.drewN ?_ _)))) ?_⟩
    · exact fr_kept (alloc_now (w.alloc (.cells #[.slice A n cap, .slice B m cap2] 25)) _ _) (by (repeat (first | exact Kept.refl _ | assumption | refine Kept.alloc ?_ _ | refine Kept.ext ?_ _ | refine Kept.drew ?_ | refine Kept.drewN ?_ _)))
    · exact alloc_at2 _ _ _
    · simp
  case round =>
    obtain ⟨k, hk, rfl, v, hM⟩ := hrel
    obtain ⟨A2, cp2, rfl, hcp⟩ := own_sl hM.p
    by_cases hlt : k < n
    · obtain ⟨b, off, rfl, hb, f0, f1, f2⟩ := rows3 ((HP.out.of (by (repeat (first | exact Kept.refl _ | assumption | refine Kept.alloc ?_ _ | refine Kept.ext ?_ _ | refine Kept.drew ?_ | refine Kept.drewN ?_ _)) : Kept w (w.alloc (.cells #[.slice A n cap, .slice B m cap2] 25)))).of hM.kept) hlt
      have LB : Lower b wr.heap.size := ⟨hb⟩
      obtain ⟨m0, m1, z0, z1⟩ := cells2 hM.q
      have LM : Lower (adv (w.heap.size + 1 + 1) x0.obs.size) wr.heap.size := ⟨cell_lt m0⟩
      have HM := Lib.hid hM
      clear hM hb
      go_wp2_with fail
      refine wp_region_tellC (C := fun W' => Kept (w.alloc (.cells #[.slice (some ⟨b, off, none⟩) n cap, .slice B m cap2] 25)) W' ∧ W'.heap[wr.heap.size]? = some (.cells #[.int .i64 (P k 0), .int .i64 (P k 1), .int .i64 (P k 2)] 27 (0, 0))) [.q, .k (.slice A2 k cp2), .q, .q, .q, .s, .s, .q, .k undef] (AppI 1 5 6 8 (w.alloc (.cells #[.slice (some ⟨b, off, none⟩) n cap, .slice B m cap2] 25)) (w.heap.size + 1) (adv (w.heap.size + 1 + 1) x0.obs.size) wr.heap.size #[.int .i64 (P k 0), .int .i64 (P k 1), .int .i64 (P k 2)] (.slice A2 k cp2) k P' (.slice B1 m c2) m F) (by kernel_rfl) (by kernel_rfl) (fun b => by kernel_rfl) ?_ ?_ ?_ ?_
      · exact fun bb => AppI.start HM.out (by (repeat (first | exact Kept.refl _ | assumption | refine Kept.alloc ?_ _ | refine Kept.ext ?_ _ | refine Kept.drew ?_ | refine Kept.drewN ?_ _))) (alloc_at2 _ _ _) (Nat.le_refl _)
      · intro i L b w' w'' hs hI hk
        exact (hI.on hk).other (by rintro rfl; cases hs) (by rintro rfl; cases hs) (by rintro rfl; cases hs) (by rintro rfl; cases hs)
      · exact fun L b w' h => ⟨h.kept, h.pk⟩
      apply Exists.intro
      refine ⟨?_, ?_, ?_, ?_⟩
      · rintro bb W ⟨hk, e1⟩
        obtain ⟨l0, l1, l2⟩ := cells3 e1
        have LL : Lower wr.heap.size W.heap.size := ⟨cell_lt l0⟩
        have hkw : Kept w W := (by (repeat (first | exact Kept.refl _ | assumption | refine Kept.alloc ?_ _ | refine Kept.ext ?_ _ | refine Kept.drew ?_ | refine Kept.drewN ?_ _)) : Kept w (w.alloc (.cells #[.slice (some ⟨b, off, none⟩) n cap, .slice B m cap2] 25))).trans hk
        simp only [swapL, Nat.reduceAdd]
        repeat (go_big_quiet_step (exact Calls.kept_of (HT.out _ k hlt (hkw.ext _))))
        refine wpQuiet_nil ?_
        rfl
      · simp only [EachS, and_true]
        refine ⟨?_, ?_, ?_, ?_⟩
        · intro L b w' hd hL hI
          have h0 := hI.v0 hL
          have LQ : Lower (adv (w.heap.size + 1 + 1) x0.obs.size) w'.heap.size := ⟨cell_lt h0⟩
          go_simp
          exact ⟨rfl, hI.op1 (by omega) hL⟩
        · intro L b w' hd hL hI
          go_simp
          exact ⟨rfl, hI.op5 (by omega)⟩
        · intro L b w' hd hL hI
          have d5 : L 5 = true := hd { on := 5, ground := .data } (by simp) rfl
          obtain ⟨g5, e5, e6⟩ := hI.n5 d5
          have hs := hI.s hL
          refine tells_append (.tmp 25) (.tmp 29) 22 (by rfl) _ 27 i0 _ 3 24 Try.underlying22 HJ.out.1 HJ.out.2.1 HJ.out.2.2.1 HJ.out.2.2.2 (by rfl) (by omega) (kept_le hI.kept) _ k (rowC 3 P' k) (by rfl) hs (some ⟨g5, 0, none⟩) 1 1 _ e5 (one_rows (e6 hL) ⟨HI.out k hlt 0 (by omega), HI.out k hlt 1 (by omega), HI.out k hlt 2 (by omega)⟩) (by unfold maxLen; omega) (by omega) ?_
          intro v' w'' k1 k2 k3
          rw [rowC_one3, ← rowC_succ3] at k1
          exact ⟨rfl, hI.op6 (by omega) hL k1 k2⟩
        · intro L b w' hd hL hI
          have d1 : L 1 = true := hd { on := 1, ground := .phase } (by simp) rfl
          have d6 : L 6 = true := hd { on := 6, ground := .phase } (by simp) rfl
          have h8 := hI.op8 (u := undef) (by omega) d1 d6 hL (by simp [adv]; omega) (by simp [adv]; omega)
          obtain ⟨q0, -, q1, -⟩ := cells2 hI.q
          obtain ⟨A6, c6, e6⟩ := own_slice2 (hI.t d6)
          rw [e6] at h8
          have LQ : Lower (adv (w.heap.size + 1 + 1) x0.obs.size) w'.heap.size := ⟨cell_lt q0⟩
          go_simp
          exact ⟨rfl, h8⟩
      · intro b b' d hd
        simp [callSlots, dullOp] at hd
        subst hd
        rfl
      · intro L b w' hL hI
        have hM := hI.done (hL 6 (by decide)) (hL 8 (by decide))
        have HM2 := Lib.hid hM
        clear hM hL hI
        go_wp2_with fail
        go_roundw
        case rel => exact ⟨k + 1, by omega, by go_num, _, HM2.out⟩
        case measure => simp [intOf]; omega
    · obtain rfl : k = n := by omega
      have hM := hM.congr (fun _ _ _ _ => rfl) (mix_none (P' := F'))
      have kb : wr.cell? ⟨w.heap.size, 1, none⟩ = some (.slice B m cap2) := kept_cell (w := (w.alloc (.cells #[.slice A k cap, .slice B m cap2] 25))) (by go_simp) hM.kept
      have LB : Lower w.heap.size wr.heap.size := ⟨cell_lt kb⟩
      have HM := Lib.hid hM
      clear hM hlt
      go_wp2_with fail
      clear kb LB
      go_loopw [36] (fun i wr => ∃ q : Nat, q ≤ m ∧ i = .int .i64 q ∧ Msh2 (w.alloc (.cells #[.slice A k cap, .slice B m cap2] 25)) (w.heap.size + 1) (adv (w.heap.size + 1 + 1) x0.obs.size) (.slice A2 k cp2) k P' (.slice B1 m c2) m (mixF q F' F) wr) (fun i _ => m - (intOf i).toNat)
      case atStart => exact ⟨0, by omega, rfl, HM.out.on (by (repeat (first | exact Kept.refl _ | assumption | refine Kept.alloc ?_ _ | refine Kept.ext ?_ _ | refine Kept.drew ?_ | refine Kept.drewN ?_ _)))⟩
      have HK := Lib.hid HM.out.kept
      clear HM
      case round =>
        obtain ⟨q, hq, rfl, hM⟩ := hrel
        by_cases hlt : q < m
        · obtain ⟨b, off, rfl, hb, f0, f1, f2⟩ := rows3 ((HF.out.of (by (repeat (first | exact Kept.refl _ | assumption | refine Kept.alloc ?_ _ | refine Kept.ext ?_ _ | refine Kept.drew ?_ | refine Kept.drewN ?_ _)) : Kept w (w.alloc (.cells #[.slice A k cap, .slice B m cap2] 25)))).of hM.kept) hlt
          have LB : Lower b wr.heap.size := ⟨hb⟩
          have HM := Lib.hid hM
          clear hM hb
          cases turned
          case false =>
            have hF2 : ∀ i, i < m → ∀ j, j < 3 → F' i j = F i j := fun i hi j hj => by rw [HF'.out i hi j hj]; rfl
            have HF2 := Lib.hid hF2
            clear hF2
            go_wp2_with fail
            go_roundw
            case rel => exact ⟨q + 1, by omega, by go_num, (HM.out.on (by (repeat (first | exact Kept.refl _ | assumption | refine Kept.alloc ?_ _ | refine Kept.ext ?_ _ | refine Kept.drew ?_ | refine Kept.drewN ?_ _)))).congr (fun _ _ _ _ => rfl) (mix_same HF2.out)⟩
            case measure => simp [intOf]; omega
          case true =>
            have hF2 : ∀ i, i < m → ∀ j, j < 3 → F' i j = mirF F i j := fun i hi j hj => by rw [HF'.out i hi j hj]; rfl
            have HF2 := Lib.hid hF2
            clear hF2
            obtain ⟨g, rfl, hg1, hg2⟩ := own_head HM.out.f (by omega)
            obtain ⟨m0, m1, -, -⟩ := cells2 HM.out.q
            have LM : Lower (adv (w.heap.size + 1 + 1) x0.obs.size) wr.heap.size := ⟨cell_lt m0⟩
            have LG : Lower g wr.heap.size := ⟨hg2⟩
            clear hg1 hg2
            go_wp2_with (refine wpList_store_mid rfl 55 (.tmp 52) (.tmp 51) rfl g (q * 3) #[.int .i64 (F q 0), .int .i64 (F q 2), .int .i64 (F q 1)] (by rfl) (by rfl) (own_there (owns_kept HM.out.f (by (repeat (first | exact Kept.refl _ | assumption | refine Kept.alloc ?_ _ | refine Kept.ext ?_ _ | refine Kept.drew ?_ | refine Kept.drewN ?_ _)))) hlt) (by kernel_rfl) (by simp [Value.oneCell']) ?_)
            go_roundw
            case rel => exact ⟨q + 1, by omega, by go_num, ((HM.out.on (by (repeat (first | exact Kept.refl _ | assumption | refine Kept.alloc ?_ _ | refine Kept.ext ?_ _ | refine Kept.drew ?_ | refine Kept.drewN ?_ _)))).putF hlt _ _ _).congr (fun _ _ _ _ => rfl) (mix_put (HF2.out q hlt 0 (by omega)).symm (HF2.out q hlt 1 (by omega)).symm (HF2.out q hlt 2 (by omega)).symm)⟩
            case measure => simp [intOf]; omega
        · obtain rfl : q = m := by omega
          have hM := hM.congr (fun _ _ _ _ => rfl) mix_all
          obtain ⟨m0, m1, -, -⟩ := cells2 hM.q
          have LM : Lower (adv (w.heap.size + 1 + 1) x0.obs.size) wr.heap.size := ⟨cell_lt m0⟩
          have HM := Lib.hid hM
          clear hM hlt
          go_wp2_with fail
          have hI2 : ∀ i, i < q → ∀ j, j < 3 → I64 (F' i j) := fun i hi j hj => by
            rw [HF'.out i hi j hj]
            split
            · exact mirF_I HFI.out i hi j hj
            · exact HFI.out i hi j hj
          refine (sresultK_any _ _ _ _ _ _ P' F' _ (by omega) (rows_of_owns HM.out.p HI.out) (rows_of_owns HM.out.f hI2)).mono ?_
          rintro r w1 ⟨rfl, x9, rfl⟩
          have HR := Lib.hid (fr_kept HM.out.r (by (repeat (first | exact Kept.refl _ | assumption | refine Kept.alloc ?_ _ | refine Kept.ext ?_ _ | refine Kept.drew ?_ | refine Kept.drewN ?_ _)) : Kept wr (ext wr x9)))
          rw [HE.out]
          clear hI2
          obtain ⟨q1, q2, -, -⟩ := cells2 (setRow_heap _ _ _ #[.slice (okA e A2) (okN e k) (okN e cp2), .slice (okA e B1) (okN e q) (okN e c2)] _ _ HR.out)
          go_wp2_with (refine wpList_store_row rfl 25 (.tmp 6) (.tmp 56) rfl (w.heap.size + 1) _ rfl rfl _ _ HR.out (by kernel_rfl) rfl (by simp [Value.oneCell']) ?_)
          refine bodyPost_ret (by simp only [results, Try.results35]; go_simp; rfl) rfl ?_
          exact HM.out.fin (by (repeat (first | exact Kept.refl _ | assumption | refine Kept.alloc ?_ _ | refine Kept.ext ?_ _ | refine Kept.drew ?_ | refine Kept.drewN ?_ _))) e (by (repeat (first | exact Kept.refl _ | assumption | refine Kept.alloc ?_ _ | refine Kept.ext ?_ _ | refine Kept.drew ?_ | refine Kept.drewN ?_ _))) (by simp)
set_option maxRecDepth 100000 in
set_option maxHeartbeats 16000000 in
theorem changed_move (A B : Option Addr) (n cap m cap2 : Nat) (P F : Nat → Nat → Int) (turned : Bool) (c : Nat) (P' F' : Nat → Nat → Int) (w : World) (hn : n ≤ 1000 ∧ m ≤ 1000) (hP : RowsAt w A n 3 P) (hF : RowsAt w B m 3 F)
    (hI : ∀ k, k < n → ∀ j, j < 3 → I64 (P' k j)) (hF' : ∀ i, i < m → ∀ j, j < 3 → F' i j = if turned = true then mirF F i j else F i j)
    (hto : ∀ W i, i < n → Kept w W → Calls Try.prog 36 #[.agg #[.int .i64 (P i 0), .int .i64 (P i 1), .int .i64 (P i 2)], .pointer (some ⟨c, 0, none⟩)] W fun r w' => r = .returned (.agg #[.int .i64 (P' i 0), .int .i64 (P' i 1), .int .i64 (P' i 2)]) ∧ Kept W w') :
    Calls Try.prog 35 #[.agg #[.slice A n cap, .slice B m cap2], .bool turned, .func (.func 36) #[] #[.pointer (some ⟨c, 0, none⟩)]] w fun r w' => MeshO w w' r (validE n P' m F') n P' m F' := by
  have HP := Lib.hid hP
  have HF := Lib.hid hF
  have HI := Lib.hid hI
  have HF' := Lib.hid hF'
  have HT := Lib.hid hto
  have HFI := Lib.hid (rows_I hF)
  obtain ⟨e, he⟩ : ∃ e, validE n P' m F' = e := ⟨_, rfl⟩
  rw [he]
  have HE := Lib.hid he
  clear he
  clear hP hF hI hF' hto
  obtain ⟨i0, hi, hz0, hz1, hz2⟩ := info_parts infoPoint
  have HJ := Lib.hid (And.intro hi (And.intro hz0 (And.intro hz1 hz2)))
  clear hi hz0 hz1 hz2
  go_enter Try.func35, Try.ntmps35
  go_wp2_with fail
  refine (clone_any _ _ _ F _ (by omega) (HF.out.of (by (repeat (first | exact Kept.refl _ | assumption | refine Kept.alloc ?_ _ | refine Kept.ext ?_ _ | refine Kept.drew ?_ | refine Kept.drewN ?_ _))))).mono ?_
  rintro r w1 ⟨vF, rfl, ⟨x0, rfl⟩, ho⟩
  obtain ⟨B1, c2, rfl⟩ := own_slice2 ho
  have H2 := Lib.hid ho
  clear ho
  go_wp2_with fail
  go_loopw [20] (fun i wr => ∃ k : Nat, k ≤ n ∧ i = .int .i64 k ∧ ∃ v, Msh2 (w.alloc (.cells #[.slice A n cap, .slice B m cap2] 25)) (w.heap.size + 1) (adv (w.heap.size + 1 + 1) x0.obs.size) v k P' (.slice B1 m c2) m F wr) (fun i _ => n - (intOf i).toNat)
  case atStart =>
    refine ⟨0, by omega, rfl, .slice none 0 0, by (repeat (first | exact Kept.refl _ | assumption | refine Kept.alloc ?_ _ | refine Kept.ext ?_ _ | refine Kept.drew ?_ | refine Kept.drewN ?_ _)), ?_, ?_, World.ownsRow_nil _ _ _ _, own_mono (owns_kept H2.out (by (repeat (first | exact Kept.refl _ | assumption | refine Kept.alloc ?_ _ | refine Kept.ext ?_ _ | refine Kept.drew ?_ | refine Kept.drewN ?_ _)))) ?_⟩
    · exact fr_kept (alloc_now (w.alloc (.cells #[.slice A n cap, .slice B m cap2] 25)) _ _) (by (repeat (first | exact Kept.refl _ | assumption | refine Kept.alloc ?_ _ | refine Kept.ext ?_ _ | refine Kept.drew ?_ | refine Kept.drewN ?_ _)))
    · exact alloc_at2 _ _ _
    · simp
  case round =>
    obtain ⟨k, hk, rfl, v, hM⟩ := hrel
    obtain ⟨A2, cp2, rfl, hcp⟩ := own_sl hM.p
    by_cases hlt : k < n
    · obtain ⟨b, off, rfl, hb, f0, f1, f2⟩ := rows3 ((HP.out.of (by (repeat (first | exact Kept.refl _ | assumption | refine Kept.alloc ?_ _ | refine Kept.ext ?_ _ | refine Kept.drew ?_ | refine Kept.drewN ?_ _)) : Kept w (w.alloc (.cells #[.slice A n cap, .slice B m cap2] 25)))).of hM.kept) hlt
      have LB : Lower b wr.heap.size := ⟨hb⟩
      obtain ⟨m0, m1, z0, z1⟩ := cells2 hM.q
      have LM : Lower (adv (w.heap.size + 1 + 1) x0.obs.size) wr.heap.size := ⟨cell_lt m0⟩
      have HM := Lib.hid hM
      clear hM hb
      go_wp2_with fail
      refine wp_region_tellC (C := fun W' => Kept (w.alloc (.cells #[.slice (some ⟨b, off, none⟩) n cap, .slice B m cap2] 25)) W' ∧ W'.heap[wr.heap.size]? = some (.cells #[.int .i64 (P k 0), .int .i64 (P k 1), .int .i64 (P k 2)] 27 (0, 0))) [.q, .k (.slice A2 k cp2), .q, .q, .q, .s, .s, .q, .k undef] (AppI 1 5 6 8 (w.alloc (.cells #[.slice (some ⟨b, off, none⟩) n cap, .slice B m cap2] 25)) (w.heap.size + 1) (adv (w.heap.size + 1 + 1) x0.obs.size) wr.heap.size #[.int .i64 (P k 0), .int .i64 (P k 1), .int .i64 (P k 2)] (.slice A2 k cp2) k P' (.slice B1 m c2) m F) (by kernel_rfl) (by kernel_rfl) (fun b => by kernel_rfl) ?_ ?_ ?_ ?_
      · exact fun bb => AppI.start HM.out (by (repeat (first | exact Kept.refl _ | assumption | refine Kept.alloc ?_ _ | refine Kept.ext ?_ _ | refine Kept.drew ?_ | refine Kept.drewN ?_ _))) (alloc_at2 _ _ _) (Nat.le_refl _)
      · intro i L b w' w'' hs hI hk
        exact (hI.on hk).other (by rintro rfl; cases hs) (by rintro rfl; cases hs) (by rintro rfl; cases hs) (by rintro rfl; cases hs)
      · exact fun L b w' h => ⟨h.kept, h.pk⟩
      apply Exists.intro
      refine ⟨?_, ?_, ?_, ?_⟩
      · rintro bb W ⟨hk, e1⟩
        obtain ⟨l0, l1, l2⟩ := cells3 e1
        have LL : Lower wr.heap.size W.heap.size := ⟨cell_lt l0⟩
        have hkw : Kept w W := (by (repeat (first | exact Kept.refl _ | assumption | refine Kept.alloc ?_ _ | refine Kept.ext ?_ _ | refine Kept.drew ?_ | refine Kept.drewN ?_ _)) : Kept w (w.alloc (.cells #[.slice (some ⟨b, off, none⟩) n cap, .slice B m cap2] 25))).trans hk
        simp only [swapL, Nat.reduceAdd]
        repeat (go_big_quiet_step (exact Calls.kept_of (HT.out _ k hlt (hkw.ext _))))
        refine wpQuiet_nil ?_
        rfl
      · simp only [EachS, and_true]
        refine ⟨?_, ?_, ?_, ?_⟩
        · intro L b w' hd hL hI
          have h0 := hI.v0 hL
          have LQ : Lower (adv (w.heap.size + 1 + 1) x0.obs.size) w'.heap.size := ⟨cell_lt h0⟩
          go_simp
          exact ⟨rfl, hI.op1 (by omega) hL⟩
        · intro L b w' hd hL hI
          go_simp
          exact ⟨rfl, hI.op5 (by omega)⟩
        · intro L b w' hd hL hI
          have d5 : L 5 = true := hd { on := 5, ground := .data } (by simp) rfl
          obtain ⟨g5, e5, e6⟩ := hI.n5 d5
          have hs := hI.s hL
          refine tells_append (.tmp 25) (.tmp 29) 22 (by rfl) _ 27 i0 _ 3 24 Try.underlying22 HJ.out.1 HJ.out.2.1 HJ.out.2.2.1 HJ.out.2.2.2 (by rfl) (by omega) (kept_le hI.kept) _ k (rowC 3 P' k) (by rfl) hs (some ⟨g5, 0, none⟩) 1 1 _ e5 (one_rows (e6 hL) ⟨HI.out k hlt 0 (by omega), HI.out k hlt 1 (by omega), HI.out k hlt 2 (by omega)⟩) (by unfold maxLen; omega) (by omega) ?_
          intro v' w'' k1 k2 k3
          rw [rowC_one3, ← rowC_succ3] at k1
          exact ⟨rfl, hI.op6 (by omega) hL k1 k2⟩
        · intro L b w' hd hL hI
          have d1 : L 1 = true := hd { on := 1, ground := .phase } (by simp) rfl
          have d6 : L 6 = true := hd { on := 6, ground := .phase } (by simp) rfl
          have h8 := hI.op8 (u := undef) (by omega) d1 d6 hL (by simp [adv]; omega) (by simp [adv]; omega)
          obtain ⟨q0, -, q1, -⟩ := cells2 hI.q
          obtain ⟨A6, c6, e6⟩ := own_slice2 (hI.t d6)
          rw [e6] at h8
          have LQ : Lower (adv (w.heap.size + 1 + 1) x0.obs.size) w'.heap.size := ⟨cell_lt q0⟩
          go_simp
          exact ⟨rfl, h8⟩
      · intro b b' d hd
        simp [callSlots, dullOp] at hd
        subst hd
        rfl
      · intro L b w' hL hI
        have hM := hI.done (hL 6 (by decide)) (hL 8 (by decide))
        have HM2 := Lib.hid hM
        clear hM hL hI
        go_wp2_with fail
        go_roundw
        case rel => exact ⟨k + 1, by omega, by go_num, _, HM2.out⟩
        case measure => simp [intOf]; omega
    · obtain rfl : k = n := by omega
      have hM := hM.congr (fun _ _ _ _ => rfl) (mix_none (P' := F'))
      have kb : wr.cell? ⟨w.heap.size, 1, none⟩ = some (.slice B m cap2) := kept_cell (w := (w.alloc (.cells #[.slice A k cap, .slice B m cap2] 25))) (by go_simp) hM.kept
      have LB : Lower w.heap.size wr.heap.size := ⟨cell_lt kb⟩
      have HM := Lib.hid hM
      clear hM hlt
      go_wp2_with fail
      clear kb LB
      go_loopw [36] (fun i wr => ∃ q : Nat, q ≤ m ∧ i = .int .i64 q ∧ Msh2 (w.alloc (.cells #[.slice A k cap, .slice B m cap2] 25)) (w.heap.size + 1) (adv (w.heap.size + 1 + 1) x0.obs.size) (.slice A2 k cp2) k P' (.slice B1 m c2) m (mixF q F' F) wr) (fun i _ => m - (intOf i).toNat)
      case atStart => exact ⟨0, by omega, rfl, HM.out.on (by (repeat (first | exact Kept.refl _ | assumption | refine Kept.alloc ?_ _ | refine Kept.ext ?_ _ | refine Kept.drew ?_ | refine Kept.drewN ?_ _)))⟩
      have HK := Lib.hid HM.out.kept
      clear HM
      case round =>
        obtain ⟨q, hq, rfl, hM⟩ := hrel
        by_cases hlt : q < m
        · obtain ⟨b, off, rfl, hb, f0, f1, f2⟩ := rows3 ((HF.out.of (by (repeat (first | exact Kept.refl _ | assumption | refine Kept.alloc ?_ _ | refine Kept.ext ?_ _ | refine Kept.drew ?_ | refine Kept.drewN ?_ _)) : Kept w (w.alloc (.cells #[.slice A k cap, .slice B m cap2] 25)))).of hM.kept) hlt
          have LB : Lower b wr.heap.size := ⟨hb⟩
          have HM := Lib.hid hM
          clear hM hb
          cases turned
          case false =>
            have hF2 : ∀ i, i < m → ∀ j, j < 3 → F' i j = F i j := fun i hi j hj => by rw [HF'.out i hi j hj]; rfl
            have HF2 := Lib.hid hF2
            clear hF2
            go_wp2_with fail
            go_roundw
            case rel => exact ⟨q + 1, by omega, by go_num, (HM.out.on (by (repeat (first | exact Kept.refl _ | assumption | refine Kept.alloc ?_ _ | refine Kept.ext ?_ _ | refine Kept.drew ?_ | refine Kept.drewN ?_ _)))).congr (fun _ _ _ _ => rfl) (mix_same HF2.out)⟩
            case measure => simp [intOf]; omega
          case true =>
            have hF2 : ∀ i, i < m → ∀ j, j < 3 → F' i j = mirF F i j := fun i hi j hj => by rw [HF'.out i hi j hj]; rfl
            have HF2 := Lib.hid hF2
            clear hF2
            obtain ⟨g, rfl, hg1, hg2⟩ := own_head HM.out.f (by omega)
            obtain ⟨m0, m1, -, -⟩ := cells2 HM.out.q
            have LM : Lower (adv (w.heap.size + 1 + 1) x0.obs.size) wr.heap.size := ⟨cell_lt m0⟩
            have LG : Lower g wr.heap.size := ⟨hg2⟩
            clear hg1 hg2
            go_wp2_with (refine wpList_store_mid rfl 55 (.tmp 52) (.tmp 51) rfl g (q * 3) #[.int .i64 (F q 0), .int .i64 (F q 2), .int .i64 (F q 1)] (by rfl) (by rfl) (own_there (owns_kept HM.out.f (by (repeat (first | exact Kept.refl _ | assumption | refine Kept.alloc ?_ _ | refine Kept.ext ?_ _ | refine Kept.drew ?_ | refine Kept.drewN ?_ _)))) hlt) (by kernel_rfl) (by simp [Value.oneCell']) ?_)
            go_roundw
            case rel => exact ⟨q + 1, by omega, by go_num, ((HM.out.on (by (repeat (first | exact Kept.refl _ | assumption | refine Kept.alloc ?_ _ | refine Kept.ext ?_ _ | refine Kept.drew ?_ | refine Kept.drewN ?_ _)))).putF hlt _ _ _).congr (fun _ _ _ _ => rfl) (mix_put (HF2.out q hlt 0 (by omega)).symm (HF2.out q hlt 1 (by omega)).symm (HF2.out q hlt 2 (by omega)).symm)⟩
            case measure => simp [intOf]; omega
        · obtain rfl : q = m := by omega
          have hM := hM.congr (fun _ _ _ _ => rfl) mix_all
          obtain ⟨m0, m1, -, -⟩ := cells2 hM.q
          have LM : Lower (adv (w.heap.size + 1 + 1) x0.obs.size) wr.heap.size := ⟨cell_lt m0⟩
          have HM := Lib.hid hM
          clear hM hlt
          go_wp2_with fail
          have hI2 : ∀ i, i < q → ∀ j, j < 3 → I64 (F' i j) := fun i hi j hj => by
            rw [HF'.out i hi j hj]
            split
            · exact mirF_I HFI.out i hi j hj
            · exact HFI.out i hi j hj
          refine (sresultK_any _ _ _ _ _ _ P' F' _ (by omega) (rows_of_owns HM.out.p HI.out) (rows_of_owns HM.out.f hI2)).mono ?_
          rintro r w1 ⟨rfl, x9, rfl⟩
          have HR := Lib.hid (fr_kept HM.out.r (by (repeat (first | exact Kept.refl _ | assumption | refine Kept.alloc ?_ _ | refine Kept.ext ?_ _ | refine Kept.drew ?_ | refine Kept.drewN ?_ _)) : Kept wr (ext wr x9)))
          rw [HE.out]
          clear hI2
          obtain ⟨q1, q2, -, -⟩ := cells2 (setRow_heap _ _ _ #[.slice (okA e A2) (okN e k) (okN e cp2), .slice (okA e B1) (okN e q) (okN e c2)] _ _ HR.out)
          go_wp2_with (refine wpList_store_row rfl 25 (.tmp 6) (.tmp 56) rfl (w.heap.size + 1) _ rfl rfl _ _ HR.out (by kernel_rfl) rfl (by simp [Value.oneCell']) ?_)
          refine bodyPost_ret (by simp only [results, Try.results35]; go_simp; rfl) rfl ?_
          exact HM.out.fin (by (repeat (first | exact Kept.refl _ | assumption | refine Kept.alloc ?_ _ | refine Kept.ext ?_ _ | refine Kept.drew ?_ | refine Kept.drewN ?_ _))) e (by (repeat (first | exact Kept.refl _ | assumption | refine Kept.alloc ?_ _ | refine Kept.ext ?_ _ | refine Kept.drew ?_ | refine Kept.drewN ?_ _))) (by simp)
set_option maxRecDepth 100000 in
set_option maxHeartbeats 16000000 in
theorem changed_scale (A B : Option Addr) (n cap m cap2 : Nat) (P F : Nat → Nat → Int) (turned : Bool) (c : Nat) (P' F' : Nat → Nat → Int) (w : World) (hn : n ≤ 1000 ∧ m ≤ 1000) (hP : RowsAt w A n 3 P) (hF : RowsAt w B m 3 F)
    (hI : ∀ k, k < n → ∀ j, j < 3 → I64 (P' k j)) (hF' : ∀ i, i < m → ∀ j, j < 3 → F' i j = if turned = true then mirF F i j else F i j)
    (hto : ∀ W i, i < n → Kept w W → Calls Try.prog 38 #[.agg #[.int .i64 (P i 0), .int .i64 (P i 1), .int .i64 (P i 2)], .pointer (some ⟨c, 0, none⟩)] W fun r w' => r = .returned (.agg #[.int .i64 (P' i 0), .int .i64 (P' i 1), .int .i64 (P' i 2)]) ∧ Kept W w') :
    Calls Try.prog 35 #[.agg #[.slice A n cap, .slice B m cap2], .bool turned, .func (.func 38) #[] #[.pointer (some ⟨c, 0, none⟩)]] w fun r w' => MeshO w w' r (validE n P' m F') n P' m F' := by
  have HP := Lib.hid hP
  have HF := Lib.hid hF
  have HI := Lib.hid hI
  have HF' := Lib.hid hF'
  have HT := Lib.hid hto
  have HFI := Lib.hid (rows_I hF)
  obtain ⟨e, he⟩ : ∃ e, validE n P' m F' = e := ⟨_, rfl⟩
  rw [he]
  have HE := Lib.hid he
  clear he
  clear hP hF hI hF' hto
  obtain ⟨i0, hi, hz0, hz1, hz2⟩ := info_parts infoPoint
  have HJ := Lib.hid (And.intro hi (And.intro hz0 (And.intro hz1 hz2)))
  clear hi hz0 hz1 hz2
  go_enter Try.func35, Try.ntmps35
  go_wp2_with fail
  refine (clone_any _ _ _ F _ (by omega) (HF.out.of (by (repeat (first | exact Kept.refl _ | assumption | refine Kept.alloc ?_ _ | refine Kept.ext ?_ _ | refine Kept.drew ?_ | refine Kept.drewN ?_ _))))).mono ?_
  rintro r w1 ⟨vF, rfl, ⟨x0, rfl⟩, ho⟩
  obtain ⟨B1, c2, rfl⟩ := own_slice2 ho
  have H2 := Lib.hid ho
  clear ho
  go_wp2_with fail
  go_loopw [20] (fun i wr => ∃ k : Nat, k ≤ n ∧ i = .int .i64 k ∧ ∃ v, Msh2 (w.alloc (.cells #[.slice A n cap, .slice B m cap2] 25)) (w.heap.size + 1) (adv (w.heap.size + 1 + 1) x0.obs.size) v k P' (.slice B1 m c2) m F wr) (fun i _ => n - (intOf i).toNat)
  case atStart =>
    refine ⟨0, by omega, rfl, .slice none 0 0, by (repeat (first | exact Kept.refl _ | assumption | refine Kept.alloc ?_ _ | refine Kept.ext ?_ _ | refine Kept.drew ?_ | refine Kept.drewN ?_ _)), ?_, ?_, World.ownsRow_nil _ _ _ _, own_mono (owns_kept H2.out (by (repeat (first | exact Kept.refl _ | assumption | refine Kept.alloc ?_ _ | refine Kept.ext ?_ _ | refine Kept.drew ?_ | refine Kept.drewN ?_ _)))) ?_⟩
    · exact fr_kept (alloc_now (w.alloc (.cells #[.slice A n cap, .slice B m cap2] 25)) _ _) (by (repeat (first | exact Kept.refl _ | assumption | refine Kept.alloc ?_ _ | refine Kept.ext ?_ _ | refine Kept.drew ?_ | refine Kept.drewN ?_ _)))
    · exact alloc_at2 _ _ _
    · simp
  case round =>
    obtain ⟨k, hk, rfl, v, hM⟩ := hrel
    obtain ⟨A2, cp2, rfl, hcp⟩ := own_sl hM.p
    by_cases hlt : k < n
    · obtain ⟨b, off, rfl, hb, f0, f1, f2⟩ := rows3 ((HP.out.of (by (repeat (first | exact Kept.refl _ | assumption | refine Kept.alloc ?_ _ | refine Kept.ext ?_ _ | refine Kept.drew ?_ | refine Kept.drewN ?_ _)) : Kept w (w.alloc (.cells #[.slice A n cap, .slice B m cap2] 25)))).of hM.kept) hlt
      have LB : Lower b wr.heap.size := ⟨hb⟩
      obtain ⟨m0, m1, z0, z1⟩ := cells2 hM.q
      have LM : Lower (adv (w.heap.size + 1 + 1) x0.obs.size) wr.heap.size := ⟨cell_lt m0⟩
      have HM := Lib.hid hM
      clear hM hb
      go_wp2_with fail
      refine wp_region_tellC (C := fun W' => Kept (w.alloc (.cells #[.slice (some ⟨b, off, none⟩) n cap, .slice B m cap2] 25)) W' ∧ W'.heap[wr.heap.size]? = some (.cells #[.int .i64 (P k 0), .int .i64 (P k 1), .int .i64 (P k 2)] 27 (0, 0))) [.q, .k (.slice A2 k cp2), .q, .q, .q, .s, .s, .q, .k undef] (AppI 1 5 6 8 (w.alloc (.cells #[.slice (some ⟨b, off, none⟩) n cap, .slice B m cap2] 25)) (w.heap.size + 1) (adv (w.heap.size + 1 + 1) x0.obs.size) wr.heap.size #[.int .i64 (P k 0), .int .i64 (P k 1), .int .i64 (P k 2)] (.slice A2 k cp2) k P' (.slice B1 m c2) m F) (by kernel_rfl) (by kernel_rfl) (fun b => by kernel_rfl) ?_ ?_ ?_ ?_
      · exact fun bb => AppI.start HM.out (by (repeat (first | exact Kept.refl _ | assumption | refine Kept.alloc ?_ _ | refine Kept.ext ?_ _ | refine Kept.drew ?_ | refine Kept.drewN ?_ _))) (alloc_at2 _ _ _) (Nat.le_refl _)
      · intro i L b w' w'' hs hI hk
        exact (hI.on hk).other (by rintro rfl; cases hs) (by rintro rfl; cases hs) (by rintro rfl; cases hs) (by rintro rfl; cases hs)
      · exact fun L b w' h => ⟨h.kept, h.pk⟩
      apply Exists.intro
      refine ⟨?_, ?_, ?_, ?_⟩
      · rintro bb W ⟨hk, e1⟩
        obtain ⟨l0, l1, l2⟩ := cells3 e1
        have LL : Lower wr.heap.size W.heap.size := ⟨cell_lt l0⟩
        have hkw : Kept w W := (by (repeat (first | exact Kept.refl _ | assumption | refine Kept.alloc ?_ _ | refine Kept.ext ?_ _ | refine Kept.drew ?_ | refine Kept.drewN ?_ _)) : Kept w (w.alloc (.cells #[.slice (some ⟨b, off, none⟩) n cap, .slice B m cap2] 25))).trans hk
        simp only [swapL, Nat.reduceAdd]
        repeat (go_big_quiet_step (exact Calls.kept_of (HT.out _ k hlt (hkw.ext _))))
        refine wpQuiet_nil ?_
        rfl
      · simp only [EachS, and_true]
        refine ⟨?_, ?_, ?_, ?_⟩
        · intro L b w' hd hL hI
          have h0 := hI.v0 hL
          have LQ : Lower (adv (w.heap.size + 1 + 1) x0.obs.size) w'.heap.size := ⟨cell_lt h0⟩
          go_simp
          exact ⟨rfl, hI.op1 (by omega) hL⟩
        · intro L b w' hd hL hI
          go_simp
          exact ⟨rfl, hI.op5 (by omega)⟩
        · intro L b w' hd hL hI
          have d5 : L 5 = true := hd { on := 5, ground := .data } (by simp) rfl
          obtain ⟨g5, e5, e6⟩ := hI.n5 d5
          have hs := hI.s hL
          refine tells_append (.tmp 25) (.tmp 29) 22 (by rfl) _ 27 i0 _ 3 24 Try.underlying22 HJ.out.1 HJ.out.2.1 HJ.out.2.2.1 HJ.out.2.2.2 (by rfl) (by omega) (kept_le hI.kept) _ k (rowC 3 P' k) (by rfl) hs (some ⟨g5, 0, none⟩) 1 1 _ e5 (one_rows (e6 hL) ⟨HI.out k hlt 0 (by omega), HI.out k hlt 1 (by omega), HI.out k hlt 2 (by omega)⟩) (by unfold maxLen; omega) (by omega) ?_
          intro v' w'' k1 k2 k3
          rw [rowC_one3, ← rowC_succ3] at k1
          exact ⟨rfl, hI.op6 (by omega) hL k1 k2⟩
        · intro L b w' hd hL hI
          have d1 : L 1 = true := hd { on := 1, ground := .phase } (by simp) rfl
          have d6 : L 6 = true := hd { on := 6, ground := .phase } (by simp) rfl
          have h8 := hI.op8 (u := undef) (by omega) d1 d6 hL (by simp [adv]; omega) (by simp [adv]; omega)
          obtain ⟨q0, -, q1, -⟩ := cells2 hI.q
          obtain ⟨A6, c6, e6⟩ := own_slice2 (hI.t d6)
          rw [e6] at h8
          have LQ : Lower (adv (w.heap.size + 1 + 1) x0.obs.size) w'.heap.size := ⟨cell_lt q0⟩
          go_simp
          exact ⟨rfl, h8⟩
      · intro b b' d hd
        simp [callSlots, dullOp] at hd
        subst hd
        rfl
      · intro L b w' hL hI
        have hM := hI.done (hL 6 (by decide)) (hL 8 (by decide))
        have HM2 := Lib.hid hM
        clear hM hL hI
        go_wp2_with fail
        go_roundw
        case rel => exact ⟨k + 1, by omega, by go_num, _, HM2.out⟩
        case measure => simp [intOf]; omega
    · obtain rfl : k = n := by omega
      have hM := hM.congr (fun _ _ _ _ => rfl) (mix_none (P' := F'))
      have kb : wr.cell? ⟨w.heap.size, 1, none⟩ = some (.slice B m cap2) := kept_cell (w := (w.alloc (.cells #[.slice A k cap, .slice B m cap2] 25))) (by go_simp) hM.kept
      have LB : Lower w.heap.size wr.heap.size := ⟨cell_lt kb⟩
      have HM := Lib.hid hM
      clear hM hlt
      go_wp2_with fail
      clear kb LB
      go_loopw [36] (fun i wr => ∃ q : Nat, q ≤ m ∧ i = .int .i64 q ∧ Msh2 (w.alloc (.cells #[.slice A k cap, .slice B m cap2] 25)) (w.heap.size + 1) (adv (w.heap.size + 1 + 1) x0.obs.size) (.slice A2 k cp2) k P' (.slice B1 m c2) m (mixF q F' F) wr) (fun i _ => m - (intOf i).toNat)
      case atStart => exact ⟨0, by omega, rfl, HM.out.on (by (repeat (first | exact Kept.refl _ | assumption | refine Kept.alloc ?_ _ | refine Kept.ext ?_ _ | refine Kept.drew ?_ | refine Kept.drewN ?_ _)))⟩
      have HK := Lib.hid HM.out.kept
      clear HM
      case round =>
        obtain ⟨q, hq, rfl, hM⟩ := hrel
        by_cases hlt : q < m
        · obtain ⟨b, off, rfl, hb, f0, f1, f2⟩ := rows3 ((HF.out.of (by (repeat (first | exact Kept.refl _ | assumption | refine Kept.alloc ?_ _ | refine Kept.ext ?_ _ | refine Kept.drew ?_ | refine Kept.drewN ?_ _)) : Kept w (w.alloc (.cells #[.slice A k cap, .slice B m cap2] 25)))).of hM.kept) hlt
          have LB : Lower b wr.heap.size := ⟨hb⟩
          have HM := Lib.hid hM
          clear hM hb
          cases turned
          case false =>
            have hF2 : ∀ i, i < m → ∀ j, j < 3 → F' i j = F i j := fun i hi j hj => by rw [HF'.out i hi j hj]; rfl
            have HF2 := Lib.hid hF2
            clear hF2
            go_wp2_with fail
            go_roundw
            case rel => exact ⟨q + 1, by omega, by go_num, (HM.out.on (by (repeat (first | exact Kept.refl _ | assumption | refine Kept.alloc ?_ _ | refine Kept.ext ?_ _ | refine Kept.drew ?_ | refine Kept.drewN ?_ _)))).congr (fun _ _ _ _ => rfl) (mix_same HF2.out)⟩
            case measure => simp [intOf]; omega
          case true =>
            have hF2 : ∀ i, i < m → ∀ j, j < 3 → F' i j = mirF F i j := fun i hi j hj => by rw [HF'.out i hi j hj]; rfl
            have HF2 := Lib.hid hF2
            clear hF2
            obtain ⟨g, rfl, hg1, hg2⟩ := own_head HM.out.f (by omega)
            obtain ⟨m0, m1, -, -⟩ := cells2 HM.out.q
            have LM : Lower (adv (w.heap.size + 1 + 1) x0.obs.size) wr.heap.size := ⟨cell_lt m0⟩
            have LG : Lower g wr.heap.size := ⟨hg2⟩
            clear hg1 hg2
            go_wp2_with (refine wpList_store_mid rfl 55 (.tmp 52) (.tmp 51) rfl g (q * 3) #[.int .i64 (F q 0), .int .i64 (F q 2), .int .i64 (F q 1)] (by rfl) (by rfl) (own_there (owns_kept HM.out.f (by (repeat (first | exact Kept.refl _ | assumption | refine Kept.alloc ?_ _ | refine Kept.ext ?_ _ | refine Kept.drew ?_ | refine Kept.drewN ?_ _)))) hlt) (by kernel_rfl) (by simp [Value.oneCell']) ?_)
            go_roundw
            case rel => exact ⟨q + 1, by omega, by go_num, ((HM.out.on (by (repeat (first | exact Kept.refl _ | assumption | refine Kept.alloc ?_ _ | refine Kept.ext ?_ _ | refine Kept.drew ?_ | refine Kept.drewN ?_ _)))).putF hlt _ _ _).congr (fun _ _ _ _ => rfl) (mix_put (HF2.out q hlt 0 (by omega)).symm (HF2.out q hlt 1 (by omega)).symm (HF2.out q hlt 2 (by omega)).symm)⟩
            case measure => simp [intOf]; omega
        · obtain rfl : q = m := by omega
          have hM := hM.congr (fun _ _ _ _ => rfl) mix_all
          obtain ⟨m0, m1, -, -⟩ := cells2 hM.q
          have LM : Lower (adv (w.heap.size + 1 + 1) x0.obs.size) wr.heap.size := ⟨cell_lt m0⟩
          have HM := Lib.hid hM
          clear hM hlt
          go_wp2_with fail
          have hI2 : ∀ i, i < q → ∀ j, j < 3 → I64 (F' i j) := fun i hi j hj => by
            rw [HF'.out i hi j hj]
            split
            · exact mirF_I HFI.out i hi j hj
            · exact HFI.out i hi j hj
          refine (sresultK_any _ _ _ _ _ _ P' F' _ (by omega) (rows_of_owns HM.out.p HI.out) (rows_of_owns HM.out.f hI2)).mono ?_
          rintro r w1 ⟨rfl, x9, rfl⟩
          have HR := Lib.hid (fr_kept HM.out.r (by (repeat (first | exact Kept.refl _ | assumption | refine Kept.alloc ?_ _ | refine Kept.ext ?_ _ | refine Kept.drew ?_ | refine Kept.drewN ?_ _)) : Kept wr (ext wr x9)))
          rw [HE.out]
          clear hI2
          obtain ⟨q1, q2, -, -⟩ := cells2 (setRow_heap _ _ _ #[.slice (okA e A2) (okN e k) (okN e cp2), .slice (okA e B1) (okN e q) (okN e c2)] _ _ HR.out)
          go_wp2_with (refine wpList_store_row rfl 25 (.tmp 6) (.tmp 56) rfl (w.heap.size + 1) _ rfl rfl _ _ HR.out (by kernel_rfl) rfl (by simp [Value.oneCell']) ?_)
          refine bodyPost_ret (by simp only [results, Try.results35]; go_simp; rfl) rfl ?_
          exact HM.out.fin (by (repeat (first | exact Kept.refl _ | assumption | refine Kept.alloc ?_ _ | refine Kept.ext ?_ _ | refine Kept.drew ?_ | refine Kept.drewN ?_ _))) e (by (repeat (first | exact Kept.refl _ | assumption | refine Kept.alloc ?_ _ | refine Kept.ext ?_ _ | refine Kept.drew ?_ | refine Kept.drewN ?_ _))) (by simp)
end Go.Proofs.Ytbhcjdgfcinpcaa
