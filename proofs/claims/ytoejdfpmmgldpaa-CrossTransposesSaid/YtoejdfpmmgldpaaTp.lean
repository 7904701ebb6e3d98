/- Contract: the transposed matrix in new memory, of the program. Conditions: the number of rows is an int. -/
import Derived.Test.YtoejdfpmmgldpaaTr
namespace Go.Proofs.Ytoejdfpmmgldpaa
set_option linter.unusedVariables false
set_option linter.unusedSimpArgs false
open Go.RowKit Go.Deep
set_option maxRecDepth 100000 in
set_option maxHeartbeats 4000000 in
theorem cTrno_any (A : Option Addr) (n cap : Nat) (B : Nat → Option Addr) (m cp : Nat → Nat) (f : Nat → Nat → Int) (w : World) (hn : n ≤ 9223372036854775807) (h : MatAt w A n B m cp f) (hv : valE n m f ≠ 0) :
    Calls Try.prog 26 #[.slice A n cap] w fun e w' => e = .returned (.tuple #[.slice none 0 0, .int .i64 (valE n m f)]) ∧ Kept w w' := by
  have HM := Lib.hid h
  clear h
  obtain ⟨e, he⟩ : ∃ e, valE n m f = e := ⟨_, rfl⟩
  rw [he] at hv ⊢
  have HV := Lib.hid he
  clear he
  have hv2 : (e == 0) = false := by simpa using hv
  have hv3 : decide (e = 0) = false := by simpa using hv
  go_enter Try.func26, Try.ntmps26
  go_wp2_with (go_at_call 22; refine (cval_any _ _ _ _ _ _ _ _ hn HM.out).mono ?_; rintro e w1 ⟨rfl, rfl⟩; rw [HV.out])
  refine bodyPost_ret (by simp only [results, Try.results26]; go_simp; rfl) rfl ?_
  exact ⟨rfl, by (repeat (first | exact Kept.refl _ | assumption | refine Kept.alloc ?_ _ | refine Kept.ext ?_ _ | refine Kept.drew ?_ | refine Kept.drewN ?_ _))⟩
set_option maxRecDepth 100000 in
set_option maxHeartbeats 16000000 in
theorem cTrok_any (A : Option Addr) (n cap : Nat) (B : Nat → Option Addr) (m cp : Nat → Nat) (f : Nat → Nat → Int) (w : World) (hn : n ≤ 9223372036854775807) (h : MatAt w A n B m cp f) (hv : valE n m f = 0) :
    Calls Try.prog 26 #[.slice A n cap] w fun e w' => ∃ g V, e = .returned (.tuple #[.slice (some ⟨g, 0, none⟩) (m 0) (m 0), .int .i64 0]) ∧ OwnM w w.heap.size g (m 0) V (fun _ => n) (fun i j => f j i) w' := by
  have HM := Lib.hid h
  clear h
  obtain ⟨⟨n1, n6⟩, ⟨m1, m6⟩, hmm, hff⟩ := valE_0 hv
  have HV := Lib.hid hv
  have HMM := Lib.hid hmm
  clear hv hmm hff
  obtain ⟨ab, ao, rfl, hab, c00⟩ := HM.out.at (k := 0) (by omega)
  have LA0 : Lower ab w.heap.size := ⟨hab⟩
  rw [Nat.add_zero] at c00
  obtain ⟨ti, hti, hte⟩ := Option.map_eq_some_iff.1 info_I
  simp only [Prod.mk.injEq] at hte
  have HT := Lib.hid hti
  have HTE := Lib.hid hte
  clear hti hte
  have hm1 := mk_S (m 0) m6
  go_enter Try.func26, Try.ntmps26
  go_wp2_with (go_at_call 22; refine (cval_any _ _ _ _ _ _ _ _ hn HM.out).mono ?_; rintro e w1 ⟨rfl, rfl⟩; rw [HV.out])
  obtain ⟨g, hg⟩ : ∃ g, w.heap.size = g := ⟨_, rfl⟩
  have h0 := OwnM.made w m6 (fun i j => f j i)
  rw [hg] at h0 ⊢
  have H0 := Lib.hid h0
  have HG := Lib.hid hg
  clear h0 hm1
  go_loopw [20] (fun i wr => ∃ k : Nat, k ≤ m 0 ∧ i = .int .i64 k ∧ ∃ V, OwnM w g g (m 0) V (fun j => if j < k then n else 0) (fun i j => f j i) wr) (fun i _ => m 0 - (intOf i).toNat)
  case atStart => exact ⟨0, by omega, rfl, _, H0.out.congr (fun _ _ => rfl) (fun i hi => by rw [if_neg (by omega)]) (fun _ _ _ _ => rfl)⟩
  case round =>
    obtain ⟨k, hk, rfl, V0, hM⟩ := hrel
    by_cases hlt : k < m 0
    · have HM2 := Lib.hid hM
      clear hM
      go_wp2
      go_loopw [25] (fun i w2 => ∃ q : Nat, q ≤ n ∧ i = .int .i64 q ∧ ∃ V, OwnM w g g (m 0) V (fun j => if j = k then q else if j < k then n else 0) (fun i j => f j i) w2) (fun i _ => n - (intOf i).toNat)
      case atStart => exact ⟨0, by omega, rfl, V0, HM2.out.congr (fun _ _ => rfl) (fun i hi => by by_cases e : i = k <;> simp [e]) (fun _ _ _ _ => rfl)⟩
      case round =>
        obtain ⟨q, hq, rfl, V, hM3⟩ := hrel
        by_cases hlq : q < n
        · obtain ⟨v0, v1, v2, v3⟩ := hM3.cellV hlt
          obtain ⟨ab', ao', e, hab', c1⟩ := (HM.out.of hM3.on).at hlq
          cases e
          have hmq := HMM.out q hlq
          obtain ⟨bb, bo, hB, hbb, c2, i2⟩ := rows1 (k := k) ((HM.out.of hM3.on).el q hlq) (by omega)
          rw [hB] at c1
          have hcap := HM.out.cap q hlq
          have LG : Lower g wr.heap.size := ⟨v3⟩
          have LA : Lower ab wr.heap.size := ⟨hab'⟩
          have LB : Lower bb wr.heap.size := ⟨hbb⟩
          have hrj := hM3.r k hlt
          rw [if_pos rfl] at hrj
          obtain ⟨Ak, ck, hVk⟩ := own_slice2 hrj
          have HM3 := Lib.hid hM3
          have HRJ := Lib.hid hrj
          have HI2 := Lib.hid i2
          have HVK := Lib.hid hVk
          have x1 : k < m q := by omega
          have hgw : g ≤ wr.heap.size := by omega
          clear hM3 hrj i2 v2 hmq
          rw [hVk] at v0
          go_wp2
          refine wp_region_tellC (C := fun W' => Kept w W') [.q, .q, .q, .q, .q, .k (V k), .q, .q, .q, .q, .q, .q, .q, .s, .s, .q, .k undef] (fun S b w' => TrI w g g (m 0) V (fun j => if j = k then q else if j < k then n else 0) (fun i j => f j i) k (f q k) S b w') (by kernel_rfl) (by kernel_rfl) (fun b => by kernel_rfl) ?_ ?_ ?_ ?_
          · exact fun b => TrI.start (HM3.out.next (by (repeat (first | exact Kept.refl _ | assumption | refine Kept.alloc ?_ _ | refine Kept.ext ?_ _ | refine Kept.drew ?_ | refine Kept.drewN ?_ _))))
          · intro i L b w' w'' hs hI hk
            exact (hI.on hk).other (by rintro rfl; cases hs) (by rintro rfl; cases hs) (by rintro rfl; cases hs) (by rintro rfl; cases hs)
          · exact fun _ _ _ h => h.kept
          apply Exists.intro
          refine ⟨?_, ?_, ?_, ?_⟩
          · rintro bv W hkw
            obtain ⟨ab2, ao2, e, hab2, d1⟩ := (HM.out.of hkw).at hlq
            cases e
            obtain ⟨bb2, bo2, hB2, hbb2, d2, -⟩ := rows1 (k := k) ((HM.out.of hkw).el q hlq) (by omega)
            rw [hB] at hB2
            cases hB2
            rw [hB] at d1
            have LA2 : Lower ab W.heap.size := ⟨hab2⟩
            have LB2 : Lower bb W.heap.size := ⟨hbb2⟩
            simp only [swapL, Nat.reduceAdd]
            repeat (go_big_quiet_step (fail))
            refine wpQuiet_nil ?_
            rfl
          · simp only [EachS, and_true]
            refine ⟨?_, ?_, ?_, ?_⟩
            · intro S b w' hd hL hI
              obtain ⟨-, e16⟩ := hI.not14 (.inl hL)
              obtain ⟨p0, p1, p2⟩ := hI.cell hlt e16
              have LG2 : Lower g w'.heap.size := ⟨p2⟩
              have h5 := hI.op5 (u := V k)
              rw [hVk] at p0 h5
              go_simp
              exact ⟨rfl, h5⟩
            · intro S b w' hd hL hI
              have h13 := hI.op13 hL (by have := kept_le hI.kept; rw [HG.out] at this; exact this)
              go_simp
              exact ⟨rfl, h13⟩
            · intro S b w' hd hL hI
              have d5 : S 5 = true := hd { on := 5, ground := .data } (by simp) rfl
              have d13 : S 13 = true := hd { on := 13, ground := .data } (by simp) rfl
              have hO := hI.pre hL
              have o13 := hI.new d13 hL
              have hrk := hO.r k hlt
              rw [if_pos rfl, hVk] at hrk
              obtain ⟨A13, cp13, e13, -, r13⟩ := own_read (g := fun _ _ => f q k) (n := 1) o13 (fun _ _ => HI2.out)
              refine tells_append (.tmp 33) (.tmp 41) 23 rfl _ 3 ti _ 1 8 Try.underlying23 HT.out HTE.out.1 HTE.out.2.1 HTE.out.2.2 rfl (by omega) (by have := kept_le hI.kept; rw [HG.out] at this; exact this) (.slice Ak q ck) q _ hVk hrk A13 1 cp13 _ e13 r13 (by unfold maxLen; omega) (by omega) ?_
              intro v' w'' k1 k2 k3
              refine ⟨rfl, hI.op14 hlt (by rw [HG.out]; exact Nat.le_refl _) ⟨d5, d13⟩ hL ?_ (by rw [hVk]; exact k2) (by rw [hVk]; exact k3)⟩
              rw [if_pos rfl]
              have e2 : rowC 1 (fun q' _ => f q' k) q ++ rowC 1 (fun _ _ => f q k) 1 = rowC 1 (fun q' _ => if q' < q then f q' k else f q k) (q + 1) := by
                rw [rowC_join]
              rw [e2] at k1
              exact k1
            · intro S b w' hd hL hI
              have d14 : S 14 = true := hd { on := 14, ground := .phase } (by simp) rfl
              have h8 := hI.op16 (u := undef) hlt (by rw [HG.out]; exact Nat.le_refl _) d14 hL
              obtain ⟨p0, p1, p2⟩ := hI.cell hlt hL
              have LG2 : Lower g w'.heap.size := ⟨p2⟩
              obtain ⟨A14, c14, e14⟩ := own_slice2 (hI.mid d14 hL).2.2.1
              rw [if_pos rfl] at e14
              rw [e14] at h8
              go_simp
              exact ⟨rfl, h8⟩
          · intro b1 b2 d hd
            simp [callSlots, dullOp] at hd
          · intro S b w' hS hI
            have hF := hI.fin (hS 16 (by decide))
            have HF := Lib.hid hF
            clear hF hI hS
            go_wp2
            go_roundw
            case rel =>
              refine ⟨q + 1, by omega, by go_num, _, HF.out.congr (fun _ _ => rfl) (fun i hi => ?_) (fun i hi j hj => ?_)⟩
              · by_cases e : i = k
                · rw [if_pos e, if_pos rfl, if_pos e]
                · rw [if_neg e, if_neg e, if_neg e]
              · by_cases e : i = k
                · subst e
                  rw [if_pos rfl, if_pos rfl] at *
                  show (if j < q then f j i else f q i) = f j i
                  by_cases e2 : j < q
                  · rw [if_pos e2]
                  · rw [if_neg e2, show j = q by omega]
                · rw [if_neg e]
            case measure => simp [intOf]; omega
        · obtain rfl : q = n := by omega
          have HM3 := Lib.hid hM3
          clear hM3
          go_wp2
          go_roundw
          case rel =>
            refine ⟨k + 1, by omega, by go_num, V, HM3.out.congr (fun _ _ => rfl) (fun i hi => ?_) (fun _ _ _ _ => rfl)⟩
            by_cases e : i = k
            · rw [if_pos e, if_pos (by omega)]
            · rw [if_neg e]
              by_cases e2 : i < k
              · rw [if_pos e2, if_pos (by omega)]
              · rw [if_neg e2, if_neg (by omega)]
          case measure => simp [intOf]; omega
    · obtain rfl : k = m 0 := by omega
      have HM2 := Lib.hid hM
      clear hM
      go_wp2
      refine bodyPost_ret (by simp only [results, Try.results26]; go_simp; rfl) rfl ?_
      rw [HG.out]
      exact ⟨g, V0, rfl, HM2.out.congr (fun _ _ => rfl) (fun i hi => if_pos hi) (fun _ _ _ _ => rfl)⟩
end Go.Proofs.Ytoejdfpmmgldpaa
