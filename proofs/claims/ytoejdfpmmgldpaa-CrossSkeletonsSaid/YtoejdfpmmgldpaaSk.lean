/- Contract: skeletons, of the program. Conditions: the lists' lengths are ints. -/
import Derived.Test.YtoejdfpmmgldpaaKp
namespace Go.Proofs.Ytoejdfpmmgldpaa
set_option linter.unusedVariables false
set_option linter.unusedSimpArgs false
open Go.RowKit Go.Deep
theorem info_SQ : ((Try.prog.info? 61).map fun i => (i.zero, i.size, i.bytes)) = some (some (.slice none 0 0), 1, 24) := by kernel_rfl
theorem mk_Q (n : Nat) (h : n ≤ 6) (w : World) : (Instr.makeSlice 70 (.int .i64 (n : Int)) (.int .i64 (n : Int))).run Try.prog w = .ok (.slice (some ⟨w.heap.size, 0, none⟩) n n) (w.alloc (.cells (madeCells #[.slice none 0 0] n) 61)) := by
  obtain ⟨i, hi, he⟩ := Option.map_eq_some_iff.1 info_SQ
  simp only [Prod.mk.injEq] at he
  have := run_make w (P := Try.prog) 70 61 i (.slice none 0 0) (by kernel_rfl) hi he.1 .i64 .i64 n n (by omega) (by omega) (by rw [he.2.2]; omega) (by omega)
  rw [he.2.1, Int.toNat_natCast, Nat.mul_one] at this
  exact this
theorem own_readQ {w : World} {base n : Nat} {v : Value} {g : Nat → Nat → Int} (h : w.ownsRow base 32 2 v n (rowC 2 g n)) (hI : ∀ k, k < n → ∀ j, j < 2 → I64 (g k j)) : ∃ A cp, v = .slice A n cp ∧ RowsAt w A n 2 g := by
  obtain ⟨A, cp, rfl⟩ := own_slice2 h
  exact ⟨A, cp, rfl, rows_of_owns h hI⟩
theorem rowC_joinQ {f : Nat → Nat → Int} {q : Nat} {x y : Int} : rowC 2 f q ++ rowC 2 (pr2 x y) 1 = rowC 2 (fun p c => if p < q then f p c else pr2 x y p c) (q + 1) := by
  have e : rowC 2 (fun p c => if p < q then f p c else pr2 x y p c) q = rowC 2 f q := rowC_congr fun p hp c _ => if_pos hp
  show _ = rowC 2 (fun p c => if p < q then f p c else pr2 x y p c) q ++ _
  rw [e]
  congr 1
  show [Value.int .i64 x, Value.int .i64 y] = [Value.int .i64 (if q < q then f q 0 else pr2 x y q 0), Value.int .i64 (if q < q then f q 1 else pr2 x y q 1)]
  rw [if_neg (by omega), if_neg (by omega)]
  rfl
theorem kpF_I {n : Nat} {m : Nat → Nat} {f : Nat → Nat → Int} {l : Nat} {R C : Nat → Nat → Int} {mn : Int} (hk : Mok n m f l R C) (hs : setB n l R = true) (hmn : mn ≠ 0 ∧ -720000000000000 ≤ mn ∧ mn ≤ 720000000000000) {i j : Nat} (hi : i < n) (hj : j < m 0) : ∀ c, I64 (kpF f l R C mn i j c) := by
  have hff := hk.hf i hi j hj
  have hlb := leftV_bd (i := (i : Int)) (j := (j : Int)) hk hs ⟨by omega, by omega⟩ ⟨by omega, by omega⟩
  have hnb := frN_bd (n := leftV f l R C i j) (b := 720000000000000) hlb hmn.1
  have hdp := frD_pos (n := leftV f l R C i j) hmn.1
  have hdl := frD_le (n := leftV f l R C i j) hmn.1 hmn.2
  have hmb := mul_abs (c := 100) (d := 720000000000000) (a := f i j) (b := frD (leftV f l R C i j) mn) hff (by omega) (by decide) (by decide)
  intro c
  unfold kpF I64
  split <;> omega
set_option maxRecDepth 100000 in
set_option maxHeartbeats 16000000 in
theorem cSkelok_any (A : Option Addr) (n cap : Nat) (B : Nat → Option Addr) (m cp : Nat → Nat) (f : Nat → Nat → Int) (RA : Option Addr) (l rc : Nat) (R : Nat → Nat → Int) (CA : Option Addr) (cc : Nat) (C : Nat → Nat → Int) (w : World)
    (hn : n ≤ 9223372036854775807) (hl : l ≤ 9223372036854775807) (h : MatAt w A n B m cp f) (hR : RowsAt w RA l 1 R) (hC : RowsAt w CA l 1 C) (hE : opnE n m f l R l C = 0) :
    Calls Try.prog 50 #[.slice A n cap, .slice RA l rc, .slice CA l cc] w fun e w' => ∃ g V W0, e = .returned (.tuple #[.slice (some ⟨g, 0, none⟩) n n, .int .i64 0]) ∧ Kept w W0 ∧ OwnQ W0 W0.heap.size g n V (fun _ => m 0) (fun i j c => kpF f l R C (D l (subF f R C)) i j c) w' := by
  have HM := Lib.hid h
  have HR := Lib.hid hR
  have HC := Lib.hid hC
  have HE := Lib.hid hE
  clear h hR hC
  obtain ⟨hch, hd⟩ := opnE_0 hE
  obtain ⟨hv, hs, -, -⟩ := choE_0 hch
  obtain ⟨-, hk⟩ := Mok.of hch
  obtain ⟨⟨n1, n6⟩, ⟨m1, m6⟩, hmm, hff⟩ := valE_0 hv
  have hdb := hk.bd
  obtain ⟨dd, hdd⟩ : ∃ x, D l (subF f R C) = x := ⟨_, rfl⟩
  rw [hdd] at hd hdb ⊢
  have HDD := Lib.hid hdd
  have HK := Lib.hid hk
  have HS := Lib.hid hs
  have HMM := Lib.hid hmm
  have hkI := fun i j (hi : i < n) (hj : j < m 0) => kpF_I (mn := dd) hk hs ⟨hd, by omega⟩ hi hj
  have HKI := Lib.hid hkI
  obtain ⟨ti, hti, hte⟩ := Option.map_eq_some_iff.1 info_R
  simp only [Prod.mk.injEq] at hte
  have HT := Lib.hid hti
  have HTE := Lib.hid hte
  have hm1 := mk_Q n n6
  clear hti hte hE hch hv hs hk hmm hff hdd hkI
  go_enter Try.func50, Try.ntmps50
  go_wp2_with (go_at_call 53; refine (copenok_any _ _ _ _ _ _ _ _ _ _ _ _ _ _ _ _ hn hl hl (HM.out.of (by (repeat (first | exact Kept.refl _ | assumption | refine Kept.alloc ?_ _ | refine Kept.ext ?_ _ | refine Kept.drew ?_ | refine Kept.drewN ?_ _)))) (HR.out.of (by (repeat (first | exact Kept.refl _ | assumption | refine Kept.alloc ?_ _ | refine Kept.ext ?_ _ | refine Kept.drew ?_ | refine Kept.drewN ?_ _)))) (HC.out.of (by (repeat (first | exact Kept.refl _ | assumption | refine Kept.alloc ?_ _ | refine Kept.ext ?_ _ | refine Kept.drew ?_ | refine Kept.drewN ?_ _)))) HE.out).mono ?_; rintro e w1 ⟨rfl, x, rfl⟩; rw [HDD.out])
  obtain ⟨W0, hW0⟩ : ∃ W0, (ext w x).alloc (.cells #[.slice A n cap, .slice RA l rc, .slice CA l cc, .int .i64 dd] 74) = W0 := ⟨_, rfl⟩
  obtain ⟨sk, hsk⟩ : ∃ sk, adv w.heap.size x.obs.size = sk := ⟨_, rfl⟩
  have hg : W0.heap.size = sk + 1 := by rw [← hW0, ← hsk]; simp
  have hk0 : Kept w W0 := by rw [← hW0]; (repeat (first | exact Kept.refl _ | assumption | refine Kept.alloc ?_ _ | refine Kept.ext ?_ _ | refine Kept.drew ?_ | refine Kept.drewN ?_ _))
  have hsk0 : W0.heap[sk]? = some (.cells #[.slice A n cap, .slice RA l rc, .slice CA l cc, .int .i64 dd] 74 (0, 0)) := by
    rw [← hW0, ← hsk]
    exact alloc_at2 (ext w x) _ _
  have h0 := OwnQ.made W0 n6 (fun i j c => kpF f l R C dd i j c)
  rw [hW0, hsk]
  rw [hg] at h0
  obtain ⟨g, hgg⟩ : ∃ g, sk + 1 = g := ⟨_, rfl⟩
  rw [hgg] at h0 hg ⊢
  have H0 := Lib.hid h0
  have HG := Lib.hid hg
  have HK0 := Lib.hid hk0
  have HSK := Lib.hid hsk0
  have HM0 := Lib.hid (HM.out.of hk0)
  clear hW0 hsk hg hk0 hsk0 h0 hgg hm1
  go_loopw [28] (fun i wr => ∃ k : Nat, k ≤ n ∧ i = .int .i64 k ∧ ∃ V, OwnQ W0 g g n V (fun j => if j < k then m 0 else 0) (fun i j c => kpF f l R C dd i j c) wr) (fun i _ => n - (intOf i).toNat)
  case atStart => exact ⟨0, by omega, rfl, _, H0.out.congr (fun _ _ => rfl) (fun i hi => by rw [if_neg (by omega)]) (fun _ _ _ _ _ _ => rfl)⟩
  case round =>
    obtain ⟨k, hk, rfl, V0, hM⟩ := hrel
    by_cases hlt : k < n
    · obtain ⟨ab, ao, rfl, hab, c1⟩ := (HM0.out.of hM.on).at hlt
      rw [HMM.out k hlt] at c1
      have LA : Lower ab wr.heap.size := ⟨hab⟩
      have HM2 := Lib.hid hM
      clear hM
      go_wp2_with fail
      go_loopw [36] (fun i w2 => ∃ q : Nat, q ≤ m 0 ∧ i = .int .i64 q ∧ ∃ V, OwnQ W0 g g n V (fun j => if j = k then q else if j < k then m 0 else 0) (fun i j c => kpF f l R C dd i j c) w2) (fun i _ => m 0 - (intOf i).toNat)
      case atStart => exact ⟨0, by omega, rfl, V0, HM2.out.congr (fun _ _ => rfl) (fun i hi => by by_cases e : i = k <;> simp [e]) (fun _ _ _ _ _ _ => rfl)⟩
      case round =>
        obtain ⟨q, hq, rfl, V, hM3⟩ := hrel
        by_cases hlq : q < m 0
        · obtain ⟨v0, v1, v2, v3⟩ := hM3.cellV hlt
          have LG : Lower g wr.heap.size := ⟨v3⟩
          have hrj := hM3.r k hlt
          rw [if_pos rfl] at hrj
          obtain ⟨Ak, ck, hVk⟩ := own_slice2 hrj
          obtain ⟨z0, z1, z2, z3, z4⟩ := cells4 (fr_kept HSK.out hM3.on)
          have LS : Lower sk wr.heap.size := ⟨z4⟩
          have hkp : ∀ w', Kept W0 w' → Calls Try.prog 87 #[.agg #[.slice (some ⟨ab, ao, none⟩) n cap, .slice RA l rc, .slice CA l cc, .int .i64 dd], .int .i64 k, .int .i64 q] w' fun e w'' => e = .returned (.agg #[.int .i64 (kpF f l R C dd k q 0), .int .i64 (kpF f l R C dd k q 1)]) ∧ Kept w' w'' := fun w' hkw =>
            ckept_any _ n cap B m cp f RA l rc R CA cc C dd k q w' HK.out HS.out ⟨hd, by omega⟩ hlt hlq (HM0.out.of hkw) (HR.out.of (HK0.out.trans hkw)) (HC.out.of (HK0.out.trans hkw))
          obtain ⟨x0, hx0⟩ : ∃ z, kpF f l R C dd k q 0 = z := ⟨_, rfl⟩
          obtain ⟨x1, hx1⟩ : ∃ z, kpF f l R C dd k q 1 = z := ⟨_, rfl⟩
          rw [hx0, hx1] at hkp
          have hI0 : I64 x0 := by rw [← hx0]; exact HKI.out k q hlt hlq 0
          have hI1 : I64 x1 := by rw [← hx1]; exact HKI.out k q hlt hlq 1
          have HXX := Lib.hid (And.intro hx0 hx1)
          have HII := Lib.hid (And.intro hI0 hI1)
          have HKP := Lib.hid hkp
          have HM3 := Lib.hid hM3
          have HVK := Lib.hid hVk
          have hgw : g ≤ wr.heap.size := by omega
          clear hM3 hrj v2 hkp hx0 hx1 hI0 hI1
          rw [hVk] at v0
          go_wp2_with fail
          refine wp_region_tellC (C := fun W' => Kept W0 W') [.q, .q, .q, .q, .q, .k (V k), .q, .q, .q, .q, .s, .s, .q, .k undef] (fun S b w' => TqI W0 g g n V (fun j => if j = k then q else if j < k then m 0 else 0) (fun i j c => kpF f l R C dd i j c) k x0 x1 S b w') (by kernel_rfl) (by kernel_rfl) (fun b => by kernel_rfl) ?_ ?_ ?_ ?_
          · exact fun b => TqI.start (HM3.out.next (by (repeat (first | exact Kept.refl _ | assumption | refine Kept.alloc ?_ _ | refine Kept.ext ?_ _ | refine Kept.drew ?_ | refine Kept.drewN ?_ _))))
          · intro i L b w' w'' hs hI hk
            exact (hI.on hk).other (by rintro rfl; cases hs) (by rintro rfl; cases hs) (by rintro rfl; cases hs) (by rintro rfl; cases hs)
          · exact fun _ _ _ h => h.kept
          apply Exists.intro
          refine ⟨?_, ?_, ?_, ?_⟩
          · rintro bv W hkw
            obtain ⟨y0, y1, y2, y3, y4⟩ := cells4 (fr_kept HSK.out hkw)
            have LS2 : Lower sk W.heap.size := ⟨y4⟩
            simp only [swapL, Nat.reduceAdd]
            repeat (go_big_quiet_step (first | (go_at_call 87; exact Calls.kept_of (HKP.out _ (hkw.trans (by (repeat (first | exact Kept.refl _ | assumption | refine Kept.alloc ?_ _ | refine Kept.ext ?_ _ | refine Kept.drew ?_ | refine Kept.drewN ?_ _))))))))
            refine wpQuiet_nil ?_
            rfl
          · simp only [EachS, and_true]
            refine ⟨?_, ?_, ?_, ?_⟩
            · intro S b w' hd hL hI
              obtain ⟨-, e16⟩ := hI.not11 (.inl hL)
              obtain ⟨p0, p1, p2⟩ := hI.cell hlt e16
              have LG2 : Lower g w'.heap.size := ⟨p2⟩
              have h5 := hI.op5 (u := V k)
              rw [hVk] at p0 h5
              go_simp
              exact ⟨rfl, h5⟩
            · intro S b w' hd hL hI
              have h13 := hI.op10 hL (by have := kept_le hI.kept; rw [HG.out] at this; exact this)
              go_simp
              exact ⟨rfl, h13⟩
            · intro S b w' hd hL hI
              have d5 : S 5 = true := hd { on := 5, ground := .data } (by simp) rfl
              have d10 : S 10 = true := hd { on := 10, ground := .data } (by simp) rfl
              have hO := hI.pre hL
              have o13 := hI.new d10 hL
              have hrk := hO.r k hlt
              rw [if_pos rfl, hVk] at hrk
              obtain ⟨A13, cp13, e13, r13⟩ := own_readQ (g := pr2 x0 x1) (n := 1) o13 (fun _ _ j hj => by unfold pr2; split; exact HII.out.1; exact HII.out.2)
              refine tells_append (.tmp 44) (.tmp 49) 61 rfl _ 32 ti _ 2 16 Try.underlying61 HT.out HTE.out.1 HTE.out.2.1 HTE.out.2.2 rfl (by omega) (by have := kept_le hI.kept; rw [HG.out] at this; exact this) (.slice Ak q ck) q _ hVk hrk A13 1 cp13 _ e13 r13 (by unfold maxLen; omega) (by omega) ?_
              intro v' w'' k1 k2 k3
              refine ⟨rfl, hI.op11 hlt (by rw [HG.out]; exact Nat.le_refl _) ⟨d5, d10⟩ hL ?_ (by rw [hVk]; exact k2) (by rw [hVk]; exact k3)⟩
              rw [if_pos rfl]
              rw [rowC_joinQ] at k1
              exact k1
            · intro S b w' hd hL hI
              have d11 : S 11 = true := hd { on := 11, ground := .phase } (by simp) rfl
              have h8 := hI.op13 (u := undef) hlt (by rw [HG.out]; exact Nat.le_refl _) d11 hL
              obtain ⟨p0, p1, p2⟩ := hI.cell hlt hL
              have LG2 : Lower g w'.heap.size := ⟨p2⟩
              obtain ⟨A14, c14, e14⟩ := own_slice2 (hI.mid d11 hL).2.2.1
              rw [if_pos rfl] at e14
              rw [e14] at h8
              go_simp
              exact ⟨rfl, h8⟩
          · intro b1 b2 d hd
            simp [callSlots, dullOp] at hd
            try (rcases hd with rfl | rfl <;> rfl)
            try (subst hd; rfl)
          · intro S b w' hS hI
            have hF := hI.fin (hS 13 (by decide))
            have HF := Lib.hid hF
            clear hF hI hS
            go_wp2_with fail
            go_roundw
            case rel =>
              refine ⟨q + 1, by omega, by go_num, _, HF.out.congr (fun _ _ => rfl) (fun i hi => ?_) (fun i hi j hj c hc => ?_)⟩
              · by_cases e : i = k
                · rw [if_pos e, if_pos rfl, if_pos e]
                · rw [if_neg e, if_neg e, if_neg e]
              · by_cases e : i = k
                · subst e
                  rw [if_pos rfl, if_pos rfl] at *
                  show (if j < q then kpF f l R C dd i j c else pr2 x0 x1 j c) = kpF f l R C dd i j c
                  by_cases e2 : j < q
                  · rw [if_pos e2]
                  · rw [if_neg e2, show j = q by omega]
                    unfold pr2
                    rcases (show c = 0 ∨ c = 1 by omega) with rfl | rfl
                    · rw [if_pos rfl, HXX.out.1]
                    · rw [if_neg (by decide), HXX.out.2]
                · rw [if_neg e]
            case measure => simp [intOf]; omega
        · obtain rfl : q = m 0 := by omega
          have HM3 := Lib.hid hM3
          clear hM3
          go_wp2_with fail
          go_roundw
          case rel =>
            refine ⟨k + 1, by omega, by go_num, V, HM3.out.congr (fun _ _ => rfl) (fun i hi => ?_) (fun _ _ _ _ _ _ => rfl)⟩
            by_cases e : i = k
            · rw [if_pos e, if_pos (by omega)]
            · rw [if_neg e]
              by_cases e2 : i < k
              · rw [if_pos e2, if_pos (by omega)]
              · rw [if_neg e2, if_neg (by omega)]
          case measure => simp [intOf]; omega
    · obtain rfl : k = n := by omega
      have HM2 := Lib.hid hM
      clear hM
      go_wp2_with fail
      refine bodyPost_ret (by simp only [results, Try.results50]; go_simp; rfl) rfl ?_
      refine ⟨g, V0, W0, rfl, HK0.out, ?_⟩
      rw [HG.out]
      exact HM2.out.congr (fun _ _ => rfl) (fun i hi => if_pos hi) (fun _ _ _ _ _ _ => rfl)
end Go.Proofs.Ytoejdfpmmgldpaa
