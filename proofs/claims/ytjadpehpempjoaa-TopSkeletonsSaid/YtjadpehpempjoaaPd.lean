/- Contract: the determinant of a square matrix by eliminations, of the program. Conditions: at most six rows, elements to 100. -/
import Derived.Test.YtjadpehpempjoaaCpy
import Derived.Test.YtjadpehpempjoaaSwp
namespace Go.Proofs.Ytjadpehpempjoaa
set_option linter.unusedVariables false
set_option linter.unusedSimpArgs false
open Go.RowKit Go.Deep
/-- The state of the elimination ahead of row k. -/
structure DetS (W : World) (base g n : Nat) (f : Nat → Nat → Int) (k : Nat) (X Y : Nat → Nat → Int) (V : Nat → Value) (s : Int) (wr : World) : Prop where
  own : OwnM W base g n V (fun _ => n) Y wr
  v : ∀ i, i < n → ∃ b, V i = .slice (some ⟨b, 0, none⟩) n n
  sg : s = 1 ∨ s = -1
  d : D n f = s * D n X
  b : Sml n X
  nz : ∀ q, q ≤ k → D q X ≠ 0
  y : ∀ i, k ≤ i → i < n → ∀ j, k ≤ j → j < n → Y i j = Bk k X (i - k) (j - k)
theorem D0_ne (f : Nat → Nat → Int) : ∀ q, q ≤ 0 → D q f ≠ 0 := by
  intro q hq
  obtain rfl : q = 0 := by omega
  show (1 : Int) ≠ 0
  decide
/-- Two rows exchanged: the state ahead of row k is another one. -/
theorem DetS.swap {W : World} {base g n k p : Nat} {f X Y : Nat → Nat → Int} {V V' : Nat → Value} {s : Int} {wr w' : World} (h : DetS W base g n f k X Y V s wr) (hk : k < n) (hp : p < n) (hkp : k < p)
    (ho : OwnM W base g n V' (fun _ => n) (fun a => if a = p then Y k else if a = k then Y p else Y a) w') (hV : V' = swV V p k true true) :
    DetS W base g n f k (swR X k p) (fun a => if a = p then Y k else if a = k then Y p else Y a) V' (-s) w' := by
  obtain ⟨q, rfl⟩ : ∃ q, p = k + q := ⟨p - k, by omega⟩
  refine ⟨ho, fun i hi => ?_, ?_, ?_, ?_, fun j hj => ?_, fun i hi hin j hj hjn => ?_⟩
  · rw [hV]
    unfold swV
    split
    · exact h.v k hk
    · split
      · exact h.v _ hp
      · exact h.v i hi
  · rcases h.sg with e | e
    · exact .inr (by omega)
    · exact .inl (by omega)
  · rw [D_swap hk hp (by omega) X, h.d, Int.neg_mul_neg]
  · intro i hi j hj
    unfold swR setR
    split
    · exact h.b k hk j hj
    · split
      · exact h.b _ hp j hj
      · exact h.b i hi j hj
  · rw [D_swlead hj]; exact h.nz j hj
  · rw [Bk_sw]
    by_cases e1 : i = k + q
    · have a1 : (if i = k + q then Y k else if i = k then Y (k + q) else Y i) = Y k := if_pos e1
      have a2 : (if i - k = 0 then q else if i - k = q then 0 else i - k) = 0 := by rw [if_neg (by omega), if_pos (by omega)]
      rw [a1, a2, h.y k (by omega) hk j hj hjn, Nat.sub_self]
    · by_cases e2 : i = k
      · have a1 : (if i = k + q then Y k else if i = k then Y (k + q) else Y i) = Y (k + q) := by rw [if_neg e1, if_pos e2]
        have a2 : (if i - k = 0 then q else if i - k = q then 0 else i - k) = q := if_pos (by omega)
        rw [a1, a2, h.y (k + q) (by omega) hp j hj hjn, show k + q - k = q by omega]
      · have a1 : (if i = k + q then Y k else if i = k then Y (k + q) else Y i) = Y i := by rw [if_neg e1, if_neg e2]
        have a2 : (if i - k = 0 then q else if i - k = q then 0 else i - k) = i - k := by rw [if_neg (by omega), if_neg (by omega)]
        rw [a1, a2, h.y i hi hin j hj hjn]
set_option maxRecDepth 100000 in
set_option maxHeartbeats 16000000 in
theorem cdet_any (A : Option Addr) (n cap : Nat) (B : Nat → Option Addr) (cp : Nat → Nat) (f : Nat → Nat → Int) (w : World) (hn : n ≤ 6) (h : MatAt w A n B (fun _ => n) cp f) (hb : Sml n f) :
    Calls Try.prog 30 #[.slice A n cap] w fun e w' => e = .returned (.int .i64 (D n f)) ∧ Kept w w' := by
  have HM := Lib.hid h
  have HB := Lib.hid hb
  clear h hb
  obtain ⟨res, hres⟩ : ∃ r, D n f = r := ⟨_, rfl⟩
  rw [hres]
  have HRES := Lib.hid hres
  clear hres
  go_enter Try.func30, Try.ntmps30
  go_wp2_with (go_at_call 37; refine (ccopied_any _ _ _ _ _ _ _ hn HM.out).mono ?_; rintro e w1 ⟨g, V0, rfl, hO, hV0⟩; have HO := Lib.hid hO; have HV0 := Lib.hid hV0; clear hO hV0)
  obtain ⟨bs, hbs⟩ : ∃ x, w.heap.size = x := ⟨_, rfl⟩
  have hO := HO.out
  rw [hbs] at hO
  have HO := Lib.hid hO
  clear hO hbs
  go_loopw [3, 4, 13] (fun sv lv i wr => ∃ k : Nat, k ≤ n ∧ i = .int .i64 k ∧ ∃ X Y V s, sv = .int .i64 s ∧ lv = .int .i64 (D k X) ∧ DetS w bs g n f k X Y V s wr) (fun _ _ i _ => n - (intOf i).toNat)
  case atStart => exact ⟨0, by omega, rfl, f, f, V0, 1, rfl, rfl, HO.out, HV0.out, .inl rfl, by rw [Int.one_mul], HB.out, D0_ne f, fun i _ _ j _ _ => by rw [Bk_0]; rfl⟩
  case round =>
    obtain ⟨k, hk, rfl, X, Y, V, s, rfl, rfl, hS⟩ := hrel
    by_cases hlt : k < n
    · have HS0 := Lib.hid hS
      clear hS
      obtain ⟨dk, hdk⟩ : ∃ x, D k X = x := ⟨_, rfl⟩
      rw [hdk]
      have HDKK := Lib.hid hdk
      clear hdk
      have hsb := HS0.out.sg
      go_wp2
      go_loopw [6] (fun p w2 => ∃ q : Nat, k ≤ q ∧ q ≤ n ∧ p = .int .i64 q ∧ (∀ i, k ≤ i → i < q → Y i k = 0) ∧ wr = w2) (fun p _ => n - (intOf p).toNat)
      case atStart => exact ⟨k, by omega, by omega, rfl, fun i h1 h2 => absurd h1 (by omega), by first | rfl | trivial⟩
      case round =>
        obtain ⟨q, hq1, hq2, rfl, hz, rfl⟩ := hrel
        have HZ := Lib.hid hz
        clear hz
        by_cases hlq : q < n
        · have hM0 := HS0.out.own
          obtain ⟨bq, hVq⟩ := HS0.out.v q hlq
          obtain ⟨v0, v1, -, v3⟩ := hM0.cellV hlq
          rw [hVq] at v0
          obtain ⟨c0, -, -, y0, -⟩ := hM0.cellE hlq hlt hVq
          have LG : Lower g wr.heap.size := ⟨v3⟩
          have LQ : Lower bq wr.heap.size := ⟨y0⟩
          clear hM0 v3 y0
          by_cases hy0 : Y q k = 0
          · rw [hy0] at c0
            go_wp2
            go_roundw
            case rel =>
              refine ⟨q + 1, by omega, by omega, by go_num, fun i h1 h2 => ?_, by first | rfl | trivial⟩
              by_cases e : i = q
              · rw [e]; exact hy0
              · exact HZ.out i h1 (by omega)
            case measure => simp [intOf]; omega
          · have g1 : (Y q k == 0) = false := beq_eq_false_iff_ne.2 hy0
            have HNZ0 := Lib.hid hy0
            by_cases hqk : q = k
            · obtain rfl : k = q := hqk.symm
              have HNZ := Lib.hid hy0
              have hS := HS0.out
              have HS := Lib.hid hS
              go_wp2
              go_loopw [7] (fun i w2 => ∃ i1 : Nat, k + 1 ≤ i1 ∧ i1 ≤ n ∧ i = .int .i64 i1 ∧ OwnM w bs g n V (fun _ => n) (elimF k X i1 (k + 1) Y) w2) (fun i _ => n - (intOf i).toNat)
              case atStart => exact ⟨k + 1, by omega, by omega, by go_num, HS.out.own.congr (fun _ _ => rfl) (fun _ _ => rfl) (fun _ _ _ _ => (elim_start _ _).symm)⟩
              case round =>
                obtain ⟨i1, hi1, hi2, rfl, hM1⟩ := hrel
                have HM1 := Lib.hid hM1
                clear hM1
                by_cases hli : i1 < n
                · go_wp2
                  go_loopw [8] (fun j w2 => ∃ j1 : Nat, k + 1 ≤ j1 ∧ j1 ≤ n ∧ j = .int .i64 j1 ∧ OwnM w bs g n V (fun _ => n) (elimF k X i1 j1 Y) w2) (fun j _ => n - (intOf j).toNat)
                  case atStart => exact ⟨k + 1, by omega, by omega, by go_num, HM1.out⟩
                  case round =>
                    obtain ⟨j1, hj1, hj2, rfl, hM2⟩ := hrel
                    by_cases hlj : j1 < n
                    · obtain ⟨bi, hVi⟩ := HS.out.v i1 hli
                      obtain ⟨bk, hVk⟩ := HS.out.v k hlt
                      obtain ⟨v0, v1, -, v3⟩ := hM2.cellV hli
                      obtain ⟨u0, u1, -, -⟩ := hM2.cellV hlt
                      rw [hVi] at v0
                      rw [hVk] at u0
                      obtain ⟨c1, x1, -, y1, -⟩ := hM2.cellE hli hlj hVi
                      obtain ⟨c2, -, -, y2, -⟩ := hM2.cellE hlt hlt hVk
                      obtain ⟨c3, -, -, -, -⟩ := hM2.cellE hli hlt hVi
                      obtain ⟨c4, -, -, -, -⟩ := hM2.cellE hlt hlj hVk
                      rw [elim_old (by omega)] at c1 c2 c3 c4
                      have hy := HS.out.y
                      have hb := HS.out.b
                      have q1 := hy i1 (by omega) hli j1 (by omega) hlj
                      have q2 := hy k (by omega) hlt k (by omega) hlt
                      have q3 := hy i1 (by omega) hli k (by omega) hlt
                      have q4 := hy k (by omega) hlt j1 (by omega) hlj
                      rw [Nat.sub_self] at q2 q3 q4
                      have hq := elim_quo HS.out.nz (show k < i1 by omega) (show k < j1 by omega) q1 q2 q3 q4
                      have s1 := Bk_small (k := k) (i := i1 - k) (j := j1 - k) hb (by omega) (by omega) hn
                      have s2 := Bk_small (k := k) (i := 0) (j := 0) hb (by omega) (by omega) hn
                      have s3 := Bk_small (k := k) (i := i1 - k) (j := 0) hb (by omega) (by omega) hn
                      have s4 := Bk_small (k := k) (i := 0) (j := j1 - k) hb (by omega) (by omega) hn
                      have s5 := Bk_small (k := k + 1) (i := i1 - k - 1) (j := j1 - k - 1) hb (by omega) (by omega) hn
                      have s6 := D_small (k := k) hb (by omega) hn
                      rw [← q1] at s1
                      rw [← q2] at s2
                      rw [← q3] at s3
                      rw [← q4] at s4
                      rw [HDKK.out] at hq s6
                      have hdk0 : dk ≠ 0 := by rw [← HDKK.out]; exact HS.out.nz k (by omega)
                      have hw : ∀ w, Calls Try.prog 38 #[.int .i64 (Y i1 j1), .int .i64 (Y k k), .int .i64 (Y i1 k), .int .i64 (Y k j1), .int .i64 dk] w fun r w' => r = .returned (.int .i64 (Bk (k + 1) X (i1 - k - 1) (j1 - k - 1))) ∧ Kept w w' :=
                        fun w => wquo_any _ _ _ _ _ _ w (by omega) (by omega) (by omega) (by omega) (by omega) (by omega) hdk0 hq
                      have hset := hM2.setE hli hlj hVi (Bk (k + 1) X (i1 - k - 1) (j1 - k - 1))
                      have HW := Lib.hid hw
                      have HSET := Lib.hid hset
                      have LG : Lower g wr.heap.size := ⟨v3⟩
                      have LI : Lower bi wr.heap.size := ⟨y1⟩
                      have LK : Lower bk wr.heap.size := ⟨y2⟩
                      clear hq hdk0 hw hset hM2 hy hb q1 q2 q3 q4 s1 s2 s3 s4 s5 s6 v3 y1 y2
                      generalize Y i1 j1 = z1 at *
                      generalize Y k k = z2 at *
                      generalize Y i1 k = z3 at *
                      generalize Y k j1 = z4 at *
                      go_wp2
                      ((first | (with_reducible refine wp_region_tail2 36 (by kernel_rfl) (by kernel_rfl) ?_) | refine wp_region_tail 36 (by kernel_rfl) (by kernel_rfl) ?_); simp only [List.take_succ_cons, List.take_zero, List.drop_succ_cons, List.drop_zero]; (repeat (go_big_quiet_step (first | (go_at_call 38; exact Calls.kept_of (HW.out _))))); refine wpQuiet_nil ?_; intro x)
                      go_wp2
                      go_roundw
                      case rel =>
                        refine ⟨j1 + 1, by omega, by omega, by go_num, ?_⟩
                        exact (HSET.out.next (by (repeat (first | exact Kept.refl _ | assumption | refine Kept.alloc ?_ _ | refine Kept.ext ?_ _ | refine Kept.drew ?_ | refine Kept.drewN ?_ _)))).congr (fun _ _ => rfl) (fun _ _ => rfl) (fun a _ b _ => elim_set (by omega) (by omega) a b)
                      case measure => simp [intOf]; omega
                    · obtain rfl : j1 = n := by omega
                      have HM2 := Lib.hid hM2
                      clear hM2
                      go_wp2
                      go_roundw
                      case rel =>
                        refine ⟨i1 + 1, by omega, by omega, by go_num, ?_⟩
                        exact HM2.out.congr (fun _ _ => rfl) (fun _ _ => rfl) (fun a _ b hb => elim_row (by omega) hb)
                      case measure => simp [intOf]; omega
                · obtain rfl : i1 = n := by omega
                  obtain ⟨bk, hVk⟩ := HS.out.v k hlt
                  obtain ⟨u0, u1, -, u3⟩ := HM1.out.cellV hlt
                  rw [hVk] at u0
                  obtain ⟨c2, -, -, y2, -⟩ := HM1.out.cellE hlt hlt hVk
                  rw [elim_old (by omega)] at c2
                  have q2 := HS.out.y k (by omega) hlt k (by omega) hlt
                  rw [Nat.sub_self, Bk_00] at q2
                  rw [q2] at c2
                  have LG : Lower g wr.heap.size := ⟨u3⟩
                  have LK : Lower bk wr.heap.size := ⟨y2⟩
                  obtain ⟨dk2, hdk2⟩ : ∃ x, D (k + 1) X = x := ⟨_, rfl⟩
                  rw [hdk2] at c2
                  have HDK := Lib.hid hdk2
                  have HQ2 := Lib.hid q2
                  clear q2 hdk2 u3 y2
                  go_wp2
                  go_roundw
                  case rel =>
                    refine ⟨k + 1, by omega, by go_num, X, _, V, s, rfl, by rw [HDK.out], HM1.out, HS.out.v, HS.out.sg, HS.out.d, HS.out.b, ?_, ?_⟩
                    · intro q hq
                      by_cases e : q = k + 1
                      · rw [e, ← HQ2.out]; exact HNZ.out
                      · exact HS.out.nz q (by omega)
                    · intro i hi hin j hj hjn
                      exact elim_end (by omega) hin (by omega)
                  case measure => simp [intOf]; omega
            · have h2 : ((q : Int) == (k : Int)) = false := beq_eq_false_iff_ne.2 (by omega)
              have h3 : ((q : Int) != (k : Int)) = true := by simp only [bne, h2, Bool.not_false]
              have hkq : k < q := by omega
              obtain ⟨bk0, hVk0⟩ := HS0.out.v k hlt
              go_wp2
              refine wp_region_tellC (C := fun _ => True) [.q, .q, .q, .q, .q, .q, .q, .k (V k), .q, .q, .q, .k (V q), .q, .k undef, .q, .k undef] (fun L _ w' => SwI wr bs g n q k V L w') (by kernel_rfl) (by kernel_rfl) (fun b => by kernel_rfl) ?_ ?_ ?_ ?_
              · exact fun b => SwI.start HS0.out.own
              · intro i L b w' w'' hs hI hk
                exact (hI.on hk).other (by rintro rfl; cases hs) (by rintro rfl; cases hs) (by rintro rfl; cases hs) (by rintro rfl; cases hs)
              · exact fun _ _ _ _ => trivial
              apply Exists.intro
              refine ⟨?_, ?_, ?_, ?_⟩
              · rintro bb W -
                simp only [swapL, Nat.reduceAdd]
                repeat (go_big_quiet_step (fail))
                refine wpQuiet_nil ?_
                rfl
              · simp only [EachS, and_true]
                refine ⟨?_, ?_, ?_, ?_⟩
                · intro L b w' hd hL hI
                  obtain ⟨e13, e15⟩ := hI.before (.inl hL)
                  have hc := (hI.cell hlt).1
                  rw [e13, e15, swV_none] at hc
                  go_simp
                  exact ⟨rfl, hI.load (.inl rfl)⟩
                · intro L b w' hd hL hI
                  obtain ⟨e13, e15⟩ := hI.before (.inr (.inl hL))
                  have hc := (hI.cell hlq).1
                  rw [e13, e15, swV_none] at hc
                  go_simp
                  exact ⟨rfl, hI.load (.inr rfl)⟩
                · intro L b w' hd hL hI
                  have d7 : L 7 = true := hd { on := 7, ground := .data } (by simp) rfl
                  have d11 : L 11 = true := hd { on := 11, ground := .phase } (by simp) rfl
                  have h8 := hI.op13 hqk d7 d11 hL
                  rw [hVk0] at h8
                  obtain ⟨c1, c2, c3⟩ := hI.cell hlq
                  have LG2 : Lower g w'.heap.size := ⟨c3⟩
                  go_simp
                  exact ⟨rfl, h8⟩
                · intro L b w' hd hL hI
                  have d13 : L 13 = true := hd { on := 13, ground := .phase } (by simp) rfl
                  have h8 := hI.op15 hqk d13 hL
                  rw [hVq] at h8
                  obtain ⟨c1, c2, c3⟩ := hI.cell hlt
                  have LG2 : Lower g w'.heap.size := ⟨c3⟩
                  go_simp
                  exact ⟨rfl, h8⟩
              · intro b b' d hd
                simp [callSlots, dullOp] at hd
              · intro L b w' hL hI
                have hO2 := hI.done HS0.out.own hlq hlt hqk (hL 13 (by decide)) (hL 15 (by decide)) (fun _ _ _ _ => rfl)
                obtain ⟨V2, hV2⟩ : ∃ v, swV V q k true true = v := ⟨_, rfl⟩
                rw [hV2] at hO2
                have hS := HS0.out.swap hlt hlq hkq hO2 hV2.symm
                have hdk2 : D k (swR X k q) = dk := by
                  have := D_swlead (X := X) (k := k) (p := q - k) (q := k) (Nat.le_refl k)
                  rw [show k + (q - k) = q by omega] at this
                  rw [this]
                  exact HDKK.out
                have hnz2 : (fun a => if a = q then Y k else if a = k then Y q else Y a) k k ≠ 0 := by
                  show (if k = q then Y k else if k = k then Y q else Y k) k ≠ 0
                  rw [if_neg (by omega), if_pos rfl]
                  exact hy0
                clear hI hL hO2 hV2 hVk0 hVq c0 v0 v1 LG LQ
                clear HDKK
                obtain ⟨X2, hX2⟩ : ∃ v, swR X k q = v := ⟨_, rfl⟩
                obtain ⟨Y2, hY2⟩ : ∃ v, (fun a => if a = q then Y k else if a = k then Y q else Y a) = v := ⟨_, rfl⟩
                rw [hX2] at hS hdk2
                rw [hY2] at hS hnz2
                have HDKK := Lib.hid hdk2
                have HNZ := Lib.hid hnz2
                clear hX2 hY2 hdk2 hnz2
                have HS := Lib.hid hS
                go_wp2
                go_loopw [7] (fun i w2 => ∃ i1 : Nat, k + 1 ≤ i1 ∧ i1 ≤ n ∧ i = .int .i64 i1 ∧ OwnM w bs g n V2 (fun _ => n) (elimF k X2 i1 (k + 1) Y2) w2) (fun i _ => n - (intOf i).toNat)
                case atStart => exact ⟨k + 1, by omega, by omega, by go_num, HS.out.own.congr (fun _ _ => rfl) (fun _ _ => rfl) (fun _ _ _ _ => (elim_start _ _).symm)⟩
                case round =>
                  obtain ⟨i1, hi1, hi2, rfl, hM1⟩ := hrel
                  have HM1 := Lib.hid hM1
                  clear hM1
                  by_cases hli : i1 < n
                  · go_wp2
                    go_loopw [8] (fun j w2 => ∃ j1 : Nat, k + 1 ≤ j1 ∧ j1 ≤ n ∧ j = .int .i64 j1 ∧ OwnM w bs g n V2 (fun _ => n) (elimF k X2 i1 j1 Y2) w2) (fun j _ => n - (intOf j).toNat)
                    case atStart => exact ⟨k + 1, by omega, by omega, by go_num, HM1.out⟩
                    case round =>
                      obtain ⟨j1, hj1, hj2, rfl, hM2⟩ := hrel
                      by_cases hlj : j1 < n
                      · obtain ⟨bi, hVi⟩ := HS.out.v i1 hli
                        obtain ⟨bk, hVk⟩ := HS.out.v k hlt
                        obtain ⟨v0, v1, -, v3⟩ := hM2.cellV hli
                        obtain ⟨u0, u1, -, -⟩ := hM2.cellV hlt
                        rw [hVi] at v0
                        rw [hVk] at u0
                        obtain ⟨c1, x1, -, y1, -⟩ := hM2.cellE hli hlj hVi
                        obtain ⟨c2, -, -, y2, -⟩ := hM2.cellE hlt hlt hVk
                        obtain ⟨c3, -, -, -, -⟩ := hM2.cellE hli hlt hVi
                        obtain ⟨c4, -, -, -, -⟩ := hM2.cellE hlt hlj hVk
                        rw [elim_old (by omega)] at c1 c2 c3 c4
                        have hy := HS.out.y
                        have hb := HS.out.b
                        have q1 := hy i1 (by omega) hli j1 (by omega) hlj
                        have q2 := hy k (by omega) hlt k (by omega) hlt
                        have q3 := hy i1 (by omega) hli k (by omega) hlt
                        have q4 := hy k (by omega) hlt j1 (by omega) hlj
                        rw [Nat.sub_self] at q2 q3 q4
                        have hq := elim_quo HS.out.nz (show k < i1 by omega) (show k < j1 by omega) q1 q2 q3 q4
                        have s1 := Bk_small (k := k) (i := i1 - k) (j := j1 - k) hb (by omega) (by omega) hn
                        have s2 := Bk_small (k := k) (i := 0) (j := 0) hb (by omega) (by omega) hn
                        have s3 := Bk_small (k := k) (i := i1 - k) (j := 0) hb (by omega) (by omega) hn
                        have s4 := Bk_small (k := k) (i := 0) (j := j1 - k) hb (by omega) (by omega) hn
                        have s5 := Bk_small (k := k + 1) (i := i1 - k - 1) (j := j1 - k - 1) hb (by omega) (by omega) hn
                        have s6 := D_small (k := k) hb (by omega) hn
                        rw [← q1] at s1
                        rw [← q2] at s2
                        rw [← q3] at s3
                        rw [← q4] at s4
                        rw [HDKK.out] at hq s6
                        have hdk0 : dk ≠ 0 := by rw [← HDKK.out]; exact HS.out.nz k (by omega)
                        have hw : ∀ w, Calls Try.prog 38 #[.int .i64 (Y2 i1 j1), .int .i64 (Y2 k k), .int .i64 (Y2 i1 k), .int .i64 (Y2 k j1), .int .i64 dk] w fun r w' => r = .returned (.int .i64 (Bk (k + 1) X2 (i1 - k - 1) (j1 - k - 1))) ∧ Kept w w' :=
                          fun w => wquo_any _ _ _ _ _ _ w (by omega) (by omega) (by omega) (by omega) (by omega) (by omega) hdk0 hq
                        have hset := hM2.setE hli hlj hVi (Bk (k + 1) X2 (i1 - k - 1) (j1 - k - 1))
                        have HW := Lib.hid hw
                        have HSET := Lib.hid hset
                        have LG : Lower g wr.heap.size := ⟨v3⟩
                        have LI : Lower bi wr.heap.size := ⟨y1⟩
                        have LK : Lower bk wr.heap.size := ⟨y2⟩
                        clear hq hdk0 hw hset hM2 hy hb q1 q2 q3 q4 s1 s2 s3 s4 s5 s6 v3 y1 y2
                        generalize Y2 i1 j1 = z1 at *
                        generalize Y2 k k = z2 at *
                        generalize Y2 i1 k = z3 at *
                        generalize Y2 k j1 = z4 at *
                        go_wp2
                        ((first | (with_reducible refine wp_region_tail2 36 (by kernel_rfl) (by kernel_rfl) ?_) | refine wp_region_tail 36 (by kernel_rfl) (by kernel_rfl) ?_); simp only [List.take_succ_cons, List.take_zero, List.drop_succ_cons, List.drop_zero]; (repeat (go_big_quiet_step (first | (go_at_call 38; exact Calls.kept_of (HW.out _))))); refine wpQuiet_nil ?_; intro x)
                        go_wp2
                        go_roundw
                        case rel =>
                          refine ⟨j1 + 1, by omega, by omega, by go_num, ?_⟩
                          exact (HSET.out.next (by (repeat (first | exact Kept.refl _ | assumption | refine Kept.alloc ?_ _ | refine Kept.ext ?_ _ | refine Kept.drew ?_ | refine Kept.drewN ?_ _)))).congr (fun _ _ => rfl) (fun _ _ => rfl) (fun a _ b _ => elim_set (by omega) (by omega) a b)
                        case measure => simp [intOf]; omega
                      · obtain rfl : j1 = n := by omega
                        have HM2 := Lib.hid hM2
                        clear hM2
                        go_wp2
                        go_roundw
                        case rel =>
                          refine ⟨i1 + 1, by omega, by omega, by go_num, ?_⟩
                          exact HM2.out.congr (fun _ _ => rfl) (fun _ _ => rfl) (fun a _ b hb => elim_row (by omega) hb)
                        case measure => simp [intOf]; omega
                  · obtain rfl : i1 = n := by omega
                    obtain ⟨bk, hVk⟩ := HS.out.v k hlt
                    obtain ⟨u0, u1, -, u3⟩ := HM1.out.cellV hlt
                    rw [hVk] at u0
                    obtain ⟨c2, -, -, y2, -⟩ := HM1.out.cellE hlt hlt hVk
                    rw [elim_old (by omega)] at c2
                    have q2 := HS.out.y k (by omega) hlt k (by omega) hlt
                    rw [Nat.sub_self, Bk_00] at q2
                    rw [q2] at c2
                    have LG : Lower g wr.heap.size := ⟨u3⟩
                    have LK : Lower bk wr.heap.size := ⟨y2⟩
                    obtain ⟨dk2, hdk2⟩ : ∃ x, D (k + 1) X2 = x := ⟨_, rfl⟩
                    rw [hdk2] at c2
                    have HDK := Lib.hid hdk2
                    have HQ2 := Lib.hid q2
                    clear q2 hdk2 u3 y2
                    go_wp2
                    go_roundw
                    case rel =>
                      refine ⟨k + 1, by omega, by go_num, X2, _, V2, (-s), rfl, by rw [HDK.out], HM1.out, HS.out.v, HS.out.sg, HS.out.d, HS.out.b, ?_, ?_⟩
                      · intro q hq
                        by_cases e : q = k + 1
                        · rw [e, ← HQ2.out]; exact HNZ.out
                        · exact HS.out.nz q (by omega)
                      · intro i hi hin j hj hjn
                        exact elim_end (by omega) hin (by omega)
                    case measure => simp [intOf]; omega
        · obtain rfl : q = n := by omega
          go_wp2
          go_ret
          refine ⟨?_, HS0.out.own.on⟩
          have hzero : D q X = 0 := D_none (k := k) HS0.out.nz hlt (fun i hi => by
            have := HZ.out (k + i) (by omega) (by omega)
            rw [HS0.out.y (k + i) (by omega) (by omega) k (by omega) hlt, show k + i - k = i by omega, Nat.sub_self] at this
            exact this)
          rw [← HRES.out, HS0.out.d, hzero, Int.mul_zero]
          rfl
    · obtain rfl : k = n := by omega
      have hs := hS.sg
      have hd := D_small (k := k) hS.b (by omega) hn
      have HS := Lib.hid hS
      clear hS
      obtain ⟨dk, hdk⟩ : ∃ x, D k X = x := ⟨_, rfl⟩
      rw [hdk] at hd
      have HDK := Lib.hid hdk
      rw [hdk]
      clear hdk
      have hr := HS.out.d
      rw [HRES.out, HDK.out] at hr
      have HR := Lib.hid hr
      clear hr
      rcases hs with rfl | rfl
      · go_wp2
        go_ret
        exact ⟨by rw [HR.out, Int.one_mul]; rfl, HS.out.own.on⟩
      · go_wp2
        go_ret
        exact ⟨by rw [HR.out]; first | rfl | (rw [Int.neg_mul, Int.one_mul]; rfl), HS.out.own.on⟩
end Go.Proofs.Ytjadpehpempjoaa
