/- Contracts: an order is executed on a desk, and done, of the program: an octahedron, a proof with even charges, a day. Conditions: the desk lies in memory. Contract: an order is done by a desk, of the program: the lock taken, the order done, the lock given back. Conditions: the desk lies in memory, its lock is free. -/
import Derived.Test.YtnbjealpcjfllaaGreatDoorZq
import Derived.Test.YtnbjealpcjfllaaGreatDoorJg
namespace Go.Proofs.YtnbjealpcjfllaaGreatDoor
set_option linter.unusedVariables false
set_option linter.unusedSimpArgs false
open Go.ChangeShapes Go.WideShapes Go.ChangeAt Go.RowKit Go.Deep Go.MuLone
/-- What an order does: the desk behind it, and why it is refused; a desk that refuses stays as it is. -/
def Exe (w w' : World) (r : Ending) (lo : Nat) (st : Int) (db : Nat) (O : Nat → Prop) (e : Int) (D' : Dsk) : Prop :=
  r = .returned (refV e) ∧ (e ≠ 0 → Kept w w') ∧ (e = 0 → Step w w' lo st db D' O)
set_option maxRecDepth 100000 in
set_option maxHeartbeats 4000000 in
theorem dexe_octa (nm : List UInt8) (r : Int) (lo db : Nat) (st : Int) (D : Dsk) (sv ov : Value) (V : List ShV) (A B : Option Addr) (capA capB : Nat) (a b : Int) (c : Bool) (w : World) (h : DeskAt w lo st db D sv ov V) (hA : TxAt w A [nm]) (hB : RowsAt w B 1 1 (fun _ _ => r)) (hl : nm.length ≤ 1000000) :
    Calls Tryz.prog 62 #[.pointer (some ⟨db, 0, none⟩), .agg #[.int .i64 1, .int .i64 a, .int .i64 b, .bool c, .slice A 1 capA, .slice B 1 capB]] w fun e w' => Exe w w' e lo st db (own db sv ov V) (creE D nm (octaE r)) { D with shapes := D.shapes ++ [⟨nm, 6, octaP r, 8, octaF, 0, 0, []⟩] } := by
  have q : ∀ w', Kept w w' → _ := fun w' hk => dcreate_octa nm r lo db st D sv ov V A B capA capB a b c w' (h.on hk) (hA.of hk) (hB.of hk) hl
  obtain ⟨ce, hce⟩ : ∃ x, creE D nm (octaE r) = x := ⟨_, rfl⟩
  rw [hce] at q ⊢
  have Q := Lib.hid q
  clear q hA hB h hce
  unfold Exe
  go_enter Tryz.func62, Tryz.ntmps62
  go_wp2_with (go_at_call 111; (with_reducible refine (Q.out _ (by (repeat (first | exact Kept.refl _ | assumption | refine Kept.alloc ?_ _ | refine Kept.ext ?_ _ | refine Kept.drew ?_ | refine Kept.drewN ?_ _)))).mono ?_); rintro e w1 ⟨rfl, h1, h2⟩; have H1 := Lib.hid h1; have H2 := Lib.hid h2; clear h1 h2)
  go_ret
  exact ⟨rfl, fun q => Kept.trans (by (repeat (first | exact Kept.refl _ | assumption | refine Kept.alloc ?_ _ | refine Kept.ext ?_ _ | refine Kept.drew ?_ | refine Kept.drewN ?_ _))) (H1.out q), fun q => Step.from (by (repeat (first | exact Kept.refl _ | assumption | refine Kept.alloc ?_ _ | refine Kept.ext ?_ _ | refine Kept.drew ?_ | refine Kept.drewN ?_ _))) (H2.out q)⟩
set_option maxRecDepth 100000 in
set_option maxHeartbeats 4000000 in
theorem dexe_even (nm : List UInt8) (d : Int) (lo db : Nat) (st : Int) (D : Dsk) (sv ov : Value) (V : List ShV) (A B : Option Addr) (capA capB : Nat) (a b : Int) (c : Bool) (w : World) (h : DeskAt w lo st db D sv ov V) (hti : Tight D) (hA : TxAt w A [nm]) (hB : RowsAt w B 1 1 (fun _ _ => d)) (hl : nm.length ≤ 1000000) (i : Nat) (s : Shp) (hi : idxS D.shapes nm 0 = (i : Int)) (hs : D.shapes[i]? = some s) :
    Calls Tryz.prog 62 #[.pointer (some ⟨db, 0, none⟩), .agg #[.int .i64 9, .int .i64 a, .int .i64 b, .bool c, .slice A 1 capA, .slice B 1 capB]] w fun e w' => Exe w w' e lo st db (own db sv ov V) (prvE D nm 1 d fun s => evnB s d) (prvD D i s ⟨s.m, fun _ _ => 1, d, (evnB s d).lo, (evnB s d).hi⟩ (workS s.n s.P s.m s.F d)) := by
  have q : ∀ w', Kept w w' → _ := fun w' hk => (dprove_even nm d lo db st D sv ov V A B capA capB a b c w' (h.on hk) hti (hA.of hk) (hB.of hk) hl).mono (R' := fun e w'' => Exe w' w'' e lo st db (own db sv ov V) (prvE D nm 1 d fun s => evnB s d) (prvD D i s ⟨s.m, fun _ _ => 1, d, (evnB s d).lo, (evnB s d).hi⟩ (workS s.n s.P s.m s.F d))) fun e w'' ⟨e1, e2, e3⟩ => ⟨e1, e2, fun q => by
    obtain ⟨i', s', f1, f2, f3⟩ := e3 q
    rw [hi] at f1
    have f1 : i = i' := by omega
    subst f1
    rw [hs] at f2
    injection f2 with f2
    subst f2
    exact f3⟩
  obtain ⟨ce, hce⟩ : ∃ x, (prvE D nm 1 d fun s => evnB s d) = x := ⟨_, rfl⟩
  obtain ⟨D', hD'⟩ : ∃ x, prvD D i s ⟨s.m, fun _ _ => 1, d, (evnB s d).lo, (evnB s d).hi⟩ (workS s.n s.P s.m s.F d) = x := ⟨_, rfl⟩
  rw [hce, hD'] at q
  rw [hce, hD']
  have Q := Lib.hid q
  clear q hA hB h hce hD' hi hs hti
  unfold Exe at *
  go_enter Tryz.func62, Tryz.ntmps62
  go_wp2_with (go_at_call 113; (with_reducible refine (Q.out _ (by (repeat (first | exact Kept.refl _ | assumption | refine Kept.alloc ?_ _ | refine Kept.ext ?_ _ | refine Kept.drew ?_ | refine Kept.drewN ?_ _)))).mono ?_); rintro e w1 ⟨rfl, h1, h2⟩; have H1 := Lib.hid h1; have H2 := Lib.hid h2; clear h1 h2)
  go_ret
  exact ⟨rfl, fun q => Kept.trans (by (repeat (first | exact Kept.refl _ | assumption | refine Kept.alloc ?_ _ | refine Kept.ext ?_ _ | refine Kept.drew ?_ | refine Kept.drewN ?_ _))) (H1.out q), fun q => Step.from (by (repeat (first | exact Kept.refl _ | assumption | refine Kept.alloc ?_ _ | refine Kept.ext ?_ _ | refine Kept.drew ?_ | refine Kept.drewN ?_ _))) (H2.out q)⟩
theorem desk_three {w : World} {b : Nat} {st : Int} {sv ov : Value} {day left spent budget : Int} (h : w.heap[b]? = some (deskC st sv day left spent budget ov)) (x y : Int) : ((w.setCell ⟨b, 3, none⟩ (.int .i64 x)).setCell ⟨b, 4, none⟩ (.int .i64 y)).heap[b]? = some (deskC st sv x y spent budget ov) := by
  simp [World.setCell, Array.getElem?_modify, h, deskC]
set_option maxRecDepth 100000 in
set_option maxHeartbeats 4000000 in
theorem dexe_day (lo db : Nat) (st : Int) (D : Dsk) (sv ov : Value) (V : List ShV) (u v : Value) (a b : Int) (c : Bool) (w : World) (h : DeskAt w lo st db D sv ov V) (hti : Tight D) :
    Calls Tryz.prog 62 #[.pointer (some ⟨db, 0, none⟩), .agg #[.int .i64 12, .int .i64 a, .int .i64 b, .bool c, u, v]] w fun e w' => Exe w w' e lo st db (own db sv ov V) 0 { D with day := D.day + 1, left := D.budget } := by
  have y3 : w.cell? ⟨db, 3, none⟩ = some (.int .i64 D.day) := desk_cell h.hd rfl
  have y4 : w.cell? ⟨db, 4, none⟩ = some (.int .i64 D.left) := desk_cell h.hd rfl
  have y6 : w.cell? ⟨db, 6, none⟩ = some (.int .i64 D.budget) := desk_cell h.hd rfl
  have x3 : w.frozen? ⟨db, 3, none⟩ = false := desk_free h.hd
  have x4 : w.frozen? ⟨db, 4, none⟩ = false := desk_free h.hd
  have LD : Lower db w.heap.size := ⟨h.ltd⟩
  have hdy := h.by'
  have hf2 := h.few2
  have hwr : wrap64 (D.day + 1) = D.day + 1 := by rw [wrap64_small] <;> omega
  have H := Lib.hid h
  have HTI := Lib.hid hti
  clear h hti
  unfold Exe
  go_enter Tryz.func62, Tryz.ntmps62
  go_wp2_with fail
  go_ret
  refine ⟨rfl, fun q => absurd rfl q, fun _ => ?_⟩
  have kd : KB (fun k => k = db) w ((w.setCell ⟨db, 3, none⟩ (.int .i64 (D.day + 1))).setCell ⟨db, 4, none⟩ (.int .i64 D.budget)) := ((KB.refl (fun k => k = db) _).setCell (p := ⟨db, 3, none⟩) (fun _ => rfl) _).setCell (p := ⟨db, 4, none⟩) (fun _ => rfl) _
  have hbd := H.out.bd
  have hbs := H.out.bs
  have hti := HTI.out
  unfold Tight at hti
  have p1 := H.out.head (day := D.day + 1) (left := D.budget) (spent := D.spent) kd (desk_three H.out.hd (D.day + 1) D.budget) (by omega) hbs (by omega)
  exact ⟨_, _, _, p1.on (by (repeat (first | exact Kept.refl _ | assumption | refine Kept.alloc ?_ _ | refine Kept.ext ?_ _ | refine Kept.drew ?_ | refine Kept.drewN ?_ _))), ((kd.mono fun k _ q => .inl q).alloc _), fun k hk q => q⟩
set_option maxRecDepth 100000 in
set_option maxHeartbeats 4000000 in
theorem ddo_any (l : List UInt8) (o : Ord) (e : Int) (D' : Dsk) (lo db : Nat) (st : Int) (D : Dsk) (sv ov : Value) (V : List ShV) (w : World) (hp : parseB l = some o) (hl : l.length ≤ 1000000) (h : DeskAt w lo st db D sv ov V) (hld : Ld w) (hD : D'.orders = D.orders)
    (hex : ∀ w' A B capA capB a b c, Kept w w' → TxAt w' A o.names → RowsAt w' B o.nums.length 1 (fun k _ => o.nums.getD k 0) → Calls Tryz.prog 62 #[.pointer (some ⟨db, 0, none⟩), .agg #[.int .i64 o.kind, .int .i64 a, .int .i64 b, .bool c, .slice A o.names.length capA, .slice B o.nums.length capB]] w' fun r w'' => Exe w' w'' r lo st db (own db sv ov V) e D') :
    Calls Tryz.prog 33 #[.pointer (some ⟨db, 0, none⟩), .string ⟨l.toArray⟩] w fun r w' => Exe w w' r lo st db (own db sv ov V) (if 100 ≤ D.orders.length then 4 else e) { D' with orders := D.orders ++ [l] } := by
  have q : ∀ w', Kept w w' → Calls Tryz.prog 61 #[.string ⟨l.toArray⟩] w' (fun r w'' => ∃ (a b : Int) (mo : Bool) (A B : Option Addr) (capA capB : Nat), r = .returned (.tuple #[.agg #[.int .i64 o.kind, .int .i64 a, .int .i64 b, .bool mo, .slice A o.names.length capA, .slice B o.nums.length capB], .bool true]) ∧ Kept w' w'' ∧ TxAt w'' A o.names ∧ RowsAt w'' B o.nums.length 1 (fun k _ => o.nums.getD k 0)) := fun w' hk => (dparse_any l w' hl (hld.on hk)).mono fun r w'' ⟨h1, h2⟩ => by
    rw [hp] at h2
    obtain ⟨a, b, mo, A, B, capA, capB, h3, h4, h5⟩ := h2
    exact ⟨a, b, mo, A, B, capA, capB, h3, h1, h4, h5⟩
  obtain ⟨OA, oc, rfl⟩ := own_slice2 h.od
  have y7 : w.cell? ⟨db, 7, none⟩ = some (.slice OA D.orders.length oc) := desk_cell h.hd rfl
  have LD : Lower db w.heap.size := ⟨h.ltd⟩
  obtain ⟨iS, hiS, hzS⟩ := Option.map_eq_some_iff.1 info_St
  simp only [Prod.mk.injEq] at hzS
  have HIS := Lib.hid (And.intro hiS hzS)
  have Q := Lib.hid q
  have HEX := Lib.hid hex
  have H := Lib.hid h
  have HDO := Lib.hid hD
  have hf2 := h.few2
  clear q hex h hp hld hiS hzS hD
  unfold Exe at *
  by_cases h100 : 100 ≤ D.orders.length
  · rw [if_pos h100]
    have l1 : (100 : Int) ≤ D.orders.length := by omega
    go_enter Tryz.func33, Tryz.ntmps33
    go_wp2_with (go_at_call 61; (with_reducible refine (Q.out _ (by (repeat (first | exact Kept.refl _ | assumption | refine Kept.alloc ?_ _ | refine Kept.ext ?_ _ | refine Kept.drew ?_ | refine Kept.drewN ?_ _)))).mono ?_); rintro r w1 ⟨a, b, mo, A, B, capA, capB, rfl, ⟨y1, rfl⟩, hA, hB⟩; clear hA hB)
    go_ret
    exact ⟨rfl, fun _ => by (repeat (first | exact Kept.refl _ | assumption | refine Kept.alloc ?_ _ | refine Kept.ext ?_ _ | refine Kept.drew ?_ | refine Kept.drewN ?_ _)), fun q => by cases q⟩
  rw [if_neg h100]
  have l1 : ¬ (100 : Int) ≤ D.orders.length := by omega
  by_cases he : e = 0
  · subst he
    have hr0 : refV 0 = .nilIface := rfl
    go_enter Tryz.func33, Tryz.ntmps33
    go_wp2_with (first | (go_at_call 61; (with_reducible refine (Q.out _ (by (repeat (first | exact Kept.refl _ | assumption | refine Kept.alloc ?_ _ | refine Kept.ext ?_ _ | refine Kept.drew ?_ | refine Kept.drewN ?_ _)))).mono ?_); rintro r w1 ⟨a, b, mo, A, B, capA, capB, rfl, ⟨y1, rfl⟩, hA, hB⟩; have HA := Lib.hid hA; have HB := Lib.hid hB; clear hA hB) | (go_at_call 62; (with_reducible refine (HEX.out _ _ _ _ _ _ _ _ (by (repeat (first | exact Kept.refl _ | assumption | refine Kept.alloc ?_ _ | refine Kept.ext ?_ _ | refine Kept.drew ?_ | refine Kept.drewN ?_ _))) (HA.out.of (by (repeat (first | exact Kept.refl _ | assumption | refine Kept.alloc ?_ _ | refine Kept.ext ?_ _ | refine Kept.drew ?_ | refine Kept.drewN ?_ _)))) (HB.out.of (by (repeat (first | exact Kept.refl _ | assumption | refine Kept.alloc ?_ _ | refine Kept.ext ?_ _ | refine Kept.drew ?_ | refine Kept.drewN ?_ _))))).mono ?_); rintro r w7 ⟨rfl, -, h2⟩; obtain ⟨sv', ov', V', d1, d2, d3⟩ := h2 (by trivial); obtain ⟨OB, od, rfl⟩ := own_slice2 d1.od; have y7' : w7.cell? ⟨db, 7, none⟩ = some (.slice OB D'.orders.length od) := desk_cell d1.hd rfl; have LD7 : Lower db w7.heap.size := ⟨d1.ltd⟩; have D1 := Lib.hid d1; have D2 := Lib.hid d2; have D3 := Lib.hid d3; clear h2 d1 d2 d3) | (at_builtin; refine wpList_append_lies _ rfl (.tmp 35) (.tmp 37) 22 rfl lo 9 iS _ 1 16 Tryz.underlying22 HIS.out.1 HIS.out.2.1 HIS.out.2.2.1 HIS.out.2.2.2 rfl (by omega) _ _ _ rfl (owns_kept D1.out.od (by (repeat (first | exact Kept.refl _ | assumption | refine Kept.alloc ?_ _ | refine Kept.ext ?_ _ | refine Kept.drew ?_ | refine Kept.drewN ?_ _)))) _ 1 1 [.string ⟨l.toArray⟩] rfl rfl (lit_at _ _ (by go_simp)) (lit_one _ rfl) (by omega) (by have := D1.out.few2; unfold maxLen; omega) (by have := D1.out.few2; omega) (by rw [World.size_alloc]; exact Nat.le_trans D1.out.lod (Nat.le_of_lt (Nat.lt_succ_of_lt D1.out.ltd))) _ rfl ?_; intro g1 cp1 w9 k1 k2 k3 k4; have o9 := (((KB.refl (fun q => (Value.slice OB D'.orders.length od).ownBlock = some q) _).grown k2 (fun q e _ => e)).at (D1.out.on (by (repeat (first | exact Kept.refl _ | assumption | refine Kept.alloc ?_ _ | refine Kept.ext ?_ _ | refine Kept.drew ?_ | refine Kept.drewN ?_ _)))).hd (fun e => (D1.out.ne_ov e).1 rfl)); have d9 : w9.cell? ⟨db, 7, none⟩ = some (.slice OB D'.orders.length od) := desk_cell o9 rfl; have x9 : w9.frozen? ⟨db, 7, none⟩ = false := desk_free o9; have LO9 : Lower db w9.heap.size := ⟨cell_lt d9⟩; clear o9; have E1 := Lib.hid k2; have F1 := Lib.hid k1; have G1 := Lib.hid k3; clear k1 k2 k3 k4))
    go_ret
    refine ⟨rfl, fun q => absurd rfl q, fun _ => ?_⟩
    have hDl : D'.orders.length < 100 := by rw [HDO.out]; omega
    obtain ⟨p1, p2, p3⟩ := (D1.out.on (w' := w7.alloc (.cells #[.string ⟨l.toArray⟩] 9)) (by (repeat (first | exact Kept.refl _ | assumption | refine Kept.alloc ?_ _ | refine Kept.ext ?_ _ | refine Kept.drew ?_ | refine Kept.drewN ?_ _)))).addOrder (w1 := w9) (g := g1) (cap := cp1) (t := l) (by exact (KB.refl _ _).grown E1.out (fun q e _ => e)) (G1.out.imp id (fun e => Nat.le_of_eq e.symm)) F1.out hDl
    have eD : ({ D' with orders := D'.orders ++ [l] } : Dsk) = { D' with orders := D.orders ++ [l] } := by rw [HDO.out]
    rw [eD] at p1
    have p4 : Step ((ext w y1).alloc (.cells #[.int .i64 o.kind, .int .i64 a, .int .i64 b, .bool mo, .slice A o.names.length capA, .slice B o.nums.length capB] 122)) (w9.setCell ⟨db, 7, none⟩ (.slice (some ⟨g1, 0, none⟩) (D'.orders.length + 1) cp1)) lo st db { D' with orders := D.orders ++ [l] } (own db sv (.slice OA D.orders.length oc) V) :=
      ⟨_, _, _, p1, (D2.out.alloc _).trans2 p2 (fun k hk q => D3.out k hk q), fun k hk q => D3.out k hk (p3 k (Nat.lt_of_lt_of_le hk (D2.out.alloc _).size) q)⟩
    exact Step.from (by (repeat (first | exact Kept.refl _ | assumption | refine Kept.alloc ?_ _ | refine Kept.ext ?_ _ | refine Kept.drew ?_ | refine Kept.drewN ?_ _))) p4
  · have ev : refV e = .iface 115 (.agg #[.int .i64 e]) := if_neg he
    go_enter Tryz.func33, Tryz.ntmps33
    go_wp2_with (first | (go_at_call 61; (with_reducible refine (Q.out _ (by (repeat (first | exact Kept.refl _ | assumption | refine Kept.alloc ?_ _ | refine Kept.ext ?_ _ | refine Kept.drew ?_ | refine Kept.drewN ?_ _)))).mono ?_); rintro r w1 ⟨a, b, mo, A, B, capA, capB, rfl, ⟨y1, rfl⟩, hA, hB⟩; have HA := Lib.hid hA; have HB := Lib.hid hB; clear hA hB) | (go_at_call 62; (with_reducible refine (HEX.out _ _ _ _ _ _ _ _ (by (repeat (first | exact Kept.refl _ | assumption | refine Kept.alloc ?_ _ | refine Kept.ext ?_ _ | refine Kept.drew ?_ | refine Kept.drewN ?_ _))) (HA.out.of (by (repeat (first | exact Kept.refl _ | assumption | refine Kept.alloc ?_ _ | refine Kept.ext ?_ _ | refine Kept.drew ?_ | refine Kept.drewN ?_ _)))) (HB.out.of (by (repeat (first | exact Kept.refl _ | assumption | refine Kept.alloc ?_ _ | refine Kept.ext ?_ _ | refine Kept.drew ?_ | refine Kept.drewN ?_ _))))).mono ?_); rintro r w7 ⟨rfl, h1, -⟩; have H1 := Lib.hid h1; clear h1))
    go_ret
    exact ⟨by rw [ev]; rfl, fun q => Kept.trans (by (repeat (first | exact Kept.refl _ | assumption | refine Kept.alloc ?_ _ | refine Kept.ext ?_ _ | refine Kept.drew ?_ | refine Kept.drewN ?_ _))) (H1.out q), fun q => absurd q he⟩
end Go.Proofs.YtnbjealpcjfllaaGreatDoor

namespace Go.Proofs.YtnbjealpcjfllaaGreatDoor
set_option linter.unusedVariables false
set_option linter.unusedSimpArgs false
open Go.ChangeShapes Go.WideShapes Go.ChangeAt Go.RowKit Go.Deep Go.MuLone
theorem tab_at {w w' : World} {n : String} {g : Nat} {k : IntKind} {zs : List Int} (hg : Tryz.prog.globalNamed n = some g) (h : Lib.TabIs Tryz.prog w n k zs) (he : w'.heap[g]? = w.heap[g]?) : Lib.TabIs Tryz.prog w' n k zs := by
  unfold Lib.TabIs World.var? at *
  rw [hg] at *
  simp only [Option.bind_eq_bind, Option.bind_some] at h ⊢
  rw [he]
  exact h
theorem Ld.kb {S : Nat → Prop} {w w' : World} (h : Ld w) (k : KB S w w') (hS : ∀ q, S q → 9 ≤ q) : Ld w' := by
  obtain ⟨m, hm⟩ := h.mx
  obtain ⟨t1, p1, h1⟩ := h.sy
  obtain ⟨t2, p2, h2⟩ := h.rg
  have hz := h.sz
  refine ⟨tab_at gPow h.tab (k.block _ (by show 4 < _; omega) (fun q => absurd (hS _ q) (by decide))), Nat.le_trans hz k.size, ⟨m, k.cell hm (fun q => absurd (hS _ q) (by decide))⟩, ⟨t1, p1, k.cell h1 (fun q => absurd (hS _ q) (by decide))⟩, t2, p2, k.cell h2 (fun q => absurd (hS _ q) (by decide))⟩
theorem Le.kb {S : Nat → Prop} {w w' : World} (h : Le w) (k : KB S w w') (hS : ∀ q, S q → 9 ≤ q) : Le w' :=
  ⟨h.ld.kb k hS, k.cell h.et (fun q => absurd (hS _ q) (by decide))⟩
theorem desk_zero {w : World} {b : Nat} {st : Int} {sv ov : Value} {day left spent budget : Int} (h : w.heap[b]? = some (deskC st sv day left spent budget ov)) (st' : Int) : (w.setCell ⟨b, 0, none⟩ (.int .i32 st')).heap[b]? = some (deskC st' sv day left spent budget ov) := by
  simp [World.setCell, Array.getElem?_modify, h, deskC]
theorem DeskAt.lock {w : World} {lo db : Nat} {st : Int} {D : Dsk} {sv ov : Value} {V : List ShV} (h : DeskAt w lo st db D sv ov V) (st' : Int) : DeskAt (w.setCell ⟨db, 0, none⟩ (.int .i32 st')) lo st' db D sv ov V :=
  h.head0 (kb_cell w db 0 _) (desk_zero h.hd st')
set_option maxRecDepth 100000 in
set_option maxHeartbeats 4000000 in
theorem dDo_any (l : List UInt8) (E : Int) (D2 : Dsk) (lo db : Nat) (D : Dsk) (sv ov : Value) (V : List ShV) (w : World) (h : DeskAt w lo 0 db D sv ov V) (hle : Le w) (h9 : 9 ≤ lo)
    (hdo : ∀ w', DeskAt w' lo 1 db D sv ov V → Le w' → Calls Tryz.prog 33 #[.pointer (some ⟨db, 0, none⟩), .string ⟨l.toArray⟩] w' fun r w'' => Exe w' w'' r lo 1 db (own db sv ov V) E D2) :
    Calls Tryz.prog 12 #[.pointer (some ⟨db, 0, none⟩), .string ⟨l.toArray⟩] w fun r w' => r = .returned (.int .i64 E) ∧ (E ≠ 0 → Kept w w') ∧ (E = 0 → Step w w' lo 0 db D2 (own db sv ov V)) := by
  have hL := h.lock 1
  have kL := kb_cell w db 0 (.int .i32 1)
  have h9' : ∀ q, q = db → 9 ≤ q := fun q e => by have := h.lod; omega
  have leL := hle.kb kL h9'
  have q1 := hdo _ hL leL
  have h9o : ∀ q, own db sv ov V q → 9 ≤ q := fun q e => Nat.le_trans h9 (h.own_lt e).1
  have leX : ∀ w', Exe (w.setCell ⟨db, 0, none⟩ (.int .i32 1)) w' (.returned (refV E)) lo 1 db (own db sv ov V) E D2 → Le w' := fun w' ⟨_, e1, e2⟩ => by
    by_cases hE : E = 0
    · obtain ⟨sv', ov', V', d1, d2, d3⟩ := e2 hE
      exact leL.kb d2 h9o
    · exact leL.on (e1 hE)
  have q2 : ∀ w', Exe (w.setCell ⟨db, 0, none⟩ (.int .i32 1)) w' (.returned (refV E)) lo 1 db (own db sv ov V) E D2 → _ := fun w' e => dreason_any E w' (leX w' e)
  have hX : ∀ w', Exe (w.setCell ⟨db, 0, none⟩ (.int .i32 1)) w' (.returned (refV E)) lo 1 db (own db sv ov V) E D2 → w'.cell? ⟨db, 0, none⟩ = some (.int .i32 1) ∧ w'.frozen? ⟨db, 0, none⟩ = false ∧ (E ≠ 0 → Kept (w.setCell ⟨db, 0, none⟩ (.int .i32 1)) w') ∧ (E = 0 → Step (w.setCell ⟨db, 0, none⟩ (.int .i32 1)) w' lo 1 db D2 (own db sv ov V)) := fun w' ⟨_, e1, e2⟩ => by
    by_cases hE : E = 0
    · obtain ⟨sv', ov', V', d1, d2, d3⟩ := e2 hE
      exact ⟨desk_cell d1.hd rfl, desk_free d1.hd, e1, e2⟩
    · have := hL.on (e1 hE)
      exact ⟨desk_cell this.hd rfl, desk_free this.hd, e1, e2⟩
  have h0 : w.cell? ⟨db, 0, none⟩ = some (.int .i32 0) := desk_cell h.hd rfl
  have f0 : w.frozen? ⟨db, 0, none⟩ = false := desk_free h.hd
  have Q1 := Lib.hid q1
  have Q2 := Lib.hid q2
  have HX := Lib.hid hX
  have H := Lib.hid h
  have HL := Lib.hid hL
  clear q1 q2 hX hdo h hL leL leX hle kL
  go_enter_defers Tryz.func12, Tryz.ntmps12
  go_wp2_with (first | (go_at_call 30; refine (lock_free muLib ⟨db, 0, none⟩ _ h0 f0).mono ?_; rintro e w' ⟨rfl, rfl⟩) | (go_at_call 33; refine Q1.out.mono ?_; rintro e w1 hx; obtain rfl := hx.1; have HE := Lib.hid hx; clear hx) | (go_at_call 32; refine (Q2.out _ HE.out).mono ?_; rintro e w2 ⟨rfl, y2, rfl⟩))
  obtain ⟨g0, g1, e1, e2⟩ := HX.out _ HE.out
  have hlt := World.block_lt_of_cell? w1 _ g0
  have kx : Kept w1 (ext w1 y2) := ⟨y2, rfl⟩
  have g0' := cell_old g0 hlt kx
  have g1' : (ext w1 y2).frozen? ⟨db, 0, none⟩ = false := (World.frozen?_of_block (ext_block _ _ _ hlt)).trans g1
  refine leaves_cons (f := 31) (args := #[.pointer (some ⟨db, 0, none⟩)]) (by simp) (by simp [go_sem]) ?_
  refine (unlock_deferred muLib ⟨db, 0, none⟩ .returning _ g0' g1').mono ?_
  rintro e u' w'' ⟨rfl, rfl, rfl⟩
  refine ⟨_, results_tmp rfl _ _ _, rfl, fun hE => lock_off H.out.hd ((e1 hE).trans kx), fun hE => ?_⟩
  obtain ⟨sv', ov', V', d1, d2, d3⟩ := e2 hE
  have kL := kb_cell w db 0 (.int .i32 1)
  refine ⟨sv', ov', V', (d1.on kx).lock 0, ?_, fun k hk q => d3 k (Nat.lt_of_lt_of_le hk kL.size) q⟩
  exact (((kL.mono fun k _ q => .inl q).trans d2).ext y2).setCell (p := ⟨db, 0, none⟩) (fun _ => .inl rfl) _
end Go.Proofs.YtnbjealpcjfllaaGreatDoor

