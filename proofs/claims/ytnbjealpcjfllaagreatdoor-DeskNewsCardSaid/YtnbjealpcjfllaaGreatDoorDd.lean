/- Contracts: the line of an order, of the program; lists of texts. Conditions: the texts are short. -/
import Derived.Test.YtnbjealpcjfllaaGreatDoorDb
import Derived.Test.YtnbjealpcjfllaaGreatDoorDc
import Derived.Deep.AppendLies
import Derived.WalkSpells
namespace Go.Proofs.YtnbjealpcjfllaaGreatDoor
set_option linter.unusedVariables false
set_option linter.unusedSimpArgs false
open Go.ChangeShapes Go.WideShapes Go.ChangeAt Go.RowKit Go.Deep
theorem ba_cat (a b : List UInt8) : (⟨a.toArray⟩ : ByteArray) ++ ⟨b.toArray⟩ = ⟨(a ++ b).toArray⟩ := by
  apply ByteArray.ext
  rw [ByteArray.data_append]
  exact List.append_toArray a b
theorem ba_size (a : List UInt8) : (⟨a.toArray⟩ : ByteArray).size = a.length := rfl
theorem sum_len (b : Int) (l : List UInt8) : (Lib.itoa (sumB b l)).length ≤ 7 := by
  have b := sumB_bd b l
  unfold Lib.itoa
  rw [if_neg (by omega)]
  exact dig_len 6 _ (by omega)
theorem dline_any (b : Int) (l : List UInt8) (w : World) (hl : l.length ≤ 281474976710656) (h : Ld w) :
    Calls Tryz.prog 51 #[.int .i64 b, .string ⟨l.toArray⟩] w fun e w' => e = .returned (strV (lineB b l)) ∧ Kept w w' := by
  have hs := sumB_bd b l
  have hq := sum_len b l
  have h1 : ∀ w', _ := fun w' => dsum_any b ⟨l.toArray⟩ w' (by rw [ba_size]; omega)
  have h2 : ∀ w', Kept w w' → _ := fun w' hk => sItoa (sumB b l) w' (by omega) (h.on hk)
  change ∀ w', Calls _ _ _ _ (fun e w'' => e = .returned (.int .i64 (sumB b l)) ∧ w' = w'') at h1
  obtain ⟨t, ht⟩ : ∃ t, sumB b l = t := ⟨_, rfl⟩
  have ev : lineB b l = Lib.itoa t ++ 32 :: (l ++ [10]) := by unfold lineB; rw [ht]
  rw [ev]
  rw [ht] at h1 h2 hq
  obtain ⟨z, hz⟩ : ∃ z, Lib.itoa t = z := ⟨_, rfl⟩
  rw [hz] at h2 hq ⊢
  have H1 := Lib.hid h1
  have H2 := Lib.hid h2
  clear h1 h2 ev ht hz hs h
  have hd : (⟨#[32]⟩ : ByteArray) = ⟨([32] : List UInt8).toArray⟩ := rfl
  have hn : (⟨#[10]⟩ : ByteArray) = ⟨([10] : List UInt8).toArray⟩ := rfl
  have hcat := ba_cat
  have hsz := ba_size
  go_enter Tryz.func51, Tryz.ntmps51
  go_wp2_with (first | (go_at_call 22; (with_reducible refine (H1.out _).mono ?_); rintro e w1 ⟨rfl, rfl⟩) | (go_at_call 80; (with_reducible refine (H2.out _ (by (repeat (first | exact Kept.refl _ | assumption | refine Kept.alloc ?_ _ | refine Kept.ext ?_ _ | refine Kept.drew ?_ | refine Kept.drewN ?_ _)))).mono ?_); rintro e w2 ⟨rfl, y2, rfl⟩))
  go_ret
  refine ⟨?_, by (repeat (first | exact Kept.refl _ | assumption | refine Kept.alloc ?_ _ | refine Kept.ext ?_ _ | refine Kept.drew ?_ | refine Kept.drewN ?_ _))⟩
  rfl
theorem ext_eq (l : List UInt8) {f i : Nat} (hf : f ≤ i) (hi : i ≤ l.length) : (⟨l.toArray⟩ : ByteArray).extract f i = ⟨((l.take i).drop f).toArray⟩ := by
  apply ByteArray.ext
  simp [List.drop_take]
theorem lit_cell (X : World) (v : Value) (T : TypeId) : ∀ (j : Nat) (u : Value), [v][j]? = some u → (X.alloc (.cells #[v] T)).cell? ((Addr.mk X.heap.size 0 none).add j) = some u := by
  intro j u h
  cases j with
  | zero =>
    simp only [List.getElem?_cons_zero, Option.some.injEq] at h
    subst h
    have e : (Addr.mk X.heap.size 0 none).add 0 = ⟨X.heap.size, 0, none⟩ := rfl
    rw [e]
    unfold World.cell?
    have h := heap_alloc_new X (.cells #[v] T)
    show (match (X.alloc (.cells #[v] T)).heap[X.heap.size]? with | some (Obj.cells c elem frozen) => c[0]? | x => none) = some v
    rw [h]
    rfl
  | succ j => simp at h
theorem lit_one (v : Value) (h : v.oneCell' = true) : ∀ u ∈ [v], u.oneCell' = true := by
  intro u hu
  simp only [List.mem_singleton] at hu
  subst hu
  exact h
theorem info_St : ((Tryz.prog.info? 9).map fun i => (i.zero, i.size, i.bytes)) = some (some (.string ⟨#[]⟩), 1, 16) := by kernel_rfl
/-- The length of a list. -/
def lenV : Value → Nat
  | .slice _ n _ => n
  | _ => 0
end Go.Proofs.YtnbjealpcjfllaaGreatDoor
