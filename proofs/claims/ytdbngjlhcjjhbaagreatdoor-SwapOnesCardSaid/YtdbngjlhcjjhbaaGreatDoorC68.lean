/- swap.adjacent, Adjacent: two numbers of the diagonal of a triangle. -/
import Derived.Test.YtdbngjlhcjjhbaaGreatDoorC67
set_option linter.unusedSimpArgs false
set_option linter.unusedVariables false
set_option pp.deepTerms false
set_option pp.maxSteps 1500
set_option maxRecDepth 10000
set_option maxHeartbeats 4000000
namespace Go.Proofs.YtdbngjlhcjjhbaaGreatDoor.M
open Go Go.Proofs

/-- Nothing stands beneath the diagonal. -/
def Tri (n : Int) (D : List Int) : Prop := ∀ i k : Nat, (i : Int) < n → k < i → kindM (atM n n n D i k) = 1
/-- The difference that the turn is made of is a number. -/
def OneFin (n : Int) (D : List Int) (a : Nat) : Prop := finiteM (atM n n n D a ((a + 1 : Nat) : Int)) = true ∧ finiteM (addM (atM n n n D ((a + 1 : Nat) : Int) ((a + 1 : Nat) : Int)) (flipM (atM n n n D a a))).1 = true
theorem adjacent_spec {n : Int} {p q z y : Nat} {D E : List Int} (hD : MatOk n n D) (hE : MatOk n n E) (hDI : InD D) (hT : Tri n D) {a : Nat} (ha : ((a + 1 : Nat) : Int) < n) (hf : OneFin n D a)
    {H : MH} {rw rw' : Bool} (hp : hget H p = some ⟨D.map u64, rw⟩) (hq : hget H q = some ⟨E.map u64, rw'⟩) {N : Nat} (hN : (n * n).toNat = N) :
    Spec Tryz.prog 25 [mx n n n p N z, mx n n n q N y, i64 (a : Int)] H fun v H' => v = .tup [mx n n n H.length N N, mx n n n (H.length + 1) N N, i64 0] ∧ H' = H ++ [some ⟨(onesD n D a).map u64, true⟩, some ⟨(onesE n D E a).map u64, true⟩] := by
  obtain ⟨hf1, hf2⟩ := hf
  have hpl := lt_of_hget hp
  have hql := lt_of_hget hq
  have hr1 := hD.r1
  have hDl : D.length = N := hD.len.trans hN
  have hEl : E.length = N := hE.len.trans hN
  have e1 : IntKind.i64.wrap ((a : Int) + 1) = ((a + 1 : Nat) : Int) := by rw [wrap_i64 (by omega)]; omega
  have e2 : IntKind.i64.wrap (((a + 1 : Nat) : Int) + 1) = ((a + 2 : Nat) : Int) := by rw [wrap_i64 (by omega)]; omega
  refine Spec.twoX (v := fun p p' => .tup [mx n n n p N N, mx n n n p' N N, i64 0]) (closed_u64 _) (closed_u64 _) (fun p p' => by simp [Cl, Cls']) (fun π p p' _ _ => by simp [ren, rens]) ?_
  refine enterS Tryz.func25 [.cell 6 25, .cell 7 25, .tmp 8] ?_
  repeat' first | (with_reducible (show W _ _ _ _ _); with_reducible refine go2 ?_) | (with_reducible (show W _ _ _ _ _); with_reducible refine sg2 ?_ ?_ <;> intro _) | (with_reducible (show W _ _ (.code (.region 1 _ true) :: _) _ _); with_reducible refine W_draw [(0, []), (2, []), (1, [2]), (3, []), (4, []), (5, [])] [2] (by kernel_rfl) ?_)
  (with_reducible (show CallK _ _ _ _ _ _ _ _ _ _ _)); with_reducible refine cm2 (clone_spec hD hDl (hget_appL hp)) ?_
  repeat' first | (with_reducible (show W _ _ _ _ _); with_reducible refine go2 ?_) | (with_reducible (show W _ _ _ _ _); with_reducible refine sg2 ?_ ?_ <;> intro _) | (with_reducible (show W _ _ (.code (.region 1 _ true) :: _) _ _); with_reducible refine W_draw [(0, []), (2, []), (1, [2]), (3, []), (4, []), (5, [])] [2] (by kernel_rfl) ?_)
  (with_reducible (show CallK _ _ _ _ _ _ _ _ _ _ _)); with_reducible refine cm2 (clone_spec hE hEl (hget_appL hq)) ?_
  have z1 : IntKind.i64.wrap (((a : Nat) : Int) + 1) < n → kindM (atM n n n D (IntKind.i64.wrap (((a : Nat) : Int) + 1)) a) = 1 := fun _ => by rw [e1]; exact hT (a + 1) a ha (by omega)
  have z2 : IntKind.i64.wrap (((a + 1 : Nat) : Int) + 1) < n → kindM (atM n n n D (IntKind.i64.wrap (((a + 1 : Nat) : Int) + 1)) ((a + 1 : Nat) : Int)) = 1 := fun h => by rw [e2] at h ⊢; exact hT (a + 2) (a + 1) h (by omega)
  repeat' first | (with_reducible (show W _ _ _ _ _); with_reducible refine go2 ?_) | (with_reducible (show W _ _ _ _ _); with_reducible refine sg2 ?_ ?_ <;> intro _) | (with_reducible (show W _ _ (.code (.region 1 _ true) :: _) _ _); with_reducible refine W_draw [(0, []), (2, []), (1, [2]), (3, []), (4, []), (5, [])] [2] (by kernel_rfl) ?_)
  (with_reducible (show CallK _ _ _ _ _ _ _ _ _ _ _)); with_reducible refine cm2 (size_one hD hDl (hget_newL rfl) z1) ?_
  repeat' first | (with_reducible (show W _ _ _ _ _); with_reducible refine go2 ?_) | (with_reducible (show W _ _ _ _ _); with_reducible refine sg2 ?_ ?_ <;> intro _) | (with_reducible (show W _ _ (.code (.region 1 _ true) :: _) _ _); with_reducible refine W_draw [(0, []), (2, []), (1, [2]), (3, []), (4, []), (5, [])] [2] (by kernel_rfl) ?_)
  (with_reducible (show CallK _ _ _ _ _ _ _ _ _ _ _)); with_reducible refine cm2 (size_one hD hDl (hget_newL rfl) z2) ?_
  repeat' first | (with_reducible (show W _ _ _ _ _); with_reducible refine go2 ?_) | (with_reducible (show W _ _ _ _ _); with_reducible refine sg2 ?_ ?_ <;> intro _) | (with_reducible (show W _ _ (.code (.region 1 _ true) :: _) _ _); with_reducible refine W_draw [(0, []), (2, []), (1, [2]), (3, []), (4, []), (5, [])] [2] (by kernel_rfl) ?_)
  (with_reducible (show CallK _ _ _ _ _ _ _ _ _ _ _)); with_reducible refine cm2 (ones_spec hD hE hDI ha hf1 hf2 (hget_newL rfl) (hget_newL rfl) (by omega) hN) ?_
  clear z1 z2
  repeat' first | (with_reducible (show W _ _ _ _ _); with_reducible refine go2 ?_) | (with_reducible (show W _ _ _ _ _); with_reducible refine sg2 ?_ ?_ <;> intro _) | (with_reducible (show W _ _ _ _ _); with_reducible refine sc2 ?_ ?_ <;> intro _) | (with_reducible (show W _ _ (.code (.region 1 _ true) :: _) _ _); with_reducible refine W_draw [(0, []), (2, []), (1, [2]), (3, []), (4, []), (5, [])] [2] (by kernel_rfl) ?_)
  refine ⟨H.length + 4, H.length + 5, rfl, by omega, by omega, by omega, hget_newL rfl, hget_newL rfl, fun r hr => ?_⟩
  rw [List.getElem?_append_left hr]
end Go.Proofs.YtdbngjlhcjjhbaaGreatDoor.M
