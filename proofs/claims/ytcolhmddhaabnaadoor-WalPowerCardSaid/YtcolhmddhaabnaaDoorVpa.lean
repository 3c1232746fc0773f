import Derived.Test.YtcolhmddhaabnaaDoorHbase
set_option maxRecDepth 1000000
set_option maxHeartbeats 4000000
set_option linter.unusedVariables false
namespace Go.Proofs.YtcolhmddhaabnaaDoor
open Go.H

theorem fits26 : Fits P 26 := fits_of Tryd.func26 (by kernel_rfl) (by kernel_rfl)
/- 26 (*bulla/disk.Disk).Arm
-/
def V26 (K : Value → Hp → Prop) (a0 : Addr) (a1 : Int) (h : Hp) : Prop :=
bIf (decide ((a1 : Int) < 0)) (
ld h ⟨0, 0, none⟩ fun v1 =>
K v1 h) (
st h ⟨a0.block, a0.off + 8, none⟩ (.bool true) fun h2 =>
st h2 ⟨a0.block, a0.off + 9, none⟩ (.int .i64 a1) fun h3 =>
K .nilIface h3)
noncomputable def C26 : Code := match Tryd.f26.body with | some c => c | none => .skip
def L26 : Nat → Plan := fun q => Plan.nil
theorem L26_ok : plansOk P L26 C26 = true := by kernel_rfl
theorem W26 (K : Value → Hp → Prop) (a0 : Addr) (a1 : Int) (h : Hp) : (V26 K a0 a1 h) =
  allP (obls P L26 (fun q => false) (fun _ => []) (fun _ _ _ _ => False) 1 [] C26 (endQ P Tryd.f26 K) ++ [awp P L26 (fun q => false) (fun _ => []) (fun _ _ _ _ => False) 1 [] C26 (endQ P Tryd.f26 K) (frameL [(.pointer (some a0)), (.int .i64 a1)] 15) h]) := by kernel_rfl
theorem S26 {K : Value → Hp → Prop} {a0 : Addr} {a1 : Int} {h : Hp} (e : V26 K a0 a1 h) : Spec P 26 #[(.pointer (some a0)), (.int .i64 a1)] h K :=
  spec_of_awp (args := [(.pointer (some a0)), (.int .i64 a1)]) follows_P Tryd.func26 (by kernel_rfl : Tryd.f26.body = some C26) fits26 L26_ok (Nat.le_of_ble_eq_true (by kernel_rfl)) (Eq.mp (W26 K a0 a1 h) e)

end Go.Proofs.YtcolhmddhaabnaaDoor
