import Derived.Test.YtcolhmddhaabnaaDoorHbase
set_option maxRecDepth 1000000
set_option maxHeartbeats 4000000
set_option linter.unusedVariables false
namespace Go.Proofs.YtcolhmddhaabnaaDoor
open Go.H

theorem fits59 : Fits P 59 := fits_of Tryd.func59 (by kernel_rfl) (by kernel_rfl)
/- 59 bulla/wal.good
-/
def V59_s15 (K : Value → Hp → Prop) (y0 : Int) (y1 : Option Addr) (y1n y1c : Nat) (y4 : Addr) (y6 : Int) (y7 : Int) (h : Hp) : Prop :=
oRd P (Instr.sliceAt 24 (.slice y1 y1n y1c) (some (.int .i64 16)) (some (.int .i64 (IntKind.i64.wrap (16 + y7)))) none) h fun v31 =>
asSl v31 fun a32 l33 c34 =>
Spec P 37 #[(.slice a32 l33 c34)] h fun v35 h36 =>
asSl v35 fun a37 l38 c39 =>
nw h36 (.cells #[(.int .i64 0), (.int .i64 0), (.slice none 0 0)] 86) fun r40 h41 =>
st h41 ⟨r40, 0, none⟩ (.int .i64 y6) fun h42 =>
st h42 ⟨r40, 1, none⟩ (.int .i64 y0) fun h43 =>
st h43 ⟨r40, 2, none⟩ (.slice a37 l38 c39) fun h44 =>
ld h44 ⟨r40, 0, none⟩ fun v45 =>
asIn .i64 v45 fun n46 =>
ld h44 ⟨r40, 1, none⟩ fun v47 =>
asIn .i64 v47 fun n48 =>
ld h44 ⟨r40, 2, none⟩ fun v49 =>
asSl v49 fun a50 l51 c52 =>
ld h44 ⟨r40, 2, none⟩ fun v53 =>
asSl v53 fun a54 l55 c56 =>
oRd P (Instr.sliceAt 24 (.slice y1 y1n y1c) (some (.int .i64 8)) (some (.int .i64 16)) none) h44 fun v57 =>
asSl v57 fun a58 l59 c60 =>
Spec P 63 #[(.int .i64 y6), (.int .i64 y7), (.slice a54 l55 c56)] h44 fun v61 h62 =>
asSl v61 fun a63 l64 c65 =>
(rd P (Instr.loadAt 86 (.pointer (some ⟨r40, 0, none⟩))) h62 = rd P (Instr.loadAt 86 (.pointer (some ⟨r40, 0, none⟩))) h44) ∧ (
Spec P 76 #[(.slice a63 l64 c65), (.slice a58 l59 c60)] h62 fun v66 h67 =>
asBo v66 fun b68 =>
(rd P (Instr.loadAt 86 (.pointer (some ⟨r40, 0, none⟩))) h67 = rd P (Instr.loadAt 86 (.pointer (some ⟨r40, 0, none⟩))) h44) ∧ (
st h67 y4 (.int .i64 n46) fun h69 =>
st h69 ⟨y4.block, y4.off + 1, none⟩ (.int .i64 n48) fun h70 =>
st h70 ⟨y4.block, y4.off + 2, none⟩ (.slice a50 l51 c52) fun h71 =>
ld h71 y4 fun v72 =>
asIn .i64 v72 fun n73 =>
ld h71 ⟨y4.block, y4.off + 1, none⟩ fun v74 =>
asIn .i64 v74 fun n75 =>
ld h71 ⟨y4.block, y4.off + 2, none⟩ fun v76 =>
asSl v76 fun a77 l78 c79 =>
K (.tuple #[(.agg #[(.int .i64 n73), (.int .i64 n75), (.slice a77 l78 c79)]), (.bool b68)]) h71))
def V59_s30 (K : Value → Hp → Prop) (y0 : Int) (y1 : Option Addr) (y1n y1c : Nat) (y4 : Addr) (y6 : Int) (y7 : Int) (y29 : Bool) (h : Hp) : Prop :=
bIf y29 (
st h y4 (.int .i64 0) fun h20 =>
st h20 ⟨y4.block, y4.off + 1, none⟩ (.int .i64 0) fun h21 =>
st h21 ⟨y4.block, y4.off + 2, none⟩ (.slice none 0 0) fun h22 =>
ld h22 y4 fun v23 =>
asIn .i64 v23 fun n24 =>
ld h22 ⟨y4.block, y4.off + 1, none⟩ fun v25 =>
asIn .i64 v25 fun n26 =>
ld h22 ⟨y4.block, y4.off + 2, none⟩ fun v27 =>
asSl v27 fun a28 l29 c30 =>
K (.tuple #[(.agg #[(.int .i64 n24), (.int .i64 n26), (.slice a28 l29 c30)]), (.bool false)]) h22) (
V59_s15 K y0 y1 y1n y1c y4 y6 y7 h)
def V59 (K : Value → Hp → Prop) (a0 : Int) (a1 : Option Addr) (a1n a1c : Nat) (h : Hp) : Prop :=
nw h (.cells #[(.int .i64 0), (.int .i64 0), (.slice none 0 0)] 86) fun r1 h2 =>
bIf (decide ((((a1n : Nat) : Int) : Int) < 16)) (
st h2 ⟨r1, 0, none⟩ (.int .i64 0) fun h3 =>
st h3 ⟨r1, 1, none⟩ (.int .i64 0) fun h4 =>
st h4 ⟨r1, 2, none⟩ (.slice none 0 0) fun h5 =>
ld h5 ⟨r1, 0, none⟩ fun v6 =>
asIn .i64 v6 fun n7 =>
ld h5 ⟨r1, 1, none⟩ fun v8 =>
asIn .i64 v8 fun n9 =>
ld h5 ⟨r1, 2, none⟩ fun v10 =>
asSl v10 fun a11 l12 c13 =>
K (.tuple #[(.agg #[(.int .i64 n7), (.int .i64 n9), (.slice a11 l12 c13)]), (.bool false)]) h5) (
Spec P 75 #[(.slice a1 a1n a1c), (.int .i64 0)] h2 fun v14 h15 =>
asIn .i64 v14 fun n16 =>
Spec P 75 #[(.slice a1 a1n a1c), (.int .i64 4)] h15 fun v17 h18 =>
asIn .i64 v17 fun n19 =>
bIf (decide ((n16 : Int) < 1)) (
V59_s30 K a0 a1 a1n a1c ⟨r1, 0, none⟩ n16 n19 true h18) (
bIf (decide ((n16 : Int) > 2147483647)) (
V59_s30 K a0 a1 a1n a1c ⟨r1, 0, none⟩ n16 n19 true h18) (
V59_s30 K a0 a1 a1n a1c ⟨r1, 0, none⟩ n16 n19 (decide ((n19 : Int) > (IntKind.i64.wrap (((a1n : Nat) : Int) - 16)))) h18)))
noncomputable def C59 : Code := match Tryd.f59.body with | some c => c | none => .skip
def L59 : Nat → Plan := fun q => (selP 7 (.ro 0 (.ro 1 (.ro 2 (.ro 3 (.ro 4 (.ro 6 (.ro 7 (.ef 5 (.ef 8 (.ef 9 (.ro 10 .nil) .nil) .nil) .nil)))))))) Plan.nil q)
theorem L59_ok : plansOk P L59 C59 = true := by kernel_rfl
theorem W59 (K : Value → Hp → Prop) (a0 : Int) (a1 : Option Addr) (a1n a1c : Nat) (h : Hp) : (V59 K a0 a1 a1n a1c h) =
  allP (obls P L59 (fun q => false) (fun _ => []) (fun _ _ _ _ => False) 1 [] C59 (endQ P Tryd.f59 K) ++ [awp P L59 (fun q => false) (fun _ => []) (fun _ _ _ _ => False) 1 [] C59 (endQ P Tryd.f59 K) (frameL [(.int .i64 a0), (.slice a1 a1n a1c)] 48) h]) := by kernel_rfl
theorem S59 {K : Value → Hp → Prop} {a0 : Int} {a1 : Option Addr} {a1n a1c : Nat} {h : Hp} (e : V59 K a0 a1 a1n a1c h) : Spec P 59 #[(.int .i64 a0), (.slice a1 a1n a1c)] h K :=
  spec_of_awp (args := [(.int .i64 a0), (.slice a1 a1n a1c)]) follows_P Tryd.func59 (by kernel_rfl : Tryd.f59.body = some C59) fits59 L59_ok (Nat.le_of_ble_eq_true (by kernel_rfl)) (Eq.mp (W59 K a0 a1 a1n a1c h) e)

theorem fits60 : Fits P 60 := fits_of Tryd.func60 (by kernel_rfl) (by kernel_rfl)
/- 60 bulla/wal.next
-/
def V60_s15 (K : Value → Hp → Prop) (y0 : Option Addr) (y0n y0c : Nat) (y1 : Int) (y2 : Int) (y8 : Int) (h : Hp) : Prop :=
oRd P (Instr.sliceAt 24 (.slice y0 y0n y0c) (some (.int .i64 20)) (some (.int .i64 (IntKind.i64.wrap (20 + y8)))) none) h fun v4 =>
asSl v4 fun a5 l6 c7 =>
oRd P (Instr.sliceAt 24 (.slice y0 y0n y0c) (some (.int .i64 12)) (some (.int .i64 20)) none) h fun v8 =>
asSl v8 fun a9 l10 c11 =>
Spec P 63 #[(.int .i64 y1), (.int .i64 y2), (.slice a5 l6 c7)] h fun v12 h13 =>
asSl v12 fun a14 l15 c16 =>
Spec P 76 #[(.slice a14 l15 c16), (.slice a9 l10 c11)] h13 fun v17 h18 =>
asBo v17 fun b19 =>
K (.tuple #[(.slice a5 l6 c7), (.bool b19)]) h18
def V60_s30 (K : Value → Hp → Prop) (y0 : Option Addr) (y0n y0c : Nat) (y1 : Int) (y2 : Int) (y8 : Int) (y35 : Bool) (h : Hp) : Prop :=
bIf y35 (
K (.tuple #[(.slice none 0 0), (.bool false)]) h) (
V60_s15 K y0 y0n y0c y1 y2 y8 h)
def V60_s3 (K : Value → Hp → Prop) (y0 : Option Addr) (y0n y0c : Nat) (y1 : Int) (y2 : Int) (h : Hp) : Prop :=
Spec P 75 #[(.slice y0 y0n y0c), (.int .i64 8)] h fun v1 h2 =>
asIn .i64 v1 fun n3 =>
bIf (decide ((n3 : Int) > 16384)) (
V60_s30 K y0 y0n y0c y1 y2 n3 true h2) (
V60_s30 K y0 y0n y0c y1 y2 n3 (decide ((n3 : Int) > (IntKind.i64.wrap (((y0n : Nat) : Int) - 20)))) h2)
def V60_s6 (K : Value → Hp → Prop) (y0 : Option Addr) (y0n y0c : Nat) (y1 : Int) (y2 : Int) (y24 : Bool) (h : Hp) : Prop :=
bIf y24 (
K (.tuple #[(.slice none 0 0), (.bool false)]) h) (
V60_s3 K y0 y0n y0c y1 y2 h)
def V60 (K : Value → Hp → Prop) (a0 : Option Addr) (a0n a0c : Nat) (a1 : Int) (a2 : Int) (h : Hp) : Prop :=
bIf (decide ((((a0n : Nat) : Int) : Int) < 20)) (
V60_s6 K a0 a0n a0c a1 a2 true h) (
Spec P 75 #[(.slice a0 a0n a0c), (.int .i64 0)] h fun v20 h21 =>
asIn .i64 v20 fun n22 =>
bIf (n22 != a1) (
V60_s6 K a0 a0n a0c a1 a2 true h21) (
Spec P 75 #[(.slice a0 a0n a0c), (.int .i64 4)] h21 fun v23 h24 =>
asIn .i64 v23 fun n25 =>
V60_s6 K a0 a0n a0c a1 a2 (n25 != a2) h24))
noncomputable def C60 : Code := match Tryd.f60.body with | some c => c | none => .skip
def L60 : Nat → Plan := fun q => (selP 7 (.ro 0 (.ro 1 (.ro 2 (.ro 3 (.ro 5 (.ro 6 (.ef 4 (.ef 7 (.ro 8 (.ro 9 .nil)) .nil) .nil))))))) Plan.nil q)
theorem L60_ok : plansOk P L60 C60 = true := by kernel_rfl
theorem W60 (K : Value → Hp → Prop) (a0 : Option Addr) (a0n a0c : Nat) (a1 : Int) (a2 : Int) (h : Hp) : (V60 K a0 a0n a0c a1 a2 h) =
  allP (obls P L60 (fun q => false) (fun _ => []) (fun _ _ _ _ => False) 1 [] C60 (endQ P Tryd.f60 K) ++ [awp P L60 (fun q => false) (fun _ => []) (fun _ _ _ _ => False) 1 [] C60 (endQ P Tryd.f60 K) (frameL [(.slice a0 a0n a0c), (.int .i64 a1), (.int .i64 a2)] 48) h]) := by kernel_rfl
theorem S60 {K : Value → Hp → Prop} {a0 : Option Addr} {a0n a0c : Nat} {a1 : Int} {a2 : Int} {h : Hp} (e : V60 K a0 a0n a0c a1 a2 h) : Spec P 60 #[(.slice a0 a0n a0c), (.int .i64 a1), (.int .i64 a2)] h K :=
  spec_of_awp (args := [(.slice a0 a0n a0c), (.int .i64 a1), (.int .i64 a2)]) follows_P Tryd.func60 (by kernel_rfl : Tryd.f60.body = some C60) fits60 L60_ok (Nat.le_of_ble_eq_true (by kernel_rfl)) (Eq.mp (W60 K a0 a0n a0c a1 a2 h) e)

theorem fits61 : Fits P 61 := fits_of Tryd.func61 (by kernel_rfl) (by kernel_rfl)
/- 61 slices.Concat[[]byte,byte]
  path 58: loop 0:slices 3:size 9: 10: 11:
  path 250: loop 6:newslice 25: 26: 27:
-/
def V61_58 (I58 : List Nat → Option Addr → Nat → Nat → Int → Option Addr → Nat → Nat → Int → Int → Hp → Prop) (I250 : List Nat → Option Addr → Nat → Nat → Option Addr → Nat → Nat → Int → Int → Hp → Prop) (K : Value → Hp → Prop) (k58 : Nat) (y0 : Option Addr) (y0n y0c : Nat) (y3 : Int) (y9 : Option Addr) (y9n y9c : Nat) (y10 : Int) (y11 : Int) (h : Hp) : Prop :=
bIf (decide ((y11 : Int) < y10)) (
ixA P 44 (.slice y9 y9n y9c) (.int .i64 y11) h fun d1 =>
ld h d1 fun v2 =>
asSl v2 fun a3 l4 c5 =>
bIf (decide (((IntKind.i64.wrap (y3 + ((l4 : Nat) : Int))) : Int) < 0)) (
False) (
∃ m, m < k58 ∧ I58 [m] y0 y0n y0c (IntKind.i64.wrap (y3 + ((l4 : Nat) : Int))) y9 y9n y9c y10 (IntKind.i64.wrap (y11 + 1)) h)) (
Spec P 77 #[(.slice none 0 0), (.int .i64 y3)] h fun v6 h7 =>
asSl v6 fun a8 l9 c10 =>
∃ n, I250 [n] a8 l9 c10 y0 y0n y0c ((y0n : Nat) : Int) 0 h7)
def V61_250 (I58 : List Nat → Option Addr → Nat → Nat → Int → Option Addr → Nat → Nat → Int → Int → Hp → Prop) (I250 : List Nat → Option Addr → Nat → Nat → Option Addr → Nat → Nat → Int → Int → Hp → Prop) (K : Value → Hp → Prop) (k250 : Nat) (y6 : Option Addr) (y6n y6c : Nat) (y25 : Option Addr) (y25n y25c : Nat) (y26 : Int) (y27 : Int) (h : Hp) : Prop :=
bIf (decide ((y27 : Int) < y26)) (
ixA P 44 (.slice y25 y25n y25c) (.int .i64 y27) h fun d11 =>
ld h d11 fun v12 =>
asSl v12 fun a13 l14 c15 =>
oNx P (builtin .append #[24, 24] 24 #[false, false] #[(.slice y6 y6n y6c), (.slice a13 l14 c15)]) h fun v16 h17 =>
asSl v16 fun a18 l19 c20 =>
∃ m, m < k250 ∧ I250 [m] a18 l19 c20 y25 y25n y25c y26 (IntKind.i64.wrap (y27 + 1)) h17) (
K (.slice y6 y6n y6c) h)
def V61 (I58 : List Nat → Option Addr → Nat → Nat → Int → Option Addr → Nat → Nat → Int → Int → Hp → Prop) (I250 : List Nat → Option Addr → Nat → Nat → Option Addr → Nat → Nat → Int → Int → Hp → Prop) (K : Value → Hp → Prop) (a0 : Option Addr) (a0n a0c : Nat) (h : Hp) : Prop :=
∃ n, I58 [n] a0 a0n a0c 0 a0 a0n a0c ((a0n : Nat) : Int) 0 h
noncomputable def C61 : Code := match Tryd.f61.body with | some c => c | none => .skip
def L61 : Nat → Plan := fun q => Plan.nil
def T61 : Nat → List Value := fun q => (selT 58 [(.slice none 0 0), .nilIface, .nilIface, (.int .i64 0), .nilIface, .nilIface, .nilIface, .nilIface, .nilIface, (.slice none 0 0), (.int .i64 0), (.int .i64 0), .nilIface, .nilIface, .nilIface, .nilIface, .nilIface, .nilIface, .nilIface, .nilIface, .nilIface, .nilIface, .nilIface, .nilIface, .nilIface, .nilIface, .nilIface, .nilIface, .nilIface, .nilIface, .nilIface, .nilIface, .nilIface, .nilIface, .nilIface, .nilIface] (selT 250 [.nilIface, .nilIface, .nilIface, .nilIface, .nilIface, .nilIface, (.slice none 0 0), .nilIface, .nilIface, .nilIface, .nilIface, .nilIface, .nilIface, .nilIface, .nilIface, .nilIface, .nilIface, .nilIface, .nilIface, .nilIface, .nilIface, .nilIface, .nilIface, .nilIface, .nilIface, (.slice none 0 0), (.int .i64 0), (.int .i64 0), .nilIface, .nilIface, .nilIface, .nilIface, .nilIface, .nilIface, .nilIface, .nilIface] [] q) q)
def G61 (I58 : List Nat → Option Addr → Nat → Nat → Int → Option Addr → Nat → Nat → Int → Int → Hp → Prop) (I250 : List Nat → Option Addr → Nat → Nat → Option Addr → Nat → Nat → Int → Int → Hp → Prop) : Inv := fun q => (selI 58 (fun ns l h => asSl (l.getD 0 undef) fun y0 y0n y0c => asIn .i64 (l.getD 3 undef) fun y3 => asSl (l.getD 9 undef) fun y9 y9n y9c => asIn .i64 (l.getD 10 undef) fun y10 => asIn .i64 (l.getD 11 undef) fun y11 => I58 ns y0 y0n y0c y3 y9 y9n y9c y10 y11 h) (selI 250 (fun ns l h => asSl (l.getD 6 undef) fun y6 y6n y6c => asSl (l.getD 25 undef) fun y25 y25n y25c => asIn .i64 (l.getD 26 undef) fun y26 => asIn .i64 (l.getD 27 undef) fun y27 => I250 ns y6 y6n y6c y25 y25n y25c y26 y27 h) (fun _ _ _ => False) q) q)
theorem L61_ok : plansOk P L61 C61 = true := by kernel_rfl
theorem W61 (I58 : List Nat → Option Addr → Nat → Nat → Int → Option Addr → Nat → Nat → Int → Int → Hp → Prop) (I250 : List Nat → Option Addr → Nat → Nat → Option Addr → Nat → Nat → Int → Int → Hp → Prop) (K : Value → Hp → Prop) (a0 : Option Addr) (a0n a0c : Nat) (h : Hp) : ((∀ k58 : Nat, (∀ (y0 : Option Addr) (y0n y0c : Nat) (y1 : Value) (y2 : Value) (y3 : Int) (y4 : Value) (y5 : Value) (y6 : Value) (y7 : Value) (y8 : Value) (y9 : Option Addr) (y9n y9c : Nat) (y10 : Int) (y11 : Int) (y12 : Value) (y13 : Value) (y14 : Value) (y15 : Value) (y16 : Value) (y17 : Value) (y18 : Value) (y19 : Value) (y20 : Value) (y21 : Value) (y22 : Value) (y23 : Value) (y24 : Value) (y25 : Value) (y26 : Value) (y27 : Value) (y28 : Value) (y29 : Value) (y30 : Value) (y31 : Value) (y32 : Value) (y33 : Value) (y34 : Value) (y35 : Value) (h : Hp), I58 [k58] y0 y0n y0c y3 y9 y9n y9c y10 y11 h → V61_58 I58 I250 K k58 y0 y0n y0c y3 y9 y9n y9c y10 y11 h)) ∧ (∀ k250 : Nat, (∀ (y0 : Value) (y1 : Value) (y2 : Value) (y3 : Value) (y4 : Value) (y5 : Value) (y6 : Option Addr) (y6n y6c : Nat) (y7 : Value) (y8 : Value) (y9 : Value) (y10 : Value) (y11 : Value) (y12 : Value) (y13 : Value) (y14 : Value) (y15 : Value) (y16 : Value) (y17 : Value) (y18 : Value) (y19 : Value) (y20 : Value) (y21 : Value) (y22 : Value) (y23 : Value) (y24 : Value) (y25 : Option Addr) (y25n y25c : Nat) (y26 : Int) (y27 : Int) (y28 : Value) (y29 : Value) (y30 : Value) (y31 : Value) (y32 : Value) (y33 : Value) (y34 : Value) (y35 : Value) (h : Hp), I250 [k250] y6 y6n y6c y25 y25n y25c y26 y27 h → V61_250 I58 I250 K k250 y6 y6n y6c y25 y25n y25c y26 y27 h)) ∧ V61 I58 I250 K a0 a0n a0c h) =
  allP (obls P L61 (fun q => false) T61 (G61 I58 I250) 1 [] C61 (endQ P Tryd.f61 K) ++ [awp P L61 (fun q => false) T61 (G61 I58 I250) 1 [] C61 (endQ P Tryd.f61 K) (frameL [(.slice a0 a0n a0c)] 36) h]) := by kernel_rfl
theorem S61 (I58 : List Nat → Option Addr → Nat → Nat → Int → Option Addr → Nat → Nat → Int → Int → Hp → Prop) (I250 : List Nat → Option Addr → Nat → Nat → Option Addr → Nat → Nat → Int → Int → Hp → Prop) {K : Value → Hp → Prop} {a0 : Option Addr} {a0n a0c : Nat} {h : Hp} (o58 : ∀ (k58 : Nat) (y0 : Option Addr) (y0n y0c : Nat) (y3 : Int) (y9 : Option Addr) (y9n y9c : Nat) (y10 : Int) (y11 : Int) (h : Hp), I58 [k58] y0 y0n y0c y3 y9 y9n y9c y10 y11 h → V61_58 I58 I250 K k58 y0 y0n y0c y3 y9 y9n y9c y10 y11 h) (o250 : ∀ (k250 : Nat) (y6 : Option Addr) (y6n y6c : Nat) (y25 : Option Addr) (y25n y25c : Nat) (y26 : Int) (y27 : Int) (h : Hp), I250 [k250] y6 y6n y6c y25 y25n y25c y26 y27 h → V61_250 I58 I250 K k250 y6 y6n y6c y25 y25n y25c y26 y27 h) (e : V61 I58 I250 K a0 a0n a0c h) : Spec P 61 #[(.slice a0 a0n a0c)] h K :=
  spec_of_awp (args := [(.slice a0 a0n a0c)]) follows_P Tryd.func61 (by kernel_rfl : Tryd.f61.body = some C61) fits61 L61_ok (Nat.le_of_ble_eq_true (by kernel_rfl)) (Eq.mp (W61 I58 I250 K a0 a0n a0c h) ⟨(fun k58 => (fun y0 y0n y0c _ _ y3 _ _ _ _ _ y9 y9n y9c y10 y11 _ _ _ _ _ _ _ _ _ _ _ _ _ _ _ _ _ _ _ _ _ _ _ _ h hi => o58 k58 y0 y0n y0c y3 y9 y9n y9c y10 y11 h hi)), (fun k250 => (fun _ _ _ _ _ _ y6 y6n y6c _ _ _ _ _ _ _ _ _ _ _ _ _ _ _ _ _ _ y25 y25n y25c y26 y27 _ _ _ _ _ _ _ _ h hi => o250 k250 y6 y6n y6c y25 y25n y25c y26 y27 h hi)), e⟩)

theorem fits62 : Fits P 62 := fits_of Tryd.func62 (by kernel_rfl) (by kernel_rfl)
/- 62 bulla/wal.number
-/
def V62 (K : Value → Hp → Prop) (a0 : Int) (h : Hp) : Prop :=
nw h (.cells #[(.int .u8 (IntKind.u8.wrap (sShr .i64 a0 24))), (.int .u8 (IntKind.u8.wrap (sShr .i64 a0 16))), (.int .u8 (IntKind.u8.wrap (sShr .i64 a0 8))), (.int .u8 (IntKind.u8.wrap a0))] 5) fun r1 h2 =>
K (.slice (some ⟨r1, 0, none⟩) 4 4) h2
noncomputable def C62 : Code := match Tryd.f62.body with | some c => c | none => .skip
def L62 : Nat → Plan := fun q => Plan.nil
theorem L62_ok : plansOk P L62 C62 = true := by kernel_rfl
theorem W62 (K : Value → Hp → Prop) (a0 : Int) (h : Hp) : (V62 K a0 h) =
  allP (obls P L62 (fun q => false) (fun _ => []) (fun _ _ _ _ => False) 1 [] C62 (endQ P Tryd.f62 K) ++ [awp P L62 (fun q => false) (fun _ => []) (fun _ _ _ _ => False) 1 [] C62 (endQ P Tryd.f62 K) (frameL [(.int .i64 a0)] 15) h]) := by kernel_rfl
theorem S62 {K : Value → Hp → Prop} {a0 : Int} {h : Hp} (e : V62 K a0 h) : Spec P 62 #[(.int .i64 a0)] h K :=
  spec_of_awp (args := [(.int .i64 a0)]) follows_P Tryd.func62 (by kernel_rfl : Tryd.f62.body = some C62) fits62 L62_ok (Nat.le_of_ble_eq_true (by kernel_rfl)) (Eq.mp (W62 K a0 h) e)

theorem fits63 : Fits P 63 := fits_of Tryd.func63 (by kernel_rfl) (by kernel_rfl)
/- 63 bulla/wal.sum
-/
def V63 (K : Value → Hp → Prop) (a0 : Int) (a1 : Int) (a2 : Option Addr) (a2n a2c : Nat) (h : Hp) : Prop :=
Spec P 62 #[(.int .i64 a0)] h fun v1 h2 =>
asSl v1 fun a3 l4 c5 =>
Spec P 62 #[(.int .i64 a1)] h2 fun v6 h7 =>
asSl v6 fun a8 l9 c10 =>
nw h7 (.cells #[(.slice a3 l4 c5), (.slice a8 l9 c10), (.slice a2 a2n a2c)] 24) fun r11 h12 =>
Spec P 78 #[(.slice (some ⟨r11, 0, none⟩) 3 3)] h12 fun v13 h14 =>
asAg v13 fun q15 =>
unc q15 fun v16 q17 =>
asIn .u8 v16 fun n18 =>
unc q17 fun v19 q20 =>
asIn .u8 v19 fun n21 =>
unc q20 fun v22 q23 =>
asIn .u8 v22 fun n24 =>
unc q23 fun v25 q26 =>
asIn .u8 v25 fun n27 =>
unc q26 fun v28 q29 =>
asIn .u8 v28 fun n30 =>
unc q29 fun v31 q32 =>
asIn .u8 v31 fun n33 =>
unc q32 fun v34 q35 =>
asIn .u8 v34 fun n36 =>
unc q35 fun v37 q38 =>
asIn .u8 v37 fun n39 =>
unc q38 fun v40 q41 =>
asIn .u8 v40 fun n42 =>
unc q41 fun v43 q44 =>
asIn .u8 v43 fun n45 =>
unc q44 fun v46 q47 =>
asIn .u8 v46 fun n48 =>
unc q47 fun v49 q50 =>
asIn .u8 v49 fun n51 =>
unc q50 fun v52 q53 =>
asIn .u8 v52 fun n54 =>
unc q53 fun v55 q56 =>
asIn .u8 v55 fun n57 =>
unc q56 fun v58 q59 =>
asIn .u8 v58 fun n60 =>
unc q59 fun v61 q62 =>
asIn .u8 v61 fun n63 =>
unc q62 fun v64 q65 =>
asIn .u8 v64 fun n66 =>
unc q65 fun v67 q68 =>
asIn .u8 v67 fun n69 =>
unc q68 fun v70 q71 =>
asIn .u8 v70 fun n72 =>
unc q71 fun v73 q74 =>
asIn .u8 v73 fun n75 =>
unc q74 fun v76 q77 =>
asIn .u8 v76 fun n78 =>
unc q77 fun v79 q80 =>
asIn .u8 v79 fun n81 =>
unc q80 fun v82 q83 =>
asIn .u8 v82 fun n84 =>
unc q83 fun v85 q86 =>
asIn .u8 v85 fun n87 =>
unc q86 fun v88 q89 =>
asIn .u8 v88 fun n90 =>
unc q89 fun v91 q92 =>
asIn .u8 v91 fun n93 =>
unc q92 fun v94 q95 =>
asIn .u8 v94 fun n96 =>
unc q95 fun v97 q98 =>
asIn .u8 v97 fun n99 =>
unc q98 fun v100 q101 =>
asIn .u8 v100 fun n102 =>
unc q101 fun v103 q104 =>
asIn .u8 v103 fun n105 =>
unc q104 fun v106 q107 =>
asIn .u8 v106 fun n108 =>
unc q107 fun v109 q110 =>
asIn .u8 v109 fun n111 =>
nilL q110 <|
nw h14 (.cells #[(.int .u8 0), (.int .u8 0), (.int .u8 0), (.int .u8 0), (.int .u8 0), (.int .u8 0), (.int .u8 0), (.int .u8 0), (.int .u8 0), (.int .u8 0), (.int .u8 0), (.int .u8 0), (.int .u8 0), (.int .u8 0), (.int .u8 0), (.int .u8 0), (.int .u8 0), (.int .u8 0), (.int .u8 0), (.int .u8 0), (.int .u8 0), (.int .u8 0), (.int .u8 0), (.int .u8 0), (.int .u8 0), (.int .u8 0), (.int .u8 0), (.int .u8 0), (.int .u8 0), (.int .u8 0), (.int .u8 0), (.int .u8 0)] 122) fun r112 h113 =>
st h113 ⟨r112, 0, none⟩ (.int .u8 n18) fun h114 =>
st h114 ⟨r112, 1, none⟩ (.int .u8 n21) fun h115 =>
st h115 ⟨r112, 2, none⟩ (.int .u8 n24) fun h116 =>
st h116 ⟨r112, 3, none⟩ (.int .u8 n27) fun h117 =>
st h117 ⟨r112, 4, none⟩ (.int .u8 n30) fun h118 =>
st h118 ⟨r112, 5, none⟩ (.int .u8 n33) fun h119 =>
st h119 ⟨r112, 6, none⟩ (.int .u8 n36) fun h120 =>
st h120 ⟨r112, 7, none⟩ (.int .u8 n39) fun h121 =>
st h121 ⟨r112, 8, none⟩ (.int .u8 n42) fun h122 =>
st h122 ⟨r112, 9, none⟩ (.int .u8 n45) fun h123 =>
st h123 ⟨r112, 10, none⟩ (.int .u8 n48) fun h124 =>
st h124 ⟨r112, 11, none⟩ (.int .u8 n51) fun h125 =>
st h125 ⟨r112, 12, none⟩ (.int .u8 n54) fun h126 =>
st h126 ⟨r112, 13, none⟩ (.int .u8 n57) fun h127 =>
st h127 ⟨r112, 14, none⟩ (.int .u8 n60) fun h128 =>
st h128 ⟨r112, 15, none⟩ (.int .u8 n63) fun h129 =>
st h129 ⟨r112, 16, none⟩ (.int .u8 n66) fun h130 =>
st h130 ⟨r112, 17, none⟩ (.int .u8 n69) fun h131 =>
st h131 ⟨r112, 18, none⟩ (.int .u8 n72) fun h132 =>
st h132 ⟨r112, 19, none⟩ (.int .u8 n75) fun h133 =>
st h133 ⟨r112, 20, none⟩ (.int .u8 n78) fun h134 =>
st h134 ⟨r112, 21, none⟩ (.int .u8 n81) fun h135 =>
st h135 ⟨r112, 22, none⟩ (.int .u8 n84) fun h136 =>
st h136 ⟨r112, 23, none⟩ (.int .u8 n87) fun h137 =>
st h137 ⟨r112, 24, none⟩ (.int .u8 n90) fun h138 =>
st h138 ⟨r112, 25, none⟩ (.int .u8 n93) fun h139 =>
st h139 ⟨r112, 26, none⟩ (.int .u8 n96) fun h140 =>
st h140 ⟨r112, 27, none⟩ (.int .u8 n99) fun h141 =>
st h141 ⟨r112, 28, none⟩ (.int .u8 n102) fun h142 =>
st h142 ⟨r112, 29, none⟩ (.int .u8 n105) fun h143 =>
st h143 ⟨r112, 30, none⟩ (.int .u8 n108) fun h144 =>
st h144 ⟨r112, 31, none⟩ (.int .u8 n111) fun h145 =>
oRd P (Instr.sliceAt 122 (.pointer (some ⟨r112, 0, none⟩)) none (some (.int .i64 8)) none) h145 fun v146 =>
asSl v146 fun a147 l148 c149 =>
K (.slice a147 l148 c149) h145
noncomputable def C63 : Code := match Tryd.f63.body with | some c => c | none => .skip
def L63 : Nat → Plan := fun q => Plan.nil
theorem L63_ok : plansOk P L63 C63 = true := by kernel_rfl
theorem W63 (K : Value → Hp → Prop) (a0 : Int) (a1 : Int) (a2 : Option Addr) (a2n a2c : Nat) (h : Hp) : (V63 K a0 a1 a2 a2n a2c h) =
  allP (obls P L63 (fun q => false) (fun _ => []) (fun _ _ _ _ => False) 1 [] C63 (endQ P Tryd.f63 K) ++ [awp P L63 (fun q => false) (fun _ => []) (fun _ _ _ _ => False) 1 [] C63 (endQ P Tryd.f63 K) (frameL [(.int .i64 a0), (.int .i64 a1), (.slice a2 a2n a2c)] 16) h]) := by kernel_rfl
theorem S63 {K : Value → Hp → Prop} {a0 : Int} {a1 : Int} {a2 : Option Addr} {a2n a2c : Nat} {h : Hp} (e : V63 K a0 a1 a2 a2n a2c h) : Spec P 63 #[(.int .i64 a0), (.int .i64 a1), (.slice a2 a2n a2c)] h K :=
  spec_of_awp (args := [(.int .i64 a0), (.int .i64 a1), (.slice a2 a2n a2c)]) follows_P Tryd.func63 (by kernel_rfl : Tryd.f63.body = some C63) fits63 L63_ok (Nat.le_of_ble_eq_true (by kernel_rfl)) (Eq.mp (W63 K a0 a1 a2 a2n a2c h) e)

theorem fits64 : Fits P 64 := fits_of Tryd.func64 (by kernel_rfl) (by kernel_rfl)
/- 64 (*bulla/wal.Log).clear
-/
def V64 (K : Value → Hp → Prop) (a0 : Addr) (a1 : Int) (h : Hp) : Prop :=
ld h a0 fun v1 =>
asPt v1 fun p2 =>
Spec P 10 #[(.pointer p2), (.int .i64 a1), (.int .i64 0)] h fun v3 h4 =>
nlW P 31 true v3 fun v5 =>
asBo v5 fun b6 =>
bIf b6 (
K v3 h4) (
ld h4 a0 fun v7 =>
asPt v7 fun p8 =>
Spec P 12 #[(.pointer p8)] h4 fun v9 h10 =>
K v9 h10)
noncomputable def C64 : Code := match Tryd.f64.body with | some c => c | none => .skip
def L64 : Nat → Plan := fun q => Plan.nil
theorem L64_ok : plansOk P L64 C64 = true := by kernel_rfl
theorem W64 (K : Value → Hp → Prop) (a0 : Addr) (a1 : Int) (h : Hp) : (V64 K a0 a1 h) =
  allP (obls P L64 (fun q => false) (fun _ => []) (fun _ _ _ _ => False) 1 [] C64 (endQ P Tryd.f64 K) ++ [awp P L64 (fun q => false) (fun _ => []) (fun _ _ _ _ => False) 1 [] C64 (endQ P Tryd.f64 K) (frameL [(.pointer (some a0)), (.int .i64 a1)] 20) h]) := by kernel_rfl
theorem S64 {K : Value → Hp → Prop} {a0 : Addr} {a1 : Int} {h : Hp} (e : V64 K a0 a1 h) : Spec P 64 #[(.pointer (some a0)), (.int .i64 a1)] h K :=
  spec_of_awp (args := [(.pointer (some a0)), (.int .i64 a1)]) follows_P Tryd.func64 (by kernel_rfl : Tryd.f64.body = some C64) fits64 L64_ok (Nat.le_of_ble_eq_true (by kernel_rfl)) (Eq.mp (W64 K a0 a1 h) e)

theorem fits75 : Fits P 75 := fits_of Tryd.func75 (by kernel_rfl) (by kernel_rfl)
/- 75 bulla/wal.numbered
-/
def V75 (K : Value → Hp → Prop) (a0 : Option Addr) (a0n a0c : Nat) (a1 : Int) (h : Hp) : Prop :=
ixA P 24 (.slice a0 a0n a0c) (.int .i64 a1) h fun d1 =>
ld h d1 fun v2 =>
asIn .u8 v2 fun n3 =>
ixA P 24 (.slice a0 a0n a0c) (.int .i64 (IntKind.i64.wrap (a1 + 1))) h fun d4 =>
ld h d4 fun v5 =>
asIn .u8 v5 fun n6 =>
ixA P 24 (.slice a0 a0n a0c) (.int .i64 (IntKind.i64.wrap (a1 + 2))) h fun d7 =>
ld h d7 fun v8 =>
asIn .u8 v8 fun n9 =>
ixA P 24 (.slice a0 a0n a0c) (.int .i64 (IntKind.i64.wrap (a1 + 3))) h fun d10 =>
ld h d10 fun v11 =>
asIn .u8 v11 fun n12 =>
K (.int .i64 (bOr .i64 (bOr .i64 (bOr .i64 (sShl .i64 (IntKind.i64.wrap n3) 24) (sShl .i64 (IntKind.i64.wrap n6) 16)) (sShl .i64 (IntKind.i64.wrap n9) 8)) (IntKind.i64.wrap n12))) h
noncomputable def C75 : Code := match Tryd.f75.body with | some c => c | none => .skip
def L75 : Nat → Plan := fun q => (selP 1 (.ro 0 (.ro 1 (.ro 2 (.ro 3 (.ro 4 (.ro 5 (.ro 6 (.ro 7 (.ro 8 (.ro 9 (.ro 10 (.ro 11 (.ro 12 (.ro 13 (.ro 14 (.ro 15 (.ro 16 (.ro 17 (.ro 18 (.ro 19 (.ro 20 (.ro 21 (.ro 22 (.ro 23 (.ro 24 (.ro 25 (.ro 26 (.ro 27 (.ro 28 (.ro 29 .nil)))))))))))))))))))))))))))))) Plan.nil q)
theorem L75_ok : plansOk P L75 C75 = true := by kernel_rfl
theorem W75 (K : Value → Hp → Prop) (a0 : Option Addr) (a0n a0c : Nat) (a1 : Int) (h : Hp) : (V75 K a0 a0n a0c a1 h) =
  allP (obls P L75 (fun q => false) (fun _ => []) (fun _ _ _ _ => False) 1 [] C75 (endQ P Tryd.f75 K) ++ [awp P L75 (fun q => false) (fun _ => []) (fun _ _ _ _ => False) 1 [] C75 (endQ P Tryd.f75 K) (frameL [(.slice a0 a0n a0c), (.int .i64 a1)] 34) h]) := by kernel_rfl
theorem S75 {K : Value → Hp → Prop} {a0 : Option Addr} {a0n a0c : Nat} {a1 : Int} {h : Hp} (e : V75 K a0 a0n a0c a1 h) : Spec P 75 #[(.slice a0 a0n a0c), (.int .i64 a1)] h K :=
  spec_of_awp (args := [(.slice a0 a0n a0c), (.int .i64 a1)]) follows_P Tryd.func75 (by kernel_rfl : Tryd.f75.body = some C75) fits75 L75_ok (Nat.le_of_ble_eq_true (by kernel_rfl)) (Eq.mp (W75 K a0 a0n a0c a1 h) e)

theorem fits76 : Fits P 76 := fits_of Tryd.func76 (by kernel_rfl) (by kernel_rfl)
/- 76 slices.Equal[[]byte,byte]
  path 58: loop 0:s1 1:s2 12: 13:
-/
def V76_58 (I58 : List Nat → Option Addr → Nat → Nat → Option Addr → Nat → Nat → Int → Int → Hp → Prop) (K : Value → Hp → Prop) (k58 : Nat) (y0 : Option Addr) (y0n y0c : Nat) (y1 : Option Addr) (y1n y1c : Nat) (y12 : Int) (y13 : Int) (h : Hp) : Prop :=
bIf (decide ((y13 : Int) < y12)) (
ixA P 24 (.slice y0 y0n y0c) (.int .i64 y13) h fun d1 =>
ld h d1 fun v2 =>
asIn .u8 v2 fun n3 =>
ixA P 24 (.slice y1 y1n y1c) (.int .i64 y13) h fun d4 =>
ld h d4 fun v5 =>
asIn .u8 v5 fun n6 =>
bIf (n3 != n6) (
K (.bool false) h) (
∃ m, m < k58 ∧ I58 [m] y0 y0n y0c y1 y1n y1c y12 (IntKind.i64.wrap (y13 + 1)) h)) (
K (.bool true) h)
def V76 (I58 : List Nat → Option Addr → Nat → Nat → Option Addr → Nat → Nat → Int → Int → Hp → Prop) (K : Value → Hp → Prop) (a0 : Option Addr) (a0n a0c : Nat) (a1 : Option Addr) (a1n a1c : Nat) (h : Hp) : Prop :=
bIf (((a0n : Nat) : Int) != ((a1n : Nat) : Int)) (
K (.bool false) h) (
∃ n, I58 [n] a0 a0n a0c a1 a1n a1c ((a0n : Nat) : Int) 0 h)
noncomputable def C76 : Code := match Tryd.f76.body with | some c => c | none => .skip
def L76 : Nat → Plan := fun q => (selP 6 (.ro 0 (.ro 1 (.ro 2 (.ro 3 (.ro 4 (.ro 5 (.ro 6 (.ro 7 (.ro 8 .nil))))))))) Plan.nil q)
def T76 : Nat → List Value := fun q => (selT 58 [(.slice none 0 0), (.slice none 0 0), .nilIface, .nilIface, .nilIface, .nilIface, .nilIface, .nilIface, .nilIface, .nilIface, .nilIface, .nilIface, (.int .i64 0), (.int .i64 0), .nilIface, .nilIface, .nilIface, .nilIface, .nilIface, .nilIface, .nilIface, .nilIface, .nilIface, .nilIface, .nilIface, .nilIface] [] q)
def G76 (I58 : List Nat → Option Addr → Nat → Nat → Option Addr → Nat → Nat → Int → Int → Hp → Prop) : Inv := fun q => (selI 58 (fun ns l h => asSl (l.getD 0 undef) fun y0 y0n y0c => asSl (l.getD 1 undef) fun y1 y1n y1c => asIn .i64 (l.getD 12 undef) fun y12 => asIn .i64 (l.getD 13 undef) fun y13 => I58 ns y0 y0n y0c y1 y1n y1c y12 y13 h) (fun _ _ _ => False) q)
theorem L76_ok : plansOk P L76 C76 = true := by kernel_rfl
theorem W76 (I58 : List Nat → Option Addr → Nat → Nat → Option Addr → Nat → Nat → Int → Int → Hp → Prop) (K : Value → Hp → Prop) (a0 : Option Addr) (a0n a0c : Nat) (a1 : Option Addr) (a1n a1c : Nat) (h : Hp) : ((∀ k58 : Nat, (∀ (y0 : Option Addr) (y0n y0c : Nat) (y1 : Option Addr) (y1n y1c : Nat) (y2 : Value) (y3 : Value) (y4 : Value) (y5 : Value) (y6 : Value) (y7 : Value) (y8 : Value) (y9 : Value) (y10 : Value) (y11 : Value) (y12 : Int) (y13 : Int) (y14 : Value) (y15 : Value) (y16 : Value) (y17 : Value) (y18 : Value) (y19 : Value) (y20 : Value) (y21 : Value) (y22 : Value) (y23 : Value) (y24 : Value) (y25 : Value) (h : Hp), I58 [k58] y0 y0n y0c y1 y1n y1c y12 y13 h → V76_58 I58 K k58 y0 y0n y0c y1 y1n y1c y12 y13 h)) ∧ V76 I58 K a0 a0n a0c a1 a1n a1c h) =
  allP (obls P L76 (fun q => false) T76 (G76 I58) 1 [] C76 (endQ P Tryd.f76 K) ++ [awp P L76 (fun q => false) T76 (G76 I58) 1 [] C76 (endQ P Tryd.f76 K) (frameL [(.slice a0 a0n a0c), (.slice a1 a1n a1c)] 26) h]) := by kernel_rfl
theorem S76 (I58 : List Nat → Option Addr → Nat → Nat → Option Addr → Nat → Nat → Int → Int → Hp → Prop) {K : Value → Hp → Prop} {a0 : Option Addr} {a0n a0c : Nat} {a1 : Option Addr} {a1n a1c : Nat} {h : Hp} (o58 : ∀ (k58 : Nat) (y0 : Option Addr) (y0n y0c : Nat) (y1 : Option Addr) (y1n y1c : Nat) (y12 : Int) (y13 : Int) (h : Hp), I58 [k58] y0 y0n y0c y1 y1n y1c y12 y13 h → V76_58 I58 K k58 y0 y0n y0c y1 y1n y1c y12 y13 h) (e : V76 I58 K a0 a0n a0c a1 a1n a1c h) : Spec P 76 #[(.slice a0 a0n a0c), (.slice a1 a1n a1c)] h K :=
  spec_of_awp (args := [(.slice a0 a0n a0c), (.slice a1 a1n a1c)]) follows_P Tryd.func76 (by kernel_rfl : Tryd.f76.body = some C76) fits76 L76_ok (Nat.le_of_ble_eq_true (by kernel_rfl)) (Eq.mp (W76 I58 K a0 a0n a0c a1 a1n a1c h) ⟨(fun k58 => (fun y0 y0n y0c y1 y1n y1c _ _ _ _ _ _ _ _ _ _ y12 y13 _ _ _ _ _ _ _ _ _ _ _ _ h hi => o58 k58 y0 y0n y0c y1 y1n y1c y12 y13 h hi)), e⟩)

theorem fits77 : Fits P 77 := fits_of Tryd.func77 (by kernel_rfl) (by kernel_rfl)
/- 77 slices.Grow[[]byte,byte]
-/
def V77_s3 (K : Value → Hp → Prop) (y0 : Option Addr) (y0n y0c : Nat) (y1 : Int) (h : Hp) : Prop :=
bIf (decide (((IntKind.i64.wrap (y1 - (IntKind.i64.wrap (((y0c : Nat) : Int) - ((y0n : Nat) : Int))))) : Int) > 0)) (
oRd P (Instr.sliceAt 24 (.slice y0 y0n y0c) none (some (.int .i64 ((y0c : Nat) : Int))) none) h fun v1 =>
asSl v1 fun a2 l3 c4 =>
oNx P (builtin .append #[24, 3] 24 #[false, false] #[(.slice a2 l3 c4), (.int .i64 (IntKind.i64.wrap (y1 - (IntKind.i64.wrap (((y0c : Nat) : Int) - ((y0n : Nat) : Int))))))]) h fun v5 h6 =>
asSl v5 fun a7 l8 c9 =>
oRd P (Instr.sliceAt 24 (.slice a7 l8 c9) none (some (.int .i64 ((y0n : Nat) : Int))) none) h6 fun v10 =>
asSl v10 fun a11 l12 c13 =>
K (.slice a11 l12 c13) h6) (
K (.slice y0 y0n y0c) h)
def V77 (K : Value → Hp → Prop) (a0 : Option Addr) (a0n a0c : Nat) (a1 : Int) (h : Hp) : Prop :=
bIf (decide ((a1 : Int) < 0)) (
False) (
V77_s3 K a0 a0n a0c a1 h)
noncomputable def C77 : Code := match Tryd.f77.body with | some c => c | none => .skip
def L77 : Nat → Plan := fun q => Plan.nil
theorem L77_ok : plansOk P L77 C77 = true := by kernel_rfl
theorem W77 (K : Value → Hp → Prop) (a0 : Option Addr) (a0n a0c : Nat) (a1 : Int) (h : Hp) : (V77 K a0 a0n a0c a1 h) =
  allP (obls P L77 (fun q => false) (fun _ => []) (fun _ _ _ _ => False) 1 [] C77 (endQ P Tryd.f77 K) ++ [awp P L77 (fun q => false) (fun _ => []) (fun _ _ _ _ => False) 1 [] C77 (endQ P Tryd.f77 K) (frameL [(.slice a0 a0n a0c), (.int .i64 a1)] 27) h]) := by kernel_rfl
theorem S77 {K : Value → Hp → Prop} {a0 : Option Addr} {a0n a0c : Nat} {a1 : Int} {h : Hp} (e : V77 K a0 a0n a0c a1 h) : Spec P 77 #[(.slice a0 a0n a0c), (.int .i64 a1)] h K :=
  spec_of_awp (args := [(.slice a0 a0n a0c), (.int .i64 a1)]) follows_P Tryd.func77 (by kernel_rfl : Tryd.f77.body = some C77) fits77 L77_ok (Nat.le_of_ble_eq_true (by kernel_rfl)) (Eq.mp (W77 K a0 a0n a0c a1 h) e)

end Go.Proofs.YtcolhmddhaabnaaDoor
