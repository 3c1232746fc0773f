import Derived.Test.YtcolhmddhaabnaaDoorHbase
set_option maxRecDepth 1000000
set_option maxHeartbeats 4000000
set_option linter.unusedVariables false
namespace Go.Proofs.YtcolhmddhaabnaaDoor
open Go.H

theorem fits9 : Fits P 9 := fits_of Tryd.func9 (by kernel_rfl) (by kernel_rfl)
/- 9 bulla/disk.New
-/
def V9_s3 (K : Value → Hp → Prop) (y0 : Int) (h : Hp) : Prop :=
nw h (.cells #[(.int .i64 y0), (.slice none 0 0), (.slice none 0 0), (.slice none 0 0), (.slice none 0 0), (.slice none 0 0), (.slice none 0 0), (.slice none 0 0), (.bool false), (.int .i64 0), (.bool false)] 77) fun r2 h3 =>
K (.tuple #[(.pointer (some ⟨r2, 0, none⟩)), .nilIface]) h3
def V9_s6 (K : Value → Hp → Prop) (y0 : Int) (y9 : Bool) (h : Hp) : Prop :=
bIf y9 (
ld h ⟨0, 0, none⟩ fun v1 =>
K (.tuple #[(.pointer none), v1]) h) (
V9_s3 K y0 h)
def V9 (K : Value → Hp → Prop) (a0 : Int) (h : Hp) : Prop :=
bIf (decide ((a0 : Int) < 0)) (
V9_s6 K a0 true h) (
V9_s6 K a0 (decide ((a0 : Int) > 1048576)) h)
noncomputable def C9 : Code := match Tryd.f9.body with | some c => c | none => .skip
def L9 : Nat → Plan := fun q => (selP 2 (.ro 0 (.ro 1 (.ro 2 .nil))) Plan.nil q)
theorem L9_ok : plansOk P L9 C9 = true := by kernel_rfl
theorem W9 (K : Value → Hp → Prop) (a0 : Int) (h : Hp) : (V9 K a0 h) =
  allP (obls P L9 (fun q => false) (fun _ => []) (fun _ _ _ _ => False) 1 [] C9 (endQ P Tryd.f9 K) ++ [awp P L9 (fun q => false) (fun _ => []) (fun _ _ _ _ => False) 1 [] C9 (endQ P Tryd.f9 K) (frameL [(.int .i64 a0)] 14) h]) := by kernel_rfl
theorem S9 {K : Value → Hp → Prop} {a0 : Int} {h : Hp} (e : V9 K a0 h) : Spec P 9 #[(.int .i64 a0)] h K :=
  spec_of_awp (args := [(.int .i64 a0)]) follows_P Tryd.func9 (by kernel_rfl : Tryd.f9.body = some C9) fits9 L9_ok (Nat.le_of_ble_eq_true (by kernel_rfl)) (Eq.mp (W9 K a0 h) e)

theorem fits10 : Fits P 10 := fits_of Tryd.func10 (by kernel_rfl) (by kernel_rfl)
/- 10 (*bulla/disk.Disk).Cut
-/
def V10_s3 (K : Value → Hp → Prop) (y0 : Addr) (y1 : Int) (y2 : Int) (h : Hp) : Prop :=
Spec P 36 #[(.pointer (some y0)), (.agg #[(.int .i64 y1), (.int .i64 y2), (.slice none 0 0), (.bool true)])] h fun v5 h6 =>
K v5 h6
def V10_s6 (K : Value → Hp → Prop) (y0 : Addr) (y1 : Int) (y2 : Int) (y20 : Bool) (h : Hp) : Prop :=
bIf y20 (
ld h ⟨0, 0, none⟩ fun v4 =>
K v4 h) (
V10_s3 K y0 y1 y2 h)
def V10 (K : Value → Hp → Prop) (a0 : Addr) (a1 : Int) (a2 : Int) (h : Hp) : Prop :=
Spec P 35 #[(.int .i64 a1)] h fun v1 h2 =>
asBo v1 fun b3 =>
bIf (!b3) (
V10_s6 K a0 a1 a2 true h2) (
bIf (decide ((a2 : Int) < 0)) (
V10_s6 K a0 a1 a2 true h2) (
Spec P 15 #[(.pointer (some a0)), (.int .i64 a1)] h2 fun v7 h8 =>
asIn .i64 v7 fun n9 =>
V10_s6 K a0 a1 a2 (decide ((a2 : Int) > n9)) h8))
noncomputable def C10 : Code := match Tryd.f10.body with | some c => c | none => .skip
def L10 : Nat → Plan := fun q => Plan.nil
theorem L10_ok : plansOk P L10 C10 = true := by kernel_rfl
theorem W10 (K : Value → Hp → Prop) (a0 : Addr) (a1 : Int) (a2 : Int) (h : Hp) : (V10 K a0 a1 a2 h) =
  allP (obls P L10 (fun q => false) (fun _ => []) (fun _ _ _ _ => False) 1 [] C10 (endQ P Tryd.f10 K) ++ [awp P L10 (fun q => false) (fun _ => []) (fun _ _ _ _ => False) 1 [] C10 (endQ P Tryd.f10 K) (frameL [(.pointer (some a0)), (.int .i64 a1), (.int .i64 a2)] 27) h]) := by kernel_rfl
theorem S10 {K : Value → Hp → Prop} {a0 : Addr} {a1 : Int} {a2 : Int} {h : Hp} (e : V10 K a0 a1 a2 h) : Spec P 10 #[(.pointer (some a0)), (.int .i64 a1), (.int .i64 a2)] h K :=
  spec_of_awp (args := [(.pointer (some a0)), (.int .i64 a1), (.int .i64 a2)]) follows_P Tryd.func10 (by kernel_rfl : Tryd.f10.body = some C10) fits10 L10_ok (Nat.le_of_ble_eq_true (by kernel_rfl)) (Eq.mp (W10 K a0 a1 a2 h) e)

theorem fits11 : Fits P 11 := fits_of Tryd.func11 (by kernel_rfl) (by kernel_rfl)
/- 11 (*bulla/disk.Disk).Write
-/
def V11_s7 (K : Value → Hp → Prop) (y0 : Addr) (y1 : Int) (y2 : Int) (y3 : Option Addr) (y3n y3c : Nat) (h : Hp) : Prop :=
Spec P 37 #[(.slice y3 y3n y3c)] h fun v12 h13 =>
asSl v12 fun a14 l15 c16 =>
Spec P 36 #[(.pointer (some y0)), (.agg #[(.int .i64 y1), (.int .i64 y2), (.slice a14 l15 c16), (.bool false)])] h13 fun v17 h18 =>
K v17 h18
def V11_s28 (K : Value → Hp → Prop) (y0 : Addr) (y1 : Int) (y2 : Int) (y3 : Option Addr) (y3n y3c : Nat) (y9 : Int) (y18 : Bool) (h : Hp) : Prop :=
bIf y18 (
ld h ⟨0, 0, none⟩ fun v7 =>
K v7 h) (
Spec P 16 #[(.pointer (some y0))] h fun v8 h9 =>
asIn .i64 v8 fun n10 =>
bIf (decide ((y9 : Int) > (mxI 0 n10))) (
ld h9 ⟨1, 0, none⟩ fun v11 =>
K v11 h9) (
V11_s7 K y0 y1 y2 y3 y3n y3c h9))
def V11 (K : Value → Hp → Prop) (a0 : Addr) (a1 : Int) (a2 : Int) (a3 : Option Addr) (a3n a3c : Nat) (h : Hp) : Prop :=
Spec P 15 #[(.pointer (some a0)), (.int .i64 a1)] h fun v1 h2 =>
asIn .i64 v1 fun n3 =>
Spec P 35 #[(.int .i64 a1)] h2 fun v4 h5 =>
asBo v4 fun b6 =>
bIf (!b6) (
V11_s28 K a0 a1 a2 a3 a3n a3c (IntKind.i64.wrap ((IntKind.i64.wrap (a2 + ((a3n : Nat) : Int))) - n3)) true h5) (
bIf (decide ((a2 : Int) < 0)) (
V11_s28 K a0 a1 a2 a3 a3n a3c (IntKind.i64.wrap ((IntKind.i64.wrap (a2 + ((a3n : Nat) : Int))) - n3)) true h5) (
Spec P 15 #[(.pointer (some a0)), (.int .i64 a1)] h5 fun v19 h20 =>
asIn .i64 v19 fun n21 =>
V11_s28 K a0 a1 a2 a3 a3n a3c (IntKind.i64.wrap ((IntKind.i64.wrap (a2 + ((a3n : Nat) : Int))) - n3)) (decide ((a2 : Int) > n21)) h20))
noncomputable def C11 : Code := match Tryd.f11.body with | some c => c | none => .skip
def L11 : Nat → Plan := fun q => Plan.nil
theorem L11_ok : plansOk P L11 C11 = true := by kernel_rfl
theorem W11 (K : Value → Hp → Prop) (a0 : Addr) (a1 : Int) (a2 : Int) (a3 : Option Addr) (a3n a3c : Nat) (h : Hp) : (V11 K a0 a1 a2 a3 a3n a3c h) =
  allP (obls P L11 (fun q => false) (fun _ => []) (fun _ _ _ _ => False) 1 [] C11 (endQ P Tryd.f11 K) ++ [awp P L11 (fun q => false) (fun _ => []) (fun _ _ _ _ => False) 1 [] C11 (endQ P Tryd.f11 K) (frameL [(.pointer (some a0)), (.int .i64 a1), (.int .i64 a2), (.slice a3 a3n a3c)] 48) h]) := by kernel_rfl
theorem S11 {K : Value → Hp → Prop} {a0 : Addr} {a1 : Int} {a2 : Int} {a3 : Option Addr} {a3n a3c : Nat} {h : Hp} (e : V11 K a0 a1 a2 a3 a3n a3c h) : Spec P 11 #[(.pointer (some a0)), (.int .i64 a1), (.int .i64 a2), (.slice a3 a3n a3c)] h K :=
  spec_of_awp (args := [(.pointer (some a0)), (.int .i64 a1), (.int .i64 a2), (.slice a3 a3n a3c)]) follows_P Tryd.func11 (by kernel_rfl : Tryd.f11.body = some C11) fits11 L11_ok (Nat.le_of_ble_eq_true (by kernel_rfl)) (Eq.mp (W11 K a0 a1 a2 a3 a3n a3c h) e)

theorem fits12 : Fits P 12 := fits_of Tryd.func12 (by kernel_rfl) (by kernel_rfl)
/- 12 (*bulla/disk.Disk).Sync
-/
def V12 (K : Value → Hp → Prop) (a0 : Addr) (h : Hp) : Prop :=
Spec P 38 #[(.pointer (some a0))] h fun v1 h2 =>
nlW P 31 true v1 fun v3 =>
asBo v3 fun b4 =>
bIf b4 (
K v1 h2) (
ld h2 ⟨a0.block, a0.off + 4, none⟩ fun v5 =>
asSl v5 fun a6 l7 c8 =>
ld h2 ⟨a0.block, a0.off + 5, none⟩ fun v9 =>
asSl v9 fun a10 l11 c12 =>
ld h2 ⟨a0.block, a0.off + 6, none⟩ fun v13 =>
asSl v13 fun a14 l15 c16 =>
Spec P 39 #[(.agg #[(.slice a6 l7 c8), (.slice a10 l11 c12), (.slice a14 l15 c16)])] h2 fun v17 h18 =>
asAg v17 fun q19 =>
unc q19 fun v20 q21 =>
asSl v20 fun a22 l23 c24 =>
unc q21 fun v25 q26 =>
asSl v25 fun a27 l28 c29 =>
unc q26 fun v30 q31 =>
asSl v30 fun a32 l33 c34 =>
nilL q31 <|
st h18 ⟨a0.block, a0.off + 1, none⟩ (.slice a22 l23 c24) fun h35 =>
st h35 ⟨a0.block, a0.off + 2, none⟩ (.slice a27 l28 c29) fun h36 =>
st h36 ⟨a0.block, a0.off + 3, none⟩ (.slice a32 l33 c34) fun h37 =>
st h37 ⟨a0.block, a0.off + 7, none⟩ (.slice none 0 0) fun h38 =>
K .nilIface h38)
noncomputable def C12 : Code := match Tryd.f12.body with | some c => c | none => .skip
def L12 : Nat → Plan := fun q => Plan.nil
theorem L12_ok : plansOk P L12 C12 = true := by kernel_rfl
theorem W12 (K : Value → Hp → Prop) (a0 : Addr) (h : Hp) : (V12 K a0 h) =
  allP (obls P L12 (fun q => false) (fun _ => []) (fun _ _ _ _ => False) 1 [] C12 (endQ P Tryd.f12 K) ++ [awp P L12 (fun q => false) (fun _ => []) (fun _ _ _ _ => False) 1 [] C12 (endQ P Tryd.f12 K) (frameL [(.pointer (some a0))] 20) h]) := by kernel_rfl
theorem S12 {K : Value → Hp → Prop} {a0 : Addr} {h : Hp} (e : V12 K a0 h) : Spec P 12 #[(.pointer (some a0))] h K :=
  spec_of_awp (args := [(.pointer (some a0))]) follows_P Tryd.func12 (by kernel_rfl : Tryd.f12.body = some C12) fits12 L12_ok (Nat.le_of_ble_eq_true (by kernel_rfl)) (Eq.mp (W12 K a0 h) e)

theorem fits13 : Fits P 13 := fits_of Tryd.func13 (by kernel_rfl) (by kernel_rfl)
/- 13 (*bulla/disk.Disk).Read
-/
def V13 (K : Value → Hp → Prop) (a0 : Addr) (a1 : Int) (h : Hp) : Prop :=
Spec P 35 #[(.int .i64 a1)] h fun v1 h2 =>
asBo v1 fun b3 =>
bIf (!b3) (
ld h2 ⟨0, 0, none⟩ fun v4 =>
K (.tuple #[(.slice none 0 0), v4]) h2) (
ld h2 ⟨a0.block, a0.off + 10, none⟩ fun v5 =>
asBo v5 fun b6 =>
bIf b6 (
ld h2 ⟨2, 0, none⟩ fun v7 =>
K (.tuple #[(.slice none 0 0), v7]) h2) (
ixA P 74 (.pointer (some ⟨a0.block, a0.off + 4, none⟩)) (.int .i64 a1) h2 fun d8 =>
ld h2 d8 fun v9 =>
asSl v9 fun a10 l11 c12 =>
Spec P 37 #[(.slice a10 l11 c12)] h2 fun v13 h14 =>
asSl v13 fun a15 l16 c17 =>
K (.tuple #[(.slice a15 l16 c17), .nilIface]) h14))
noncomputable def C13 : Code := match Tryd.f13.body with | some c => c | none => .skip
def L13 : Nat → Plan := fun q => (selP 4 (.ro 0 (.ro 1 (.ro 2 .nil))) (selP 2 (.ro 0 (.ro 1 (.ro 2 .nil))) Plan.nil q) q)
theorem L13_ok : plansOk P L13 C13 = true := by kernel_rfl
theorem W13 (K : Value → Hp → Prop) (a0 : Addr) (a1 : Int) (h : Hp) : (V13 K a0 a1 h) =
  allP (obls P L13 (fun q => false) (fun _ => []) (fun _ _ _ _ => False) 1 [] C13 (endQ P Tryd.f13 K) ++ [awp P L13 (fun q => false) (fun _ => []) (fun _ _ _ _ => False) 1 [] C13 (endQ P Tryd.f13 K) (frameL [(.pointer (some a0)), (.int .i64 a1)] 24) h]) := by kernel_rfl
theorem S13 {K : Value → Hp → Prop} {a0 : Addr} {a1 : Int} {h : Hp} (e : V13 K a0 a1 h) : Spec P 13 #[(.pointer (some a0)), (.int .i64 a1)] h K :=
  spec_of_awp (args := [(.pointer (some a0)), (.int .i64 a1)]) follows_P Tryd.func13 (by kernel_rfl : Tryd.f13.body = some C13) fits13 L13_ok (Nat.le_of_ble_eq_true (by kernel_rfl)) (Eq.mp (W13 K a0 a1 h) e)

theorem fits14 : Fits P 14 := fits_of Tryd.func14 (by kernel_rfl) (by kernel_rfl)
/- 14 (*bulla/disk.Disk).Crash
  path 26: loop 0:d 1:i 2: 3: 22: 23: 24:
-/
def V14_s27035 (I26 : List Nat → Addr → Int → Int → Int → Option Addr → Nat → Nat → Int → Int → Hp → Prop) (K : Value → Hp → Prop) (n26 : Nat) (y0 : Addr) (y1 : Int) (y2 : Int) (y3 : Int) (y9 : Addr) (y22 : Option Addr) (y22n y22c : Nat) (y23 : Int) (y24 : Int) (y51 : Bool) (h : Hp) : Prop :=
bIf y51 (
ld h ⟨y9.block, y9.off + 2, none⟩ fun v32 =>
asSl v32 fun a33 l34 c35 =>
ld h ⟨y9.block, y9.off + 2, none⟩ fun v36 =>
asSl v36 fun a37 l38 c39 =>
oRd P (Instr.sliceAt 24 (.slice a33 l34 c35) none (some (.int .i64 (mxI 0 (mnI y3 ((l38 : Nat) : Int))))) none) h fun v40 =>
asSl v40 fun a41 l42 c43 =>
st h ⟨y9.block, y9.off + 2, none⟩ (.slice a41 l42 c43) fun h44 =>
ld h44 ⟨y9.block, y9.off + 2, none⟩ fun v45 =>
asSl v45 fun a46 l47 c48 =>
bIf (decide ((((l47 : Nat) : Int) : Int) > 0)) (
ld h44 y9 fun v49 =>
asIn .i64 v49 fun n50 =>
ld h44 ⟨y9.block, y9.off + 1, none⟩ fun v51 =>
asIn .i64 v51 fun n52 =>
ld h44 ⟨y9.block, y9.off + 2, none⟩ fun v53 =>
asSl v53 fun a54 l55 c56 =>
ld h44 ⟨y9.block, y9.off + 3, none⟩ fun v57 =>
asBo v57 fun b58 =>
Spec P 40 #[(.pointer (some ⟨y0.block, y0.off + 1, none⟩)), (.agg #[(.int .i64 n50), (.int .i64 n52), (.slice a54 l55 c56), (.bool b58)])] h44 fun v59 h60 =>
∃ m, m < n26 ∧ I26 [m] y0 y1 y2 y3 y22 y22n y22c y23 (IntKind.i64.wrap (y24 + 1)) h60) (
∃ m, m < n26 ∧ I26 [m] y0 y1 y2 y3 y22 y22n y22c y23 (IntKind.i64.wrap (y24 + 1)) h44)) (
∃ m, m < n26 ∧ I26 [m] y0 y1 y2 y3 y22 y22n y22c y23 (IntKind.i64.wrap (y24 + 1)) h)
def V14_s6758 (I26 : List Nat → Addr → Int → Int → Int → Option Addr → Nat → Nat → Int → Int → Hp → Prop) (K : Value → Hp → Prop) (n26 : Nat) (y0 : Addr) (y1 : Int) (y2 : Int) (y3 : Int) (y9 : Addr) (y10 : Int) (y22 : Option Addr) (y22n y22c : Nat) (y23 : Int) (y24 : Int) (y32 : Bool) (h : Hp) : Prop :=
bIf y32 (
ld h y9 fun v18 =>
asIn .i64 v18 fun n19 =>
ld h ⟨y9.block, y9.off + 1, none⟩ fun v20 =>
asIn .i64 v20 fun n21 =>
ld h ⟨y9.block, y9.off + 2, none⟩ fun v22 =>
asSl v22 fun a23 l24 c25 =>
ld h ⟨y9.block, y9.off + 3, none⟩ fun v26 =>
asBo v26 fun b27 =>
Spec P 40 #[(.pointer (some ⟨y0.block, y0.off + 1, none⟩)), (.agg #[(.int .i64 n19), (.int .i64 n21), (.slice a23 l24 c25), (.bool b27)])] h fun v28 h29 =>
∃ m, m < n26 ∧ I26 [m] y0 y1 y2 y3 y22 y22n y22c y23 (IntKind.i64.wrap (y24 + 1)) h29) (
bIf (y10 == 0) (
ld h ⟨y9.block, y9.off + 3, none⟩ fun v30 =>
asBo v30 fun b31 =>
V14_s27035 I26 K n26 y0 y1 y2 y3 y9 y22 y22n y22c y23 y24 (!b31) h) (
V14_s27035 I26 K n26 y0 y1 y2 y3 y9 y22 y22n y22c y23 y24 false h))
def V14_26 (I26 : List Nat → Addr → Int → Int → Int → Option Addr → Nat → Nat → Int → Int → Hp → Prop) (K : Value → Hp → Prop) (n26 : Nat) (y0 : Addr) (y1 : Int) (y2 : Int) (y3 : Int) (y22 : Option Addr) (y22n y22c : Nat) (y23 : Int) (y24 : Int) (h : Hp) : Prop :=
bIf (decide ((y24 : Int) < y23)) (
ixA P 75 (.slice y22 y22n y22c) (.int .i64 y24) h fun d1 =>
ld h d1 fun v2 =>
asIn .i64 v2 fun n3 =>
ld h ⟨d1.block, d1.off + 1, none⟩ fun v4 =>
asIn .i64 v4 fun n5 =>
ld h ⟨d1.block, d1.off + 2, none⟩ fun v6 =>
asSl v6 fun a7 l8 c9 =>
ld h ⟨d1.block, d1.off + 3, none⟩ fun v10 =>
asBo v10 fun b11 =>
nw h (.cells #[(.int .i64 0), (.int .i64 0), (.slice none 0 0), (.bool false)] 81) fun r12 h13 =>
st h13 ⟨r12, 0, none⟩ (.int .i64 n3) fun h14 =>
st h14 ⟨r12, 1, none⟩ (.int .i64 n5) fun h15 =>
st h15 ⟨r12, 2, none⟩ (.slice a7 l8 c9) fun h16 =>
st h16 ⟨r12, 3, none⟩ (.bool b11) fun h17 =>
bIf (decide (((IntKind.i64.wrap (y24 - y1)) : Int) < 0)) (
V14_s6758 I26 K n26 y0 y1 y2 y3 ⟨r12, 0, none⟩ (IntKind.i64.wrap (y24 - y1)) y22 y22n y22c y23 y24 true h17) (
bIf (decide (((IntKind.i64.wrap (y24 - y1)) : Int) < 63)) (
oRd P (sBin .shr 23 false (.int .u64 y2) (.int .i64 (IntKind.i64.wrap (y24 - y1)))) h17 fun v61 =>
asIn .u64 v61 fun n62 =>
V14_s6758 I26 K n26 y0 y1 y2 y3 ⟨r12, 0, none⟩ (IntKind.i64.wrap (y24 - y1)) y22 y22n y22c y23 y24 ((bAnd .u64 n62 1) == 1) h17) (
V14_s6758 I26 K n26 y0 y1 y2 y3 ⟨r12, 0, none⟩ (IntKind.i64.wrap (y24 - y1)) y22 y22n y22c y23 y24 false h17))) (
ld h ⟨y0.block, y0.off + 1, none⟩ fun v63 =>
asSl v63 fun a64 l65 c66 =>
ld h ⟨y0.block, y0.off + 2, none⟩ fun v67 =>
asSl v67 fun a68 l69 c70 =>
ld h ⟨y0.block, y0.off + 3, none⟩ fun v71 =>
asSl v71 fun a72 l73 c74 =>
Spec P 39 #[(.agg #[(.slice a64 l65 c66), (.slice a68 l69 c70), (.slice a72 l73 c74)])] h fun v75 h76 =>
asAg v75 fun q77 =>
unc q77 fun v78 q79 =>
asSl v78 fun a80 l81 c82 =>
unc q79 fun v83 q84 =>
asSl v83 fun a85 l86 c87 =>
unc q84 fun v88 q89 =>
asSl v88 fun a90 l91 c92 =>
nilL q89 <|
st h76 ⟨y0.block, y0.off + 4, none⟩ (.slice a80 l81 c82) fun h93 =>
st h93 ⟨y0.block, y0.off + 5, none⟩ (.slice a85 l86 c87) fun h94 =>
st h94 ⟨y0.block, y0.off + 6, none⟩ (.slice a90 l91 c92) fun h95 =>
st h95 ⟨y0.block, y0.off + 7, none⟩ (.slice none 0 0) fun h96 =>
st h96 ⟨y0.block, y0.off + 8, none⟩ (.bool false) fun h97 =>
st h97 ⟨y0.block, y0.off + 9, none⟩ (.int .i64 0) fun h98 =>
st h98 ⟨y0.block, y0.off + 10, none⟩ (.bool false) fun h99 =>
K (.tuple #[]) h99)
def V14 (I26 : List Nat → Addr → Int → Int → Int → Option Addr → Nat → Nat → Int → Int → Hp → Prop) (K : Value → Hp → Prop) (a0 : Addr) (a1 : Int) (a2 : Int) (a3 : Int) (h : Hp) : Prop :=
ld h ⟨a0.block, a0.off + 7, none⟩ fun v100 =>
asSl v100 fun a101 l102 c103 =>
ld h ⟨a0.block, a0.off + 7, none⟩ fun v104 =>
asSl v104 fun a105 l106 c107 =>
∃ n, I26 [n] a0 (mxI 0 (mnI a1 ((l102 : Nat) : Int))) a2 a3 a105 l106 c107 ((l106 : Nat) : Int) 0 h
noncomputable def C14 : Code := match Tryd.f14.body with | some c => c | none => .skip
def L14 : Nat → Plan := fun q => (selP 10 (.ro 0 (.ro 1 (.ro 2 (.ro 3 (.ef 4 .nil .nil))))) (selP 6 (.ro 0 (.ro 1 (.ro 2 (.ro 3 (.ef 4 .nil .nil))))) Plan.nil q) q)
def T14 : Nat → List Value := fun q => (selT 26 [.pointer (some ⟨0, 0, none⟩), (.int .i64 0), (.int .u64 0), (.int .i64 0), .nilIface, .nilIface, .nilIface, .nilIface, .nilIface, .nilIface, .nilIface, .nilIface, .nilIface, .nilIface, .nilIface, .nilIface, .nilIface, .nilIface, .nilIface, .nilIface, .nilIface, .nilIface, (.slice none 0 0), (.int .i64 0), (.int .i64 0), .nilIface, .nilIface, .nilIface, .nilIface, .nilIface, .nilIface, .nilIface, .nilIface, .nilIface, .nilIface, .nilIface, .nilIface, .nilIface, .nilIface, .nilIface, .nilIface, .nilIface, .nilIface, .nilIface, .nilIface, .nilIface, .nilIface, .nilIface, .nilIface, .nilIface, .nilIface, .nilIface, .nilIface, .nilIface, .nilIface, .nilIface, .nilIface, .nilIface, .nilIface, .nilIface, .nilIface, .nilIface, .nilIface, .nilIface, .nilIface, .nilIface, .nilIface, .nilIface, .nilIface, .nilIface, .nilIface, .nilIface, .nilIface, .nilIface, .nilIface, .nilIface, .nilIface, .nilIface, .nilIface, .nilIface, .nilIface, .nilIface, .nilIface, .nilIface, .nilIface, .nilIface, .nilIface, .nilIface, .nilIface, .nilIface, .nilIface, .nilIface, .nilIface, .nilIface, .nilIface, .nilIface, .nilIface, .nilIface, .nilIface] [] q)
def G14 (I26 : List Nat → Addr → Int → Int → Int → Option Addr → Nat → Nat → Int → Int → Hp → Prop) : Inv := fun q => (selI 26 (fun ns l h => asAd (l.getD 0 undef) fun y0 => asIn .i64 (l.getD 1 undef) fun y1 => asIn .u64 (l.getD 2 undef) fun y2 => asIn .i64 (l.getD 3 undef) fun y3 => asSl (l.getD 22 undef) fun y22 y22n y22c => asIn .i64 (l.getD 23 undef) fun y23 => asIn .i64 (l.getD 24 undef) fun y24 => I26 ns y0 y1 y2 y3 y22 y22n y22c y23 y24 h) (fun _ _ _ => False) q)
theorem L14_ok : plansOk P L14 C14 = true := by kernel_rfl
theorem W14 (I26 : List Nat → Addr → Int → Int → Int → Option Addr → Nat → Nat → Int → Int → Hp → Prop) (K : Value → Hp → Prop) (a0 : Addr) (a1 : Int) (a2 : Int) (a3 : Int) (h : Hp) : ((∀ n26 : Nat, (∀ (y0 : Addr) (y1 : Int) (y2 : Int) (y3 : Int) (y4 : Value) (y5 : Value) (y6 : Value) (y7 : Value) (y8 : Value) (y9 : Value) (y10 : Value) (y11 : Value) (y12 : Value) (y13 : Value) (y14 : Value) (y15 : Value) (y16 : Value) (y17 : Value) (y18 : Value) (y19 : Value) (y20 : Value) (y21 : Value) (y22 : Option Addr) (y22n y22c : Nat) (y23 : Int) (y24 : Int) (y25 : Value) (y26 : Value) (y27 : Value) (y28 : Value) (y29 : Value) (y30 : Value) (y31 : Value) (y32 : Value) (y33 : Value) (y34 : Value) (y35 : Value) (y36 : Value) (y37 : Value) (y38 : Value) (y39 : Value) (y40 : Value) (y41 : Value) (y42 : Value) (y43 : Value) (y44 : Value) (y45 : Value) (y46 : Value) (y47 : Value) (y48 : Value) (y49 : Value) (y50 : Value) (y51 : Value) (y52 : Value) (y53 : Value) (y54 : Value) (y55 : Value) (y56 : Value) (y57 : Value) (y58 : Value) (y59 : Value) (y60 : Value) (y61 : Value) (y62 : Value) (y63 : Value) (y64 : Value) (y65 : Value) (y66 : Value) (y67 : Value) (y68 : Value) (y69 : Value) (y70 : Value) (y71 : Value) (y72 : Value) (y73 : Value) (y74 : Value) (y75 : Value) (y76 : Value) (y77 : Value) (y78 : Value) (y79 : Value) (y80 : Value) (y81 : Value) (y82 : Value) (y83 : Value) (y84 : Value) (y85 : Value) (y86 : Value) (y87 : Value) (y88 : Value) (y89 : Value) (y90 : Value) (y91 : Value) (y92 : Value) (y93 : Value) (y94 : Value) (y95 : Value) (y96 : Value) (y97 : Value) (y98 : Value) (h : Hp), I26 [n26] y0 y1 y2 y3 y22 y22n y22c y23 y24 h → V14_26 I26 K n26 y0 y1 y2 y3 y22 y22n y22c y23 y24 h)) ∧ V14 I26 K a0 a1 a2 a3 h) =
  allP (obls P L14 (fun q => false) T14 (G14 I26) 1 [] C14 (endQ P Tryd.f14 K) ++ [awp P L14 (fun q => false) T14 (G14 I26) 1 [] C14 (endQ P Tryd.f14 K) (frameL [(.pointer (some a0)), (.int .i64 a1), (.int .u64 a2), (.int .i64 a3)] 99) h]) := by kernel_rfl
theorem S14 (I26 : List Nat → Addr → Int → Int → Int → Option Addr → Nat → Nat → Int → Int → Hp → Prop) {K : Value → Hp → Prop} {a0 : Addr} {a1 : Int} {a2 : Int} {a3 : Int} {h : Hp} (o26 : ∀ (n26 : Nat) (y0 : Addr) (y1 : Int) (y2 : Int) (y3 : Int) (y22 : Option Addr) (y22n y22c : Nat) (y23 : Int) (y24 : Int) (h : Hp), I26 [n26] y0 y1 y2 y3 y22 y22n y22c y23 y24 h → V14_26 I26 K n26 y0 y1 y2 y3 y22 y22n y22c y23 y24 h) (e : V14 I26 K a0 a1 a2 a3 h) : Spec P 14 #[(.pointer (some a0)), (.int .i64 a1), (.int .u64 a2), (.int .i64 a3)] h K :=
  spec_of_awp (args := [(.pointer (some a0)), (.int .i64 a1), (.int .u64 a2), (.int .i64 a3)]) follows_P Tryd.func14 (by kernel_rfl : Tryd.f14.body = some C14) fits14 L14_ok (Nat.le_of_ble_eq_true (by kernel_rfl)) (Eq.mp (W14 I26 K a0 a1 a2 a3 h) ⟨(fun n26 => (fun y0 y1 y2 y3 _ _ _ _ _ _ _ _ _ _ _ _ _ _ _ _ _ _ y22 y22n y22c y23 y24 _ _ _ _ _ _ _ _ _ _ _ _ _ _ _ _ _ _ _ _ _ _ _ _ _ _ _ _ _ _ _ _ _ _ _ _ _ _ _ _ _ _ _ _ _ _ _ _ _ _ _ _ _ _ _ _ _ _ _ _ _ _ _ _ _ _ _ _ _ _ _ _ _ _ h hi => o26 n26 y0 y1 y2 y3 y22 y22n y22c y23 y24 h hi)), e⟩)

theorem fits15 : Fits P 15 := fits_of Tryd.func15 (by kernel_rfl) (by kernel_rfl)
/- 15 (*bulla/disk.Disk).Size
-/
def V15 (K : Value → Hp → Prop) (a0 : Addr) (a1 : Int) (h : Hp) : Prop :=
Spec P 35 #[(.int .i64 a1)] h fun v1 h2 =>
asBo v1 fun b3 =>
bIf (!b3) (
K (.int .i64 0) h2) (
ixA P 74 (.pointer (some ⟨a0.block, a0.off + 4, none⟩)) (.int .i64 a1) h2 fun d4 =>
ld h2 d4 fun v5 =>
asSl v5 fun a6 l7 c8 =>
K (.int .i64 ((l7 : Nat) : Int)) h2)
noncomputable def C15 : Code := match Tryd.f15.body with | some c => c | none => .skip
def L15 : Nat → Plan := fun q => Plan.nil
theorem L15_ok : plansOk P L15 C15 = true := by kernel_rfl
theorem W15 (K : Value → Hp → Prop) (a0 : Addr) (a1 : Int) (h : Hp) : (V15 K a0 a1 h) =
  allP (obls P L15 (fun q => false) (fun _ => []) (fun _ _ _ _ => False) 1 [] C15 (endQ P Tryd.f15 K) ++ [awp P L15 (fun q => false) (fun _ => []) (fun _ _ _ _ => False) 1 [] C15 (endQ P Tryd.f15 K) (frameL [(.pointer (some a0)), (.int .i64 a1)] 15) h]) := by kernel_rfl
theorem S15 {K : Value → Hp → Prop} {a0 : Addr} {a1 : Int} {h : Hp} (e : V15 K a0 a1 h) : Spec P 15 #[(.pointer (some a0)), (.int .i64 a1)] h K :=
  spec_of_awp (args := [(.pointer (some a0)), (.int .i64 a1)]) follows_P Tryd.func15 (by kernel_rfl : Tryd.f15.body = some C15) fits15 L15_ok (Nat.le_of_ble_eq_true (by kernel_rfl)) (Eq.mp (W15 K a0 a1 h) e)

theorem fits16 : Fits P 16 := fits_of Tryd.func16 (by kernel_rfl) (by kernel_rfl)
/- 16 (*bulla/disk.Disk).Free
  path 58: loop 0:d 3:left 9:
-/
def V16_58 (I58 : List Nat → Addr → Int → Int → Hp → Prop) (K : Value → Hp → Prop) (n58 : Nat) (y0 : Addr) (y3 : Int) (y9 : Int) (h : Hp) : Prop :=
bIf (decide ((y9 : Int) < 3)) (
ixA P 74 (.pointer (some ⟨y0.block, y0.off + 4, none⟩)) (.int .i64 y9) h fun d1 =>
ld h d1 fun v2 =>
asSl v2 fun a3 l4 c5 =>
∃ m, m < n58 ∧ I58 [m] y0 (IntKind.i64.wrap (y3 - ((l4 : Nat) : Int))) (IntKind.i64.wrap (y9 + 1)) h) (
K (.int .i64 y3) h)
def V16 (I58 : List Nat → Addr → Int → Int → Hp → Prop) (K : Value → Hp → Prop) (a0 : Addr) (h : Hp) : Prop :=
ld h a0 fun v6 =>
asIn .i64 v6 fun n7 =>
∃ n, I58 [n] a0 n7 0 h
noncomputable def C16 : Code := match Tryd.f16.body with | some c => c | none => .skip
def L16 : Nat → Plan := fun q => Plan.nil
def T16 : Nat → List Value := fun q => (selT 58 [.pointer (some ⟨0, 0, none⟩), .nilIface, .nilIface, (.int .i64 0), .nilIface, .nilIface, .nilIface, .nilIface, .nilIface, (.int .i64 0), .nilIface, .nilIface, .nilIface, .nilIface, .nilIface, .nilIface, .nilIface, .nilIface, .nilIface, .nilIface, .nilIface, .nilIface, .nilIface] [] q)
def G16 (I58 : List Nat → Addr → Int → Int → Hp → Prop) : Inv := fun q => (selI 58 (fun ns l h => asAd (l.getD 0 undef) fun y0 => asIn .i64 (l.getD 3 undef) fun y3 => asIn .i64 (l.getD 9 undef) fun y9 => I58 ns y0 y3 y9 h) (fun _ _ _ => False) q)
theorem L16_ok : plansOk P L16 C16 = true := by kernel_rfl
theorem W16 (I58 : List Nat → Addr → Int → Int → Hp → Prop) (K : Value → Hp → Prop) (a0 : Addr) (h : Hp) : ((∀ n58 : Nat, (∀ (y0 : Addr) (y1 : Value) (y2 : Value) (y3 : Int) (y4 : Value) (y5 : Value) (y6 : Value) (y7 : Value) (y8 : Value) (y9 : Int) (y10 : Value) (y11 : Value) (y12 : Value) (y13 : Value) (y14 : Value) (y15 : Value) (y16 : Value) (y17 : Value) (y18 : Value) (y19 : Value) (y20 : Value) (y21 : Value) (y22 : Value) (h : Hp), I58 [n58] y0 y3 y9 h → V16_58 I58 K n58 y0 y3 y9 h)) ∧ V16 I58 K a0 h) =
  allP (obls P L16 (fun q => false) T16 (G16 I58) 1 [] C16 (endQ P Tryd.f16 K) ++ [awp P L16 (fun q => false) T16 (G16 I58) 1 [] C16 (endQ P Tryd.f16 K) (frameL [(.pointer (some a0))] 23) h]) := by kernel_rfl
theorem S16 (I58 : List Nat → Addr → Int → Int → Hp → Prop) {K : Value → Hp → Prop} {a0 : Addr} {h : Hp} (o58 : ∀ (n58 : Nat) (y0 : Addr) (y3 : Int) (y9 : Int) (h : Hp), I58 [n58] y0 y3 y9 h → V16_58 I58 K n58 y0 y3 y9 h) (e : V16 I58 K a0 h) : Spec P 16 #[(.pointer (some a0))] h K :=
  spec_of_awp (args := [(.pointer (some a0))]) follows_P Tryd.func16 (by kernel_rfl : Tryd.f16.body = some C16) fits16 L16_ok (Nat.le_of_ble_eq_true (by kernel_rfl)) (Eq.mp (W16 I58 K a0 h) ⟨(fun n58 => (fun y0 _ _ y3 _ _ _ _ _ y9 _ _ _ _ _ _ _ _ _ _ _ _ _ h hi => o58 n58 y0 y3 y9 h hi)), e⟩)

theorem fits35 : Fits P 35 := fits_of Tryd.func35 (by kernel_rfl) (by kernel_rfl)
/- 35 bulla/disk.is
-/
def V35 (K : Value → Hp → Prop) (a0 : Int) (h : Hp) : Prop :=
bIf (decide ((a0 : Int) ≥ 0)) (
K (.bool (decide ((a0 : Int) < 3))) h) (
K (.bool false) h)
noncomputable def C35 : Code := match Tryd.f35.body with | some c => c | none => .skip
def L35 : Nat → Plan := fun q => Plan.nil
theorem L35_ok : plansOk P L35 C35 = true := by kernel_rfl
theorem W35 (K : Value → Hp → Prop) (a0 : Int) (h : Hp) : (V35 K a0 h) =
  allP (obls P L35 (fun q => false) (fun _ => []) (fun _ _ _ _ => False) 1 [] C35 (endQ P Tryd.f35 K) ++ [awp P L35 (fun q => false) (fun _ => []) (fun _ _ _ _ => False) 1 [] C35 (endQ P Tryd.f35 K) (frameL [(.int .i64 a0)] 9) h]) := by kernel_rfl
theorem S35 {K : Value → Hp → Prop} {a0 : Int} {h : Hp} (e : V35 K a0 h) : Spec P 35 #[(.int .i64 a0)] h K :=
  spec_of_awp (args := [(.int .i64 a0)]) follows_P Tryd.func35 (by kernel_rfl : Tryd.f35.body = some C35) fits35 L35_ok (Nat.le_of_ble_eq_true (by kernel_rfl)) (Eq.mp (W35 K a0 h) e)

theorem fits36 : Fits P 36 := fits_of Tryd.func36 (by kernel_rfl) (by kernel_rfl)
/- 36 (*bulla/disk.Disk).wait
-/
def V36 (K : Value → Hp → Prop) (a0 : Addr) (a1_0 : Int) (a1_1 : Int) (a1_2 : Option Addr) (a1_2n a1_2c : Nat) (a1_3 : Bool) (h : Hp) : Prop :=
nw h (.cells #[(.int .i64 a1_0), (.int .i64 a1_1), (.slice a1_2 a1_2n a1_2c), (.bool a1_3)] 81) fun r1 h2 =>
Spec P 38 #[(.pointer (some a0))] h2 fun v3 h4 =>
nlW P 31 true v3 fun v5 =>
asBo v5 fun b6 =>
bIf b6 (
K v3 h4) (
ld h4 ⟨a0.block, a0.off + 7, none⟩ fun v7 =>
asSl v7 fun a8 l9 c10 =>
ld h4 ⟨r1, 0, none⟩ fun v11 =>
asIn .i64 v11 fun n12 =>
ld h4 ⟨r1, 1, none⟩ fun v13 =>
asIn .i64 v13 fun n14 =>
ld h4 ⟨r1, 2, none⟩ fun v15 =>
asSl v15 fun a16 l17 c18 =>
ld h4 ⟨r1, 3, none⟩ fun v19 =>
asBo v19 fun b20 =>
nw h4 (.cells #[(.int .i64 n12), (.int .i64 n14), (.slice a16 l17 c18), (.bool b20)] 81) fun r21 h22 =>
(rd P (Instr.loadAt 75 (.pointer (some ⟨a0.block, a0.off + 7, none⟩))) h22 = rd P (Instr.loadAt 75 (.pointer (some ⟨a0.block, a0.off + 7, none⟩))) h4) ∧ (
oNx P (builtin .append #[75, 75] 75 #[false, false] #[(.slice a8 l9 c10), (.slice (some ⟨r21, 0, none⟩) 1 1)]) h22 fun v23 h24 =>
asSl v23 fun a25 l26 c27 =>
st h24 ⟨a0.block, a0.off + 7, none⟩ (.slice a25 l26 c27) fun h28 =>
ld h28 ⟨r1, 0, none⟩ fun v29 =>
asIn .i64 v29 fun n30 =>
ld h28 ⟨r1, 1, none⟩ fun v31 =>
asIn .i64 v31 fun n32 =>
ld h28 ⟨r1, 2, none⟩ fun v33 =>
asSl v33 fun a34 l35 c36 =>
ld h28 ⟨r1, 3, none⟩ fun v37 =>
asBo v37 fun b38 =>
Spec P 40 #[(.pointer (some ⟨a0.block, a0.off + 4, none⟩)), (.agg #[(.int .i64 n30), (.int .i64 n32), (.slice a34 l35 c36), (.bool b38)])] h28 fun v39 h40 =>
K .nilIface h40))
noncomputable def C36 : Code := match Tryd.f36.body with | some c => c | none => .skip
def L36 : Nat → Plan := fun q => (selP 5 (.ro 0 (.ro 1 (.ro 2 (.ro 3 (.ef 4 .nil .nil))))) (selP 4 (.ro 0 (.ro 1 (.ro 2 (.ro 3 (.ro 4 (.ro 5 (.ef 6 (.ef 7 (.ro 8 (.ro 9 (.ef 10 .nil .nil))) .nil) .nil))))))) Plan.nil q) q)
theorem L36_ok : plansOk P L36 C36 = true := by kernel_rfl
theorem W36 (K : Value → Hp → Prop) (a0 : Addr) (a1_0 : Int) (a1_1 : Int) (a1_2 : Option Addr) (a1_2n a1_2c : Nat) (a1_3 : Bool) (h : Hp) : (V36 K a0 a1_0 a1_1 a1_2 a1_2n a1_2c a1_3 h) =
  allP (obls P L36 (fun q => false) (fun _ => []) (fun _ _ _ _ => False) 1 [] C36 (endQ P Tryd.f36 K) ++ [awp P L36 (fun q => false) (fun _ => []) (fun _ _ _ _ => False) 1 [] C36 (endQ P Tryd.f36 K) (frameL [(.pointer (some a0)), (.agg #[(.int .i64 a1_0), (.int .i64 a1_1), (.slice a1_2 a1_2n a1_2c), (.bool a1_3)])] 26) h]) := by kernel_rfl
theorem S36 {K : Value → Hp → Prop} {a0 : Addr} {a1_0 : Int} {a1_1 : Int} {a1_2 : Option Addr} {a1_2n a1_2c : Nat} {a1_3 : Bool} {h : Hp} (e : V36 K a0 a1_0 a1_1 a1_2 a1_2n a1_2c a1_3 h) : Spec P 36 #[(.pointer (some a0)), (.agg #[(.int .i64 a1_0), (.int .i64 a1_1), (.slice a1_2 a1_2n a1_2c), (.bool a1_3)])] h K :=
  spec_of_awp (args := [(.pointer (some a0)), (.agg #[(.int .i64 a1_0), (.int .i64 a1_1), (.slice a1_2 a1_2n a1_2c), (.bool a1_3)])]) follows_P Tryd.func36 (by kernel_rfl : Tryd.f36.body = some C36) fits36 L36_ok (Nat.le_of_ble_eq_true (by kernel_rfl)) (Eq.mp (W36 K a0 a1_0 a1_1 a1_2 a1_2n a1_2c a1_3 h) e)

theorem fits37 : Fits P 37 := fits_of Tryd.func37 (by kernel_rfl) (by kernel_rfl)
/- 37 slices.Clone[[]byte,byte]
-/
def V37 (K : Value → Hp → Prop) (a0 : Option Addr) (a0n a0c : Nat) (h : Hp) : Prop :=
bIf (Option.isNone a0) (
K (.slice none 0 0) h) (
nw h (.cells #[] 5) fun r1 h2 =>
oNx P (builtin .append #[24, 24] 24 #[false, false] #[(.slice (some ⟨r1, 0, none⟩) 0 0), (.slice a0 a0n a0c)]) h2 fun v3 h4 =>
asSl v3 fun a5 l6 c7 =>
K (.slice a5 l6 c7) h4)
noncomputable def C37 : Code := match Tryd.f37.body with | some c => c | none => .skip
def L37 : Nat → Plan := fun q => Plan.nil
theorem L37_ok : plansOk P L37 C37 = true := by kernel_rfl
theorem W37 (K : Value → Hp → Prop) (a0 : Option Addr) (a0n a0c : Nat) (h : Hp) : (V37 K a0 a0n a0c h) =
  allP (obls P L37 (fun q => false) (fun _ => []) (fun _ _ _ _ => False) 1 [] C37 (endQ P Tryd.f37 K) ++ [awp P L37 (fun q => false) (fun _ => []) (fun _ _ _ _ => False) 1 [] C37 (endQ P Tryd.f37 K) (frameL [(.slice a0 a0n a0c)] 8) h]) := by kernel_rfl
theorem S37 {K : Value → Hp → Prop} {a0 : Option Addr} {a0n a0c : Nat} {h : Hp} (e : V37 K a0 a0n a0c h) : Spec P 37 #[(.slice a0 a0n a0c)] h K :=
  spec_of_awp (args := [(.slice a0 a0n a0c)]) follows_P Tryd.func37 (by kernel_rfl : Tryd.f37.body = some C37) fits37 L37_ok (Nat.le_of_ble_eq_true (by kernel_rfl)) (Eq.mp (W37 K a0 a0n a0c h) e)

theorem fits38 : Fits P 38 := fits_of Tryd.func38 (by kernel_rfl) (by kernel_rfl)
/- 38 (*bulla/disk.Disk).unit
-/
def V38_s3 (K : Value → Hp → Prop) (y0 : Addr) (h : Hp) : Prop :=
ld h ⟨y0.block, y0.off + 10, none⟩ fun v6 =>
asBo v6 fun b7 =>
bIf b7 (
ld h ⟨2, 0, none⟩ fun v8 =>
K v8 h) (
ld h ⟨y0.block, y0.off + 8, none⟩ fun v9 =>
asBo v9 fun b10 =>
bIf b10 (
ld h ⟨y0.block, y0.off + 9, none⟩ fun v11 =>
asIn .i64 v11 fun n12 =>
st h ⟨y0.block, y0.off + 9, none⟩ (.int .i64 (IntKind.i64.wrap (n12 - 1))) fun h13 =>
K .nilIface h13) (
K .nilIface h))
def V38_s6 (K : Value → Hp → Prop) (y0 : Addr) (y13 : Bool) (h : Hp) : Prop :=
bIf y13 (
st h ⟨y0.block, y0.off + 10, none⟩ (.bool true) fun h5 =>
V38_s3 K y0 h5) (
V38_s3 K y0 h)
def V38 (K : Value → Hp → Prop) (a0 : Addr) (h : Hp) : Prop :=
ld h ⟨a0.block, a0.off + 8, none⟩ fun v1 =>
asBo v1 fun b2 =>
bIf b2 (
ld h ⟨a0.block, a0.off + 9, none⟩ fun v3 =>
asIn .i64 v3 fun n4 =>
V38_s6 K a0 (n4 == 0) h) (
V38_s6 K a0 false h)
noncomputable def C38 : Code := match Tryd.f38.body with | some c => c | none => .skip
def L38 : Nat → Plan := fun q => Plan.nil
theorem L38_ok : plansOk P L38 C38 = true := by kernel_rfl
theorem W38 (K : Value → Hp → Prop) (a0 : Addr) (h : Hp) : (V38 K a0 h) =
  allP (obls P L38 (fun q => false) (fun _ => []) (fun _ _ _ _ => False) 1 [] C38 (endQ P Tryd.f38 K) ++ [awp P L38 (fun q => false) (fun _ => []) (fun _ _ _ _ => False) 1 [] C38 (endQ P Tryd.f38 K) (frameL [(.pointer (some a0))] 33) h]) := by kernel_rfl
theorem S38 {K : Value → Hp → Prop} {a0 : Addr} {h : Hp} (e : V38 K a0 h) : Spec P 38 #[(.pointer (some a0))] h K :=
  spec_of_awp (args := [(.pointer (some a0))]) follows_P Tryd.func38 (by kernel_rfl : Tryd.f38.body = some C38) fits38 L38_ok (Nat.le_of_ble_eq_true (by kernel_rfl)) (Eq.mp (W38 K a0 h) e)

theorem fits39 : Fits P 39 := fits_of Tryd.func39 (by kernel_rfl) (by kernel_rfl)
/- 39 (bulla/disk.image).copied
  path 26: loop 1:m 2: 4:
-/
def V39_26 (I26 : List Nat → Addr → Addr → Int → Hp → Prop) (K : Value → Hp → Prop) (n26 : Nat) (y1 : Addr) (y2 : Addr) (y4 : Int) (h : Hp) : Prop :=
bIf (decide ((y4 : Int) < 3)) (
ixA P 74 (.pointer (some y1)) (.int .i64 y4) h fun d1 =>
ld h d1 fun v2 =>
asSl v2 fun a3 l4 c5 =>
Spec P 37 #[(.slice a3 l4 c5)] h fun v6 h7 =>
asSl v6 fun a8 l9 c10 =>
ixA P 74 (.pointer (some y1)) (.int .i64 y4) h7 fun d11 =>
st h7 d11 (.slice a8 l9 c10) fun h12 =>
∃ m, m < n26 ∧ I26 [m] y1 y2 (IntKind.i64.wrap (y4 + 1)) h12) (
ld h y1 fun v13 =>
asSl v13 fun a14 l15 c16 =>
ld h ⟨y1.block, y1.off + 1, none⟩ fun v17 =>
asSl v17 fun a18 l19 c20 =>
ld h ⟨y1.block, y1.off + 2, none⟩ fun v21 =>
asSl v21 fun a22 l23 c24 =>
st h y2 (.slice a14 l15 c16) fun h25 =>
st h25 ⟨y2.block, y2.off + 1, none⟩ (.slice a18 l19 c20) fun h26 =>
st h26 ⟨y2.block, y2.off + 2, none⟩ (.slice a22 l23 c24) fun h27 =>
ld h27 y2 fun v28 =>
asSl v28 fun a29 l30 c31 =>
ld h27 ⟨y2.block, y2.off + 1, none⟩ fun v32 =>
asSl v32 fun a33 l34 c35 =>
ld h27 ⟨y2.block, y2.off + 2, none⟩ fun v36 =>
asSl v36 fun a37 l38 c39 =>
K (.agg #[(.slice a29 l30 c31), (.slice a33 l34 c35), (.slice a37 l38 c39)]) h27)
def V39 (I26 : List Nat → Addr → Addr → Int → Hp → Prop) (K : Value → Hp → Prop) (a0_0 : Option Addr) (a0_0n a0_0c : Nat) (a0_1 : Option Addr) (a0_1n a0_1c : Nat) (a0_2 : Option Addr) (a0_2n a0_2c : Nat) (h : Hp) : Prop :=
nw h (.cells #[(.slice a0_0 a0_0n a0_0c), (.slice a0_1 a0_1n a0_1c), (.slice a0_2 a0_2n a0_2c)] 74) fun r40 h41 =>
nw h41 (.cells #[(.slice none 0 0), (.slice none 0 0), (.slice none 0 0)] 74) fun r42 h43 =>
∃ n, I26 [n] ⟨r40, 0, none⟩ ⟨r42, 0, none⟩ 0 h43
noncomputable def C39 : Code := match Tryd.f39.body with | some c => c | none => .skip
def L39 : Nat → Plan := fun q => Plan.nil
def T39 : Nat → List Value := fun q => (selT 26 [.nilIface, .pointer (some ⟨0, 0, none⟩), .pointer (some ⟨0, 0, none⟩), .nilIface, (.int .i64 0), .nilIface, .nilIface, .nilIface, .nilIface, .nilIface, .nilIface, .nilIface, .nilIface, .nilIface, .nilIface] [] q)
def G39 (I26 : List Nat → Addr → Addr → Int → Hp → Prop) : Inv := fun q => (selI 26 (fun ns l h => asAd (l.getD 1 undef) fun y1 => asAd (l.getD 2 undef) fun y2 => asIn .i64 (l.getD 4 undef) fun y4 => I26 ns y1 y2 y4 h) (fun _ _ _ => False) q)
theorem L39_ok : plansOk P L39 C39 = true := by kernel_rfl
theorem W39 (I26 : List Nat → Addr → Addr → Int → Hp → Prop) (K : Value → Hp → Prop) (a0_0 : Option Addr) (a0_0n a0_0c : Nat) (a0_1 : Option Addr) (a0_1n a0_1c : Nat) (a0_2 : Option Addr) (a0_2n a0_2c : Nat) (h : Hp) : ((∀ n26 : Nat, (∀ (y0 : Value) (y1 : Addr) (y2 : Addr) (y3 : Value) (y4 : Int) (y5 : Value) (y6 : Value) (y7 : Value) (y8 : Value) (y9 : Value) (y10 : Value) (y11 : Value) (y12 : Value) (y13 : Value) (y14 : Value) (h : Hp), I26 [n26] y1 y2 y4 h → V39_26 I26 K n26 y1 y2 y4 h)) ∧ V39 I26 K a0_0 a0_0n a0_0c a0_1 a0_1n a0_1c a0_2 a0_2n a0_2c h) =
  allP (obls P L39 (fun q => false) T39 (G39 I26) 1 [] C39 (endQ P Tryd.f39 K) ++ [awp P L39 (fun q => false) T39 (G39 I26) 1 [] C39 (endQ P Tryd.f39 K) (frameL [(.agg #[(.slice a0_0 a0_0n a0_0c), (.slice a0_1 a0_1n a0_1c), (.slice a0_2 a0_2n a0_2c)])] 15) h]) := by kernel_rfl
theorem S39 (I26 : List Nat → Addr → Addr → Int → Hp → Prop) {K : Value → Hp → Prop} {a0_0 : Option Addr} {a0_0n a0_0c : Nat} {a0_1 : Option Addr} {a0_1n a0_1c : Nat} {a0_2 : Option Addr} {a0_2n a0_2c : Nat} {h : Hp} (o26 : ∀ (n26 : Nat) (y1 : Addr) (y2 : Addr) (y4 : Int) (h : Hp), I26 [n26] y1 y2 y4 h → V39_26 I26 K n26 y1 y2 y4 h) (e : V39 I26 K a0_0 a0_0n a0_0c a0_1 a0_1n a0_1c a0_2 a0_2n a0_2c h) : Spec P 39 #[(.agg #[(.slice a0_0 a0_0n a0_0c), (.slice a0_1 a0_1n a0_1c), (.slice a0_2 a0_2n a0_2c)])] h K :=
  spec_of_awp (args := [(.agg #[(.slice a0_0 a0_0n a0_0c), (.slice a0_1 a0_1n a0_1c), (.slice a0_2 a0_2n a0_2c)])]) follows_P Tryd.func39 (by kernel_rfl : Tryd.f39.body = some C39) fits39 L39_ok (Nat.le_of_ble_eq_true (by kernel_rfl)) (Eq.mp (W39 I26 K a0_0 a0_0n a0_0c a0_1 a0_1n a0_1c a0_2 a0_2n a0_2c h) ⟨(fun n26 => (fun _ y1 y2 _ y4 _ _ _ _ _ _ _ _ _ _ h hi => o26 n26 y1 y2 y4 h hi)), e⟩)

theorem fits40 : Fits P 40 := fits_of Tryd.func40 (by kernel_rfl) (by kernel_rfl)
/- 40 (*bulla/disk.image).do
-/
def V40_s31 (K : Value → Hp → Prop) (y0 : Addr) (y3 : Addr) (y4 : Option Addr) (y4n y4c : Nat) (h : Hp) : Prop :=
ld h ⟨y3.block, y3.off + 1, none⟩ fun v33 =>
asIn .i64 v33 fun n34 =>
oRd P (Instr.sliceAt 24 (.slice y4 y4n y4c) (some (.int .i64 n34)) none none) h fun v35 =>
asSl v35 fun a36 l37 c38 =>
ld h ⟨y3.block, y3.off + 2, none⟩ fun v39 =>
asSl v39 fun a40 l41 c42 =>
oNx P (builtin .copy #[24, 24] 3 #[false, false] #[(.slice a36 l37 c38), (.slice a40 l41 c42)]) h fun v43 h44 =>
asIn .i64 v43 fun n45 =>
ld h44 y3 fun v46 =>
asIn .i64 v46 fun n47 =>
ixA P 74 (.pointer (some y0)) (.int .i64 n47) h44 fun d48 =>
st h44 d48 (.slice y4 y4n y4c) fun h49 =>
K (.tuple #[]) h49
def V40 (K : Value → Hp → Prop) (a0 : Addr) (a1_0 : Int) (a1_1 : Int) (a1_2 : Option Addr) (a1_2n a1_2c : Nat) (a1_3 : Bool) (h : Hp) : Prop :=
nw h (.cells #[(.int .i64 a1_0), (.int .i64 a1_1), (.slice a1_2 a1_2n a1_2c), (.bool a1_3)] 81) fun r1 h2 =>
ld h2 ⟨r1, 0, none⟩ fun v3 =>
asIn .i64 v3 fun n4 =>
ixA P 74 (.pointer (some a0)) (.int .i64 n4) h2 fun d5 =>
ld h2 d5 fun v6 =>
asSl v6 fun a7 l8 c9 =>
ld h2 ⟨r1, 3, none⟩ fun v10 =>
asBo v10 fun b11 =>
bIf b11 (
ld h2 ⟨r1, 0, none⟩ fun v12 =>
asIn .i64 v12 fun n13 =>
ld h2 ⟨r1, 1, none⟩ fun v14 =>
asIn .i64 v14 fun n15 =>
oRd P (Instr.sliceAt 24 (.slice a7 l8 c9) none (some (.int .i64 (mnI n15 ((l8 : Nat) : Int)))) none) h2 fun v16 =>
asSl v16 fun a17 l18 c19 =>
ixA P 74 (.pointer (some a0)) (.int .i64 n13) h2 fun d20 =>
st h2 d20 (.slice a17 l18 c19) fun h21 =>
K (.tuple #[]) h21) (
ld h2 ⟨r1, 1, none⟩ fun v22 =>
asIn .i64 v22 fun n23 =>
ld h2 ⟨r1, 2, none⟩ fun v24 =>
asSl v24 fun a25 l26 c27 =>
bIf (decide ((((l8 : Nat) : Int) : Int) < (IntKind.i64.wrap (n23 + ((l26 : Nat) : Int))))) (
oNx P (builtin .append #[24, 3] 24 #[false, false] #[(.slice a7 l8 c9), (.int .i64 (IntKind.i64.wrap ((IntKind.i64.wrap (n23 + ((l26 : Nat) : Int))) - ((l8 : Nat) : Int))))]) h2 fun v28 h29 =>
asSl v28 fun a30 l31 c32 =>
V40_s31 K a0 ⟨r1, 0, none⟩ a30 l31 c32 h29) (
V40_s31 K a0 ⟨r1, 0, none⟩ a7 l8 c9 h2))
noncomputable def C40 : Code := match Tryd.f40.body with | some c => c | none => .skip
def L40 : Nat → Plan := fun q => (selP 8 (.ro 0 (.ro 1 (.ro 2 (.ro 3 (.ro 4 (.ro 5 (.ef 6 .nil .nil))))))) (selP 7 (.ro 0 (.ro 1 (.ro 2 (.ro 3 (.ro 4 (.ro 5 (.ef 6 .nil .nil))))))) (selP 3 (.ro 0 (.ro 1 (.ro 2 (.ro 3 (.ro 4 (.ro 5 (.ro 6 (.ro 7 (.ro 8 (.ro 9 (.ro 10 (.ro 11 (.ef 12 .nil .nil))))))))))))) (selP 1 (.ro 0 (.ro 1 (.ro 2 (.ro 3 (.ro 4 (.ro 5 (.ro 6 .nil))))))) Plan.nil q) q) q) q)
theorem L40_ok : plansOk P L40 C40 = true := by kernel_rfl
theorem W40 (K : Value → Hp → Prop) (a0 : Addr) (a1_0 : Int) (a1_1 : Int) (a1_2 : Option Addr) (a1_2n a1_2c : Nat) (a1_3 : Bool) (h : Hp) : (V40 K a0 a1_0 a1_1 a1_2 a1_2n a1_2c a1_3 h) =
  allP (obls P L40 (fun q => false) (fun _ => []) (fun _ _ _ _ => False) 1 [] C40 (endQ P Tryd.f40 K) ++ [awp P L40 (fun q => false) (fun _ => []) (fun _ _ _ _ => False) 1 [] C40 (endQ P Tryd.f40 K) (frameL [(.pointer (some a0)), (.agg #[(.int .i64 a1_0), (.int .i64 a1_1), (.slice a1_2 a1_2n a1_2c), (.bool a1_3)])] 55) h]) := by kernel_rfl
theorem S40 {K : Value → Hp → Prop} {a0 : Addr} {a1_0 : Int} {a1_1 : Int} {a1_2 : Option Addr} {a1_2n a1_2c : Nat} {a1_3 : Bool} {h : Hp} (e : V40 K a0 a1_0 a1_1 a1_2 a1_2n a1_2c a1_3 h) : Spec P 40 #[(.pointer (some a0)), (.agg #[(.int .i64 a1_0), (.int .i64 a1_1), (.slice a1_2 a1_2n a1_2c), (.bool a1_3)])] h K :=
  spec_of_awp (args := [(.pointer (some a0)), (.agg #[(.int .i64 a1_0), (.int .i64 a1_1), (.slice a1_2 a1_2n a1_2c), (.bool a1_3)])]) follows_P Tryd.func40 (by kernel_rfl : Tryd.f40.body = some C40) fits40 L40_ok (Nat.le_of_ble_eq_true (by kernel_rfl)) (Eq.mp (W40 K a0 a1_0 a1_1 a1_2 a1_2n a1_2c a1_3 h) e)

end Go.Proofs.YtcolhmddhaabnaaDoor
