import Derived.Test.YtcolhmddhaabnaaDoorHbase
set_option maxRecDepth 1000000
set_option maxHeartbeats 4000000
set_option linter.unusedVariables false
namespace Go.Proofs.YtcolhmddhaabnaaDoor
open Go.H

theorem fits17 : Fits P 17 := fits_of Tryd.func17 (by kernel_rfl) (by kernel_rfl)
/- 17 bulla/bullalaw18.alive
-/
def V17_s31 (K : Value → Hp → Prop) (y1 : Option Addr) (h : Hp) : Prop :=
Spec P 14 #[(.pointer y1), (.int .i64 0), (.int .u64 0), (.int .i64 0)] h fun v21 h22 =>
Spec P 19 #[(.pointer y1)] h22 fun v23 h24 =>
asTu v23 fun q25 =>
unc q25 fun v26 q27 =>
asPt v26 fun p28 =>
unc q27 fun v29 q30 =>
nilL q30 <|
nlW P 31 false v29 fun v31 =>
asBo v31 fun b32 =>
bIf b32 (
Spec P 25 #[(.pointer p28)] h24 fun v33 h34 =>
asSl v33 fun a35 l36 c37 =>
bIf (((l36 : Nat) : Int) == 2) (
Spec P 25 #[(.pointer p28)] h34 fun v38 h39 =>
asSl v38 fun a40 l41 c42 =>
ixA P 44 (.slice a40 l41 c42) (.int .i64 1) h39 fun d43 =>
ld h39 d43 fun v44 =>
asSl v44 fun a45 l46 c47 =>
oRd P (convert 24 9 (.slice a45 l46 c47)) h39 fun v48 =>
asStr v48 fun s49 =>
K (.bool (strEq s49 { data := #[98] })) h39) (
K (.bool false) h34)) (
K (.bool false) h24)
def V17_s62 (K : Value → Hp → Prop) (y1 : Option Addr) (y38 : Bool) (h : Hp) : Prop :=
bIf y38 (
K (.bool false) h) (
V17_s31 K y1 h)
def V17_s7 (K : Value → Hp → Prop) (y1 : Option Addr) (h : Hp) : Prop :=
Spec P 19 #[(.pointer y1)] h fun v11 h12 =>
asTu v11 fun q13 =>
unc q13 fun v14 q15 =>
asPt v14 fun p16 =>
unc q15 fun v17 q18 =>
nilL q18 <|
nlW P 31 true v17 fun v19 =>
asBo v19 fun b20 =>
bIf b20 (
V17_s62 K y1 true h12) (
bIf (Option.isNone p16) (
V17_s62 K y1 true h12) (
nw h12 (.cells #[(.int .u8 97)] 5) fun r50 h51 =>
oAw P (convert 24 24 (.slice (some ⟨r50, 0, none⟩) 1 1)) h51 fun v52 h53 =>
asSl v52 fun a54 l55 c56 =>
Spec P 21 #[(.pointer p16), (.slice a54 l55 c56)] h53 fun v57 h58 =>
nlW P 31 true v57 fun v59 =>
asBo v59 fun b60 =>
bIf b60 (
V17_s62 K y1 true h58) (
nw h58 (.cells #[(.int .u8 98)] 5) fun r61 h62 =>
oAw P (convert 24 24 (.slice (some ⟨r61, 0, none⟩) 1 1)) h62 fun v63 h64 =>
asSl v63 fun a65 l66 c67 =>
Spec P 21 #[(.pointer p16), (.slice a65 l66 c67)] h64 fun v68 h69 =>
nlW P 31 true v68 fun v70 =>
asBo v70 fun b71 =>
V17_s62 K y1 b71 h69)))
def V17_s14 (K : Value → Hp → Prop) (y1 : Option Addr) (y13 : Bool) (h : Hp) : Prop :=
bIf y13 (
K (.bool false) h) (
V17_s7 K y1 h)
def V17 (K : Value → Hp → Prop) (h : Hp) : Prop :=
Spec P 9 #[(.int .i64 200)] h fun v1 h2 =>
asTu v1 fun q3 =>
unc q3 fun v4 q5 =>
asPt v4 fun p6 =>
unc q5 fun v7 q8 =>
nilL q8 <|
nlW P 31 true v7 fun v9 =>
asBo v9 fun b10 =>
bIf b10 (
V17_s14 K p6 true h2) (
V17_s14 K p6 (Option.isNone p6) h2)
noncomputable def C17 : Code := match Tryd.f17.body with | some c => c | none => .skip
def L17 : Nat → Plan := fun q => Plan.nil
theorem L17_ok : plansOk P L17 C17 = true := by kernel_rfl
theorem W17 (K : Value → Hp → Prop) (h : Hp) : (V17 K  h) =
  allP (obls P L17 (fun q => false) (fun _ => []) (fun _ _ _ _ => False) 1 [] C17 (endQ P Tryd.f17 K) ++ [awp P L17 (fun q => false) (fun _ => []) (fun _ _ _ _ => False) 1 [] C17 (endQ P Tryd.f17 K) (frameL [] 62) h]) := by kernel_rfl
theorem S17 {K : Value → Hp → Prop} {h : Hp} (e : V17 K  h) : Spec P 17 #[] h K :=
  spec_of_awp (args := []) follows_P Tryd.func17 (by kernel_rfl : Tryd.f17.body = some C17) fits17 L17_ok (Nat.le_of_ble_eq_true (by kernel_rfl)) (Eq.mp (W17 K  h) e)

theorem fits18 : Fits P 18 := fits_of Tryd.func18 (by kernel_rfl) (by kernel_rfl)
/- 18 bulla/bullalaw18.long
  path 58: loop 8: 9: 10:
-/
def V18_58 (I58 : List Nat → Option Addr → Nat → Nat → Int → Int → Hp → Prop) (K : Value → Hp → Prop) (k58 : Nat) (y8 : Option Addr) (y8n y8c : Nat) (y9 : Int) (y10 : Int) (h : Hp) : Prop :=
bIf (decide ((y10 : Int) < y9)) (
ixA P 45 (.slice y8 y8n y8c) (.int .i64 y10) h fun d1 =>
ld h d1 fun v2 =>
asIn .i64 v2 fun n3 =>
ld h ⟨d1.block, d1.off + 1, none⟩ fun v4 =>
asIn .i64 v4 fun n5 =>
ld h ⟨d1.block, d1.off + 2, none⟩ fun v6 =>
asIn .i64 v6 fun n7 =>
ld h ⟨d1.block, d1.off + 3, none⟩ fun v8 =>
asIn .u64 v8 fun n9 =>
ld h ⟨d1.block, d1.off + 4, none⟩ fun v10 =>
asSl v10 fun a11 l12 c13 =>
nw h (.cells #[(.int .i64 0), (.int .i64 0), (.int .i64 0), (.int .u64 0), (.slice none 0 0)] 51) fun r14 h15 =>
st h15 ⟨r14, 0, none⟩ (.int .i64 n3) fun h16 =>
st h16 ⟨r14, 1, none⟩ (.int .i64 n5) fun h17 =>
st h17 ⟨r14, 2, none⟩ (.int .i64 n7) fun h18 =>
st h18 ⟨r14, 3, none⟩ (.int .u64 n9) fun h19 =>
st h19 ⟨r14, 4, none⟩ (.slice a11 l12 c13) fun h20 =>
ld h20 ⟨r14, 4, none⟩ fun v21 =>
asSl v21 fun a22 l23 c24 =>
bIf (decide ((((l23 : Nat) : Int) : Int) > 200)) (
K (.bool true) h20) (
∃ m, m < k58 ∧ I58 [m] y8 y8n y8c y9 (IntKind.i64.wrap (y10 + 1)) h20)) (
K (.bool false) h)
def V18 (I58 : List Nat → Option Addr → Nat → Nat → Int → Int → Hp → Prop) (K : Value → Hp → Prop) (a0 : Option Addr) (a0n a0c : Nat) (h : Hp) : Prop :=
bIf (decide ((((a0n : Nat) : Int) : Int) > 40)) (
K (.bool true) h) (
∃ n, I58 [n] a0 a0n a0c ((a0n : Nat) : Int) 0 h)
noncomputable def C18 : Code := match Tryd.f18.body with | some c => c | none => .skip
def L18 : Nat → Plan := fun q => Plan.nil
def T18 : Nat → List Value := fun q => (selT 58 [.nilIface, .nilIface, .nilIface, .nilIface, .nilIface, .nilIface, .nilIface, .nilIface, (.slice none 0 0), (.int .i64 0), (.int .i64 0), .nilIface, .nilIface, .nilIface, .nilIface, .nilIface, .nilIface, .nilIface, .nilIface] [] q)
def G18 (I58 : List Nat → Option Addr → Nat → Nat → Int → Int → Hp → Prop) : Inv := fun q => (selI 58 (fun ns l h => asSl (l.getD 8 undef) fun y8 y8n y8c => asIn .i64 (l.getD 9 undef) fun y9 => asIn .i64 (l.getD 10 undef) fun y10 => I58 ns y8 y8n y8c y9 y10 h) (fun _ _ _ => False) q)
theorem L18_ok : plansOk P L18 C18 = true := by kernel_rfl
theorem W18 (I58 : List Nat → Option Addr → Nat → Nat → Int → Int → Hp → Prop) (K : Value → Hp → Prop) (a0 : Option Addr) (a0n a0c : Nat) (h : Hp) : ((∀ k58 : Nat, (∀ (y0 : Value) (y1 : Value) (y2 : Value) (y3 : Value) (y4 : Value) (y5 : Value) (y6 : Value) (y7 : Value) (y8 : Option Addr) (y8n y8c : Nat) (y9 : Int) (y10 : Int) (y11 : Value) (y12 : Value) (y13 : Value) (y14 : Value) (y15 : Value) (y16 : Value) (y17 : Value) (y18 : Value) (h : Hp), I58 [k58] y8 y8n y8c y9 y10 h → V18_58 I58 K k58 y8 y8n y8c y9 y10 h)) ∧ V18 I58 K a0 a0n a0c h) =
  allP (obls P L18 (fun q => false) T18 (G18 I58) 1 [] C18 (endQ P Tryd.f18 K) ++ [awp P L18 (fun q => false) T18 (G18 I58) 1 [] C18 (endQ P Tryd.f18 K) (frameL [(.slice a0 a0n a0c)] 19) h]) := by kernel_rfl
theorem S18 (I58 : List Nat → Option Addr → Nat → Nat → Int → Int → Hp → Prop) {K : Value → Hp → Prop} {a0 : Option Addr} {a0n a0c : Nat} {h : Hp} (o58 : ∀ (k58 : Nat) (y8 : Option Addr) (y8n y8c : Nat) (y9 : Int) (y10 : Int) (h : Hp), I58 [k58] y8 y8n y8c y9 y10 h → V18_58 I58 K k58 y8 y8n y8c y9 y10 h) (e : V18 I58 K a0 a0n a0c h) : Spec P 18 #[(.slice a0 a0n a0c)] h K :=
  spec_of_awp (args := [(.slice a0 a0n a0c)]) follows_P Tryd.func18 (by kernel_rfl : Tryd.f18.body = some C18) fits18 L18_ok (Nat.le_of_ble_eq_true (by kernel_rfl)) (Eq.mp (W18 I58 K a0 a0n a0c h) ⟨(fun k58 => (fun _ _ _ _ _ _ _ _ y8 y8n y8c y9 y10 _ _ _ _ _ _ _ _ h hi => o58 k58 y8 y8n y8c y9 y10 h hi)), e⟩)

theorem fits19 : Fits P 19 := fits_of Tryd.func19 (by kernel_rfl) (by kernel_rfl)
/- 19 bulla/wal.Open
-/
def V19 (K : Value → Hp → Prop) (a0 : Addr) (h : Hp) : Prop :=
nw h (.cells #[(.pointer (some a0)), (.int .i64 0), (.int .i64 0), (.slice none 0 0), (.slice none 0 0), (.int .i64 0), (.bool false)] 88) fun r1 h2 =>
Spec P 41 #[(.pointer (some ⟨r1, 0, none⟩))] h2 fun v3 h4 =>
nlW P 31 true v3 fun v5 =>
asBo v5 fun b6 =>
bIf b6 (
K (.tuple #[(.pointer none), v3]) h4) (
ld h4 ⟨r1, 5, none⟩ fun v7 =>
asIn .i64 v7 fun n8 =>
Spec P 15 #[(.pointer (some a0)), (.int .i64 2)] h4 fun v9 h10 =>
asIn .i64 v9 fun n11 =>
(rd P (Instr.loadAt 3 (.pointer (some ⟨r1, 5, none⟩))) h10 = rd P (Instr.loadAt 3 (.pointer (some ⟨r1, 5, none⟩))) h4) ∧ (
bIf (n8 == n11) (
K (.tuple #[(.pointer (some ⟨r1, 0, none⟩)), .nilIface]) h10) (
ld h10 ⟨r1, 5, none⟩ fun v12 =>
asIn .i64 v12 fun n13 =>
Spec P 10 #[(.pointer (some a0)), (.int .i64 2), (.int .i64 n13)] h10 fun v14 h15 =>
nlW P 31 true v14 fun v16 =>
asBo v16 fun b17 =>
bIf b17 (
K (.tuple #[(.pointer none), v14]) h15) (
Spec P 12 #[(.pointer (some a0))] h15 fun v18 h19 =>
nlW P 31 true v18 fun v20 =>
asBo v20 fun b21 =>
bIf b21 (
K (.tuple #[(.pointer none), v18]) h19) (
K (.tuple #[(.pointer (some ⟨r1, 0, none⟩)), .nilIface]) h19)))))
noncomputable def C19 : Code := match Tryd.f19.body with | some c => c | none => .skip
def L19 : Nat → Plan := fun q => (selP 7 (.ro 0 (.ro 1 (.ro 2 (.ro 3 (.ro 4 (.ef 5 (.ro 6 .nil) .nil)))))) (selP 2 (.ro 0 (.ro 1 (.ro 2 .nil))) Plan.nil q) q)
theorem L19_ok : plansOk P L19 C19 = true := by kernel_rfl
theorem W19 (K : Value → Hp → Prop) (a0 : Addr) (h : Hp) : (V19 K a0 h) =
  allP (obls P L19 (fun q => false) (fun _ => []) (fun _ _ _ _ => False) 1 [] C19 (endQ P Tryd.f19 K) ++ [awp P L19 (fun q => false) (fun _ => []) (fun _ _ _ _ => False) 1 [] C19 (endQ P Tryd.f19 K) (frameL [(.pointer (some a0))] 42) h]) := by kernel_rfl
theorem S19 {K : Value → Hp → Prop} {a0 : Addr} {h : Hp} (e : V19 K a0 h) : Spec P 19 #[(.pointer (some a0))] h K :=
  spec_of_awp (args := [(.pointer (some a0))]) follows_P Tryd.func19 (by kernel_rfl : Tryd.f19.body = some C19) fits19 L19_ok (Nat.le_of_ble_eq_true (by kernel_rfl)) (Eq.mp (W19 K a0 h) e)

theorem fits20 : Fits P 20 := fits_of Tryd.func20 (by kernel_rfl) (by kernel_rfl)
/- 20 (*bulla/wal.Log).Compact
-/
def V20_s15 (K : Value → Hp → Prop) (y0 : Addr) (y5 : Addr) (h : Hp) : Prop :=
ld h y5 fun v21 =>
asIn .i64 v21 fun n22 =>
ld h ⟨y5.block, y5.off + 1, none⟩ fun v23 =>
asIn .i64 v23 fun n24 =>
ld h ⟨y5.block, y5.off + 2, none⟩ fun v25 =>
asSl v25 fun a26 l27 c28 =>
Spec P 44 #[(.pointer (some y0)), (.agg #[(.int .i64 n22), (.int .i64 n24), (.slice a26 l27 c28)])] h fun v29 h30 =>
Spec P 43 #[(.pointer (some y0)), v29] h30 fun v31 h32 =>
nlW P 31 true v31 fun v33 =>
asBo v33 fun b34 =>
bIf b34 (
K v31 h32) (
ld h32 y5 fun v35 =>
asIn .i64 v35 fun n36 =>
ld h32 ⟨y5.block, y5.off + 1, none⟩ fun v37 =>
asIn .i64 v37 fun n38 =>
ld h32 ⟨y5.block, y5.off + 2, none⟩ fun v39 =>
asSl v39 fun a40 l41 c42 =>
st h32 ⟨y0.block, y0.off + 1, none⟩ (.int .i64 n36) fun h43 =>
st h43 ⟨y0.block, y0.off + 2, none⟩ (.int .i64 n38) fun h44 =>
st h44 ⟨y0.block, y0.off + 3, none⟩ (.slice a40 l41 c42) fun h45 =>
st h45 ⟨y0.block, y0.off + 4, none⟩ (.slice none 0 0) fun h46 =>
st h46 ⟨y0.block, y0.off + 5, none⟩ (.int .i64 0) fun h47 =>
K .nilIface h47)
def V20_s30 (K : Value → Hp → Prop) (y0 : Addr) (y5 : Addr) (y51 : Bool) (h : Hp) : Prop :=
bIf y51 (
ld h ⟨1, 0, none⟩ fun v20 =>
K v20 h) (
V20_s15 K y0 y5 h)
def V20 (K : Value → Hp → Prop) (a0 : Addr) (a1 : Option Addr) (a1n a1c : Nat) (h : Hp) : Prop :=
ld h ⟨a0.block, a0.off + 6, none⟩ fun v1 =>
asBo v1 fun b2 =>
bIf b2 (
ld h ⟨2, 0, none⟩ fun v3 =>
K v3 h) (
ld h ⟨a0.block, a0.off + 1, none⟩ fun v4 =>
asIn .i64 v4 fun n5 =>
ld h ⟨a0.block, a0.off + 2, none⟩ fun v6 =>
asIn .i64 v6 fun n7 =>
(Spec P 37 #[(.slice a1 a1n a1c)] h fun v8 h9 =>
asSl v8 fun a10 l11 c12 =>
(rd P (sBin .sub 3 true (.int .i64 1) (.int .i64 n7)) h9 = rd P (sBin .sub 3 true (.int .i64 1) (.int .i64 n7)) h ∧ (rd P (Instr.loadAt 3 (.pointer (some ⟨a0.block, a0.off + 2, none⟩))) h9 = rd P (Instr.loadAt 3 (.pointer (some ⟨a0.block, a0.off + 2, none⟩))) h ∧ (rd P (sBin .add 3 true (.int .i64 n5) (.int .i64 1)) h9 = rd P (sBin .add 3 true (.int .i64 n5) (.int .i64 1)) h ∧ (rd P (Instr.loadAt 3 (.pointer (some ⟨a0.block, a0.off + 1, none⟩))) h9 = rd P (Instr.loadAt 3 (.pointer (some ⟨a0.block, a0.off + 1, none⟩))) h)))) ∧ (
nw h9 (.cells #[(.int .i64 0), (.int .i64 0), (.slice none 0 0)] 86) fun r13 h14 =>
(rd P (Instr.build 86 #[(0, (.int .i64 (IntKind.i64.wrap (n5 + 1)))), (1, (.int .i64 (IntKind.i64.wrap (1 - n7)))), (2, (.slice a10 l11 c12))]) h14 = rd P (Instr.build 86 #[(0, (.int .i64 (IntKind.i64.wrap (n5 + 1)))), (1, (.int .i64 (IntKind.i64.wrap (1 - n7)))), (2, (.slice a10 l11 c12))]) h9 ∧ (rd P (sBin .sub 3 true (.int .i64 1) (.int .i64 n7)) h14 = rd P (sBin .sub 3 true (.int .i64 1) (.int .i64 n7)) h ∧ (rd P (Instr.loadAt 3 (.pointer (some ⟨a0.block, a0.off + 2, none⟩))) h14 = rd P (Instr.loadAt 3 (.pointer (some ⟨a0.block, a0.off + 2, none⟩))) h ∧ (rd P (sBin .add 3 true (.int .i64 n5) (.int .i64 1)) h14 = rd P (sBin .add 3 true (.int .i64 n5) (.int .i64 1)) h ∧ (rd P (Instr.loadAt 3 (.pointer (some ⟨a0.block, a0.off + 1, none⟩))) h14 = rd P (Instr.loadAt 3 (.pointer (some ⟨a0.block, a0.off + 1, none⟩))) h))))) ∧ (
st h14 ⟨r13, 0, none⟩ (.int .i64 (IntKind.i64.wrap (n5 + 1))) fun h15 =>
st h15 ⟨r13, 1, none⟩ (.int .i64 (IntKind.i64.wrap (1 - n7))) fun h16 =>
st h16 ⟨r13, 2, none⟩ (.slice a10 l11 c12) fun h17 =>
ld h17 ⟨a0.block, a0.off + 1, none⟩ fun v18 =>
asIn .i64 v18 fun n19 =>
bIf (decide ((n19 : Int) ≥ 2147483647)) (
V20_s30 K a0 ⟨r13, 0, none⟩ true h17) (
ld h17 ⟨r13, 0, none⟩ fun v48 =>
asIn .i64 v48 fun n49 =>
ld h17 ⟨r13, 1, none⟩ fun v50 =>
asIn .i64 v50 fun n51 =>
ld h17 ⟨r13, 2, none⟩ fun v52 =>
asSl v52 fun a53 l54 c55 =>
ld h17 a0 fun v56 =>
asPt v56 fun p57 =>
ld h17 ⟨r13, 1, none⟩ fun v58 =>
asIn .i64 v58 fun n59 =>
ld h17 a0 fun v60 =>
asPt v60 fun p61 =>
Spec P 42 #[(.agg #[(.int .i64 n49), (.int .i64 n51), (.slice a53 l54 c55)])] h17 fun v62 h63 =>
asSl v62 fun a64 l65 c66 =>
(rd P (Instr.loadAt 29 (.pointer (some a0))) h63 = rd P (Instr.loadAt 29 (.pointer (some a0))) h17 ∧ (rd P (Instr.loadAt 3 (.pointer (some ⟨r13, 1, none⟩))) h63 = rd P (Instr.loadAt 3 (.pointer (some ⟨r13, 1, none⟩))) h17 ∧ (rd P (Instr.loadAt 29 (.pointer (some a0))) h63 = rd P (Instr.loadAt 29 (.pointer (some a0))) h17 ∧ (rd P (Instr.loadAt 3 (.pointer (some ⟨a0.block, a0.off + 1, none⟩))) h63 = rd P (Instr.loadAt 3 (.pointer (some ⟨a0.block, a0.off + 1, none⟩))) h17)))) ∧ (
Spec P 15 #[(.pointer p57), (.int .i64 n59)] h63 fun v67 h68 =>
asIn .i64 v67 fun n69 =>
(rd P (Builtin.len_ #[24] 3 #[(.slice a64 l65 c66)]) h68 = rd P (Builtin.len_ #[24] 3 #[(.slice a64 l65 c66)]) h63 ∧ (rd P (Instr.loadAt 29 (.pointer (some a0))) h68 = rd P (Instr.loadAt 29 (.pointer (some a0))) h17 ∧ (rd P (Instr.loadAt 3 (.pointer (some ⟨a0.block, a0.off + 1, none⟩))) h68 = rd P (Instr.loadAt 3 (.pointer (some ⟨a0.block, a0.off + 1, none⟩))) h17))) ∧ (
Spec P 16 #[(.pointer p61)] h68 fun v70 h71 =>
asIn .i64 v70 fun n72 =>
(rd P (sBin .sub 3 false (.int .i64 ((l65 : Nat) : Int)) (.int .i64 n69)) h71 = rd P (sBin .sub 3 false (.int .i64 ((l65 : Nat) : Int)) (.int .i64 n69)) h68 ∧ (rd P (Builtin.len_ #[24] 3 #[(.slice a64 l65 c66)]) h71 = rd P (Builtin.len_ #[24] 3 #[(.slice a64 l65 c66)]) h63 ∧ (rd P (Instr.loadAt 3 (.pointer (some ⟨a0.block, a0.off + 1, none⟩))) h71 = rd P (Instr.loadAt 3 (.pointer (some ⟨a0.block, a0.off + 1, none⟩))) h17))) ∧ (
V20_s30 K a0 ⟨r13, 0, none⟩ (decide (((IntKind.i64.wrap (((l65 : Nat) : Int) - n69)) : Int) > n72)) h71))))))) ∧
(nw h (.cells #[(.int .i64 0), (.int .i64 0), (.slice none 0 0)] 86) fun r73 h74 =>
(rd P (sBin .sub 3 true (.int .i64 1) (.int .i64 n7)) h74 = rd P (sBin .sub 3 true (.int .i64 1) (.int .i64 n7)) h ∧ (rd P (Instr.loadAt 3 (.pointer (some ⟨a0.block, a0.off + 2, none⟩))) h74 = rd P (Instr.loadAt 3 (.pointer (some ⟨a0.block, a0.off + 2, none⟩))) h ∧ (rd P (sBin .add 3 true (.int .i64 n5) (.int .i64 1)) h74 = rd P (sBin .add 3 true (.int .i64 n5) (.int .i64 1)) h ∧ (rd P (Instr.loadAt 3 (.pointer (some ⟨a0.block, a0.off + 1, none⟩))) h74 = rd P (Instr.loadAt 3 (.pointer (some ⟨a0.block, a0.off + 1, none⟩))) h)))) ∧ (
Spec P 37 #[(.slice a1 a1n a1c)] h74 fun v75 h76 =>
asSl v75 fun a77 l78 c79 =>
(rd P (sBin .sub 3 true (.int .i64 1) (.int .i64 n7)) h76 = rd P (sBin .sub 3 true (.int .i64 1) (.int .i64 n7)) h ∧ (rd P (Instr.loadAt 3 (.pointer (some ⟨a0.block, a0.off + 2, none⟩))) h76 = rd P (Instr.loadAt 3 (.pointer (some ⟨a0.block, a0.off + 2, none⟩))) h ∧ (rd P (sBin .add 3 true (.int .i64 n5) (.int .i64 1)) h76 = rd P (sBin .add 3 true (.int .i64 n5) (.int .i64 1)) h ∧ (rd P (Instr.loadAt 3 (.pointer (some ⟨a0.block, a0.off + 1, none⟩))) h76 = rd P (Instr.loadAt 3 (.pointer (some ⟨a0.block, a0.off + 1, none⟩))) h)))) ∧ (
st h76 ⟨r73, 0, none⟩ (.int .i64 (IntKind.i64.wrap (n5 + 1))) fun h80 =>
st h80 ⟨r73, 1, none⟩ (.int .i64 (IntKind.i64.wrap (1 - n7))) fun h81 =>
st h81 ⟨r73, 2, none⟩ (.slice a77 l78 c79) fun h82 =>
ld h82 ⟨a0.block, a0.off + 1, none⟩ fun v83 =>
asIn .i64 v83 fun n84 =>
bIf (decide ((n84 : Int) ≥ 2147483647)) (
V20_s30 K a0 ⟨r73, 0, none⟩ true h82) (
ld h82 ⟨r73, 0, none⟩ fun v85 =>
asIn .i64 v85 fun n86 =>
ld h82 ⟨r73, 1, none⟩ fun v87 =>
asIn .i64 v87 fun n88 =>
ld h82 ⟨r73, 2, none⟩ fun v89 =>
asSl v89 fun a90 l91 c92 =>
ld h82 a0 fun v93 =>
asPt v93 fun p94 =>
ld h82 ⟨r73, 1, none⟩ fun v95 =>
asIn .i64 v95 fun n96 =>
ld h82 a0 fun v97 =>
asPt v97 fun p98 =>
Spec P 42 #[(.agg #[(.int .i64 n86), (.int .i64 n88), (.slice a90 l91 c92)])] h82 fun v99 h100 =>
asSl v99 fun a101 l102 c103 =>
(rd P (Instr.loadAt 29 (.pointer (some a0))) h100 = rd P (Instr.loadAt 29 (.pointer (some a0))) h82 ∧ (rd P (Instr.loadAt 3 (.pointer (some ⟨r73, 1, none⟩))) h100 = rd P (Instr.loadAt 3 (.pointer (some ⟨r73, 1, none⟩))) h82 ∧ (rd P (Instr.loadAt 29 (.pointer (some a0))) h100 = rd P (Instr.loadAt 29 (.pointer (some a0))) h82 ∧ (rd P (Instr.loadAt 3 (.pointer (some ⟨a0.block, a0.off + 1, none⟩))) h100 = rd P (Instr.loadAt 3 (.pointer (some ⟨a0.block, a0.off + 1, none⟩))) h82)))) ∧ (
Spec P 15 #[(.pointer p94), (.int .i64 n96)] h100 fun v104 h105 =>
asIn .i64 v104 fun n106 =>
(rd P (Builtin.len_ #[24] 3 #[(.slice a101 l102 c103)]) h105 = rd P (Builtin.len_ #[24] 3 #[(.slice a101 l102 c103)]) h100 ∧ (rd P (Instr.loadAt 29 (.pointer (some a0))) h105 = rd P (Instr.loadAt 29 (.pointer (some a0))) h82 ∧ (rd P (Instr.loadAt 3 (.pointer (some ⟨a0.block, a0.off + 1, none⟩))) h105 = rd P (Instr.loadAt 3 (.pointer (some ⟨a0.block, a0.off + 1, none⟩))) h82))) ∧ (
Spec P 16 #[(.pointer p98)] h105 fun v107 h108 =>
asIn .i64 v107 fun n109 =>
(rd P (sBin .sub 3 false (.int .i64 ((l102 : Nat) : Int)) (.int .i64 n106)) h108 = rd P (sBin .sub 3 false (.int .i64 ((l102 : Nat) : Int)) (.int .i64 n106)) h105 ∧ (rd P (Builtin.len_ #[24] 3 #[(.slice a101 l102 c103)]) h108 = rd P (Builtin.len_ #[24] 3 #[(.slice a101 l102 c103)]) h100 ∧ (rd P (Instr.loadAt 3 (.pointer (some ⟨a0.block, a0.off + 1, none⟩))) h108 = rd P (Instr.loadAt 3 (.pointer (some ⟨a0.block, a0.off + 1, none⟩))) h82))) ∧ (
V20_s30 K a0 ⟨r73, 0, none⟩ (decide (((IntKind.i64.wrap (((l102 : Nat) : Int) - n106)) : Int) > n109)) h108))))))))
noncomputable def C20 : Code := match Tryd.f20.body with | some c => c | none => .skip
def L20 : Nat → Plan := fun q => (selP 4 (.ro 0 (.ro 1 (.ro 2 (.ro 3 (.ro 4 (.ro 5 (.ro 6 (.ro 7 (.ro 10 (.ro 11 (.ro 12 (.ro 13 (.ro 14 (.ro 15 (.ro 18 (.ro 19 (.ro 20 (.ro 21 (.ef 8 (.ro 9 (.ef 16 (.ro 17 (.ef 22 (.ro 23 (.ro 24 .nil)) .nil)) .nil)) .nil))))))))))))))))))) (selP 3 (.ro 0 (.ro 1 (.ro 2 (.ro 3 (.ro 4 (.ro 5 (.ro 6 (.ro 7 (.ro 8 (.ro 9 (.ro 10 (.ro 11 (.ro 12 (.ef 13 (.ro 14 (.ef 15 (.ef 16 .nil .nil) .nil)) (.ef 15 (.ef 13 (.ro 14 (.ef 16 .nil .nil)) .nil) .nil))))))))))))))) Plan.nil q) q)
theorem L20_ok : plansOk P L20 C20 = true := by kernel_rfl
theorem W20 (K : Value → Hp → Prop) (a0 : Addr) (a1 : Option Addr) (a1n a1c : Nat) (h : Hp) : (V20 K a0 a1 a1n a1c h) =
  allP (obls P L20 (fun q => false) (fun _ => []) (fun _ _ _ _ => False) 1 [] C20 (endQ P Tryd.f20 K) ++ [awp P L20 (fun q => false) (fun _ => []) (fun _ _ _ _ => False) 1 [] C20 (endQ P Tryd.f20 K) (frameL [(.pointer (some a0)), (.slice a1 a1n a1c)] 71) h]) := by kernel_rfl
theorem S20 {K : Value → Hp → Prop} {a0 : Addr} {a1 : Option Addr} {a1n a1c : Nat} {h : Hp} (e : V20 K a0 a1 a1n a1c h) : Spec P 20 #[(.pointer (some a0)), (.slice a1 a1n a1c)] h K :=
  spec_of_awp (args := [(.pointer (some a0)), (.slice a1 a1n a1c)]) follows_P Tryd.func20 (by kernel_rfl : Tryd.f20.body = some C20) fits20 L20_ok (Nat.le_of_ble_eq_true (by kernel_rfl)) (Eq.mp (W20 K a0 a1 a1n a1c h) e)

theorem fits21 : Fits P 21 := fits_of Tryd.func21 (by kernel_rfl) (by kernel_rfl)
/- 21 (*bulla/wal.Log).Append
-/
def V21 (K : Value → Hp → Prop) (a0 : Addr) (a1 : Option Addr) (a1n a1c : Nat) (h : Hp) : Prop :=
ld h ⟨a0.block, a0.off + 6, none⟩ fun v1 =>
asBo v1 fun b2 =>
bIf b2 (
ld h ⟨2, 0, none⟩ fun v3 =>
K v3 h) (
bIf (decide ((((a1n : Nat) : Int) : Int) > 16384)) (
ld h ⟨4, 0, none⟩ fun v4 =>
K v4 h) (
ld h a0 fun v5 =>
asPt v5 fun p6 =>
Spec P 16 #[(.pointer p6)] h fun v7 h8 =>
asIn .i64 v7 fun n9 =>
bIf (decide (((IntKind.i64.wrap (20 + ((a1n : Nat) : Int))) : Int) > n9)) (
ld h8 ⟨1, 0, none⟩ fun v10 =>
K v10 h8) (
ld h8 ⟨a0.block, a0.off + 1, none⟩ fun v11 =>
asIn .i64 v11 fun n12 =>
ld h8 ⟨a0.block, a0.off + 4, none⟩ fun v13 =>
asSl v13 fun a14 l15 c16 =>
Spec P 45 #[(.int .i64 n12), (.int .i64 ((l15 : Nat) : Int)), (.slice a1 a1n a1c)] h8 fun v17 h18 =>
asSl v17 fun a19 l20 c21 =>
ld h18 ⟨a0.block, a0.off + 5, none⟩ fun v22 =>
asIn .i64 v22 fun n23 =>
Spec P 46 #[(.pointer (some a0)), (.int .i64 2), (.int .i64 n23), (.slice a19 l20 c21)] h18 fun v24 h25 =>
Spec P 43 #[(.pointer (some a0)), v24] h25 fun v26 h27 =>
nlW P 31 true v26 fun v28 =>
asBo v28 fun b29 =>
bIf b29 (
K v26 h27) (
ld h27 ⟨a0.block, a0.off + 4, none⟩ fun v30 =>
asSl v30 fun a31 l32 c33 =>
Spec P 37 #[(.slice a1 a1n a1c)] h27 fun v34 h35 =>
asSl v34 fun a36 l37 c38 =>
(rd P (Instr.loadAt 44 (.pointer (some ⟨a0.block, a0.off + 4, none⟩))) h35 = rd P (Instr.loadAt 44 (.pointer (some ⟨a0.block, a0.off + 4, none⟩))) h27) ∧ (
nw h35 (.cells #[(.slice a36 l37 c38)] 24) fun r39 h40 =>
(rd P (Instr.loadAt 44 (.pointer (some ⟨a0.block, a0.off + 4, none⟩))) h40 = rd P (Instr.loadAt 44 (.pointer (some ⟨a0.block, a0.off + 4, none⟩))) h27) ∧ (
oNx P (builtin .append #[44, 44] 44 #[false, false] #[(.slice a31 l32 c33), (.slice (some ⟨r39, 0, none⟩) 1 1)]) h40 fun v41 h42 =>
asSl v41 fun a43 l44 c45 =>
st h42 ⟨a0.block, a0.off + 4, none⟩ (.slice a43 l44 c45) fun h46 =>
ld h46 ⟨a0.block, a0.off + 5, none⟩ fun v47 =>
asIn .i64 v47 fun n48 =>
st h46 ⟨a0.block, a0.off + 5, none⟩ (.int .i64 (IntKind.i64.wrap (n48 + ((l20 : Nat) : Int)))) fun h49 =>
K .nilIface h49))))))
noncomputable def C21 : Code := match Tryd.f21.body with | some c => c | none => .skip
def L21 : Nat → Plan := fun q => (selP 11 (.ro 0 (.ro 1 (.ro 2 (.ro 3 (.ro 4 (.ro 5 (.ef 6 (.ef 7 (.ef 8 (.ro 9 (.ro 10 (.ef 11 .nil .nil))) .nil) .nil) .nil))))))) (selP 7 (.ro 0 (.ro 1 (.ro 2 (.ro 3 (.ro 4 (.ro 5 (.ro 6 (.ro 7 (.ro 8 (.ro 9 (.ro 10 (.ef 11 (.ro 12 .nil) .nil)))))))))))) Plan.nil q) q)
theorem L21_ok : plansOk P L21 C21 = true := by kernel_rfl
theorem W21 (K : Value → Hp → Prop) (a0 : Addr) (a1 : Option Addr) (a1n a1c : Nat) (h : Hp) : (V21 K a0 a1 a1n a1c h) =
  allP (obls P L21 (fun q => false) (fun _ => []) (fun _ _ _ _ => False) 1 [] C21 (endQ P Tryd.f21 K) ++ [awp P L21 (fun q => false) (fun _ => []) (fun _ _ _ _ => False) 1 [] C21 (endQ P Tryd.f21 K) (frameL [(.pointer (some a0)), (.slice a1 a1n a1c)] 73) h]) := by kernel_rfl
theorem S21 {K : Value → Hp → Prop} {a0 : Addr} {a1 : Option Addr} {a1n a1c : Nat} {h : Hp} (e : V21 K a0 a1 a1n a1c h) : Spec P 21 #[(.pointer (some a0)), (.slice a1 a1n a1c)] h K :=
  spec_of_awp (args := [(.pointer (some a0)), (.slice a1 a1n a1c)]) follows_P Tryd.func21 (by kernel_rfl : Tryd.f21.body = some C21) fits21 L21_ok (Nat.le_of_ble_eq_true (by kernel_rfl)) (Eq.mp (W21 K a0 a1 a1n a1c h) e)

theorem fits22 : Fits P 22 := fits_of Tryd.func22 (by kernel_rfl) (by kernel_rfl)
/- 22 (*bulla/wal.Log).Gen
-/
def V22 (K : Value → Hp → Prop) (a0 : Addr) (h : Hp) : Prop :=
ld h ⟨a0.block, a0.off + 1, none⟩ fun v1 =>
asIn .i64 v1 fun n2 =>
K (.int .i64 n2) h
noncomputable def C22 : Code := match Tryd.f22.body with | some c => c | none => .skip
def L22 : Nat → Plan := fun q => Plan.nil
theorem L22_ok : plansOk P L22 C22 = true := by kernel_rfl
theorem W22 (K : Value → Hp → Prop) (a0 : Addr) (h : Hp) : (V22 K a0 h) =
  allP (obls P L22 (fun q => false) (fun _ => []) (fun _ _ _ _ => False) 1 [] C22 (endQ P Tryd.f22 K) ++ [awp P L22 (fun q => false) (fun _ => []) (fun _ _ _ _ => False) 1 [] C22 (endQ P Tryd.f22 K) (frameL [(.pointer (some a0))] 8) h]) := by kernel_rfl
theorem S22 {K : Value → Hp → Prop} {a0 : Addr} {h : Hp} (e : V22 K a0 h) : Spec P 22 #[(.pointer (some a0))] h K :=
  spec_of_awp (args := [(.pointer (some a0))]) follows_P Tryd.func22 (by kernel_rfl : Tryd.f22.body = some C22) fits22 L22_ok (Nat.le_of_ble_eq_true (by kernel_rfl)) (Eq.mp (W22 K a0 h) e)

theorem fits23 : Fits P 23 := fits_of Tryd.func23 (by kernel_rfl) (by kernel_rfl)
/- 23 (*bulla/wal.Log).Snapshot
-/
def V23 (K : Value → Hp → Prop) (a0 : Addr) (h : Hp) : Prop :=
ld h ⟨a0.block, a0.off + 3, none⟩ fun v1 =>
asSl v1 fun a2 l3 c4 =>
Spec P 37 #[(.slice a2 l3 c4)] h fun v5 h6 =>
asSl v5 fun a7 l8 c9 =>
K (.slice a7 l8 c9) h6
noncomputable def C23 : Code := match Tryd.f23.body with | some c => c | none => .skip
def L23 : Nat → Plan := fun q => Plan.nil
theorem L23_ok : plansOk P L23 C23 = true := by kernel_rfl
theorem W23 (K : Value → Hp → Prop) (a0 : Addr) (h : Hp) : (V23 K a0 h) =
  allP (obls P L23 (fun q => false) (fun _ => []) (fun _ _ _ _ => False) 1 [] C23 (endQ P Tryd.f23 K) ++ [awp P L23 (fun q => false) (fun _ => []) (fun _ _ _ _ => False) 1 [] C23 (endQ P Tryd.f23 K) (frameL [(.pointer (some a0))] 9) h]) := by kernel_rfl
theorem S23 {K : Value → Hp → Prop} {a0 : Addr} {h : Hp} (e : V23 K a0 h) : Spec P 23 #[(.pointer (some a0))] h K :=
  spec_of_awp (args := [(.pointer (some a0))]) follows_P Tryd.func23 (by kernel_rfl : Tryd.f23.body = some C23) fits23 L23_ok (Nat.le_of_ble_eq_true (by kernel_rfl)) (Eq.mp (W23 K a0 h) e)

theorem fits24 : Fits P 24 := fits_of Tryd.func24 (by kernel_rfl) (by kernel_rfl)
/- 24 bulla/bullanum.SameLists
  path 58: loop 0:a 1:b 12: 13:
-/
def V24_58 (I58 : List Nat → Option Addr → Nat → Nat → Option Addr → Nat → Nat → Int → Int → Hp → Prop) (K : Value → Hp → Prop) (k58 : Nat) (y0 : Option Addr) (y0n y0c : Nat) (y1 : Option Addr) (y1n y1c : Nat) (y12 : Int) (y13 : Int) (h : Hp) : Prop :=
bIf (decide ((y13 : Int) < y12)) (
ixA P 44 (.slice y0 y0n y0c) (.int .i64 y13) h fun d1 =>
ld h d1 fun v2 =>
asSl v2 fun a3 l4 c5 =>
oRd P (convert 24 9 (.slice a3 l4 c5)) h fun v6 =>
asStr v6 fun s7 =>
ixA P 44 (.slice y1 y1n y1c) (.int .i64 y13) h fun d8 =>
ld h d8 fun v9 =>
asSl v9 fun a10 l11 c12 =>
oRd P (convert 24 9 (.slice a10 l11 c12)) h fun v13 =>
asStr v13 fun s14 =>
bIf (!(strEq s7 s14)) (
K (.bool false) h) (
∃ m, m < k58 ∧ I58 [m] y0 y0n y0c y1 y1n y1c y12 (IntKind.i64.wrap (y13 + 1)) h)) (
K (.bool true) h)
def V24 (I58 : List Nat → Option Addr → Nat → Nat → Option Addr → Nat → Nat → Int → Int → Hp → Prop) (K : Value → Hp → Prop) (a0 : Option Addr) (a0n a0c : Nat) (a1 : Option Addr) (a1n a1c : Nat) (h : Hp) : Prop :=
bIf (((a0n : Nat) : Int) != ((a1n : Nat) : Int)) (
K (.bool false) h) (
∃ n, I58 [n] a0 a0n a0c a1 a1n a1c ((a0n : Nat) : Int) 0 h)
noncomputable def C24 : Code := match Tryd.f24.body with | some c => c | none => .skip
def L24 : Nat → Plan := fun q => (selP 6 (.ro 0 (.ro 1 (.ro 2 (.ro 3 (.ro 4 (.ro 5 (.ro 6 (.ro 7 (.ro 8 (.ro 9 (.ro 10 .nil))))))))))) Plan.nil q)
def T24 : Nat → List Value := fun q => (selT 58 [(.slice none 0 0), (.slice none 0 0), .nilIface, .nilIface, .nilIface, .nilIface, .nilIface, .nilIface, .nilIface, .nilIface, .nilIface, .nilIface, (.int .i64 0), (.int .i64 0), .nilIface, .nilIface, .nilIface, .nilIface, .nilIface, .nilIface, .nilIface, .nilIface, .nilIface, .nilIface, .nilIface, .nilIface, .nilIface, .nilIface] [] q)
def G24 (I58 : List Nat → Option Addr → Nat → Nat → Option Addr → Nat → Nat → Int → Int → Hp → Prop) : Inv := fun q => (selI 58 (fun ns l h => asSl (l.getD 0 undef) fun y0 y0n y0c => asSl (l.getD 1 undef) fun y1 y1n y1c => asIn .i64 (l.getD 12 undef) fun y12 => asIn .i64 (l.getD 13 undef) fun y13 => I58 ns y0 y0n y0c y1 y1n y1c y12 y13 h) (fun _ _ _ => False) q)
theorem L24_ok : plansOk P L24 C24 = true := by kernel_rfl
theorem W24 (I58 : List Nat → Option Addr → Nat → Nat → Option Addr → Nat → Nat → Int → Int → Hp → Prop) (K : Value → Hp → Prop) (a0 : Option Addr) (a0n a0c : Nat) (a1 : Option Addr) (a1n a1c : Nat) (h : Hp) : ((∀ k58 : Nat, (∀ (y0 : Option Addr) (y0n y0c : Nat) (y1 : Option Addr) (y1n y1c : Nat) (y2 : Value) (y3 : Value) (y4 : Value) (y5 : Value) (y6 : Value) (y7 : Value) (y8 : Value) (y9 : Value) (y10 : Value) (y11 : Value) (y12 : Int) (y13 : Int) (y14 : Value) (y15 : Value) (y16 : Value) (y17 : Value) (y18 : Value) (y19 : Value) (y20 : Value) (y21 : Value) (y22 : Value) (y23 : Value) (y24 : Value) (y25 : Value) (y26 : Value) (y27 : Value) (h : Hp), I58 [k58] y0 y0n y0c y1 y1n y1c y12 y13 h → V24_58 I58 K k58 y0 y0n y0c y1 y1n y1c y12 y13 h)) ∧ V24 I58 K a0 a0n a0c a1 a1n a1c h) =
  allP (obls P L24 (fun q => false) T24 (G24 I58) 1 [] C24 (endQ P Tryd.f24 K) ++ [awp P L24 (fun q => false) T24 (G24 I58) 1 [] C24 (endQ P Tryd.f24 K) (frameL [(.slice a0 a0n a0c), (.slice a1 a1n a1c)] 28) h]) := by kernel_rfl
theorem S24 (I58 : List Nat → Option Addr → Nat → Nat → Option Addr → Nat → Nat → Int → Int → Hp → Prop) {K : Value → Hp → Prop} {a0 : Option Addr} {a0n a0c : Nat} {a1 : Option Addr} {a1n a1c : Nat} {h : Hp} (o58 : ∀ (k58 : Nat) (y0 : Option Addr) (y0n y0c : Nat) (y1 : Option Addr) (y1n y1c : Nat) (y12 : Int) (y13 : Int) (h : Hp), I58 [k58] y0 y0n y0c y1 y1n y1c y12 y13 h → V24_58 I58 K k58 y0 y0n y0c y1 y1n y1c y12 y13 h) (e : V24 I58 K a0 a0n a0c a1 a1n a1c h) : Spec P 24 #[(.slice a0 a0n a0c), (.slice a1 a1n a1c)] h K :=
  spec_of_awp (args := [(.slice a0 a0n a0c), (.slice a1 a1n a1c)]) follows_P Tryd.func24 (by kernel_rfl : Tryd.f24.body = some C24) fits24 L24_ok (Nat.le_of_ble_eq_true (by kernel_rfl)) (Eq.mp (W24 I58 K a0 a0n a0c a1 a1n a1c h) ⟨(fun k58 => (fun y0 y0n y0c y1 y1n y1c _ _ _ _ _ _ _ _ _ _ y12 y13 _ _ _ _ _ _ _ _ _ _ _ _ _ _ h hi => o58 k58 y0 y0n y0c y1 y1n y1c y12 y13 h hi)), e⟩)

theorem fits25 : Fits P 25 := fits_of Tryd.func25 (by kernel_rfl) (by kernel_rfl)
/- 25 (*bulla/wal.Log).Records
  path 58: loop 3:out 9: 10: 11:
-/
def V25_58 (I58 : List Nat → Option Addr → Nat → Nat → Option Addr → Nat → Nat → Int → Int → Hp → Prop) (K : Value → Hp → Prop) (k58 : Nat) (y3 : Option Addr) (y3n y3c : Nat) (y9 : Option Addr) (y9n y9c : Nat) (y10 : Int) (y11 : Int) (h : Hp) : Prop :=
bIf (decide ((y11 : Int) < y10)) (
ixA P 44 (.slice y9 y9n y9c) (.int .i64 y11) h fun d1 =>
ld h d1 fun v2 =>
asSl v2 fun a3 l4 c5 =>
Spec P 37 #[(.slice a3 l4 c5)] h fun v6 h7 =>
asSl v6 fun a8 l9 c10 =>
nw h7 (.cells #[(.slice a8 l9 c10)] 24) fun r11 h12 =>
oNx P (builtin .append #[44, 44] 44 #[false, false] #[(.slice y3 y3n y3c), (.slice (some ⟨r11, 0, none⟩) 1 1)]) h12 fun v13 h14 =>
asSl v13 fun a15 l16 c17 =>
∃ m, m < k58 ∧ I58 [m] a15 l16 c17 y9 y9n y9c y10 (IntKind.i64.wrap (y11 + 1)) h14) (
K (.slice y3 y3n y3c) h)
def V25 (I58 : List Nat → Option Addr → Nat → Nat → Option Addr → Nat → Nat → Int → Int → Hp → Prop) (K : Value → Hp → Prop) (a0 : Addr) (h : Hp) : Prop :=
ld h ⟨a0.block, a0.off + 4, none⟩ fun v18 =>
asSl v18 fun a19 l20 c21 =>
∃ n, I58 [n] none 0 0 a19 l20 c21 ((l20 : Nat) : Int) 0 h
noncomputable def C25 : Code := match Tryd.f25.body with | some c => c | none => .skip
def L25 : Nat → Plan := fun q => Plan.nil
def T25 : Nat → List Value := fun q => (selT 58 [.nilIface, .nilIface, .nilIface, (.slice none 0 0), .nilIface, .nilIface, .nilIface, .nilIface, .nilIface, (.slice none 0 0), (.int .i64 0), (.int .i64 0), .nilIface, .nilIface, .nilIface, .nilIface, .nilIface, .nilIface, .nilIface, .nilIface, .nilIface, .nilIface] [] q)
def G25 (I58 : List Nat → Option Addr → Nat → Nat → Option Addr → Nat → Nat → Int → Int → Hp → Prop) : Inv := fun q => (selI 58 (fun ns l h => asSl (l.getD 3 undef) fun y3 y3n y3c => asSl (l.getD 9 undef) fun y9 y9n y9c => asIn .i64 (l.getD 10 undef) fun y10 => asIn .i64 (l.getD 11 undef) fun y11 => I58 ns y3 y3n y3c y9 y9n y9c y10 y11 h) (fun _ _ _ => False) q)
theorem L25_ok : plansOk P L25 C25 = true := by kernel_rfl
theorem W25 (I58 : List Nat → Option Addr → Nat → Nat → Option Addr → Nat → Nat → Int → Int → Hp → Prop) (K : Value → Hp → Prop) (a0 : Addr) (h : Hp) : ((∀ k58 : Nat, (∀ (y0 : Value) (y1 : Value) (y2 : Value) (y3 : Option Addr) (y3n y3c : Nat) (y4 : Value) (y5 : Value) (y6 : Value) (y7 : Value) (y8 : Value) (y9 : Option Addr) (y9n y9c : Nat) (y10 : Int) (y11 : Int) (y12 : Value) (y13 : Value) (y14 : Value) (y15 : Value) (y16 : Value) (y17 : Value) (y18 : Value) (y19 : Value) (y20 : Value) (y21 : Value) (h : Hp), I58 [k58] y3 y3n y3c y9 y9n y9c y10 y11 h → V25_58 I58 K k58 y3 y3n y3c y9 y9n y9c y10 y11 h)) ∧ V25 I58 K a0 h) =
  allP (obls P L25 (fun q => false) T25 (G25 I58) 1 [] C25 (endQ P Tryd.f25 K) ++ [awp P L25 (fun q => false) T25 (G25 I58) 1 [] C25 (endQ P Tryd.f25 K) (frameL [(.pointer (some a0))] 22) h]) := by kernel_rfl
theorem S25 (I58 : List Nat → Option Addr → Nat → Nat → Option Addr → Nat → Nat → Int → Int → Hp → Prop) {K : Value → Hp → Prop} {a0 : Addr} {h : Hp} (o58 : ∀ (k58 : Nat) (y3 : Option Addr) (y3n y3c : Nat) (y9 : Option Addr) (y9n y9c : Nat) (y10 : Int) (y11 : Int) (h : Hp), I58 [k58] y3 y3n y3c y9 y9n y9c y10 y11 h → V25_58 I58 K k58 y3 y3n y3c y9 y9n y9c y10 y11 h) (e : V25 I58 K a0 h) : Spec P 25 #[(.pointer (some a0))] h K :=
  spec_of_awp (args := [(.pointer (some a0))]) follows_P Tryd.func25 (by kernel_rfl : Tryd.f25.body = some C25) fits25 L25_ok (Nat.le_of_ble_eq_true (by kernel_rfl)) (Eq.mp (W25 I58 K a0 h) ⟨(fun k58 => (fun _ _ _ y3 y3n y3c _ _ _ _ _ y9 y9n y9c y10 y11 _ _ _ _ _ _ _ _ _ _ h hi => o58 k58 y3 y3n y3c y9 y9n y9c y10 y11 h hi)), e⟩)

theorem fits41 : Fits P 41 := fits_of Tryd.func41 (by kernel_rfl) (by kernel_rfl)
/- 41 (*bulla/wal.Log).load
  path 58: loop 0:d 16:
  path 126: loop 0:d 8:
-/
def V41_s29903 (I58 : List Nat → Addr → Int → Hp → Prop) (I126 : List Nat → Addr → Option Addr → Nat → Nat → Hp → Prop) (K : Value → Hp → Prop) (k58 : Nat) (y0 : Addr) (y6 : Addr) (y16 : Int) (y47 : Bool) (h : Hp) : Prop :=
bIf y47 (
ld h y6 fun v44 =>
asIn .i64 v44 fun n45 =>
ld h ⟨y6.block, y6.off + 1, none⟩ fun v46 =>
asIn .i64 v46 fun n47 =>
ld h ⟨y6.block, y6.off + 2, none⟩ fun v48 =>
asSl v48 fun a49 l50 c51 =>
st h ⟨y0.block, y0.off + 1, none⟩ (.int .i64 n45) fun h52 =>
st h52 ⟨y0.block, y0.off + 2, none⟩ (.int .i64 n47) fun h53 =>
st h53 ⟨y0.block, y0.off + 3, none⟩ (.slice a49 l50 c51) fun h54 =>
∃ m, m < k58 ∧ I58 [m] y0 (IntKind.i64.wrap (y16 + 1)) h54) (
∃ m, m < k58 ∧ I58 [m] y0 (IntKind.i64.wrap (y16 + 1)) h)
def V41_58 (I58 : List Nat → Addr → Int → Hp → Prop) (I126 : List Nat → Addr → Option Addr → Nat → Nat → Hp → Prop) (K : Value → Hp → Prop) (k58 : Nat) (y0 : Addr) (y16 : Int) (h : Hp) : Prop :=
bIf (decide ((y16 : Int) < 2)) (
ld h y0 fun v1 =>
asPt v1 fun p2 =>
Spec P 13 #[(.pointer p2), (.int .i64 y16)] h fun v3 h4 =>
asTu v3 fun q5 =>
unc q5 fun v6 q7 =>
asSl v6 fun a8 l9 c10 =>
unc q7 fun v11 q12 =>
nilL q12 <|
nlW P 31 true v11 fun v13 =>
asBo v13 fun b14 =>
bIf b14 (
K v11 h4) (
Spec P 59 #[(.int .i64 y16), (.slice a8 l9 c10)] h4 fun v15 h16 =>
asTu v15 fun q17 =>
unc q17 fun v18 q19 =>
asAg v18 fun q20 =>
unc q20 fun v21 q22 =>
asIn .i64 v21 fun n23 =>
unc q22 fun v24 q25 =>
asIn .i64 v24 fun n26 =>
unc q25 fun v27 q28 =>
asSl v27 fun a29 l30 c31 =>
nilL q28 <|
unc q19 fun v32 q33 =>
asBo v32 fun b34 =>
nilL q33 <|
nw h16 (.cells #[(.int .i64 0), (.int .i64 0), (.slice none 0 0)] 86) fun r35 h36 =>
st h36 ⟨r35, 0, none⟩ (.int .i64 n23) fun h37 =>
st h37 ⟨r35, 1, none⟩ (.int .i64 n26) fun h38 =>
st h38 ⟨r35, 2, none⟩ (.slice a29 l30 c31) fun h39 =>
bIf b34 (
ld h39 ⟨r35, 0, none⟩ fun v40 =>
asIn .i64 v40 fun n41 =>
ld h39 ⟨y0.block, y0.off + 1, none⟩ fun v42 =>
asIn .i64 v42 fun n43 =>
V41_s29903 I58 I126 K k58 y0 ⟨r35, 0, none⟩ y16 (decide ((n41 : Int) > n43)) h39) (
V41_s29903 I58 I126 K k58 y0 ⟨r35, 0, none⟩ y16 false h39))) (
ld h y0 fun v55 =>
asPt v55 fun p56 =>
Spec P 13 #[(.pointer p56), (.int .i64 2)] h fun v57 h58 =>
asTu v57 fun q59 =>
unc q59 fun v60 q61 =>
asSl v60 fun a62 l63 c64 =>
unc q61 fun v65 q66 =>
nilL q66 <|
nlW P 31 true v65 fun v67 =>
asBo v67 fun b68 =>
bIf b68 (
K v65 h58) (
∃ n, I126 [n] y0 a62 l63 c64 h58))
def V41_126 (I58 : List Nat → Addr → Int → Hp → Prop) (I126 : List Nat → Addr → Option Addr → Nat → Nat → Hp → Prop) (K : Value → Hp → Prop) (k126 : Nat) (y0 : Addr) (y8 : Option Addr) (y8n y8c : Nat) (h : Hp) : Prop :=
ld h ⟨y0.block, y0.off + 5, none⟩ fun v69 =>
asIn .i64 v69 fun n70 =>
oRd P (Instr.sliceAt 24 (.slice y8 y8n y8c) (some (.int .i64 n70)) none none) h fun v71 =>
asSl v71 fun a72 l73 c74 =>
ld h ⟨y0.block, y0.off + 1, none⟩ fun v75 =>
asIn .i64 v75 fun n76 =>
ld h ⟨y0.block, y0.off + 4, none⟩ fun v77 =>
asSl v77 fun a78 l79 c80 =>
Spec P 60 #[(.slice a72 l73 c74), (.int .i64 n76), (.int .i64 ((l79 : Nat) : Int))] h fun v81 h82 =>
asTu v81 fun q83 =>
unc q83 fun v84 q85 =>
asSl v84 fun a86 l87 c88 =>
unc q85 fun v89 q90 =>
asBo v89 fun b91 =>
nilL q90 <|
bIf (!b91) (
K .nilIface h82) (
ld h82 ⟨y0.block, y0.off + 4, none⟩ fun v92 =>
asSl v92 fun a93 l94 c95 =>
Spec P 37 #[(.slice a86 l87 c88)] h82 fun v96 h97 =>
asSl v96 fun a98 l99 c100 =>
(rd P (Instr.loadAt 44 (.pointer (some ⟨y0.block, y0.off + 4, none⟩))) h97 = rd P (Instr.loadAt 44 (.pointer (some ⟨y0.block, y0.off + 4, none⟩))) h82) ∧ (
nw h97 (.cells #[(.slice a98 l99 c100)] 24) fun r101 h102 =>
(rd P (Instr.loadAt 44 (.pointer (some ⟨y0.block, y0.off + 4, none⟩))) h102 = rd P (Instr.loadAt 44 (.pointer (some ⟨y0.block, y0.off + 4, none⟩))) h82) ∧ (
oNx P (builtin .append #[44, 44] 44 #[false, false] #[(.slice a93 l94 c95), (.slice (some ⟨r101, 0, none⟩) 1 1)]) h102 fun v103 h104 =>
asSl v103 fun a105 l106 c107 =>
st h104 ⟨y0.block, y0.off + 4, none⟩ (.slice a105 l106 c107) fun h108 =>
ld h108 ⟨y0.block, y0.off + 5, none⟩ fun v109 =>
asIn .i64 v109 fun n110 =>
st h108 ⟨y0.block, y0.off + 5, none⟩ (.int .i64 (IntKind.i64.wrap (n110 + (IntKind.i64.wrap (20 + ((l87 : Nat) : Int)))))) fun h111 =>
∃ m, m < k126 ∧ I126 [m] y0 y8 y8n y8c h111)))
def V41 (I58 : List Nat → Addr → Int → Hp → Prop) (I126 : List Nat → Addr → Option Addr → Nat → Nat → Hp → Prop) (K : Value → Hp → Prop) (a0 : Addr) (h : Hp) : Prop :=
st h ⟨a0.block, a0.off + 2, none⟩ (.int .i64 1) fun h112 =>
∃ n, I58 [n] a0 0 h112
noncomputable def C41 : Code := match Tryd.f41.body with | some c => c | none => .skip
def L41 : Nat → Plan := fun q => (selP 18 (.ro 0 (.ro 1 (.ro 2 (.ro 3 (.ro 4 (.ro 5 (.ef 6 (.ef 7 (.ef 8 (.ro 9 (.ro 10 (.ef 11 .nil .nil))) .nil) .nil) .nil))))))) (selP 15 (.ro 0 (.ro 1 (.ro 2 (.ro 3 (.ro 4 (.ro 5 (.ro 6 (.ro 7 (.ro 8 (.ro 9 (.ro 10 (.ro 11 (.ro 12 (.ro 13 (.ro 14 (.ro 15 (.ef 16 (.ro 17 (.ro 18 (.ro 19 (.ro 20 (.ro 21 .nil))))) .nil))))))))))))))))) (selP 9 (.ro 0 (.ro 1 (.ro 2 (.ro 3 (.ro 4 (.ro 5 (.ro 6 (.ro 7 (.ro 8 (.ro 9 (.ro 10 .nil))))))))))) Plan.nil q) q) q)
def T41 : Nat → List Value := fun q => (selT 58 [.pointer (some ⟨0, 0, none⟩), .nilIface, .nilIface, .nilIface, .nilIface, .nilIface, .nilIface, .nilIface, .nilIface, .nilIface, .nilIface, .nilIface, .nilIface, .nilIface, .nilIface, .nilIface, (.int .i64 0), .nilIface, .nilIface, .nilIface, .nilIface, .nilIface, .nilIface, .nilIface, .nilIface, .nilIface, .nilIface, .nilIface, .nilIface, .nilIface, .nilIface, .nilIface, .nilIface, .nilIface, .nilIface, .nilIface, .nilIface, .nilIface, .nilIface, .nilIface, .nilIface, .nilIface, .nilIface, .nilIface, .nilIface, .nilIface, .nilIface, .nilIface, .nilIface, .nilIface, .nilIface, .nilIface, .nilIface, .nilIface, .nilIface, .nilIface, .nilIface, .nilIface, .nilIface, .nilIface, .nilIface, .nilIface, .nilIface, .nilIface, .nilIface, .nilIface, .nilIface, .nilIface, .nilIface, .nilIface, .nilIface, .nilIface, .nilIface, .nilIface, .nilIface, .nilIface, .nilIface, .nilIface, .nilIface, .nilIface, .nilIface, .nilIface, .nilIface, .nilIface, .nilIface, .nilIface, .nilIface, .nilIface, .nilIface, .nilIface, .nilIface, .nilIface, .nilIface, .nilIface, .nilIface, .nilIface, .nilIface, .nilIface, .nilIface, .nilIface, .nilIface, .nilIface, .nilIface, .nilIface, .nilIface, .nilIface, .nilIface] (selT 126 [.pointer (some ⟨0, 0, none⟩), .nilIface, .nilIface, .nilIface, .nilIface, .nilIface, .nilIface, .nilIface, (.slice none 0 0), .nilIface, .nilIface, .nilIface, .nilIface, .nilIface, .nilIface, .nilIface, .nilIface, .nilIface, .nilIface, .nilIface, .nilIface, .nilIface, .nilIface, .nilIface, .nilIface, .nilIface, .nilIface, .nilIface, .nilIface, .nilIface, .nilIface, .nilIface, .nilIface, .nilIface, .nilIface, .nilIface, .nilIface, .nilIface, .nilIface, .nilIface, .nilIface, .nilIface, .nilIface, .nilIface, .nilIface, .nilIface, .nilIface, .nilIface, .nilIface, .nilIface, .nilIface, .nilIface, .nilIface, .nilIface, .nilIface, .nilIface, .nilIface, .nilIface, .nilIface, .nilIface, .nilIface, .nilIface, .nilIface, .nilIface, .nilIface, .nilIface, .nilIface, .nilIface, .nilIface, .nilIface, .nilIface, .nilIface, .nilIface, .nilIface, .nilIface, .nilIface, .nilIface, .nilIface, .nilIface, .nilIface, .nilIface, .nilIface, .nilIface, .nilIface, .nilIface, .nilIface, .nilIface, .nilIface, .nilIface, .nilIface, .nilIface, .nilIface, .nilIface, .nilIface, .nilIface, .nilIface, .nilIface, .nilIface, .nilIface, .nilIface, .nilIface, .nilIface, .nilIface, .nilIface, .nilIface, .nilIface, .nilIface] [] q) q)
def G41 (I58 : List Nat → Addr → Int → Hp → Prop) (I126 : List Nat → Addr → Option Addr → Nat → Nat → Hp → Prop) : Inv := fun q => (selI 58 (fun ns l h => asAd (l.getD 0 undef) fun y0 => asIn .i64 (l.getD 16 undef) fun y16 => I58 ns y0 y16 h) (selI 126 (fun ns l h => asAd (l.getD 0 undef) fun y0 => asSl (l.getD 8 undef) fun y8 y8n y8c => I126 ns y0 y8 y8n y8c h) (fun _ _ _ => False) q) q)
theorem L41_ok : plansOk P L41 C41 = true := by kernel_rfl
theorem W41 (I58 : List Nat → Addr → Int → Hp → Prop) (I126 : List Nat → Addr → Option Addr → Nat → Nat → Hp → Prop) (K : Value → Hp → Prop) (a0 : Addr) (h : Hp) : ((∀ k58 : Nat, (∀ (y0 : Addr) (y1 : Value) (y2 : Value) (y3 : Value) (y4 : Value) (y5 : Value) (y6 : Value) (y7 : Value) (y8 : Value) (y9 : Value) (y10 : Value) (y11 : Value) (y12 : Value) (y13 : Value) (y14 : Value) (y15 : Value) (y16 : Int) (y17 : Value) (y18 : Value) (y19 : Value) (y20 : Value) (y21 : Value) (y22 : Value) (y23 : Value) (y24 : Value) (y25 : Value) (y26 : Value) (y27 : Value) (y28 : Value) (y29 : Value) (y30 : Value) (y31 : Value) (y32 : Value) (y33 : Value) (y34 : Value) (y35 : Value) (y36 : Value) (y37 : Value) (y38 : Value) (y39 : Value) (y40 : Value) (y41 : Value) (y42 : Value) (y43 : Value) (y44 : Value) (y45 : Value) (y46 : Value) (y47 : Value) (y48 : Value) (y49 : Value) (y50 : Value) (y51 : Value) (y52 : Value) (y53 : Value) (y54 : Value) (y55 : Value) (y56 : Value) (y57 : Value) (y58 : Value) (y59 : Value) (y60 : Value) (y61 : Value) (y62 : Value) (y63 : Value) (y64 : Value) (y65 : Value) (y66 : Value) (y67 : Value) (y68 : Value) (y69 : Value) (y70 : Value) (y71 : Value) (y72 : Value) (y73 : Value) (y74 : Value) (y75 : Value) (y76 : Value) (y77 : Value) (y78 : Value) (y79 : Value) (y80 : Value) (y81 : Value) (y82 : Value) (y83 : Value) (y84 : Value) (y85 : Value) (y86 : Value) (y87 : Value) (y88 : Value) (y89 : Value) (y90 : Value) (y91 : Value) (y92 : Value) (y93 : Value) (y94 : Value) (y95 : Value) (y96 : Value) (y97 : Value) (y98 : Value) (y99 : Value) (y100 : Value) (y101 : Value) (y102 : Value) (y103 : Value) (y104 : Value) (y105 : Value) (y106 : Value) (h : Hp), I58 [k58] y0 y16 h → V41_58 I58 I126 K k58 y0 y16 h)) ∧ (∀ k126 : Nat, (∀ (y0 : Addr) (y1 : Value) (y2 : Value) (y3 : Value) (y4 : Value) (y5 : Value) (y6 : Value) (y7 : Value) (y8 : Option Addr) (y8n y8c : Nat) (y9 : Value) (y10 : Value) (y11 : Value) (y12 : Value) (y13 : Value) (y14 : Value) (y15 : Value) (y16 : Value) (y17 : Value) (y18 : Value) (y19 : Value) (y20 : Value) (y21 : Value) (y22 : Value) (y23 : Value) (y24 : Value) (y25 : Value) (y26 : Value) (y27 : Value) (y28 : Value) (y29 : Value) (y30 : Value) (y31 : Value) (y32 : Value) (y33 : Value) (y34 : Value) (y35 : Value) (y36 : Value) (y37 : Value) (y38 : Value) (y39 : Value) (y40 : Value) (y41 : Value) (y42 : Value) (y43 : Value) (y44 : Value) (y45 : Value) (y46 : Value) (y47 : Value) (y48 : Value) (y49 : Value) (y50 : Value) (y51 : Value) (y52 : Value) (y53 : Value) (y54 : Value) (y55 : Value) (y56 : Value) (y57 : Value) (y58 : Value) (y59 : Value) (y60 : Value) (y61 : Value) (y62 : Value) (y63 : Value) (y64 : Value) (y65 : Value) (y66 : Value) (y67 : Value) (y68 : Value) (y69 : Value) (y70 : Value) (y71 : Value) (y72 : Value) (y73 : Value) (y74 : Value) (y75 : Value) (y76 : Value) (y77 : Value) (y78 : Value) (y79 : Value) (y80 : Value) (y81 : Value) (y82 : Value) (y83 : Value) (y84 : Value) (y85 : Value) (y86 : Value) (y87 : Value) (y88 : Value) (y89 : Value) (y90 : Value) (y91 : Value) (y92 : Value) (y93 : Value) (y94 : Value) (y95 : Value) (y96 : Value) (y97 : Value) (y98 : Value) (y99 : Value) (y100 : Value) (y101 : Value) (y102 : Value) (y103 : Value) (y104 : Value) (y105 : Value) (y106 : Value) (h : Hp), I126 [k126] y0 y8 y8n y8c h → V41_126 I58 I126 K k126 y0 y8 y8n y8c h)) ∧ V41 I58 I126 K a0 h) =
  allP (obls P L41 (fun q => false) T41 (G41 I58 I126) 1 [] C41 (endQ P Tryd.f41 K) ++ [awp P L41 (fun q => false) T41 (G41 I58 I126) 1 [] C41 (endQ P Tryd.f41 K) (frameL [(.pointer (some a0))] 107) h]) := by kernel_rfl
theorem S41 (I58 : List Nat → Addr → Int → Hp → Prop) (I126 : List Nat → Addr → Option Addr → Nat → Nat → Hp → Prop) {K : Value → Hp → Prop} {a0 : Addr} {h : Hp} (o58 : ∀ (k58 : Nat) (y0 : Addr) (y16 : Int) (h : Hp), I58 [k58] y0 y16 h → V41_58 I58 I126 K k58 y0 y16 h) (o126 : ∀ (k126 : Nat) (y0 : Addr) (y8 : Option Addr) (y8n y8c : Nat) (h : Hp), I126 [k126] y0 y8 y8n y8c h → V41_126 I58 I126 K k126 y0 y8 y8n y8c h) (e : V41 I58 I126 K a0 h) : Spec P 41 #[(.pointer (some a0))] h K :=
  spec_of_awp (args := [(.pointer (some a0))]) follows_P Tryd.func41 (by kernel_rfl : Tryd.f41.body = some C41) fits41 L41_ok (Nat.le_of_ble_eq_true (by kernel_rfl)) (Eq.mp (W41 I58 I126 K a0 h) ⟨(fun k58 => (fun y0 _ _ _ _ _ _ _ _ _ _ _ _ _ _ _ y16 _ _ _ _ _ _ _ _ _ _ _ _ _ _ _ _ _ _ _ _ _ _ _ _ _ _ _ _ _ _ _ _ _ _ _ _ _ _ _ _ _ _ _ _ _ _ _ _ _ _ _ _ _ _ _ _ _ _ _ _ _ _ _ _ _ _ _ _ _ _ _ _ _ _ _ _ _ _ _ _ _ _ _ _ _ _ _ _ _ _ h hi => o58 k58 y0 y16 h hi)), (fun k126 => (fun y0 _ _ _ _ _ _ _ y8 y8n y8c _ _ _ _ _ _ _ _ _ _ _ _ _ _ _ _ _ _ _ _ _ _ _ _ _ _ _ _ _ _ _ _ _ _ _ _ _ _ _ _ _ _ _ _ _ _ _ _ _ _ _ _ _ _ _ _ _ _ _ _ _ _ _ _ _ _ _ _ _ _ _ _ _ _ _ _ _ _ _ _ _ _ _ _ _ _ _ _ _ _ _ _ _ _ _ _ _ _ h hi => o126 k126 y0 y8 y8n y8c h hi)), e⟩)

theorem fits42 : Fits P 42 := fits_of Tryd.func42 (by kernel_rfl) (by kernel_rfl)
/- 42 (bulla/wal.snapshot).bytes
-/
def V42 (K : Value → Hp → Prop) (a0_0 : Int) (a0_1 : Int) (a0_2 : Option Addr) (a0_2n a0_2c : Nat) (h : Hp) : Prop :=
nw h (.cells #[(.int .i64 a0_0), (.int .i64 a0_1), (.slice a0_2 a0_2n a0_2c)] 86) fun r1 h2 =>
ld h2 ⟨r1, 0, none⟩ fun v3 =>
asIn .i64 v3 fun n4 =>
ld h2 ⟨r1, 2, none⟩ fun v5 =>
asSl v5 fun a6 l7 c8 =>
ld h2 ⟨r1, 0, none⟩ fun v9 =>
asIn .i64 v9 fun n10 =>
ld h2 ⟨r1, 2, none⟩ fun v11 =>
asSl v11 fun a12 l13 c14 =>
ld h2 ⟨r1, 2, none⟩ fun v15 =>
asSl v15 fun a16 l17 c18 =>
ld h2 ⟨r1, 2, none⟩ fun v19 =>
asSl v19 fun a20 l21 c22 =>
Spec P 62 #[(.int .i64 n4)] h2 fun v23 h24 =>
asSl v23 fun a25 l26 c27 =>
(rd P (Instr.loadAt 24 (.pointer (some ⟨r1, 2, none⟩))) h24 = rd P (Instr.loadAt 24 (.pointer (some ⟨r1, 2, none⟩))) h2 ∧ (rd P (Instr.loadAt 24 (.pointer (some ⟨r1, 2, none⟩))) h24 = rd P (Instr.loadAt 24 (.pointer (some ⟨r1, 2, none⟩))) h2 ∧ (rd P (Builtin.len_ #[24] 3 #[(.slice a12 l13 c14)]) h24 = rd P (Builtin.len_ #[24] 3 #[(.slice a12 l13 c14)]) h2 ∧ (rd P (Instr.loadAt 24 (.pointer (some ⟨r1, 2, none⟩))) h24 = rd P (Instr.loadAt 24 (.pointer (some ⟨r1, 2, none⟩))) h2 ∧ (rd P (Instr.loadAt 3 (.pointer (some ⟨r1, 0, none⟩))) h24 = rd P (Instr.loadAt 3 (.pointer (some ⟨r1, 0, none⟩))) h2 ∧ (rd P (Builtin.len_ #[24] 3 #[(.slice a6 l7 c8)]) h24 = rd P (Builtin.len_ #[24] 3 #[(.slice a6 l7 c8)]) h2 ∧ (rd P (Instr.loadAt 24 (.pointer (some ⟨r1, 2, none⟩))) h24 = rd P (Instr.loadAt 24 (.pointer (some ⟨r1, 2, none⟩))) h2))))))) ∧ (
Spec P 62 #[(.int .i64 ((l7 : Nat) : Int))] h24 fun v28 h29 =>
asSl v28 fun a30 l31 c32 =>
(rd P (Instr.loadAt 24 (.pointer (some ⟨r1, 2, none⟩))) h29 = rd P (Instr.loadAt 24 (.pointer (some ⟨r1, 2, none⟩))) h2 ∧ (rd P (Instr.loadAt 24 (.pointer (some ⟨r1, 2, none⟩))) h29 = rd P (Instr.loadAt 24 (.pointer (some ⟨r1, 2, none⟩))) h2 ∧ (rd P (Builtin.len_ #[24] 3 #[(.slice a12 l13 c14)]) h29 = rd P (Builtin.len_ #[24] 3 #[(.slice a12 l13 c14)]) h2 ∧ (rd P (Instr.loadAt 24 (.pointer (some ⟨r1, 2, none⟩))) h29 = rd P (Instr.loadAt 24 (.pointer (some ⟨r1, 2, none⟩))) h2 ∧ (rd P (Instr.loadAt 3 (.pointer (some ⟨r1, 0, none⟩))) h29 = rd P (Instr.loadAt 3 (.pointer (some ⟨r1, 0, none⟩))) h2))))) ∧ (
Spec P 63 #[(.int .i64 n10), (.int .i64 ((l13 : Nat) : Int)), (.slice a16 l17 c18)] h29 fun v33 h34 =>
asSl v33 fun a35 l36 c37 =>
(rd P (Instr.loadAt 24 (.pointer (some ⟨r1, 2, none⟩))) h34 = rd P (Instr.loadAt 24 (.pointer (some ⟨r1, 2, none⟩))) h2) ∧ (
nw h34 (.cells #[(.slice a25 l26 c27), (.slice a30 l31 c32), (.slice a35 l36 c37), (.slice a20 l21 c22)] 24) fun r38 h39 =>
Spec P 61 #[(.slice (some ⟨r38, 0, none⟩) 4 4)] h39 fun v40 h41 =>
asSl v40 fun a42 l43 c44 =>
K (.slice a42 l43 c44) h41)))
noncomputable def C42 : Code := match Tryd.f42.body with | some c => c | none => .skip
def L42 : Nat → Plan := fun q => (selP 1 (.ro 0 (.ro 1 (.ro 3 (.ro 4 (.ro 5 (.ro 7 (.ro 8 (.ro 9 (.ro 10 (.ro 11 (.ro 12 (.ro 13 (.ro 15 (.ro 16 (.ef 2 (.ef 6 (.ef 14 (.ef 17 (.ef 18 (.ro 19 .nil) .nil) .nil) .nil) .nil) .nil))))))))))))))) Plan.nil q)
theorem L42_ok : plansOk P L42 C42 = true := by kernel_rfl
theorem W42 (K : Value → Hp → Prop) (a0_0 : Int) (a0_1 : Int) (a0_2 : Option Addr) (a0_2n a0_2c : Nat) (h : Hp) : (V42 K a0_0 a0_1 a0_2 a0_2n a0_2c h) =
  allP (obls P L42 (fun q => false) (fun _ => []) (fun _ _ _ _ => False) 1 [] C42 (endQ P Tryd.f42 K) ++ [awp P L42 (fun q => false) (fun _ => []) (fun _ _ _ _ => False) 1 [] C42 (endQ P Tryd.f42 K) (frameL [(.agg #[(.int .i64 a0_0), (.int .i64 a0_1), (.slice a0_2 a0_2n a0_2c)])] 22) h]) := by kernel_rfl
theorem S42 {K : Value → Hp → Prop} {a0_0 : Int} {a0_1 : Int} {a0_2 : Option Addr} {a0_2n a0_2c : Nat} {h : Hp} (e : V42 K a0_0 a0_1 a0_2 a0_2n a0_2c h) : Spec P 42 #[(.agg #[(.int .i64 a0_0), (.int .i64 a0_1), (.slice a0_2 a0_2n a0_2c)])] h K :=
  spec_of_awp (args := [(.agg #[(.int .i64 a0_0), (.int .i64 a0_1), (.slice a0_2 a0_2n a0_2c)])]) follows_P Tryd.func42 (by kernel_rfl : Tryd.f42.body = some C42) fits42 L42_ok (Nat.le_of_ble_eq_true (by kernel_rfl)) (Eq.mp (W42 K a0_0 a0_1 a0_2 a0_2n a0_2c h) e)

theorem fits43 : Fits P 43 := fits_of Tryd.func43 (by kernel_rfl) (by kernel_rfl)
/- 43 (*bulla/wal.Log).done
-/
def V43 (K : Value → Hp → Prop) (a0 : Addr) (a1 : Value) (h : Hp) : Prop :=
nlW P 31 true a1 fun v1 =>
asBo v1 fun b2 =>
bIf b2 (
st h ⟨a0.block, a0.off + 6, none⟩ (.bool true) fun h3 =>
ld h3 ⟨2, 0, none⟩ fun v4 =>
K v4 h3) (
K .nilIface h)
noncomputable def C43 : Code := match Tryd.f43.body with | some c => c | none => .skip
def L43 : Nat → Plan := fun q => Plan.nil
theorem L43_ok : plansOk P L43 C43 = true := by kernel_rfl
theorem W43 (K : Value → Hp → Prop) (a0 : Addr) (a1 : Value) (h : Hp) : (V43 K a0 a1 h) =
  allP (obls P L43 (fun q => false) (fun _ => []) (fun _ _ _ _ => False) 1 [] C43 (endQ P Tryd.f43 K) ++ [awp P L43 (fun q => false) (fun _ => []) (fun _ _ _ _ => False) 1 [] C43 (endQ P Tryd.f43 K) (frameL [(.pointer (some a0)), a1] 11) h]) := by kernel_rfl
theorem S43 {K : Value → Hp → Prop} {a0 : Addr} {a1 : Value} {h : Hp} (e : V43 K a0 a1 h) : Spec P 43 #[(.pointer (some a0)), a1] h K :=
  spec_of_awp (args := [(.pointer (some a0)), a1]) follows_P Tryd.func43 (by kernel_rfl : Tryd.f43.body = some C43) fits43 L43_ok (Nat.le_of_ble_eq_true (by kernel_rfl)) (Eq.mp (W43 K a0 a1 h) e)

theorem fits44 : Fits P 44 := fits_of Tryd.func44 (by kernel_rfl) (by kernel_rfl)
/- 44 (*bulla/wal.Log).swap
-/
def V44 (K : Value → Hp → Prop) (a0 : Addr) (a1_0 : Int) (a1_1 : Int) (a1_2 : Option Addr) (a1_2n a1_2c : Nat) (h : Hp) : Prop :=
nw h (.cells #[(.int .i64 a1_0), (.int .i64 a1_1), (.slice a1_2 a1_2n a1_2c)] 86) fun r1 h2 =>
ld h2 ⟨r1, 1, none⟩ fun v3 =>
asIn .i64 v3 fun n4 =>
Spec P 64 #[(.pointer (some a0)), (.int .i64 n4)] h2 fun v5 h6 =>
nlW P 31 true v5 fun v7 =>
asBo v7 fun b8 =>
bIf b8 (
K v5 h6) (
ld h6 ⟨r1, 1, none⟩ fun v9 =>
asIn .i64 v9 fun n10 =>
ld h6 ⟨r1, 0, none⟩ fun v11 =>
asIn .i64 v11 fun n12 =>
ld h6 ⟨r1, 1, none⟩ fun v13 =>
asIn .i64 v13 fun n14 =>
ld h6 ⟨r1, 2, none⟩ fun v15 =>
asSl v15 fun a16 l17 c18 =>
Spec P 42 #[(.agg #[(.int .i64 n12), (.int .i64 n14), (.slice a16 l17 c18)])] h6 fun v19 h20 =>
asSl v19 fun a21 l22 c23 =>
(rd P (Instr.loadAt 3 (.pointer (some ⟨r1, 1, none⟩))) h20 = rd P (Instr.loadAt 3 (.pointer (some ⟨r1, 1, none⟩))) h6) ∧ (
Spec P 46 #[(.pointer (some a0)), (.int .i64 n10), (.int .i64 0), (.slice a21 l22 c23)] h20 fun v24 h25 =>
nlW P 31 true v24 fun v26 =>
asBo v26 fun b27 =>
bIf b27 (
K v24 h25) (
Spec P 64 #[(.pointer (some a0)), (.int .i64 2)] h25 fun v28 h29 =>
K v28 h29)))
noncomputable def C44 : Code := match Tryd.f44.body with | some c => c | none => .skip
def L44 : Nat → Plan := fun q => (selP 4 (.ro 0 (.ro 1 (.ro 2 (.ro 3 (.ef 4 (.ef 5 (.ro 6 .nil) .nil) .nil))))) Plan.nil q)
theorem L44_ok : plansOk P L44 C44 = true := by kernel_rfl
theorem W44 (K : Value → Hp → Prop) (a0 : Addr) (a1_0 : Int) (a1_1 : Int) (a1_2 : Option Addr) (a1_2n a1_2c : Nat) (h : Hp) : (V44 K a0 a1_0 a1_1 a1_2 a1_2n a1_2c h) =
  allP (obls P L44 (fun q => false) (fun _ => []) (fun _ _ _ _ => False) 1 [] C44 (endQ P Tryd.f44 K) ++ [awp P L44 (fun q => false) (fun _ => []) (fun _ _ _ _ => False) 1 [] C44 (endQ P Tryd.f44 K) (frameL [(.pointer (some a0)), (.agg #[(.int .i64 a1_0), (.int .i64 a1_1), (.slice a1_2 a1_2n a1_2c)])] 25) h]) := by kernel_rfl
theorem S44 {K : Value → Hp → Prop} {a0 : Addr} {a1_0 : Int} {a1_1 : Int} {a1_2 : Option Addr} {a1_2n a1_2c : Nat} {h : Hp} (e : V44 K a0 a1_0 a1_1 a1_2 a1_2n a1_2c h) : Spec P 44 #[(.pointer (some a0)), (.agg #[(.int .i64 a1_0), (.int .i64 a1_1), (.slice a1_2 a1_2n a1_2c)])] h K :=
  spec_of_awp (args := [(.pointer (some a0)), (.agg #[(.int .i64 a1_0), (.int .i64 a1_1), (.slice a1_2 a1_2n a1_2c)])]) follows_P Tryd.func44 (by kernel_rfl : Tryd.f44.body = some C44) fits44 L44_ok (Nat.le_of_ble_eq_true (by kernel_rfl)) (Eq.mp (W44 K a0 a1_0 a1_1 a1_2 a1_2n a1_2c h) e)

theorem fits45 : Fits P 45 := fits_of Tryd.func45 (by kernel_rfl) (by kernel_rfl)
/- 45 bulla/wal.record
-/
def V45 (K : Value → Hp → Prop) (a0 : Int) (a1 : Int) (a2 : Option Addr) (a2n a2c : Nat) (h : Hp) : Prop :=
Spec P 62 #[(.int .i64 a0)] h fun v1 h2 =>
asSl v1 fun a3 l4 c5 =>
Spec P 62 #[(.int .i64 a1)] h2 fun v6 h7 =>
asSl v6 fun a8 l9 c10 =>
Spec P 62 #[(.int .i64 ((a2n : Nat) : Int))] h7 fun v11 h12 =>
asSl v11 fun a13 l14 c15 =>
Spec P 63 #[(.int .i64 a0), (.int .i64 a1), (.slice a2 a2n a2c)] h12 fun v16 h17 =>
asSl v16 fun a18 l19 c20 =>
nw h17 (.cells #[(.slice a3 l4 c5), (.slice a8 l9 c10), (.slice a13 l14 c15), (.slice a18 l19 c20), (.slice a2 a2n a2c)] 24) fun r21 h22 =>
Spec P 61 #[(.slice (some ⟨r21, 0, none⟩) 5 5)] h22 fun v23 h24 =>
asSl v23 fun a25 l26 c27 =>
K (.slice a25 l26 c27) h24
noncomputable def C45 : Code := match Tryd.f45.body with | some c => c | none => .skip
def L45 : Nat → Plan := fun q => Plan.nil
theorem L45_ok : plansOk P L45 C45 = true := by kernel_rfl
theorem W45 (K : Value → Hp → Prop) (a0 : Int) (a1 : Int) (a2 : Option Addr) (a2n a2c : Nat) (h : Hp) : (V45 K a0 a1 a2 a2n a2c h) =
  allP (obls P L45 (fun q => false) (fun _ => []) (fun _ _ _ _ => False) 1 [] C45 (endQ P Tryd.f45 K) ++ [awp P L45 (fun q => false) (fun _ => []) (fun _ _ _ _ => False) 1 [] C45 (endQ P Tryd.f45 K) (frameL [(.int .i64 a0), (.int .i64 a1), (.slice a2 a2n a2c)] 21) h]) := by kernel_rfl
theorem S45 {K : Value → Hp → Prop} {a0 : Int} {a1 : Int} {a2 : Option Addr} {a2n a2c : Nat} {h : Hp} (e : V45 K a0 a1 a2 a2n a2c h) : Spec P 45 #[(.int .i64 a0), (.int .i64 a1), (.slice a2 a2n a2c)] h K :=
  spec_of_awp (args := [(.int .i64 a0), (.int .i64 a1), (.slice a2 a2n a2c)]) follows_P Tryd.func45 (by kernel_rfl : Tryd.f45.body = some C45) fits45 L45_ok (Nat.le_of_ble_eq_true (by kernel_rfl)) (Eq.mp (W45 K a0 a1 a2 a2n a2c h) e)

theorem fits46 : Fits P 46 := fits_of Tryd.func46 (by kernel_rfl) (by kernel_rfl)
/- 46 (*bulla/wal.Log).write
-/
def V46 (K : Value → Hp → Prop) (a0 : Addr) (a1 : Int) (a2 : Int) (a3 : Option Addr) (a3n a3c : Nat) (h : Hp) : Prop :=
ld h a0 fun v1 =>
asPt v1 fun p2 =>
Spec P 11 #[(.pointer p2), (.int .i64 a1), (.int .i64 a2), (.slice a3 a3n a3c)] h fun v3 h4 =>
nlW P 31 true v3 fun v5 =>
asBo v5 fun b6 =>
bIf b6 (
K v3 h4) (
ld h4 a0 fun v7 =>
asPt v7 fun p8 =>
Spec P 12 #[(.pointer p8)] h4 fun v9 h10 =>
K v9 h10)
noncomputable def C46 : Code := match Tryd.f46.body with | some c => c | none => .skip
def L46 : Nat → Plan := fun q => Plan.nil
theorem L46_ok : plansOk P L46 C46 = true := by kernel_rfl
theorem W46 (K : Value → Hp → Prop) (a0 : Addr) (a1 : Int) (a2 : Int) (a3 : Option Addr) (a3n a3c : Nat) (h : Hp) : (V46 K a0 a1 a2 a3 a3n a3c h) =
  allP (obls P L46 (fun q => false) (fun _ => []) (fun _ _ _ _ => False) 1 [] C46 (endQ P Tryd.f46 K) ++ [awp P L46 (fun q => false) (fun _ => []) (fun _ _ _ _ => False) 1 [] C46 (endQ P Tryd.f46 K) (frameL [(.pointer (some a0)), (.int .i64 a1), (.int .i64 a2), (.slice a3 a3n a3c)] 26) h]) := by kernel_rfl
theorem S46 {K : Value → Hp → Prop} {a0 : Addr} {a1 : Int} {a2 : Int} {a3 : Option Addr} {a3n a3c : Nat} {h : Hp} (e : V46 K a0 a1 a2 a3 a3n a3c h) : Spec P 46 #[(.pointer (some a0)), (.int .i64 a1), (.int .i64 a2), (.slice a3 a3n a3c)] h K :=
  spec_of_awp (args := [(.pointer (some a0)), (.int .i64 a1), (.int .i64 a2), (.slice a3 a3n a3c)]) follows_P Tryd.func46 (by kernel_rfl : Tryd.f46.body = some C46) fits46 L46_ok (Nat.le_of_ble_eq_true (by kernel_rfl)) (Eq.mp (W46 K a0 a1 a2 a3 a3n a3c h) e)

end Go.Proofs.YtcolhmddhaabnaaDoor
