import Derived.Test.YtcolhmddhaabnaaDoorHbase
set_option maxRecDepth 1000000
set_option maxHeartbeats 4000000
set_option linter.unusedVariables false
namespace Go.Proofs.YtcolhmddhaabnaaDoor
open Go.H

theorem fits4 : Fits P 4 := fits_of Tryd.func4 (by kernel_rfl) (by kernel_rfl)
/- 4 bulla/bullalaw18.WalAgain
  path 506: loop 1:i 5: 29: 30: 31:
  path 4090: loop 5: 9: 52: 53: 54:
-/
def V4_506 (I506 : List Nat → Option Addr → Nat → Nat → Option Addr → Option Addr → Nat → Nat → Int → Int → Hp → Prop) (I4090 : List Nat → Option Addr → Option Addr → Option Addr → Nat → Nat → Int → Int → Hp → Prop) (K : Value → Hp → Prop) (k506 : Nat) (y1 : Option Addr) (y1n y1c : Nat) (y5 : Option Addr) (y29 : Option Addr) (y29n y29c : Nat) (y30 : Int) (y31 : Int) (h : Hp) : Prop :=
bIf (decide ((y31 : Int) < y30)) (
ixA P 44 (.slice y29 y29n y29c) (.int .i64 y31) h fun d1 =>
ld h d1 fun v2 =>
asSl v2 fun a3 l4 c5 =>
bIf (decide ((((l4 : Nat) : Int) : Int) > 300)) (
K (.bool true) h) (
Spec P 11 #[(.pointer y5), (.int .i64 y31), (.int .i64 0), (.slice a3 l4 c5)] h fun v6 h7 =>
nlW P 31 true v6 fun v8 =>
asBo v8 fun b9 =>
bIf b9 (
K (.bool false) h7) (
∃ m, m < k506 ∧ I506 [m] y1 y1n y1c y5 y29 y29n y29c y30 (IntKind.i64.wrap (y31 + 1)) h7))) (
Spec P 19 #[(.pointer y5)] h fun v10 h11 =>
asTu v10 fun q12 =>
unc q12 fun v13 q14 =>
asPt v13 fun p15 =>
unc q14 fun v16 q17 =>
nilL q17 <|
nlW P 31 true v16 fun v18 =>
asBo v18 fun b19 =>
bIf b19 (
K (.bool false) h11) (
∃ n, I4090 [n] y5 p15 y1 y1n y1c ((y1n : Nat) : Int) 0 h11))
def V4_s4095 (I506 : List Nat → Option Addr → Nat → Nat → Option Addr → Option Addr → Nat → Nat → Int → Int → Hp → Prop) (I4090 : List Nat → Option Addr → Option Addr → Option Addr → Nat → Nat → Int → Int → Hp → Prop) (K : Value → Hp → Prop) (y5 : Option Addr) (y12 : Addr) (h : Hp) : Prop :=
ld h y12 fun v89 =>
asIn .i64 v89 fun n90 =>
ld h ⟨y12.block, y12.off + 1, none⟩ fun v91 =>
asIn .i64 v91 fun n92 =>
ld h ⟨y12.block, y12.off + 2, none⟩ fun v93 =>
asIn .i64 v93 fun n94 =>
Spec P 15 #[(.pointer y5), (.int .i64 0)] h fun v95 h96 =>
asIn .i64 v95 fun n97 =>
(rd P (Instr.loadAt 53 (.pointer (some y12))) h96 = rd P (Instr.loadAt 53 (.pointer (some y12))) h) ∧ (
Spec P 15 #[(.pointer y5), (.int .i64 1)] h96 fun v98 h99 =>
asIn .i64 v98 fun n100 =>
(rd P (Instr.loadAt 53 (.pointer (some y12))) h99 = rd P (Instr.loadAt 53 (.pointer (some y12))) h) ∧ (
Spec P 15 #[(.pointer y5), (.int .i64 2)] h99 fun v101 h102 =>
asIn .i64 v101 fun n103 =>
(rd P (Instr.loadAt 53 (.pointer (some y12))) h102 = rd P (Instr.loadAt 53 (.pointer (some y12))) h) ∧ (
oRd P (Instr.build 53 #[(0, (.int .i64 n97)), (1, (.int .i64 n100)), (2, (.int .i64 n103))]) h102 fun v104 =>
asAg v104 fun q105 =>
unc q105 fun v106 q107 =>
asIn .i64 v106 fun n108 =>
unc q107 fun v109 q110 =>
asIn .i64 v109 fun n111 =>
unc q110 fun v112 q113 =>
asIn .i64 v112 fun n114 =>
nilL q113 <|
oRd P (sBin .eql 53 false (.agg #[(.int .i64 n90), (.int .i64 n92), (.int .i64 n94)]) (.agg #[(.int .i64 n108), (.int .i64 n111), (.int .i64 n114)])) h102 fun v115 =>
asBo v115 fun b116 =>
K (.bool b116) h102)))
def V4_s8190 (I506 : List Nat → Option Addr → Nat → Nat → Option Addr → Option Addr → Nat → Nat → Int → Int → Hp → Prop) (I4090 : List Nat → Option Addr → Option Addr → Option Addr → Nat → Nat → Int → Int → Hp → Prop) (K : Value → Hp → Prop) (y5 : Option Addr) (y12 : Addr) (y107 : Bool) (h : Hp) : Prop :=
bIf y107 (
K (.bool false) h) (
V4_s4095 I506 I4090 K y5 y12 h)
def V4_4090 (I506 : List Nat → Option Addr → Nat → Nat → Option Addr → Option Addr → Nat → Nat → Int → Int → Hp → Prop) (I4090 : List Nat → Option Addr → Option Addr → Option Addr → Nat → Nat → Int → Int → Hp → Prop) (K : Value → Hp → Prop) (k4090 : Nat) (y5 : Option Addr) (y9 : Option Addr) (y52 : Option Addr) (y52n y52c : Nat) (y53 : Int) (y54 : Int) (h : Hp) : Prop :=
bIf (decide ((y54 : Int) < y53)) (
ixA P 45 (.slice y52 y52n y52c) (.int .i64 y54) h fun d20 =>
ld h d20 fun v21 =>
asIn .i64 v21 fun n22 =>
ld h ⟨d20.block, d20.off + 1, none⟩ fun v23 =>
asIn .i64 v23 fun n24 =>
ld h ⟨d20.block, d20.off + 2, none⟩ fun v25 =>
asIn .i64 v25 fun n26 =>
ld h ⟨d20.block, d20.off + 3, none⟩ fun v27 =>
asIn .u64 v27 fun n28 =>
ld h ⟨d20.block, d20.off + 4, none⟩ fun v29 =>
asSl v29 fun a30 l31 c32 =>
nw h (.cells #[(.int .i64 0), (.int .i64 0), (.int .i64 0), (.int .u64 0), (.slice none 0 0)] 51) fun r33 h34 =>
st h34 ⟨r33, 0, none⟩ (.int .i64 n22) fun h35 =>
st h35 ⟨r33, 1, none⟩ (.int .i64 n24) fun h36 =>
st h36 ⟨r33, 2, none⟩ (.int .i64 n26) fun h37 =>
st h37 ⟨r33, 3, none⟩ (.int .u64 n28) fun h38 =>
st h38 ⟨r33, 4, none⟩ (.slice a30 l31 c32) fun h39 =>
ld h39 ⟨r33, 0, none⟩ fun v40 =>
asIn .i64 v40 fun n41 =>
bIf (n41 == 1) (
ld h39 ⟨r33, 4, none⟩ fun v42 =>
asSl v42 fun a43 l44 c45 =>
Spec P 20 #[(.pointer y9), (.slice a43 l44 c45)] h39 fun v46 h47 =>
∃ m, m < k4090 ∧ I4090 [m] y5 y9 y52 y52n y52c y53 (IntKind.i64.wrap (y54 + 1)) h47) (
ld h39 ⟨r33, 4, none⟩ fun v48 =>
asSl v48 fun a49 l50 c51 =>
Spec P 21 #[(.pointer y9), (.slice a49 l50 c51)] h39 fun v52 h53 =>
∃ m, m < k4090 ∧ I4090 [m] y5 y9 y52 y52n y52c y53 (IntKind.i64.wrap (y54 + 1)) h53)) (
Spec P 15 #[(.pointer y5), (.int .i64 0)] h fun v54 h55 =>
asIn .i64 v54 fun n56 =>
Spec P 15 #[(.pointer y5), (.int .i64 1)] h55 fun v57 h58 =>
asIn .i64 v57 fun n59 =>
Spec P 15 #[(.pointer y5), (.int .i64 2)] h58 fun v60 h61 =>
asIn .i64 v60 fun n62 =>
oRd P (Instr.build 53 #[(0, (.int .i64 n56)), (1, (.int .i64 n59)), (2, (.int .i64 n62))]) h61 fun v63 =>
asAg v63 fun q64 =>
unc q64 fun v65 q66 =>
asIn .i64 v65 fun n67 =>
unc q66 fun v68 q69 =>
asIn .i64 v68 fun n70 =>
unc q69 fun v71 q72 =>
asIn .i64 v71 fun n73 =>
nilL q72 <|
nw h61 (.cells #[(.int .i64 0), (.int .i64 0), (.int .i64 0)] 53) fun r74 h75 =>
st h75 ⟨r74, 0, none⟩ (.int .i64 n67) fun h76 =>
st h76 ⟨r74, 1, none⟩ (.int .i64 n70) fun h77 =>
st h77 ⟨r74, 2, none⟩ (.int .i64 n73) fun h78 =>
Spec P 19 #[(.pointer y5)] h78 fun v79 h80 =>
asTu v79 fun q81 =>
unc q81 fun v82 q83 =>
asPt v82 fun p84 =>
unc q83 fun v85 q86 =>
nilL q86 <|
nlW P 31 true v85 fun v87 =>
asBo v87 fun b88 =>
bIf b88 (
V4_s8190 I506 I4090 K y5 ⟨r74, 0, none⟩ true h80) (
Spec P 22 #[(.pointer p84)] h80 fun v117 h118 =>
asIn .i64 v117 fun n119 =>
Spec P 22 #[(.pointer y9)] h118 fun v120 h121 =>
asIn .i64 v120 fun n122 =>
bIf (n119 != n122) (
V4_s8190 I506 I4090 K y5 ⟨r74, 0, none⟩ true h121) (
Spec P 23 #[(.pointer p84)] h121 fun v123 h124 =>
asSl v123 fun a125 l126 c127 =>
(rd P (sBin .neq 3 false (.int .i64 n119) (.int .i64 n122)) h124 = rd P (sBin .neq 3 false (.int .i64 n119) (.int .i64 n122)) h121) ∧ (
oRd P (convert 24 9 (.slice a125 l126 c127)) h124 fun v128 =>
asStr v128 fun s129 =>
Spec P 23 #[(.pointer y9)] h124 fun v130 h131 =>
asSl v130 fun a132 l133 c134 =>
(rd P (convert 24 9 (.slice a125 l126 c127)) h131 = rd P (convert 24 9 (.slice a125 l126 c127)) h124 ∧ (rd P (sBin .neq 3 false (.int .i64 n119) (.int .i64 n122)) h131 = rd P (sBin .neq 3 false (.int .i64 n119) (.int .i64 n122)) h121)) ∧ (
oRd P (convert 24 9 (.slice a132 l133 c134)) h131 fun v135 =>
asStr v135 fun s136 =>
bIf (!(strEq s129 s136)) (
V4_s8190 I506 I4090 K y5 ⟨r74, 0, none⟩ true h131) (
Spec P 25 #[(.pointer p84)] h131 fun v137 h138 =>
asSl v137 fun a139 l140 c141 =>
(rd P (sBin .neq 9 false (.string s129) (.string s136)) h138 = rd P (sBin .neq 9 false (.string s129) (.string s136)) h131 ∧ (rd P (convert 24 9 (.slice a132 l133 c134)) h138 = rd P (convert 24 9 (.slice a132 l133 c134)) h131 ∧ (rd P (convert 24 9 (.slice a125 l126 c127)) h138 = rd P (convert 24 9 (.slice a125 l126 c127)) h124 ∧ (rd P (sBin .neq 3 false (.int .i64 n119) (.int .i64 n122)) h138 = rd P (sBin .neq 3 false (.int .i64 n119) (.int .i64 n122)) h121)))) ∧ (
Spec P 25 #[(.pointer y9)] h138 fun v142 h143 =>
asSl v142 fun a144 l145 c146 =>
(rd P (sBin .neq 9 false (.string s129) (.string s136)) h143 = rd P (sBin .neq 9 false (.string s129) (.string s136)) h131 ∧ (rd P (convert 24 9 (.slice a132 l133 c134)) h143 = rd P (convert 24 9 (.slice a132 l133 c134)) h131 ∧ (rd P (convert 24 9 (.slice a125 l126 c127)) h143 = rd P (convert 24 9 (.slice a125 l126 c127)) h124 ∧ (rd P (sBin .neq 3 false (.int .i64 n119) (.int .i64 n122)) h143 = rd P (sBin .neq 3 false (.int .i64 n119) (.int .i64 n122)) h121)))) ∧ (
Spec P 24 #[(.slice a139 l140 c141), (.slice a144 l145 c146)] h143 fun v147 h148 =>
asBo v147 fun b149 =>
(rd P (sBin .neq 9 false (.string s129) (.string s136)) h148 = rd P (sBin .neq 9 false (.string s129) (.string s136)) h131 ∧ (rd P (convert 24 9 (.slice a132 l133 c134)) h148 = rd P (convert 24 9 (.slice a132 l133 c134)) h131 ∧ (rd P (convert 24 9 (.slice a125 l126 c127)) h148 = rd P (convert 24 9 (.slice a125 l126 c127)) h124 ∧ (rd P (sBin .neq 3 false (.int .i64 n119) (.int .i64 n122)) h148 = rd P (sBin .neq 3 false (.int .i64 n119) (.int .i64 n122)) h121)))) ∧ (
V4_s8190 I506 I4090 K y5 ⟨r74, 0, none⟩ (!b149) h148)))))))))
def V4_s7 (I506 : List Nat → Option Addr → Nat → Nat → Option Addr → Option Addr → Nat → Nat → Int → Int → Hp → Prop) (I4090 : List Nat → Option Addr → Option Addr → Option Addr → Nat → Nat → Int → Int → Hp → Prop) (K : Value → Hp → Prop) (y0 : Option Addr) (y0n y0c : Nat) (y1 : Option Addr) (y1n y1c : Nat) (h : Hp) : Prop :=
Spec P 9 #[(.int .i64 2000)] h fun v156 h157 =>
asTu v156 fun q158 =>
unc q158 fun v159 q160 =>
asPt v159 fun p161 =>
unc q160 fun v162 q163 =>
nilL q163 <|
nlW P 31 true v162 fun v164 =>
asBo v164 fun b165 =>
bIf b165 (
K (.bool false) h157) (
∃ n, I506 [n] y1 y1n y1c p161 y0 y0n y0c ((y0n : Nat) : Int) 0 h157)
def V4_s14 (I506 : List Nat → Option Addr → Nat → Nat → Option Addr → Option Addr → Nat → Nat → Int → Int → Hp → Prop) (I4090 : List Nat → Option Addr → Option Addr → Option Addr → Nat → Nat → Int → Int → Hp → Prop) (K : Value → Hp → Prop) (y0 : Option Addr) (y0n y0c : Nat) (y1 : Option Addr) (y1n y1c : Nat) (y22 : Bool) (h : Hp) : Prop :=
bIf y22 (
K (.bool true) h) (
V4_s7 I506 I4090 K y0 y0n y0c y1 y1n y1c h)
def V4 (I506 : List Nat → Option Addr → Nat → Nat → Option Addr → Option Addr → Nat → Nat → Int → Int → Hp → Prop) (I4090 : List Nat → Option Addr → Option Addr → Option Addr → Nat → Nat → Int → Int → Hp → Prop) (K : Value → Hp → Prop) (a0 : Option Addr) (a0n a0c : Nat) (a1 : Option Addr) (a1n a1c : Nat) (h : Hp) : Prop :=
Spec P 17 #[] h fun v150 h151 =>
asBo v150 fun b152 =>
bIf (!b152) (
K (.bool false) h151) (
Spec P 18 #[(.slice a1 a1n a1c)] h151 fun v153 h154 =>
asBo v153 fun b155 =>
bIf b155 (
V4_s14 I506 I4090 K a0 a0n a0c a1 a1n a1c true h154) (
V4_s14 I506 I4090 K a0 a0n a0c a1 a1n a1c (decide ((((a0n : Nat) : Int) : Int) > 3)) h154))
noncomputable def C4 : Code := match Tryd.f4.body with | some c => c | none => .skip
def L4 : Nat → Plan := fun q => (selP 30 (.ro 0 (.ro 1 (.ro 3 (.ro 5 (.ef 2 (.ef 4 (.ef 6 (.ro 7 (.ro 8 (.ro 9 .nil))) .nil) .nil) .nil))))) (selP 28 (.ro 0 (.ro 1 (.ro 2 (.ro 3 (.ro 5 (.ef 4 (.ef 6 (.ro 7 (.ro 8 (.ro 9 (.ro 10 (.ro 13 (.ef 11 (.ro 12 (.ef 14 (.ro 15 (.ro 16 (.ro 17 (.ro 18 (.ro 19 (.ro 21 (.ef 20 (.ef 22 (.ef 23 (.ro 24 (.ro 25 .nil)) .nil) .nil) .nil))))))) .nil)) .nil)))))) .nil) .nil)))))) Plan.nil q) q)
def T4 : Nat → List Value := fun q => (selT 506 [.nilIface, (.slice none 0 0), .nilIface, .nilIface, .nilIface, (.pointer none), .nilIface, .nilIface, .nilIface, .nilIface, .nilIface, .nilIface, .nilIface, .nilIface, .nilIface, .nilIface, .nilIface, .nilIface, .nilIface, .nilIface, .nilIface, .nilIface, .nilIface, .nilIface, .nilIface, .nilIface, .nilIface, .nilIface, .nilIface, (.slice none 0 0), (.int .i64 0), (.int .i64 0), .nilIface, .nilIface, .nilIface, .nilIface, .nilIface, .nilIface, .nilIface, .nilIface, .nilIface, .nilIface, .nilIface, .nilIface, .nilIface, .nilIface, .nilIface, .nilIface, .nilIface, .nilIface, .nilIface, .nilIface, .nilIface, .nilIface, .nilIface, .nilIface, .nilIface, .nilIface, .nilIface, .nilIface, .nilIface, .nilIface, .nilIface, .nilIface, .nilIface, .nilIface, .nilIface, .nilIface, .nilIface, .nilIface, .nilIface, .nilIface, .nilIface, .nilIface, .nilIface, .nilIface, .nilIface, .nilIface, .nilIface, .nilIface, .nilIface, .nilIface, .nilIface, .nilIface, .nilIface, .nilIface, .nilIface, .nilIface, .nilIface, .nilIface, .nilIface, .nilIface, .nilIface, .nilIface, .nilIface, .nilIface, .nilIface, .nilIface, .nilIface, .nilIface, .nilIface, .nilIface, .nilIface, .nilIface, .nilIface, .nilIface, .nilIface, .nilIface, .nilIface, .nilIface, .nilIface, .nilIface, .nilIface, .nilIface, .nilIface, .nilIface, .nilIface] (selT 4090 [.nilIface, .nilIface, .nilIface, .nilIface, .nilIface, (.pointer none), .nilIface, .nilIface, .nilIface, (.pointer none), .nilIface, .nilIface, .nilIface, .nilIface, .nilIface, .nilIface, .nilIface, .nilIface, .nilIface, .nilIface, .nilIface, .nilIface, .nilIface, .nilIface, .nilIface, .nilIface, .nilIface, .nilIface, .nilIface, .nilIface, .nilIface, .nilIface, .nilIface, .nilIface, .nilIface, .nilIface, .nilIface, .nilIface, .nilIface, .nilIface, .nilIface, .nilIface, .nilIface, .nilIface, .nilIface, .nilIface, .nilIface, .nilIface, .nilIface, .nilIface, .nilIface, .nilIface, (.slice none 0 0), (.int .i64 0), (.int .i64 0), .nilIface, .nilIface, .nilIface, .nilIface, .nilIface, .nilIface, .nilIface, .nilIface, .nilIface, .nilIface, .nilIface, .nilIface, .nilIface, .nilIface, .nilIface, .nilIface, .nilIface, .nilIface, .nilIface, .nilIface, .nilIface, .nilIface, .nilIface, .nilIface, .nilIface, .nilIface, .nilIface, .nilIface, .nilIface, .nilIface, .nilIface, .nilIface, .nilIface, .nilIface, .nilIface, .nilIface, .nilIface, .nilIface, .nilIface, .nilIface, .nilIface, .nilIface, .nilIface, .nilIface, .nilIface, .nilIface, .nilIface, .nilIface, .nilIface, .nilIface, .nilIface, .nilIface, .nilIface, .nilIface, .nilIface, .nilIface, .nilIface, .nilIface, .nilIface, .nilIface, .nilIface, .nilIface] [] q) q)
def G4 (I506 : List Nat → Option Addr → Nat → Nat → Option Addr → Option Addr → Nat → Nat → Int → Int → Hp → Prop) (I4090 : List Nat → Option Addr → Option Addr → Option Addr → Nat → Nat → Int → Int → Hp → Prop) : Inv := fun q => (selI 506 (fun ns l h => asSl (l.getD 1 undef) fun y1 y1n y1c => asPt (l.getD 5 undef) fun y5 => asSl (l.getD 29 undef) fun y29 y29n y29c => asIn .i64 (l.getD 30 undef) fun y30 => asIn .i64 (l.getD 31 undef) fun y31 => I506 ns y1 y1n y1c y5 y29 y29n y29c y30 y31 h) (selI 4090 (fun ns l h => asPt (l.getD 5 undef) fun y5 => asPt (l.getD 9 undef) fun y9 => asSl (l.getD 52 undef) fun y52 y52n y52c => asIn .i64 (l.getD 53 undef) fun y53 => asIn .i64 (l.getD 54 undef) fun y54 => I4090 ns y5 y9 y52 y52n y52c y53 y54 h) (fun _ _ _ => False) q) q)
theorem L4_ok : plansOk P L4 C4 = true := by kernel_rfl
theorem W4 (I506 : List Nat → Option Addr → Nat → Nat → Option Addr → Option Addr → Nat → Nat → Int → Int → Hp → Prop) (I4090 : List Nat → Option Addr → Option Addr → Option Addr → Nat → Nat → Int → Int → Hp → Prop) (K : Value → Hp → Prop) (a0 : Option Addr) (a0n a0c : Nat) (a1 : Option Addr) (a1n a1c : Nat) (h : Hp) : ((∀ k506 : Nat, (∀ (y0 : Value) (y1 : Option Addr) (y1n y1c : Nat) (y2 : Value) (y3 : Value) (y4 : Value) (y5 : Option Addr) (y6 : Value) (y7 : Value) (y8 : Value) (y9 : Value) (y10 : Value) (y11 : Value) (y12 : Value) (y13 : Value) (y14 : Value) (y15 : Value) (y16 : Value) (y17 : Value) (y18 : Value) (y19 : Value) (y20 : Value) (y21 : Value) (y22 : Value) (y23 : Value) (y24 : Value) (y25 : Value) (y26 : Value) (y27 : Value) (y28 : Value) (y29 : Option Addr) (y29n y29c : Nat) (y30 : Int) (y31 : Int) (y32 : Value) (y33 : Value) (y34 : Value) (y35 : Value) (y36 : Value) (y37 : Value) (y38 : Value) (y39 : Value) (y40 : Value) (y41 : Value) (y42 : Value) (y43 : Value) (y44 : Value) (y45 : Value) (y46 : Value) (y47 : Value) (y48 : Value) (y49 : Value) (y50 : Value) (y51 : Value) (y52 : Value) (y53 : Value) (y54 : Value) (y55 : Value) (y56 : Value) (y57 : Value) (y58 : Value) (y59 : Value) (y60 : Value) (y61 : Value) (y62 : Value) (y63 : Value) (y64 : Value) (y65 : Value) (y66 : Value) (y67 : Value) (y68 : Value) (y69 : Value) (y70 : Value) (y71 : Value) (y72 : Value) (y73 : Value) (y74 : Value) (y75 : Value) (y76 : Value) (y77 : Value) (y78 : Value) (y79 : Value) (y80 : Value) (y81 : Value) (y82 : Value) (y83 : Value) (y84 : Value) (y85 : Value) (y86 : Value) (y87 : Value) (y88 : Value) (y89 : Value) (y90 : Value) (y91 : Value) (y92 : Value) (y93 : Value) (y94 : Value) (y95 : Value) (y96 : Value) (y97 : Value) (y98 : Value) (y99 : Value) (y100 : Value) (y101 : Value) (y102 : Value) (y103 : Value) (y104 : Value) (y105 : Value) (y106 : Value) (y107 : Value) (y108 : Value) (y109 : Value) (y110 : Value) (y111 : Value) (y112 : Value) (y113 : Value) (y114 : Value) (y115 : Value) (y116 : Value) (h : Hp), I506 [k506] y1 y1n y1c y5 y29 y29n y29c y30 y31 h → V4_506 I506 I4090 K k506 y1 y1n y1c y5 y29 y29n y29c y30 y31 h)) ∧ (∀ k4090 : Nat, (∀ (y0 : Value) (y1 : Value) (y2 : Value) (y3 : Value) (y4 : Value) (y5 : Option Addr) (y6 : Value) (y7 : Value) (y8 : Value) (y9 : Option Addr) (y10 : Value) (y11 : Value) (y12 : Value) (y13 : Value) (y14 : Value) (y15 : Value) (y16 : Value) (y17 : Value) (y18 : Value) (y19 : Value) (y20 : Value) (y21 : Value) (y22 : Value) (y23 : Value) (y24 : Value) (y25 : Value) (y26 : Value) (y27 : Value) (y28 : Value) (y29 : Value) (y30 : Value) (y31 : Value) (y32 : Value) (y33 : Value) (y34 : Value) (y35 : Value) (y36 : Value) (y37 : Value) (y38 : Value) (y39 : Value) (y40 : Value) (y41 : Value) (y42 : Value) (y43 : Value) (y44 : Value) (y45 : Value) (y46 : Value) (y47 : Value) (y48 : Value) (y49 : Value) (y50 : Value) (y51 : Value) (y52 : Option Addr) (y52n y52c : Nat) (y53 : Int) (y54 : Int) (y55 : Value) (y56 : Value) (y57 : Value) (y58 : Value) (y59 : Value) (y60 : Value) (y61 : Value) (y62 : Value) (y63 : Value) (y64 : Value) (y65 : Value) (y66 : Value) (y67 : Value) (y68 : Value) (y69 : Value) (y70 : Value) (y71 : Value) (y72 : Value) (y73 : Value) (y74 : Value) (y75 : Value) (y76 : Value) (y77 : Value) (y78 : Value) (y79 : Value) (y80 : Value) (y81 : Value) (y82 : Value) (y83 : Value) (y84 : Value) (y85 : Value) (y86 : Value) (y87 : Value) (y88 : Value) (y89 : Value) (y90 : Value) (y91 : Value) (y92 : Value) (y93 : Value) (y94 : Value) (y95 : Value) (y96 : Value) (y97 : Value) (y98 : Value) (y99 : Value) (y100 : Value) (y101 : Value) (y102 : Value) (y103 : Value) (y104 : Value) (y105 : Value) (y106 : Value) (y107 : Value) (y108 : Value) (y109 : Value) (y110 : Value) (y111 : Value) (y112 : Value) (y113 : Value) (y114 : Value) (y115 : Value) (y116 : Value) (h : Hp), I4090 [k4090] y5 y9 y52 y52n y52c y53 y54 h → V4_4090 I506 I4090 K k4090 y5 y9 y52 y52n y52c y53 y54 h)) ∧ V4 I506 I4090 K a0 a0n a0c a1 a1n a1c h) =
  allP (obls P L4 (fun q => false) T4 (G4 I506 I4090) 1 [] C4 (endQ P Tryd.f4 K) ++ [awp P L4 (fun q => false) T4 (G4 I506 I4090) 1 [] C4 (endQ P Tryd.f4 K) (frameL [(.slice a0 a0n a0c), (.slice a1 a1n a1c)] 117) h]) := by kernel_rfl
theorem S4 (I506 : List Nat → Option Addr → Nat → Nat → Option Addr → Option Addr → Nat → Nat → Int → Int → Hp → Prop) (I4090 : List Nat → Option Addr → Option Addr → Option Addr → Nat → Nat → Int → Int → Hp → Prop) {K : Value → Hp → Prop} {a0 : Option Addr} {a0n a0c : Nat} {a1 : Option Addr} {a1n a1c : Nat} {h : Hp} (o506 : ∀ (k506 : Nat) (y1 : Option Addr) (y1n y1c : Nat) (y5 : Option Addr) (y29 : Option Addr) (y29n y29c : Nat) (y30 : Int) (y31 : Int) (h : Hp), I506 [k506] y1 y1n y1c y5 y29 y29n y29c y30 y31 h → V4_506 I506 I4090 K k506 y1 y1n y1c y5 y29 y29n y29c y30 y31 h) (o4090 : ∀ (k4090 : Nat) (y5 : Option Addr) (y9 : Option Addr) (y52 : Option Addr) (y52n y52c : Nat) (y53 : Int) (y54 : Int) (h : Hp), I4090 [k4090] y5 y9 y52 y52n y52c y53 y54 h → V4_4090 I506 I4090 K k4090 y5 y9 y52 y52n y52c y53 y54 h) (e : V4 I506 I4090 K a0 a0n a0c a1 a1n a1c h) : Spec P 4 #[(.slice a0 a0n a0c), (.slice a1 a1n a1c)] h K :=
  spec_of_awp (args := [(.slice a0 a0n a0c), (.slice a1 a1n a1c)]) follows_P Tryd.func4 (by kernel_rfl : Tryd.f4.body = some C4) fits4 L4_ok (Nat.le_of_ble_eq_true (by kernel_rfl)) (Eq.mp (W4 I506 I4090 K a0 a0n a0c a1 a1n a1c h) ⟨(fun k506 => (fun _ y1 y1n y1c _ _ _ y5 _ _ _ _ _ _ _ _ _ _ _ _ _ _ _ _ _ _ _ _ _ _ _ y29 y29n y29c y30 y31 _ _ _ _ _ _ _ _ _ _ _ _ _ _ _ _ _ _ _ _ _ _ _ _ _ _ _ _ _ _ _ _ _ _ _ _ _ _ _ _ _ _ _ _ _ _ _ _ _ _ _ _ _ _ _ _ _ _ _ _ _ _ _ _ _ _ _ _ _ _ _ _ _ _ _ _ _ _ _ _ _ _ _ _ _ h hi => o506 k506 y1 y1n y1c y5 y29 y29n y29c y30 y31 h hi)), (fun k4090 => (fun _ _ _ _ _ y5 _ _ _ y9 _ _ _ _ _ _ _ _ _ _ _ _ _ _ _ _ _ _ _ _ _ _ _ _ _ _ _ _ _ _ _ _ _ _ _ _ _ _ _ _ _ _ y52 y52n y52c y53 y54 _ _ _ _ _ _ _ _ _ _ _ _ _ _ _ _ _ _ _ _ _ _ _ _ _ _ _ _ _ _ _ _ _ _ _ _ _ _ _ _ _ _ _ _ _ _ _ _ _ _ _ _ _ _ _ _ _ _ _ _ _ _ h hi => o4090 k4090 y5 y9 y52 y52n y52c y53 y54 h hi)), e⟩)

end Go.Proofs.YtcolhmddhaabnaaDoor
