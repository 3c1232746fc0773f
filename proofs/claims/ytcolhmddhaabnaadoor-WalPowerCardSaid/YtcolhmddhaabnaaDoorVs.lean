import Derived.Test.YtcolhmddhaabnaaDoorHbase
set_option maxRecDepth 1000000
set_option maxHeartbeats 4000000
set_option linter.unusedVariables false
namespace Go.Proofs.YtcolhmddhaabnaaDoor
open Go.H

theorem fits78 : Fits P 78 := fits_of Tryd.func78 (by kernel_rfl) (by kernel_rfl)
/- 78 bulla/sha.Sum
  path 58: loop 2: 3:h 7: 8: 9:
-/
def V78_58 (I58 : List Nat → Addr → Option Addr → Option Addr → Nat → Nat → Int → Int → Hp → Prop) (K : Value → Hp → Prop) (k58 : Nat) (y2 : Addr) (y3 : Option Addr) (y7 : Option Addr) (y7n y7c : Nat) (y8 : Int) (y9 : Int) (h : Hp) : Prop :=
bIf (decide ((y9 : Int) < y8)) (
ixA P 44 (.slice y7 y7n y7c) (.int .i64 y9) h fun d1 =>
ld h d1 fun v2 =>
asSl v2 fun a3 l4 c5 =>
Spec P 82 #[(.pointer y3), (.slice a3 l4 c5)] h fun v6 h7 =>
∃ m, m < k58 ∧ I58 [m] y2 y3 y7 y7n y7c y8 (IntKind.i64.wrap (y9 + 1)) h7) (
Spec P 83 #[(.pointer y3)] h fun v8 h9 =>
asAg v8 fun q10 =>
unc q10 fun v11 q12 =>
asIn .u8 v11 fun n13 =>
unc q12 fun v14 q15 =>
asIn .u8 v14 fun n16 =>
unc q15 fun v17 q18 =>
asIn .u8 v17 fun n19 =>
unc q18 fun v20 q21 =>
asIn .u8 v20 fun n22 =>
unc q21 fun v23 q24 =>
asIn .u8 v23 fun n25 =>
unc q24 fun v26 q27 =>
asIn .u8 v26 fun n28 =>
unc q27 fun v29 q30 =>
asIn .u8 v29 fun n31 =>
unc q30 fun v32 q33 =>
asIn .u8 v32 fun n34 =>
unc q33 fun v35 q36 =>
asIn .u8 v35 fun n37 =>
unc q36 fun v38 q39 =>
asIn .u8 v38 fun n40 =>
unc q39 fun v41 q42 =>
asIn .u8 v41 fun n43 =>
unc q42 fun v44 q45 =>
asIn .u8 v44 fun n46 =>
unc q45 fun v47 q48 =>
asIn .u8 v47 fun n49 =>
unc q48 fun v50 q51 =>
asIn .u8 v50 fun n52 =>
unc q51 fun v53 q54 =>
asIn .u8 v53 fun n55 =>
unc q54 fun v56 q57 =>
asIn .u8 v56 fun n58 =>
unc q57 fun v59 q60 =>
asIn .u8 v59 fun n61 =>
unc q60 fun v62 q63 =>
asIn .u8 v62 fun n64 =>
unc q63 fun v65 q66 =>
asIn .u8 v65 fun n67 =>
unc q66 fun v68 q69 =>
asIn .u8 v68 fun n70 =>
unc q69 fun v71 q72 =>
asIn .u8 v71 fun n73 =>
unc q72 fun v74 q75 =>
asIn .u8 v74 fun n76 =>
unc q75 fun v77 q78 =>
asIn .u8 v77 fun n79 =>
unc q78 fun v80 q81 =>
asIn .u8 v80 fun n82 =>
unc q81 fun v83 q84 =>
asIn .u8 v83 fun n85 =>
unc q84 fun v86 q87 =>
asIn .u8 v86 fun n88 =>
unc q87 fun v89 q90 =>
asIn .u8 v89 fun n91 =>
unc q90 fun v92 q93 =>
asIn .u8 v92 fun n94 =>
unc q93 fun v95 q96 =>
asIn .u8 v95 fun n97 =>
unc q96 fun v98 q99 =>
asIn .u8 v98 fun n100 =>
unc q99 fun v101 q102 =>
asIn .u8 v101 fun n103 =>
unc q102 fun v104 q105 =>
asIn .u8 v104 fun n106 =>
nilL q105 <|
st h9 y2 (.int .u8 n13) fun h107 =>
st h107 ⟨y2.block, y2.off + 1, none⟩ (.int .u8 n16) fun h108 =>
st h108 ⟨y2.block, y2.off + 2, none⟩ (.int .u8 n19) fun h109 =>
st h109 ⟨y2.block, y2.off + 3, none⟩ (.int .u8 n22) fun h110 =>
st h110 ⟨y2.block, y2.off + 4, none⟩ (.int .u8 n25) fun h111 =>
st h111 ⟨y2.block, y2.off + 5, none⟩ (.int .u8 n28) fun h112 =>
st h112 ⟨y2.block, y2.off + 6, none⟩ (.int .u8 n31) fun h113 =>
st h113 ⟨y2.block, y2.off + 7, none⟩ (.int .u8 n34) fun h114 =>
st h114 ⟨y2.block, y2.off + 8, none⟩ (.int .u8 n37) fun h115 =>
st h115 ⟨y2.block, y2.off + 9, none⟩ (.int .u8 n40) fun h116 =>
st h116 ⟨y2.block, y2.off + 10, none⟩ (.int .u8 n43) fun h117 =>
st h117 ⟨y2.block, y2.off + 11, none⟩ (.int .u8 n46) fun h118 =>
st h118 ⟨y2.block, y2.off + 12, none⟩ (.int .u8 n49) fun h119 =>
st h119 ⟨y2.block, y2.off + 13, none⟩ (.int .u8 n52) fun h120 =>
st h120 ⟨y2.block, y2.off + 14, none⟩ (.int .u8 n55) fun h121 =>
st h121 ⟨y2.block, y2.off + 15, none⟩ (.int .u8 n58) fun h122 =>
st h122 ⟨y2.block, y2.off + 16, none⟩ (.int .u8 n61) fun h123 =>
st h123 ⟨y2.block, y2.off + 17, none⟩ (.int .u8 n64) fun h124 =>
st h124 ⟨y2.block, y2.off + 18, none⟩ (.int .u8 n67) fun h125 =>
st h125 ⟨y2.block, y2.off + 19, none⟩ (.int .u8 n70) fun h126 =>
st h126 ⟨y2.block, y2.off + 20, none⟩ (.int .u8 n73) fun h127 =>
st h127 ⟨y2.block, y2.off + 21, none⟩ (.int .u8 n76) fun h128 =>
st h128 ⟨y2.block, y2.off + 22, none⟩ (.int .u8 n79) fun h129 =>
st h129 ⟨y2.block, y2.off + 23, none⟩ (.int .u8 n82) fun h130 =>
st h130 ⟨y2.block, y2.off + 24, none⟩ (.int .u8 n85) fun h131 =>
st h131 ⟨y2.block, y2.off + 25, none⟩ (.int .u8 n88) fun h132 =>
st h132 ⟨y2.block, y2.off + 26, none⟩ (.int .u8 n91) fun h133 =>
st h133 ⟨y2.block, y2.off + 27, none⟩ (.int .u8 n94) fun h134 =>
st h134 ⟨y2.block, y2.off + 28, none⟩ (.int .u8 n97) fun h135 =>
st h135 ⟨y2.block, y2.off + 29, none⟩ (.int .u8 n100) fun h136 =>
st h136 ⟨y2.block, y2.off + 30, none⟩ (.int .u8 n103) fun h137 =>
st h137 ⟨y2.block, y2.off + 31, none⟩ (.int .u8 n106) fun h138 =>
ld h138 y2 fun v139 =>
asIn .u8 v139 fun n140 =>
ld h138 ⟨y2.block, y2.off + 1, none⟩ fun v141 =>
asIn .u8 v141 fun n142 =>
ld h138 ⟨y2.block, y2.off + 2, none⟩ fun v143 =>
asIn .u8 v143 fun n144 =>
ld h138 ⟨y2.block, y2.off + 3, none⟩ fun v145 =>
asIn .u8 v145 fun n146 =>
ld h138 ⟨y2.block, y2.off + 4, none⟩ fun v147 =>
asIn .u8 v147 fun n148 =>
ld h138 ⟨y2.block, y2.off + 5, none⟩ fun v149 =>
asIn .u8 v149 fun n150 =>
ld h138 ⟨y2.block, y2.off + 6, none⟩ fun v151 =>
asIn .u8 v151 fun n152 =>
ld h138 ⟨y2.block, y2.off + 7, none⟩ fun v153 =>
asIn .u8 v153 fun n154 =>
ld h138 ⟨y2.block, y2.off + 8, none⟩ fun v155 =>
asIn .u8 v155 fun n156 =>
ld h138 ⟨y2.block, y2.off + 9, none⟩ fun v157 =>
asIn .u8 v157 fun n158 =>
ld h138 ⟨y2.block, y2.off + 10, none⟩ fun v159 =>
asIn .u8 v159 fun n160 =>
ld h138 ⟨y2.block, y2.off + 11, none⟩ fun v161 =>
asIn .u8 v161 fun n162 =>
ld h138 ⟨y2.block, y2.off + 12, none⟩ fun v163 =>
asIn .u8 v163 fun n164 =>
ld h138 ⟨y2.block, y2.off + 13, none⟩ fun v165 =>
asIn .u8 v165 fun n166 =>
ld h138 ⟨y2.block, y2.off + 14, none⟩ fun v167 =>
asIn .u8 v167 fun n168 =>
ld h138 ⟨y2.block, y2.off + 15, none⟩ fun v169 =>
asIn .u8 v169 fun n170 =>
ld h138 ⟨y2.block, y2.off + 16, none⟩ fun v171 =>
asIn .u8 v171 fun n172 =>
ld h138 ⟨y2.block, y2.off + 17, none⟩ fun v173 =>
asIn .u8 v173 fun n174 =>
ld h138 ⟨y2.block, y2.off + 18, none⟩ fun v175 =>
asIn .u8 v175 fun n176 =>
ld h138 ⟨y2.block, y2.off + 19, none⟩ fun v177 =>
asIn .u8 v177 fun n178 =>
ld h138 ⟨y2.block, y2.off + 20, none⟩ fun v179 =>
asIn .u8 v179 fun n180 =>
ld h138 ⟨y2.block, y2.off + 21, none⟩ fun v181 =>
asIn .u8 v181 fun n182 =>
ld h138 ⟨y2.block, y2.off + 22, none⟩ fun v183 =>
asIn .u8 v183 fun n184 =>
ld h138 ⟨y2.block, y2.off + 23, none⟩ fun v185 =>
asIn .u8 v185 fun n186 =>
ld h138 ⟨y2.block, y2.off + 24, none⟩ fun v187 =>
asIn .u8 v187 fun n188 =>
ld h138 ⟨y2.block, y2.off + 25, none⟩ fun v189 =>
asIn .u8 v189 fun n190 =>
ld h138 ⟨y2.block, y2.off + 26, none⟩ fun v191 =>
asIn .u8 v191 fun n192 =>
ld h138 ⟨y2.block, y2.off + 27, none⟩ fun v193 =>
asIn .u8 v193 fun n194 =>
ld h138 ⟨y2.block, y2.off + 28, none⟩ fun v195 =>
asIn .u8 v195 fun n196 =>
ld h138 ⟨y2.block, y2.off + 29, none⟩ fun v197 =>
asIn .u8 v197 fun n198 =>
ld h138 ⟨y2.block, y2.off + 30, none⟩ fun v199 =>
asIn .u8 v199 fun n200 =>
ld h138 ⟨y2.block, y2.off + 31, none⟩ fun v201 =>
asIn .u8 v201 fun n202 =>
K (.agg #[(.int .u8 n140), (.int .u8 n142), (.int .u8 n144), (.int .u8 n146), (.int .u8 n148), (.int .u8 n150), (.int .u8 n152), (.int .u8 n154), (.int .u8 n156), (.int .u8 n158), (.int .u8 n160), (.int .u8 n162), (.int .u8 n164), (.int .u8 n166), (.int .u8 n168), (.int .u8 n170), (.int .u8 n172), (.int .u8 n174), (.int .u8 n176), (.int .u8 n178), (.int .u8 n180), (.int .u8 n182), (.int .u8 n184), (.int .u8 n186), (.int .u8 n188), (.int .u8 n190), (.int .u8 n192), (.int .u8 n194), (.int .u8 n196), (.int .u8 n198), (.int .u8 n200), (.int .u8 n202)]) h138)
def V78 (I58 : List Nat → Addr → Option Addr → Option Addr → Nat → Nat → Int → Int → Hp → Prop) (K : Value → Hp → Prop) (a0 : Option Addr) (a0n a0c : Nat) (h : Hp) : Prop :=
nw h (.cells #[(.int .u8 0), (.int .u8 0), (.int .u8 0), (.int .u8 0), (.int .u8 0), (.int .u8 0), (.int .u8 0), (.int .u8 0), (.int .u8 0), (.int .u8 0), (.int .u8 0), (.int .u8 0), (.int .u8 0), (.int .u8 0), (.int .u8 0), (.int .u8 0), (.int .u8 0), (.int .u8 0), (.int .u8 0), (.int .u8 0), (.int .u8 0), (.int .u8 0), (.int .u8 0), (.int .u8 0), (.int .u8 0), (.int .u8 0), (.int .u8 0), (.int .u8 0), (.int .u8 0), (.int .u8 0), (.int .u8 0), (.int .u8 0)] 122) fun r203 h204 =>
Spec P 81 #[] h204 fun v205 h206 =>
asPt v205 fun p207 =>
∃ n, I58 [n] ⟨r203, 0, none⟩ p207 a0 a0n a0c ((a0n : Nat) : Int) 0 h206
noncomputable def C78 : Code := match Tryd.f78.body with | some c => c | none => .skip
def L78 : Nat → Plan := fun q => Plan.nil
def T78 : Nat → List Value := fun q => (selT 58 [.nilIface, .nilIface, .pointer (some ⟨0, 0, none⟩), (.pointer none), .nilIface, .nilIface, .nilIface, (.slice none 0 0), (.int .i64 0), (.int .i64 0), .nilIface, .nilIface, .nilIface, .nilIface, .nilIface, .nilIface, .nilIface, .nilIface, .nilIface] [] q)
def G78 (I58 : List Nat → Addr → Option Addr → Option Addr → Nat → Nat → Int → Int → Hp → Prop) : Inv := fun q => (selI 58 (fun ns l h => asAd (l.getD 2 undef) fun y2 => asPt (l.getD 3 undef) fun y3 => asSl (l.getD 7 undef) fun y7 y7n y7c => asIn .i64 (l.getD 8 undef) fun y8 => asIn .i64 (l.getD 9 undef) fun y9 => I58 ns y2 y3 y7 y7n y7c y8 y9 h) (fun _ _ _ => False) q)
theorem L78_ok : plansOk P L78 C78 = true := by kernel_rfl
theorem W78 (I58 : List Nat → Addr → Option Addr → Option Addr → Nat → Nat → Int → Int → Hp → Prop) (K : Value → Hp → Prop) (a0 : Option Addr) (a0n a0c : Nat) (h : Hp) : ((∀ k58 : Nat, (∀ (y0 : Value) (y1 : Value) (y2 : Addr) (y3 : Option Addr) (y4 : Value) (y5 : Value) (y6 : Value) (y7 : Option Addr) (y7n y7c : Nat) (y8 : Int) (y9 : Int) (y10 : Value) (y11 : Value) (y12 : Value) (y13 : Value) (y14 : Value) (y15 : Value) (y16 : Value) (y17 : Value) (y18 : Value) (h : Hp), I58 [k58] y2 y3 y7 y7n y7c y8 y9 h → V78_58 I58 K k58 y2 y3 y7 y7n y7c y8 y9 h)) ∧ V78 I58 K a0 a0n a0c h) =
  allP (obls P L78 (fun q => false) T78 (G78 I58) 1 [] C78 (endQ P Tryd.f78 K) ++ [awp P L78 (fun q => false) T78 (G78 I58) 1 [] C78 (endQ P Tryd.f78 K) (frameL [(.slice a0 a0n a0c)] 19) h]) := by kernel_rfl
theorem S78 (I58 : List Nat → Addr → Option Addr → Option Addr → Nat → Nat → Int → Int → Hp → Prop) {K : Value → Hp → Prop} {a0 : Option Addr} {a0n a0c : Nat} {h : Hp} (o58 : ∀ (k58 : Nat) (y2 : Addr) (y3 : Option Addr) (y7 : Option Addr) (y7n y7c : Nat) (y8 : Int) (y9 : Int) (h : Hp), I58 [k58] y2 y3 y7 y7n y7c y8 y9 h → V78_58 I58 K k58 y2 y3 y7 y7n y7c y8 y9 h) (e : V78 I58 K a0 a0n a0c h) : Spec P 78 #[(.slice a0 a0n a0c)] h K :=
  spec_of_awp (args := [(.slice a0 a0n a0c)]) follows_P Tryd.func78 (by kernel_rfl : Tryd.f78.body = some C78) fits78 L78_ok (Nat.le_of_ble_eq_true (by kernel_rfl)) (Eq.mp (W78 I58 K a0 a0n a0c h) ⟨(fun k58 => (fun _ _ y2 y3 _ _ _ y7 y7n y7c y8 y9 _ _ _ _ _ _ _ _ _ h hi => o58 k58 y2 y3 y7 y7n y7c y8 y9 h hi)), e⟩)

theorem fits81 : Fits P 81 := fits_of Tryd.func81 (by kernel_rfl) (by kernel_rfl)
/- 81 bulla/sha.New
-/
def V81 (K : Value → Hp → Prop) (h : Hp) : Prop :=
ld h ⟨28, 0, none⟩ fun v1 =>
asIn .u32 v1 fun n2 =>
ld h ⟨28, 1, none⟩ fun v3 =>
asIn .u32 v3 fun n4 =>
ld h ⟨28, 2, none⟩ fun v5 =>
asIn .u32 v5 fun n6 =>
ld h ⟨28, 3, none⟩ fun v7 =>
asIn .u32 v7 fun n8 =>
ld h ⟨28, 4, none⟩ fun v9 =>
asIn .u32 v9 fun n10 =>
ld h ⟨28, 5, none⟩ fun v11 =>
asIn .u32 v11 fun n12 =>
ld h ⟨28, 6, none⟩ fun v13 =>
asIn .u32 v13 fun n14 =>
ld h ⟨28, 7, none⟩ fun v15 =>
asIn .u32 v15 fun n16 =>
nw h (.cells #[(.int .u32 n2), (.int .u32 n4), (.int .u32 n6), (.int .u32 n8), (.int .u32 n10), (.int .u32 n12), (.int .u32 n14), (.int .u32 n16), (.slice none 0 0), (.int .i64 0)] 142) fun r17 h18 =>
K (.pointer (some ⟨r17, 0, none⟩)) h18
noncomputable def C81 : Code := match Tryd.f81.body with | some c => c | none => .skip
def L81 : Nat → Plan := fun q => Plan.nil
theorem L81_ok : plansOk P L81 C81 = true := by kernel_rfl
theorem W81 (K : Value → Hp → Prop) (h : Hp) : (V81 K  h) =
  allP (obls P L81 (fun q => false) (fun _ => []) (fun _ _ _ _ => False) 1 [] C81 (endQ P Tryd.f81 K) ++ [awp P L81 (fun q => false) (fun _ => []) (fun _ _ _ _ => False) 1 [] C81 (endQ P Tryd.f81 K) (frameL [] 4) h]) := by kernel_rfl
theorem S81 {K : Value → Hp → Prop} {h : Hp} (e : V81 K  h) : Spec P 81 #[] h K :=
  spec_of_awp (args := []) follows_P Tryd.func81 (by kernel_rfl : Tryd.f81.body = some C81) fits81 L81_ok (Nat.le_of_ble_eq_true (by kernel_rfl)) (Eq.mp (W81 K  h) e)

theorem fits82 : Fits P 82 := fits_of Tryd.func82 (by kernel_rfl) (by kernel_rfl)
/- 82 (*bulla/sha.Hash).Write
  path 14: loop 0:h
-/
def V82_14 (I14 : List Nat → Addr → Hp → Prop) (K : Value → Hp → Prop) (k14 : Nat) (y0 : Addr) (h : Hp) : Prop :=
ld h ⟨y0.block, y0.off + 8, none⟩ fun v1 =>
asSl v1 fun a2 l3 c4 =>
bIf (decide ((((l3 : Nat) : Int) : Int) ≥ 64)) (
ld h ⟨y0.block, y0.off + 8, none⟩ fun v5 =>
asSl v5 fun a6 l7 c8 =>
oRd P (Instr.sliceAt 24 (.slice a6 l7 c8) none (some (.int .i64 64)) none) h fun v9 =>
asSl v9 fun a10 l11 c12 =>
Spec P 85 #[(.pointer (some y0)), (.slice a10 l11 c12)] h fun v13 h14 =>
ld h14 ⟨y0.block, y0.off + 8, none⟩ fun v15 =>
asSl v15 fun a16 l17 c18 =>
oRd P (Instr.sliceAt 24 (.slice a16 l17 c18) (some (.int .i64 64)) none none) h14 fun v19 =>
asSl v19 fun a20 l21 c22 =>
st h14 ⟨y0.block, y0.off + 8, none⟩ (.slice a20 l21 c22) fun h23 =>
∃ m, m < k14 ∧ I14 [m] y0 h23) (
K (.tuple #[]) h)
def V82 (I14 : List Nat → Addr → Hp → Prop) (K : Value → Hp → Prop) (a0 : Addr) (a1 : Option Addr) (a1n a1c : Nat) (h : Hp) : Prop :=
ld h ⟨a0.block, a0.off + 9, none⟩ fun v24 =>
asIn .i64 v24 fun n25 =>
st h ⟨a0.block, a0.off + 9, none⟩ (.int .i64 (IntKind.i64.wrap (n25 + ((a1n : Nat) : Int)))) fun h26 =>
ld h26 ⟨a0.block, a0.off + 8, none⟩ fun v27 =>
asSl v27 fun a28 l29 c30 =>
oNx P (builtin .append #[24, 24] 24 #[false, false] #[(.slice a28 l29 c30), (.slice a1 a1n a1c)]) h26 fun v31 h32 =>
asSl v31 fun a33 l34 c35 =>
st h32 ⟨a0.block, a0.off + 8, none⟩ (.slice a33 l34 c35) fun h36 =>
∃ n, I14 [n] a0 h36
noncomputable def C82 : Code := match Tryd.f82.body with | some c => c | none => .skip
def L82 : Nat → Plan := fun q => (selP 3 (.ro 0 (.ro 1 (.ro 2 (.ro 3 (.ro 4 (.ro 5 (.ro 6 (.ro 7 (.ef 8 .nil .nil))))))))) Plan.nil q)
def T82 : Nat → List Value := fun q => (selT 14 [.pointer (some ⟨0, 0, none⟩), .nilIface, .nilIface, .nilIface, .nilIface, .nilIface, .nilIface, .nilIface, .nilIface, .nilIface, .nilIface, .nilIface, .nilIface, .nilIface, .nilIface, .nilIface, .nilIface, .nilIface, .nilIface, .nilIface, .nilIface, .nilIface, .nilIface, .nilIface, .nilIface, .nilIface, .nilIface, .nilIface, .nilIface, .nilIface, .nilIface, .nilIface, .nilIface, .nilIface, .nilIface, .nilIface, .nilIface, .nilIface, .nilIface, .nilIface, .nilIface, .nilIface, .nilIface, .nilIface, .nilIface] [] q)
def G82 (I14 : List Nat → Addr → Hp → Prop) : Inv := fun q => (selI 14 (fun ns l h => asAd (l.getD 0 undef) fun y0 => I14 ns y0 h) (fun _ _ _ => False) q)
theorem L82_ok : plansOk P L82 C82 = true := by kernel_rfl
theorem W82 (I14 : List Nat → Addr → Hp → Prop) (K : Value → Hp → Prop) (a0 : Addr) (a1 : Option Addr) (a1n a1c : Nat) (h : Hp) : ((∀ k14 : Nat, (∀ (y0 : Addr) (y1 : Value) (y2 : Value) (y3 : Value) (y4 : Value) (y5 : Value) (y6 : Value) (y7 : Value) (y8 : Value) (y9 : Value) (y10 : Value) (y11 : Value) (y12 : Value) (y13 : Value) (y14 : Value) (y15 : Value) (y16 : Value) (y17 : Value) (y18 : Value) (y19 : Value) (y20 : Value) (y21 : Value) (y22 : Value) (y23 : Value) (y24 : Value) (y25 : Value) (y26 : Value) (y27 : Value) (y28 : Value) (y29 : Value) (y30 : Value) (y31 : Value) (y32 : Value) (y33 : Value) (y34 : Value) (y35 : Value) (y36 : Value) (y37 : Value) (y38 : Value) (y39 : Value) (y40 : Value) (y41 : Value) (y42 : Value) (y43 : Value) (y44 : Value) (h : Hp), I14 [k14] y0 h → V82_14 I14 K k14 y0 h)) ∧ V82 I14 K a0 a1 a1n a1c h) =
  allP (obls P L82 (fun q => false) T82 (G82 I14) 1 [] C82 (endQ P Tryd.f82 K) ++ [awp P L82 (fun q => false) T82 (G82 I14) 1 [] C82 (endQ P Tryd.f82 K) (frameL [(.pointer (some a0)), (.slice a1 a1n a1c)] 45) h]) := by kernel_rfl
theorem S82 (I14 : List Nat → Addr → Hp → Prop) {K : Value → Hp → Prop} {a0 : Addr} {a1 : Option Addr} {a1n a1c : Nat} {h : Hp} (o14 : ∀ (k14 : Nat) (y0 : Addr) (h : Hp), I14 [k14] y0 h → V82_14 I14 K k14 y0 h) (e : V82 I14 K a0 a1 a1n a1c h) : Spec P 82 #[(.pointer (some a0)), (.slice a1 a1n a1c)] h K :=
  spec_of_awp (args := [(.pointer (some a0)), (.slice a1 a1n a1c)]) follows_P Tryd.func82 (by kernel_rfl : Tryd.f82.body = some C82) fits82 L82_ok (Nat.le_of_ble_eq_true (by kernel_rfl)) (Eq.mp (W82 I14 K a0 a1 a1n a1c h) ⟨(fun k14 => (fun y0 _ _ _ _ _ _ _ _ _ _ _ _ _ _ _ _ _ _ _ _ _ _ _ _ _ _ _ _ _ _ _ _ _ _ _ _ _ _ _ _ _ _ _ _ h hi => o14 k14 y0 h hi)), e⟩)

theorem fits83 : Fits P 83 := fits_of Tryd.func83 (by kernel_rfl) (by kernel_rfl)
/- 83 (*bulla/sha.Hash).Sum
  path 60: loop 2: 3: 4:
  path 506: loop 2: 3: 4: 5: 33:
  path 4090: loop 2: 7: 52: 53:
-/
def V83_60 (I60 : List Nat → Addr → Option Addr → Option Addr → Nat → Nat → Hp → Prop) (I506 : List Nat → Addr → Option Addr → Option Addr → Nat → Nat → Int → Int → Hp → Prop) (I4090 : List Nat → Addr → Addr → Value → Int → Hp → Prop) (K : Value → Hp → Prop) (k60 : Nat) (y2 : Addr) (y3 : Option Addr) (y4 : Option Addr) (y4n y4c : Nat) (h : Hp) : Prop :=
nz y3 fun d1 =>
ld h ⟨d1.block, d1.off + 8, none⟩ fun v2 =>
asSl v2 fun a3 l4 c5 =>
bIf ((Int.tmod (IntKind.i64.wrap ((IntKind.i64.wrap (((l4 : Nat) : Int) + ((y4n : Nat) : Int))) + 8)) 64) != 0) (
nw h (.cells #[(.int .u8 0)] 5) fun r6 h7 =>
oNx P (builtin .append #[24, 24] 24 #[false, false] #[(.slice y4 y4n y4c), (.slice (some ⟨r6, 0, none⟩) 1 1)]) h7 fun v8 h9 =>
asSl v8 fun a10 l11 c12 =>
∃ m, m < k60 ∧ I60 [m] y2 y3 a10 l11 c12 h9) (
nz y3 fun d13 =>
ld h ⟨d13.block, d13.off + 9, none⟩ fun v14 =>
asIn .i64 v14 fun n15 =>
∃ n, I506 [n] y2 y3 y4 y4n y4c (IntKind.u64.wrap ((IntKind.u64.wrap n15) * 8)) 0 h)
def V83_506 (I60 : List Nat → Addr → Option Addr → Option Addr → Nat → Nat → Hp → Prop) (I506 : List Nat → Addr → Option Addr → Option Addr → Nat → Nat → Int → Int → Hp → Prop) (I4090 : List Nat → Addr → Addr → Value → Int → Hp → Prop) (K : Value → Hp → Prop) (k506 : Nat) (y2 : Addr) (y3 : Option Addr) (y4 : Option Addr) (y4n y4c : Nat) (y5 : Int) (y33 : Int) (h : Hp) : Prop :=
bIf (decide ((y33 : Int) < 8)) (
oRd P (sBin .shr 23 false (.int .u64 y5) (.int .i64 (IntKind.i64.wrap (8 * (IntKind.i64.wrap (7 - y33)))))) h fun v16 =>
asIn .u64 v16 fun n17 =>
nw h (.cells #[(.int .u8 (IntKind.u8.wrap n17))] 5) fun r18 h19 =>
oNx P (builtin .append #[24, 24] 24 #[false, false] #[(.slice y4 y4n y4c), (.slice (some ⟨r18, 0, none⟩) 1 1)]) h19 fun v20 h21 =>
asSl v20 fun a22 l23 c24 =>
∃ m, m < k506 ∧ I506 [m] y2 y3 a22 l23 c24 y5 (IntKind.i64.wrap (y33 + 1)) h21) (
Spec P 82 #[(.pointer y3), (.slice y4 y4n y4c)] h fun v25 h26 =>
nw h26 (.cells #[(.int .u8 0), (.int .u8 0), (.int .u8 0), (.int .u8 0), (.int .u8 0), (.int .u8 0), (.int .u8 0), (.int .u8 0), (.int .u8 0), (.int .u8 0), (.int .u8 0), (.int .u8 0), (.int .u8 0), (.int .u8 0), (.int .u8 0), (.int .u8 0), (.int .u8 0), (.int .u8 0), (.int .u8 0), (.int .u8 0), (.int .u8 0), (.int .u8 0), (.int .u8 0), (.int .u8 0), (.int .u8 0), (.int .u8 0), (.int .u8 0), (.int .u8 0), (.int .u8 0), (.int .u8 0), (.int .u8 0), (.int .u8 0)] 122) fun r27 h28 =>
nz y3 fun d29 =>
ld h28 d29 fun v30 =>
asIn .u32 v30 fun n31 =>
ld h28 ⟨d29.block, d29.off + 1, none⟩ fun v32 =>
asIn .u32 v32 fun n33 =>
ld h28 ⟨d29.block, d29.off + 2, none⟩ fun v34 =>
asIn .u32 v34 fun n35 =>
ld h28 ⟨d29.block, d29.off + 3, none⟩ fun v36 =>
asIn .u32 v36 fun n37 =>
ld h28 ⟨d29.block, d29.off + 4, none⟩ fun v38 =>
asIn .u32 v38 fun n39 =>
ld h28 ⟨d29.block, d29.off + 5, none⟩ fun v40 =>
asIn .u32 v40 fun n41 =>
ld h28 ⟨d29.block, d29.off + 6, none⟩ fun v42 =>
asIn .u32 v42 fun n43 =>
ld h28 ⟨d29.block, d29.off + 7, none⟩ fun v44 =>
asIn .u32 v44 fun n45 =>
∃ n, I4090 [n] y2 ⟨r27, 0, none⟩ (.agg #[(.int .u32 n31), (.int .u32 n33), (.int .u32 n35), (.int .u32 n37), (.int .u32 n39), (.int .u32 n41), (.int .u32 n43), (.int .u32 n45)]) 0 h28)
def V83_4090 (I60 : List Nat → Addr → Option Addr → Option Addr → Nat → Nat → Hp → Prop) (I506 : List Nat → Addr → Option Addr → Option Addr → Nat → Nat → Int → Int → Hp → Prop) (I4090 : List Nat → Addr → Addr → Value → Int → Hp → Prop) (K : Value → Hp → Prop) (k4090 : Nat) (y2 : Addr) (y7 : Addr) (y52 : Value) (y53 : Int) (h : Hp) : Prop :=
bIf (decide ((y53 : Int) < 8)) (
oRd P (Instr.index 140 y52 (.int .i64 y53)) h fun v46 =>
asIn .u32 v46 fun n47 =>
ixA P 122 (.pointer (some y7)) (.int .i64 (IntKind.i64.wrap (4 * y53))) h fun d48 =>
st h d48 (.int .u8 (IntKind.u8.wrap (sShr .u32 n47 24))) fun h49 =>
ixA P 122 (.pointer (some y7)) (.int .i64 (IntKind.i64.wrap ((IntKind.i64.wrap (4 * y53)) + 1))) h49 fun d50 =>
st h49 d50 (.int .u8 (IntKind.u8.wrap (sShr .u32 n47 16))) fun h51 =>
ixA P 122 (.pointer (some y7)) (.int .i64 (IntKind.i64.wrap ((IntKind.i64.wrap (4 * y53)) + 2))) h51 fun d52 =>
st h51 d52 (.int .u8 (IntKind.u8.wrap (sShr .u32 n47 8))) fun h53 =>
ixA P 122 (.pointer (some y7)) (.int .i64 (IntKind.i64.wrap ((IntKind.i64.wrap (4 * y53)) + 3))) h53 fun d54 =>
st h53 d54 (.int .u8 (IntKind.u8.wrap n47)) fun h55 =>
∃ m, m < k4090 ∧ I4090 [m] y2 y7 y52 (IntKind.i64.wrap (y53 + 1)) h55) (
ld h y7 fun v56 =>
asIn .u8 v56 fun n57 =>
ld h ⟨y7.block, y7.off + 1, none⟩ fun v58 =>
asIn .u8 v58 fun n59 =>
ld h ⟨y7.block, y7.off + 2, none⟩ fun v60 =>
asIn .u8 v60 fun n61 =>
ld h ⟨y7.block, y7.off + 3, none⟩ fun v62 =>
asIn .u8 v62 fun n63 =>
ld h ⟨y7.block, y7.off + 4, none⟩ fun v64 =>
asIn .u8 v64 fun n65 =>
ld h ⟨y7.block, y7.off + 5, none⟩ fun v66 =>
asIn .u8 v66 fun n67 =>
ld h ⟨y7.block, y7.off + 6, none⟩ fun v68 =>
asIn .u8 v68 fun n69 =>
ld h ⟨y7.block, y7.off + 7, none⟩ fun v70 =>
asIn .u8 v70 fun n71 =>
ld h ⟨y7.block, y7.off + 8, none⟩ fun v72 =>
asIn .u8 v72 fun n73 =>
ld h ⟨y7.block, y7.off + 9, none⟩ fun v74 =>
asIn .u8 v74 fun n75 =>
ld h ⟨y7.block, y7.off + 10, none⟩ fun v76 =>
asIn .u8 v76 fun n77 =>
ld h ⟨y7.block, y7.off + 11, none⟩ fun v78 =>
asIn .u8 v78 fun n79 =>
ld h ⟨y7.block, y7.off + 12, none⟩ fun v80 =>
asIn .u8 v80 fun n81 =>
ld h ⟨y7.block, y7.off + 13, none⟩ fun v82 =>
asIn .u8 v82 fun n83 =>
ld h ⟨y7.block, y7.off + 14, none⟩ fun v84 =>
asIn .u8 v84 fun n85 =>
ld h ⟨y7.block, y7.off + 15, none⟩ fun v86 =>
asIn .u8 v86 fun n87 =>
ld h ⟨y7.block, y7.off + 16, none⟩ fun v88 =>
asIn .u8 v88 fun n89 =>
ld h ⟨y7.block, y7.off + 17, none⟩ fun v90 =>
asIn .u8 v90 fun n91 =>
ld h ⟨y7.block, y7.off + 18, none⟩ fun v92 =>
asIn .u8 v92 fun n93 =>
ld h ⟨y7.block, y7.off + 19, none⟩ fun v94 =>
asIn .u8 v94 fun n95 =>
ld h ⟨y7.block, y7.off + 20, none⟩ fun v96 =>
asIn .u8 v96 fun n97 =>
ld h ⟨y7.block, y7.off + 21, none⟩ fun v98 =>
asIn .u8 v98 fun n99 =>
ld h ⟨y7.block, y7.off + 22, none⟩ fun v100 =>
asIn .u8 v100 fun n101 =>
ld h ⟨y7.block, y7.off + 23, none⟩ fun v102 =>
asIn .u8 v102 fun n103 =>
ld h ⟨y7.block, y7.off + 24, none⟩ fun v104 =>
asIn .u8 v104 fun n105 =>
ld h ⟨y7.block, y7.off + 25, none⟩ fun v106 =>
asIn .u8 v106 fun n107 =>
ld h ⟨y7.block, y7.off + 26, none⟩ fun v108 =>
asIn .u8 v108 fun n109 =>
ld h ⟨y7.block, y7.off + 27, none⟩ fun v110 =>
asIn .u8 v110 fun n111 =>
ld h ⟨y7.block, y7.off + 28, none⟩ fun v112 =>
asIn .u8 v112 fun n113 =>
ld h ⟨y7.block, y7.off + 29, none⟩ fun v114 =>
asIn .u8 v114 fun n115 =>
ld h ⟨y7.block, y7.off + 30, none⟩ fun v116 =>
asIn .u8 v116 fun n117 =>
ld h ⟨y7.block, y7.off + 31, none⟩ fun v118 =>
asIn .u8 v118 fun n119 =>
st h y2 (.int .u8 n57) fun h120 =>
st h120 ⟨y2.block, y2.off + 1, none⟩ (.int .u8 n59) fun h121 =>
st h121 ⟨y2.block, y2.off + 2, none⟩ (.int .u8 n61) fun h122 =>
st h122 ⟨y2.block, y2.off + 3, none⟩ (.int .u8 n63) fun h123 =>
st h123 ⟨y2.block, y2.off + 4, none⟩ (.int .u8 n65) fun h124 =>
st h124 ⟨y2.block, y2.off + 5, none⟩ (.int .u8 n67) fun h125 =>
st h125 ⟨y2.block, y2.off + 6, none⟩ (.int .u8 n69) fun h126 =>
st h126 ⟨y2.block, y2.off + 7, none⟩ (.int .u8 n71) fun h127 =>
st h127 ⟨y2.block, y2.off + 8, none⟩ (.int .u8 n73) fun h128 =>
st h128 ⟨y2.block, y2.off + 9, none⟩ (.int .u8 n75) fun h129 =>
st h129 ⟨y2.block, y2.off + 10, none⟩ (.int .u8 n77) fun h130 =>
st h130 ⟨y2.block, y2.off + 11, none⟩ (.int .u8 n79) fun h131 =>
st h131 ⟨y2.block, y2.off + 12, none⟩ (.int .u8 n81) fun h132 =>
st h132 ⟨y2.block, y2.off + 13, none⟩ (.int .u8 n83) fun h133 =>
st h133 ⟨y2.block, y2.off + 14, none⟩ (.int .u8 n85) fun h134 =>
st h134 ⟨y2.block, y2.off + 15, none⟩ (.int .u8 n87) fun h135 =>
st h135 ⟨y2.block, y2.off + 16, none⟩ (.int .u8 n89) fun h136 =>
st h136 ⟨y2.block, y2.off + 17, none⟩ (.int .u8 n91) fun h137 =>
st h137 ⟨y2.block, y2.off + 18, none⟩ (.int .u8 n93) fun h138 =>
st h138 ⟨y2.block, y2.off + 19, none⟩ (.int .u8 n95) fun h139 =>
st h139 ⟨y2.block, y2.off + 20, none⟩ (.int .u8 n97) fun h140 =>
st h140 ⟨y2.block, y2.off + 21, none⟩ (.int .u8 n99) fun h141 =>
st h141 ⟨y2.block, y2.off + 22, none⟩ (.int .u8 n101) fun h142 =>
st h142 ⟨y2.block, y2.off + 23, none⟩ (.int .u8 n103) fun h143 =>
st h143 ⟨y2.block, y2.off + 24, none⟩ (.int .u8 n105) fun h144 =>
st h144 ⟨y2.block, y2.off + 25, none⟩ (.int .u8 n107) fun h145 =>
st h145 ⟨y2.block, y2.off + 26, none⟩ (.int .u8 n109) fun h146 =>
st h146 ⟨y2.block, y2.off + 27, none⟩ (.int .u8 n111) fun h147 =>
st h147 ⟨y2.block, y2.off + 28, none⟩ (.int .u8 n113) fun h148 =>
st h148 ⟨y2.block, y2.off + 29, none⟩ (.int .u8 n115) fun h149 =>
st h149 ⟨y2.block, y2.off + 30, none⟩ (.int .u8 n117) fun h150 =>
st h150 ⟨y2.block, y2.off + 31, none⟩ (.int .u8 n119) fun h151 =>
ld h151 y2 fun v152 =>
asIn .u8 v152 fun n153 =>
ld h151 ⟨y2.block, y2.off + 1, none⟩ fun v154 =>
asIn .u8 v154 fun n155 =>
ld h151 ⟨y2.block, y2.off + 2, none⟩ fun v156 =>
asIn .u8 v156 fun n157 =>
ld h151 ⟨y2.block, y2.off + 3, none⟩ fun v158 =>
asIn .u8 v158 fun n159 =>
ld h151 ⟨y2.block, y2.off + 4, none⟩ fun v160 =>
asIn .u8 v160 fun n161 =>
ld h151 ⟨y2.block, y2.off + 5, none⟩ fun v162 =>
asIn .u8 v162 fun n163 =>
ld h151 ⟨y2.block, y2.off + 6, none⟩ fun v164 =>
asIn .u8 v164 fun n165 =>
ld h151 ⟨y2.block, y2.off + 7, none⟩ fun v166 =>
asIn .u8 v166 fun n167 =>
ld h151 ⟨y2.block, y2.off + 8, none⟩ fun v168 =>
asIn .u8 v168 fun n169 =>
ld h151 ⟨y2.block, y2.off + 9, none⟩ fun v170 =>
asIn .u8 v170 fun n171 =>
ld h151 ⟨y2.block, y2.off + 10, none⟩ fun v172 =>
asIn .u8 v172 fun n173 =>
ld h151 ⟨y2.block, y2.off + 11, none⟩ fun v174 =>
asIn .u8 v174 fun n175 =>
ld h151 ⟨y2.block, y2.off + 12, none⟩ fun v176 =>
asIn .u8 v176 fun n177 =>
ld h151 ⟨y2.block, y2.off + 13, none⟩ fun v178 =>
asIn .u8 v178 fun n179 =>
ld h151 ⟨y2.block, y2.off + 14, none⟩ fun v180 =>
asIn .u8 v180 fun n181 =>
ld h151 ⟨y2.block, y2.off + 15, none⟩ fun v182 =>
asIn .u8 v182 fun n183 =>
ld h151 ⟨y2.block, y2.off + 16, none⟩ fun v184 =>
asIn .u8 v184 fun n185 =>
ld h151 ⟨y2.block, y2.off + 17, none⟩ fun v186 =>
asIn .u8 v186 fun n187 =>
ld h151 ⟨y2.block, y2.off + 18, none⟩ fun v188 =>
asIn .u8 v188 fun n189 =>
ld h151 ⟨y2.block, y2.off + 19, none⟩ fun v190 =>
asIn .u8 v190 fun n191 =>
ld h151 ⟨y2.block, y2.off + 20, none⟩ fun v192 =>
asIn .u8 v192 fun n193 =>
ld h151 ⟨y2.block, y2.off + 21, none⟩ fun v194 =>
asIn .u8 v194 fun n195 =>
ld h151 ⟨y2.block, y2.off + 22, none⟩ fun v196 =>
asIn .u8 v196 fun n197 =>
ld h151 ⟨y2.block, y2.off + 23, none⟩ fun v198 =>
asIn .u8 v198 fun n199 =>
ld h151 ⟨y2.block, y2.off + 24, none⟩ fun v200 =>
asIn .u8 v200 fun n201 =>
ld h151 ⟨y2.block, y2.off + 25, none⟩ fun v202 =>
asIn .u8 v202 fun n203 =>
ld h151 ⟨y2.block, y2.off + 26, none⟩ fun v204 =>
asIn .u8 v204 fun n205 =>
ld h151 ⟨y2.block, y2.off + 27, none⟩ fun v206 =>
asIn .u8 v206 fun n207 =>
ld h151 ⟨y2.block, y2.off + 28, none⟩ fun v208 =>
asIn .u8 v208 fun n209 =>
ld h151 ⟨y2.block, y2.off + 29, none⟩ fun v210 =>
asIn .u8 v210 fun n211 =>
ld h151 ⟨y2.block, y2.off + 30, none⟩ fun v212 =>
asIn .u8 v212 fun n213 =>
ld h151 ⟨y2.block, y2.off + 31, none⟩ fun v214 =>
asIn .u8 v214 fun n215 =>
K (.agg #[(.int .u8 n153), (.int .u8 n155), (.int .u8 n157), (.int .u8 n159), (.int .u8 n161), (.int .u8 n163), (.int .u8 n165), (.int .u8 n167), (.int .u8 n169), (.int .u8 n171), (.int .u8 n173), (.int .u8 n175), (.int .u8 n177), (.int .u8 n179), (.int .u8 n181), (.int .u8 n183), (.int .u8 n185), (.int .u8 n187), (.int .u8 n189), (.int .u8 n191), (.int .u8 n193), (.int .u8 n195), (.int .u8 n197), (.int .u8 n199), (.int .u8 n201), (.int .u8 n203), (.int .u8 n205), (.int .u8 n207), (.int .u8 n209), (.int .u8 n211), (.int .u8 n213), (.int .u8 n215)]) h151)
def V83 (I60 : List Nat → Addr → Option Addr → Option Addr → Nat → Nat → Hp → Prop) (I506 : List Nat → Addr → Option Addr → Option Addr → Nat → Nat → Int → Int → Hp → Prop) (I4090 : List Nat → Addr → Addr → Value → Int → Hp → Prop) (K : Value → Hp → Prop) (a0 : Addr) (h : Hp) : Prop :=
nw h (.cells #[(.int .u8 0), (.int .u8 0), (.int .u8 0), (.int .u8 0), (.int .u8 0), (.int .u8 0), (.int .u8 0), (.int .u8 0), (.int .u8 0), (.int .u8 0), (.int .u8 0), (.int .u8 0), (.int .u8 0), (.int .u8 0), (.int .u8 0), (.int .u8 0), (.int .u8 0), (.int .u8 0), (.int .u8 0), (.int .u8 0), (.int .u8 0), (.int .u8 0), (.int .u8 0), (.int .u8 0), (.int .u8 0), (.int .u8 0), (.int .u8 0), (.int .u8 0), (.int .u8 0), (.int .u8 0), (.int .u8 0), (.int .u8 0)] 122) fun r216 h217 =>
Spec P 86 #[(.pointer (some a0))] h217 fun v218 h219 =>
asPt v218 fun p220 =>
nw h219 (.cells #[(.int .u8 128)] 5) fun r221 h222 =>
∃ n, I60 [n] ⟨r216, 0, none⟩ p220 (some ⟨r221, 0, none⟩) 1 1 h222
noncomputable def C83 : Code := match Tryd.f83.body with | some c => c | none => .skip
def L83 : Nat → Plan := fun q => Plan.nil
def T83 : Nat → List Value := fun q => (selT 60 [.nilIface, .nilIface, .pointer (some ⟨0, 0, none⟩), (.pointer none), (.slice none 0 0), .nilIface, .nilIface, .nilIface, .nilIface, .nilIface, .nilIface, .nilIface, .nilIface, .nilIface, .nilIface, .nilIface, .nilIface, .nilIface, .nilIface, .nilIface, .nilIface, .nilIface, .nilIface, .nilIface, .nilIface, .nilIface, .nilIface, .nilIface, .nilIface, .nilIface, .nilIface, .nilIface, .nilIface, .nilIface, .nilIface, .nilIface, .nilIface, .nilIface, .nilIface, .nilIface, .nilIface, .nilIface, .nilIface, .nilIface, .nilIface, .nilIface, .nilIface, .nilIface, .nilIface, .nilIface, .nilIface, .nilIface, .nilIface, .nilIface, .nilIface, .nilIface, .nilIface, .nilIface, .nilIface, .nilIface, .nilIface, .nilIface, .nilIface, .nilIface, .nilIface, .nilIface, .nilIface, .nilIface, .nilIface, .nilIface, .nilIface, .nilIface, .nilIface, .nilIface, .nilIface, .nilIface, .nilIface, .nilIface, .nilIface, .nilIface, .nilIface, .nilIface, .nilIface, .nilIface, .nilIface] (selT 506 [.nilIface, .nilIface, .pointer (some ⟨0, 0, none⟩), (.pointer none), (.slice none 0 0), (.int .u64 0), .nilIface, .nilIface, .nilIface, .nilIface, .nilIface, .nilIface, .nilIface, .nilIface, .nilIface, .nilIface, .nilIface, .nilIface, .nilIface, .nilIface, .nilIface, .nilIface, .nilIface, .nilIface, .nilIface, .nilIface, .nilIface, .nilIface, .nilIface, .nilIface, .nilIface, .nilIface, .nilIface, (.int .i64 0), .nilIface, .nilIface, .nilIface, .nilIface, .nilIface, .nilIface, .nilIface, .nilIface, .nilIface, .nilIface, .nilIface, .nilIface, .nilIface, .nilIface, .nilIface, .nilIface, .nilIface, .nilIface, .nilIface, .nilIface, .nilIface, .nilIface, .nilIface, .nilIface, .nilIface, .nilIface, .nilIface, .nilIface, .nilIface, .nilIface, .nilIface, .nilIface, .nilIface, .nilIface, .nilIface, .nilIface, .nilIface, .nilIface, .nilIface, .nilIface, .nilIface, .nilIface, .nilIface, .nilIface, .nilIface, .nilIface, .nilIface, .nilIface, .nilIface, .nilIface, .nilIface] (selT 4090 [.nilIface, .nilIface, .pointer (some ⟨0, 0, none⟩), .nilIface, .nilIface, .nilIface, .nilIface, .pointer (some ⟨0, 0, none⟩), .nilIface, .nilIface, .nilIface, .nilIface, .nilIface, .nilIface, .nilIface, .nilIface, .nilIface, .nilIface, .nilIface, .nilIface, .nilIface, .nilIface, .nilIface, .nilIface, .nilIface, .nilIface, .nilIface, .nilIface, .nilIface, .nilIface, .nilIface, .nilIface, .nilIface, .nilIface, .nilIface, .nilIface, .nilIface, .nilIface, .nilIface, .nilIface, .nilIface, .nilIface, .nilIface, .nilIface, .nilIface, .nilIface, .nilIface, .nilIface, .nilIface, .nilIface, .nilIface, .nilIface, .nilIface, (.int .i64 0), .nilIface, .nilIface, .nilIface, .nilIface, .nilIface, .nilIface, .nilIface, .nilIface, .nilIface, .nilIface, .nilIface, .nilIface, .nilIface, .nilIface, .nilIface, .nilIface, .nilIface, .nilIface, .nilIface, .nilIface, .nilIface, .nilIface, .nilIface, .nilIface, .nilIface, .nilIface, .nilIface, .nilIface, .nilIface, .nilIface, .nilIface] [] q) q) q)
def G83 (I60 : List Nat → Addr → Option Addr → Option Addr → Nat → Nat → Hp → Prop) (I506 : List Nat → Addr → Option Addr → Option Addr → Nat → Nat → Int → Int → Hp → Prop) (I4090 : List Nat → Addr → Addr → Value → Int → Hp → Prop) : Inv := fun q => (selI 60 (fun ns l h => asAd (l.getD 2 undef) fun y2 => asPt (l.getD 3 undef) fun y3 => asSl (l.getD 4 undef) fun y4 y4n y4c => I60 ns y2 y3 y4 y4n y4c h) (selI 506 (fun ns l h => asAd (l.getD 2 undef) fun y2 => asPt (l.getD 3 undef) fun y3 => asSl (l.getD 4 undef) fun y4 y4n y4c => asIn .u64 (l.getD 5 undef) fun y5 => asIn .i64 (l.getD 33 undef) fun y33 => I506 ns y2 y3 y4 y4n y4c y5 y33 h) (selI 4090 (fun ns l h => asAd (l.getD 2 undef) fun y2 => asAd (l.getD 7 undef) fun y7 => asIn .i64 (l.getD 53 undef) fun y53 => I4090 ns y2 y7 (l.getD 52 undef) y53 h) (fun _ _ _ => False) q) q) q)
theorem L83_ok : plansOk P L83 C83 = true := by kernel_rfl
theorem W83 (I60 : List Nat → Addr → Option Addr → Option Addr → Nat → Nat → Hp → Prop) (I506 : List Nat → Addr → Option Addr → Option Addr → Nat → Nat → Int → Int → Hp → Prop) (I4090 : List Nat → Addr → Addr → Value → Int → Hp → Prop) (K : Value → Hp → Prop) (a0 : Addr) (h : Hp) : ((∀ k60 : Nat, (∀ (y0 : Value) (y1 : Value) (y2 : Addr) (y3 : Option Addr) (y4 : Option Addr) (y4n y4c : Nat) (y5 : Value) (y6 : Value) (y7 : Value) (y8 : Value) (y9 : Value) (y10 : Value) (y11 : Value) (y12 : Value) (y13 : Value) (y14 : Value) (y15 : Value) (y16 : Value) (y17 : Value) (y18 : Value) (y19 : Value) (y20 : Value) (y21 : Value) (y22 : Value) (y23 : Value) (y24 : Value) (y25 : Value) (y26 : Value) (y27 : Value) (y28 : Value) (y29 : Value) (y30 : Value) (y31 : Value) (y32 : Value) (y33 : Value) (y34 : Value) (y35 : Value) (y36 : Value) (y37 : Value) (y38 : Value) (y39 : Value) (y40 : Value) (y41 : Value) (y42 : Value) (y43 : Value) (y44 : Value) (y45 : Value) (y46 : Value) (y47 : Value) (y48 : Value) (y49 : Value) (y50 : Value) (y51 : Value) (y52 : Value) (y53 : Value) (y54 : Value) (y55 : Value) (y56 : Value) (y57 : Value) (y58 : Value) (y59 : Value) (y60 : Value) (y61 : Value) (y62 : Value) (y63 : Value) (y64 : Value) (y65 : Value) (y66 : Value) (y67 : Value) (y68 : Value) (y69 : Value) (y70 : Value) (y71 : Value) (y72 : Value) (y73 : Value) (y74 : Value) (y75 : Value) (y76 : Value) (y77 : Value) (y78 : Value) (y79 : Value) (y80 : Value) (y81 : Value) (y82 : Value) (y83 : Value) (y84 : Value) (h : Hp), I60 [k60] y2 y3 y4 y4n y4c h → V83_60 I60 I506 I4090 K k60 y2 y3 y4 y4n y4c h)) ∧ (∀ k506 : Nat, (∀ (y0 : Value) (y1 : Value) (y2 : Addr) (y3 : Option Addr) (y4 : Option Addr) (y4n y4c : Nat) (y5 : Int) (y6 : Value) (y7 : Value) (y8 : Value) (y9 : Value) (y10 : Value) (y11 : Value) (y12 : Value) (y13 : Value) (y14 : Value) (y15 : Value) (y16 : Value) (y17 : Value) (y18 : Value) (y19 : Value) (y20 : Value) (y21 : Value) (y22 : Value) (y23 : Value) (y24 : Value) (y25 : Value) (y26 : Value) (y27 : Value) (y28 : Value) (y29 : Value) (y30 : Value) (y31 : Value) (y32 : Value) (y33 : Int) (y34 : Value) (y35 : Value) (y36 : Value) (y37 : Value) (y38 : Value) (y39 : Value) (y40 : Value) (y41 : Value) (y42 : Value) (y43 : Value) (y44 : Value) (y45 : Value) (y46 : Value) (y47 : Value) (y48 : Value) (y49 : Value) (y50 : Value) (y51 : Value) (y52 : Value) (y53 : Value) (y54 : Value) (y55 : Value) (y56 : Value) (y57 : Value) (y58 : Value) (y59 : Value) (y60 : Value) (y61 : Value) (y62 : Value) (y63 : Value) (y64 : Value) (y65 : Value) (y66 : Value) (y67 : Value) (y68 : Value) (y69 : Value) (y70 : Value) (y71 : Value) (y72 : Value) (y73 : Value) (y74 : Value) (y75 : Value) (y76 : Value) (y77 : Value) (y78 : Value) (y79 : Value) (y80 : Value) (y81 : Value) (y82 : Value) (y83 : Value) (y84 : Value) (h : Hp), I506 [k506] y2 y3 y4 y4n y4c y5 y33 h → V83_506 I60 I506 I4090 K k506 y2 y3 y4 y4n y4c y5 y33 h)) ∧ (∀ k4090 : Nat, (∀ (y0 : Value) (y1 : Value) (y2 : Addr) (y3 : Value) (y4 : Value) (y5 : Value) (y6 : Value) (y7 : Addr) (y8 : Value) (y9 : Value) (y10 : Value) (y11 : Value) (y12 : Value) (y13 : Value) (y14 : Value) (y15 : Value) (y16 : Value) (y17 : Value) (y18 : Value) (y19 : Value) (y20 : Value) (y21 : Value) (y22 : Value) (y23 : Value) (y24 : Value) (y25 : Value) (y26 : Value) (y27 : Value) (y28 : Value) (y29 : Value) (y30 : Value) (y31 : Value) (y32 : Value) (y33 : Value) (y34 : Value) (y35 : Value) (y36 : Value) (y37 : Value) (y38 : Value) (y39 : Value) (y40 : Value) (y41 : Value) (y42 : Value) (y43 : Value) (y44 : Value) (y45 : Value) (y46 : Value) (y47 : Value) (y48 : Value) (y49 : Value) (y50 : Value) (y51 : Value) (y52 : Value) (y53 : Int) (y54 : Value) (y55 : Value) (y56 : Value) (y57 : Value) (y58 : Value) (y59 : Value) (y60 : Value) (y61 : Value) (y62 : Value) (y63 : Value) (y64 : Value) (y65 : Value) (y66 : Value) (y67 : Value) (y68 : Value) (y69 : Value) (y70 : Value) (y71 : Value) (y72 : Value) (y73 : Value) (y74 : Value) (y75 : Value) (y76 : Value) (y77 : Value) (y78 : Value) (y79 : Value) (y80 : Value) (y81 : Value) (y82 : Value) (y83 : Value) (y84 : Value) (h : Hp), I4090 [k4090] y2 y7 y52 y53 h → V83_4090 I60 I506 I4090 K k4090 y2 y7 y52 y53 h)) ∧ V83 I60 I506 I4090 K a0 h) =
  allP (obls P L83 (fun q => false) T83 (G83 I60 I506 I4090) 1 [] C83 (endQ P Tryd.f83 K) ++ [awp P L83 (fun q => false) T83 (G83 I60 I506 I4090) 1 [] C83 (endQ P Tryd.f83 K) (frameL [(.pointer (some a0))] 85) h]) := by kernel_rfl
theorem S83 (I60 : List Nat → Addr → Option Addr → Option Addr → Nat → Nat → Hp → Prop) (I506 : List Nat → Addr → Option Addr → Option Addr → Nat → Nat → Int → Int → Hp → Prop) (I4090 : List Nat → Addr → Addr → Value → Int → Hp → Prop) {K : Value → Hp → Prop} {a0 : Addr} {h : Hp} (o60 : ∀ (k60 : Nat) (y2 : Addr) (y3 : Option Addr) (y4 : Option Addr) (y4n y4c : Nat) (h : Hp), I60 [k60] y2 y3 y4 y4n y4c h → V83_60 I60 I506 I4090 K k60 y2 y3 y4 y4n y4c h) (o506 : ∀ (k506 : Nat) (y2 : Addr) (y3 : Option Addr) (y4 : Option Addr) (y4n y4c : Nat) (y5 : Int) (y33 : Int) (h : Hp), I506 [k506] y2 y3 y4 y4n y4c y5 y33 h → V83_506 I60 I506 I4090 K k506 y2 y3 y4 y4n y4c y5 y33 h) (o4090 : ∀ (k4090 : Nat) (y2 : Addr) (y7 : Addr) (y52 : Value) (y53 : Int) (h : Hp), I4090 [k4090] y2 y7 y52 y53 h → V83_4090 I60 I506 I4090 K k4090 y2 y7 y52 y53 h) (e : V83 I60 I506 I4090 K a0 h) : Spec P 83 #[(.pointer (some a0))] h K :=
  spec_of_awp (args := [(.pointer (some a0))]) follows_P Tryd.func83 (by kernel_rfl : Tryd.f83.body = some C83) fits83 L83_ok (Nat.le_of_ble_eq_true (by kernel_rfl)) (Eq.mp (W83 I60 I506 I4090 K a0 h) ⟨(fun k60 => (fun _ _ y2 y3 y4 y4n y4c _ _ _ _ _ _ _ _ _ _ _ _ _ _ _ _ _ _ _ _ _ _ _ _ _ _ _ _ _ _ _ _ _ _ _ _ _ _ _ _ _ _ _ _ _ _ _ _ _ _ _ _ _ _ _ _ _ _ _ _ _ _ _ _ _ _ _ _ _ _ _ _ _ _ _ _ _ _ _ _ h hi => o60 k60 y2 y3 y4 y4n y4c h hi)), (fun k506 => (fun _ _ y2 y3 y4 y4n y4c y5 _ _ _ _ _ _ _ _ _ _ _ _ _ _ _ _ _ _ _ _ _ _ _ _ _ _ _ y33 _ _ _ _ _ _ _ _ _ _ _ _ _ _ _ _ _ _ _ _ _ _ _ _ _ _ _ _ _ _ _ _ _ _ _ _ _ _ _ _ _ _ _ _ _ _ _ _ _ _ _ h hi => o506 k506 y2 y3 y4 y4n y4c y5 y33 h hi)), (fun k4090 => (fun _ _ y2 _ _ _ _ y7 _ _ _ _ _ _ _ _ _ _ _ _ _ _ _ _ _ _ _ _ _ _ _ _ _ _ _ _ _ _ _ _ _ _ _ _ _ _ _ _ _ _ _ _ y52 y53 _ _ _ _ _ _ _ _ _ _ _ _ _ _ _ _ _ _ _ _ _ _ _ _ _ _ _ _ _ _ _ h hi => o4090 k4090 y2 y7 y52 y53 h hi)), e⟩)

theorem fits85 : Fits P 85 := fits_of Tryd.func85 (by kernel_rfl) (by kernel_rfl)
/- 85 (*bulla/sha.words).take
  path 26: loop 0:d 4: 16: 17:
  path 30: loop 0:d 4: 96:
-/
def V85_26 (I26 : List Nat → Addr → Addr → Value → Int → Hp → Prop) (I30 : List Nat → Addr → Addr → Int → Hp → Prop) (K : Value → Hp → Prop) (k26 : Nat) (y0 : Addr) (y4 : Addr) (y16 : Value) (y17 : Int) (h : Hp) : Prop :=
bIf (decide ((y17 : Int) < 64)) (
oRd P (Instr.index 146 y16 (.int .i64 y17)) h fun v1 =>
asIn .u32 v1 fun n2 =>
ld h y4 fun v3 =>
asIn .u32 v3 fun n4 =>
ld h ⟨y4.block, y4.off + 4, none⟩ fun v5 =>
asIn .u32 v5 fun n6 =>
ld h ⟨y4.block, y4.off + 7, none⟩ fun v7 =>
asIn .u32 v7 fun n8 =>
ld h ⟨y4.block, y4.off + 5, none⟩ fun v9 =>
asIn .u32 v9 fun n10 =>
ld h ⟨y4.block, y4.off + 6, none⟩ fun v11 =>
asIn .u32 v11 fun n12 =>
ixA P 146 (.pointer (some ⟨29, 0, none⟩)) (.int .i64 y17) h fun d13 =>
ld h d13 fun v14 =>
asIn .u32 v14 fun n15 =>
Spec P 91 #[(.int .u32 n6), (.int .i64 6)] h fun v16 h17 =>
asIn .u32 v16 fun n18 =>
(rd P (Instr.loadAt 138 (.pointer (some d13))) h17 = rd P (Instr.loadAt 138 (.pointer (some d13))) h ∧ (rd P (sBin .xor 138 false (.int .u32 (bAnd .u32 n6 n10)) (.int .u32 (bAnd .u32 (bNot .u32 n6) n12))) h17 = rd P (sBin .xor 138 false (.int .u32 (bAnd .u32 n6 n10)) (.int .u32 (bAnd .u32 (bNot .u32 n6) n12))) h ∧ (rd P (sBin .and 138 false (.int .u32 (bNot .u32 n6)) (.int .u32 n12)) h17 = rd P (sBin .and 138 false (.int .u32 (bNot .u32 n6)) (.int .u32 n12)) h ∧ (rd P (Instr.loadAt 138 (.pointer (some ⟨y4.block, y4.off + 6, none⟩))) h17 = rd P (Instr.loadAt 138 (.pointer (some ⟨y4.block, y4.off + 6, none⟩))) h ∧ (rd P (Op.unary .xor (.int .u32 n6)) h17 = rd P (Op.unary .xor (.int .u32 n6)) h ∧ (rd P (sBin .and 138 false (.int .u32 n6) (.int .u32 n10)) h17 = rd P (sBin .and 138 false (.int .u32 n6) (.int .u32 n10)) h ∧ (rd P (Instr.loadAt 138 (.pointer (some ⟨y4.block, y4.off + 5, none⟩))) h17 = rd P (Instr.loadAt 138 (.pointer (some ⟨y4.block, y4.off + 5, none⟩))) h ∧ (rd P (Instr.loadAt 138 (.pointer (some ⟨y4.block, y4.off + 7, none⟩))) h17 = rd P (Instr.loadAt 138 (.pointer (some ⟨y4.block, y4.off + 7, none⟩))) h)))))))) ∧ (
Spec P 91 #[(.int .u32 n6), (.int .i64 11)] h17 fun v19 h20 =>
asIn .u32 v19 fun n21 =>
(rd P (Instr.loadAt 138 (.pointer (some d13))) h20 = rd P (Instr.loadAt 138 (.pointer (some d13))) h ∧ (rd P (sBin .xor 138 false (.int .u32 (bAnd .u32 n6 n10)) (.int .u32 (bAnd .u32 (bNot .u32 n6) n12))) h20 = rd P (sBin .xor 138 false (.int .u32 (bAnd .u32 n6 n10)) (.int .u32 (bAnd .u32 (bNot .u32 n6) n12))) h ∧ (rd P (sBin .and 138 false (.int .u32 (bNot .u32 n6)) (.int .u32 n12)) h20 = rd P (sBin .and 138 false (.int .u32 (bNot .u32 n6)) (.int .u32 n12)) h ∧ (rd P (Instr.loadAt 138 (.pointer (some ⟨y4.block, y4.off + 6, none⟩))) h20 = rd P (Instr.loadAt 138 (.pointer (some ⟨y4.block, y4.off + 6, none⟩))) h ∧ (rd P (Op.unary .xor (.int .u32 n6)) h20 = rd P (Op.unary .xor (.int .u32 n6)) h ∧ (rd P (sBin .and 138 false (.int .u32 n6) (.int .u32 n10)) h20 = rd P (sBin .and 138 false (.int .u32 n6) (.int .u32 n10)) h ∧ (rd P (Instr.loadAt 138 (.pointer (some ⟨y4.block, y4.off + 5, none⟩))) h20 = rd P (Instr.loadAt 138 (.pointer (some ⟨y4.block, y4.off + 5, none⟩))) h ∧ (rd P (Instr.loadAt 138 (.pointer (some ⟨y4.block, y4.off + 7, none⟩))) h20 = rd P (Instr.loadAt 138 (.pointer (some ⟨y4.block, y4.off + 7, none⟩))) h)))))))) ∧ (
Spec P 91 #[(.int .u32 n6), (.int .i64 25)] h20 fun v22 h23 =>
asIn .u32 v22 fun n24 =>
(rd P (sBin .xor 138 false (.int .u32 n18) (.int .u32 n21)) h23 = rd P (sBin .xor 138 false (.int .u32 n18) (.int .u32 n21)) h20 ∧ (rd P (Instr.loadAt 138 (.pointer (some d13))) h23 = rd P (Instr.loadAt 138 (.pointer (some d13))) h ∧ (rd P (sBin .xor 138 false (.int .u32 (bAnd .u32 n6 n10)) (.int .u32 (bAnd .u32 (bNot .u32 n6) n12))) h23 = rd P (sBin .xor 138 false (.int .u32 (bAnd .u32 n6 n10)) (.int .u32 (bAnd .u32 (bNot .u32 n6) n12))) h ∧ (rd P (sBin .and 138 false (.int .u32 (bNot .u32 n6)) (.int .u32 n12)) h23 = rd P (sBin .and 138 false (.int .u32 (bNot .u32 n6)) (.int .u32 n12)) h ∧ (rd P (Instr.loadAt 138 (.pointer (some ⟨y4.block, y4.off + 6, none⟩))) h23 = rd P (Instr.loadAt 138 (.pointer (some ⟨y4.block, y4.off + 6, none⟩))) h ∧ (rd P (Op.unary .xor (.int .u32 n6)) h23 = rd P (Op.unary .xor (.int .u32 n6)) h ∧ (rd P (sBin .and 138 false (.int .u32 n6) (.int .u32 n10)) h23 = rd P (sBin .and 138 false (.int .u32 n6) (.int .u32 n10)) h ∧ (rd P (Instr.loadAt 138 (.pointer (some ⟨y4.block, y4.off + 5, none⟩))) h23 = rd P (Instr.loadAt 138 (.pointer (some ⟨y4.block, y4.off + 5, none⟩))) h ∧ (rd P (Instr.loadAt 138 (.pointer (some ⟨y4.block, y4.off + 7, none⟩))) h23 = rd P (Instr.loadAt 138 (.pointer (some ⟨y4.block, y4.off + 7, none⟩))) h))))))))) ∧ (
ld h23 ⟨y4.block, y4.off + 1, none⟩ fun v25 =>
asIn .u32 v25 fun n26 =>
ld h23 ⟨y4.block, y4.off + 2, none⟩ fun v27 =>
asIn .u32 v27 fun n28 =>
ld h23 ⟨y4.block, y4.off + 1, none⟩ fun v29 =>
asIn .u32 v29 fun n30 =>
ld h23 ⟨y4.block, y4.off + 2, none⟩ fun v31 =>
asIn .u32 v31 fun n32 =>
Spec P 91 #[(.int .u32 n4), (.int .i64 2)] h23 fun v33 h34 =>
asIn .u32 v33 fun n35 =>
(rd P (sBin .xor 138 false (.int .u32 (bXor .u32 (bAnd .u32 n4 n26) (bAnd .u32 n4 n28))) (.int .u32 (bAnd .u32 n30 n32))) h34 = rd P (sBin .xor 138 false (.int .u32 (bXor .u32 (bAnd .u32 n4 n26) (bAnd .u32 n4 n28))) (.int .u32 (bAnd .u32 n30 n32))) h23 ∧ (rd P (sBin .and 138 false (.int .u32 n30) (.int .u32 n32)) h34 = rd P (sBin .and 138 false (.int .u32 n30) (.int .u32 n32)) h23 ∧ (rd P (Instr.loadAt 138 (.pointer (some ⟨y4.block, y4.off + 2, none⟩))) h34 = rd P (Instr.loadAt 138 (.pointer (some ⟨y4.block, y4.off + 2, none⟩))) h23 ∧ (rd P (Instr.loadAt 138 (.pointer (some ⟨y4.block, y4.off + 1, none⟩))) h34 = rd P (Instr.loadAt 138 (.pointer (some ⟨y4.block, y4.off + 1, none⟩))) h23 ∧ (rd P (sBin .xor 138 false (.int .u32 (bAnd .u32 n4 n26)) (.int .u32 (bAnd .u32 n4 n28))) h34 = rd P (sBin .xor 138 false (.int .u32 (bAnd .u32 n4 n26)) (.int .u32 (bAnd .u32 n4 n28))) h23 ∧ (rd P (sBin .and 138 false (.int .u32 n4) (.int .u32 n28)) h34 = rd P (sBin .and 138 false (.int .u32 n4) (.int .u32 n28)) h23 ∧ (rd P (Instr.loadAt 138 (.pointer (some ⟨y4.block, y4.off + 2, none⟩))) h34 = rd P (Instr.loadAt 138 (.pointer (some ⟨y4.block, y4.off + 2, none⟩))) h23 ∧ (rd P (sBin .and 138 false (.int .u32 n4) (.int .u32 n26)) h34 = rd P (sBin .and 138 false (.int .u32 n4) (.int .u32 n26)) h23 ∧ (rd P (Instr.loadAt 138 (.pointer (some ⟨y4.block, y4.off + 1, none⟩))) h34 = rd P (Instr.loadAt 138 (.pointer (some ⟨y4.block, y4.off + 1, none⟩))) h23))))))))) ∧ (
Spec P 91 #[(.int .u32 n4), (.int .i64 13)] h34 fun v36 h37 =>
asIn .u32 v36 fun n38 =>
(rd P (sBin .xor 138 false (.int .u32 (bXor .u32 (bAnd .u32 n4 n26) (bAnd .u32 n4 n28))) (.int .u32 (bAnd .u32 n30 n32))) h37 = rd P (sBin .xor 138 false (.int .u32 (bXor .u32 (bAnd .u32 n4 n26) (bAnd .u32 n4 n28))) (.int .u32 (bAnd .u32 n30 n32))) h23 ∧ (rd P (sBin .and 138 false (.int .u32 n30) (.int .u32 n32)) h37 = rd P (sBin .and 138 false (.int .u32 n30) (.int .u32 n32)) h23 ∧ (rd P (Instr.loadAt 138 (.pointer (some ⟨y4.block, y4.off + 2, none⟩))) h37 = rd P (Instr.loadAt 138 (.pointer (some ⟨y4.block, y4.off + 2, none⟩))) h23 ∧ (rd P (Instr.loadAt 138 (.pointer (some ⟨y4.block, y4.off + 1, none⟩))) h37 = rd P (Instr.loadAt 138 (.pointer (some ⟨y4.block, y4.off + 1, none⟩))) h23 ∧ (rd P (sBin .xor 138 false (.int .u32 (bAnd .u32 n4 n26)) (.int .u32 (bAnd .u32 n4 n28))) h37 = rd P (sBin .xor 138 false (.int .u32 (bAnd .u32 n4 n26)) (.int .u32 (bAnd .u32 n4 n28))) h23 ∧ (rd P (sBin .and 138 false (.int .u32 n4) (.int .u32 n28)) h37 = rd P (sBin .and 138 false (.int .u32 n4) (.int .u32 n28)) h23 ∧ (rd P (Instr.loadAt 138 (.pointer (some ⟨y4.block, y4.off + 2, none⟩))) h37 = rd P (Instr.loadAt 138 (.pointer (some ⟨y4.block, y4.off + 2, none⟩))) h23 ∧ (rd P (sBin .and 138 false (.int .u32 n4) (.int .u32 n26)) h37 = rd P (sBin .and 138 false (.int .u32 n4) (.int .u32 n26)) h23 ∧ (rd P (Instr.loadAt 138 (.pointer (some ⟨y4.block, y4.off + 1, none⟩))) h37 = rd P (Instr.loadAt 138 (.pointer (some ⟨y4.block, y4.off + 1, none⟩))) h23))))))))) ∧ (
Spec P 91 #[(.int .u32 n4), (.int .i64 22)] h37 fun v39 h40 =>
asIn .u32 v39 fun n41 =>
(rd P (sBin .xor 138 false (.int .u32 n35) (.int .u32 n38)) h40 = rd P (sBin .xor 138 false (.int .u32 n35) (.int .u32 n38)) h37 ∧ (rd P (sBin .xor 138 false (.int .u32 (bXor .u32 (bAnd .u32 n4 n26) (bAnd .u32 n4 n28))) (.int .u32 (bAnd .u32 n30 n32))) h40 = rd P (sBin .xor 138 false (.int .u32 (bXor .u32 (bAnd .u32 n4 n26) (bAnd .u32 n4 n28))) (.int .u32 (bAnd .u32 n30 n32))) h23 ∧ (rd P (sBin .and 138 false (.int .u32 n30) (.int .u32 n32)) h40 = rd P (sBin .and 138 false (.int .u32 n30) (.int .u32 n32)) h23 ∧ (rd P (Instr.loadAt 138 (.pointer (some ⟨y4.block, y4.off + 2, none⟩))) h40 = rd P (Instr.loadAt 138 (.pointer (some ⟨y4.block, y4.off + 2, none⟩))) h23 ∧ (rd P (Instr.loadAt 138 (.pointer (some ⟨y4.block, y4.off + 1, none⟩))) h40 = rd P (Instr.loadAt 138 (.pointer (some ⟨y4.block, y4.off + 1, none⟩))) h23 ∧ (rd P (sBin .xor 138 false (.int .u32 (bAnd .u32 n4 n26)) (.int .u32 (bAnd .u32 n4 n28))) h40 = rd P (sBin .xor 138 false (.int .u32 (bAnd .u32 n4 n26)) (.int .u32 (bAnd .u32 n4 n28))) h23 ∧ (rd P (sBin .and 138 false (.int .u32 n4) (.int .u32 n28)) h40 = rd P (sBin .and 138 false (.int .u32 n4) (.int .u32 n28)) h23 ∧ (rd P (Instr.loadAt 138 (.pointer (some ⟨y4.block, y4.off + 2, none⟩))) h40 = rd P (Instr.loadAt 138 (.pointer (some ⟨y4.block, y4.off + 2, none⟩))) h23 ∧ (rd P (sBin .and 138 false (.int .u32 n4) (.int .u32 n26)) h40 = rd P (sBin .and 138 false (.int .u32 n4) (.int .u32 n26)) h23 ∧ (rd P (Instr.loadAt 138 (.pointer (some ⟨y4.block, y4.off + 1, none⟩))) h40 = rd P (Instr.loadAt 138 (.pointer (some ⟨y4.block, y4.off + 1, none⟩))) h23)))))))))) ∧ (
ld h40 ⟨y4.block, y4.off + 1, none⟩ fun v42 =>
asIn .u32 v42 fun n43 =>
ld h40 ⟨y4.block, y4.off + 2, none⟩ fun v44 =>
asIn .u32 v44 fun n45 =>
ld h40 ⟨y4.block, y4.off + 3, none⟩ fun v46 =>
asIn .u32 v46 fun n47 =>
ld h40 ⟨y4.block, y4.off + 5, none⟩ fun v48 =>
asIn .u32 v48 fun n49 =>
ld h40 ⟨y4.block, y4.off + 6, none⟩ fun v50 =>
asIn .u32 v50 fun n51 =>
oRd P (Instr.build 140 #[(0, (.int .u32 (IntKind.u32.wrap ((IntKind.u32.wrap ((IntKind.u32.wrap ((IntKind.u32.wrap ((IntKind.u32.wrap (n8 + (bXor .u32 (bXor .u32 n18 n21) n24))) + (bXor .u32 (bAnd .u32 n6 n10) (bAnd .u32 (bNot .u32 n6) n12)))) + n15)) + n2)) + (IntKind.u32.wrap ((bXor .u32 (bXor .u32 n35 n38) n41) + (bXor .u32 (bXor .u32 (bAnd .u32 n4 n26) (bAnd .u32 n4 n28)) (bAnd .u32 n30 n32)))))))), (1, (.int .u32 n4)), (2, (.int .u32 n43)), (3, (.int .u32 n45)), (4, (.int .u32 (IntKind.u32.wrap (n47 + (IntKind.u32.wrap ((IntKind.u32.wrap ((IntKind.u32.wrap ((IntKind.u32.wrap (n8 + (bXor .u32 (bXor .u32 n18 n21) n24))) + (bXor .u32 (bAnd .u32 n6 n10) (bAnd .u32 (bNot .u32 n6) n12)))) + n15)) + n2)))))), (5, (.int .u32 n6)), (6, (.int .u32 n49)), (7, (.int .u32 n51))]) h40 fun v52 =>
asAg v52 fun q53 =>
unc q53 fun v54 q55 =>
asIn .u32 v54 fun n56 =>
unc q55 fun v57 q58 =>
asIn .u32 v57 fun n59 =>
unc q58 fun v60 q61 =>
asIn .u32 v60 fun n62 =>
unc q61 fun v63 q64 =>
asIn .u32 v63 fun n65 =>
unc q64 fun v66 q67 =>
asIn .u32 v66 fun n68 =>
unc q67 fun v69 q70 =>
asIn .u32 v69 fun n71 =>
unc q70 fun v72 q73 =>
asIn .u32 v72 fun n74 =>
unc q73 fun v75 q76 =>
asIn .u32 v75 fun n77 =>
nilL q76 <|
st h40 y4 (.int .u32 n56) fun h78 =>
st h78 ⟨y4.block, y4.off + 1, none⟩ (.int .u32 n59) fun h79 =>
st h79 ⟨y4.block, y4.off + 2, none⟩ (.int .u32 n62) fun h80 =>
st h80 ⟨y4.block, y4.off + 3, none⟩ (.int .u32 n65) fun h81 =>
st h81 ⟨y4.block, y4.off + 4, none⟩ (.int .u32 n68) fun h82 =>
st h82 ⟨y4.block, y4.off + 5, none⟩ (.int .u32 n71) fun h83 =>
st h83 ⟨y4.block, y4.off + 6, none⟩ (.int .u32 n74) fun h84 =>
st h84 ⟨y4.block, y4.off + 7, none⟩ (.int .u32 n77) fun h85 =>
∃ m, m < k26 ∧ I26 [m] y0 y4 y16 (IntKind.i64.wrap (y17 + 1)) h85))))))) (
∃ n, I30 [n] y0 y4 0 h)
def V85_30 (I26 : List Nat → Addr → Addr → Value → Int → Hp → Prop) (I30 : List Nat → Addr → Addr → Int → Hp → Prop) (K : Value → Hp → Prop) (k30 : Nat) (y0 : Addr) (y4 : Addr) (y96 : Int) (h : Hp) : Prop :=
bIf (decide ((y96 : Int) < 8)) (
ixA P 140 (.pointer (some y0)) (.int .i64 y96) h fun d86 =>
ld h d86 fun v87 =>
asIn .u32 v87 fun n88 =>
ixA P 140 (.pointer (some y4)) (.int .i64 y96) h fun d89 =>
ld h d89 fun v90 =>
asIn .u32 v90 fun n91 =>
ixA P 140 (.pointer (some y0)) (.int .i64 y96) h fun d92 =>
st h d92 (.int .u32 (IntKind.u32.wrap (n88 + n91))) fun h93 =>
∃ m, m < k30 ∧ I30 [m] y0 y4 (IntKind.i64.wrap (y96 + 1)) h93) (
K (.tuple #[]) h)
def V85 (I26 : List Nat → Addr → Addr → Value → Int → Hp → Prop) (I30 : List Nat → Addr → Addr → Int → Hp → Prop) (K : Value → Hp → Prop) (a0 : Addr) (a1 : Option Addr) (a1n a1c : Nat) (h : Hp) : Prop :=
ld h a0 fun v94 =>
asIn .u32 v94 fun n95 =>
ld h ⟨a0.block, a0.off + 1, none⟩ fun v96 =>
asIn .u32 v96 fun n97 =>
ld h ⟨a0.block, a0.off + 2, none⟩ fun v98 =>
asIn .u32 v98 fun n99 =>
ld h ⟨a0.block, a0.off + 3, none⟩ fun v100 =>
asIn .u32 v100 fun n101 =>
ld h ⟨a0.block, a0.off + 4, none⟩ fun v102 =>
asIn .u32 v102 fun n103 =>
ld h ⟨a0.block, a0.off + 5, none⟩ fun v104 =>
asIn .u32 v104 fun n105 =>
ld h ⟨a0.block, a0.off + 6, none⟩ fun v106 =>
asIn .u32 v106 fun n107 =>
ld h ⟨a0.block, a0.off + 7, none⟩ fun v108 =>
asIn .u32 v108 fun n109 =>
nw h (.cells #[(.int .u32 0), (.int .u32 0), (.int .u32 0), (.int .u32 0), (.int .u32 0), (.int .u32 0), (.int .u32 0), (.int .u32 0)] 140) fun r110 h111 =>
st h111 ⟨r110, 0, none⟩ (.int .u32 n95) fun h112 =>
st h112 ⟨r110, 1, none⟩ (.int .u32 n97) fun h113 =>
st h113 ⟨r110, 2, none⟩ (.int .u32 n99) fun h114 =>
st h114 ⟨r110, 3, none⟩ (.int .u32 n101) fun h115 =>
st h115 ⟨r110, 4, none⟩ (.int .u32 n103) fun h116 =>
st h116 ⟨r110, 5, none⟩ (.int .u32 n105) fun h117 =>
st h117 ⟨r110, 6, none⟩ (.int .u32 n107) fun h118 =>
st h118 ⟨r110, 7, none⟩ (.int .u32 n109) fun h119 =>
Spec P 90 #[(.slice a1 a1n a1c)] h119 fun v120 h121 =>
∃ n, I26 [n] a0 ⟨r110, 0, none⟩ v120 0 h121
noncomputable def C85 : Code := match Tryd.f85.body with | some c => c | none => .skip
def L85 : Nat → Plan := fun q => (selP 12 (.ro 0 (.ro 1 (.ro 2 (.ro 3 (.ro 4 (.ro 5 (.ro 6 (.ro 7 (.ro 8 (.ro 9 (.ro 10 (.ef 11 .nil .nil)))))))))))) (selP 6 (.ro 0 (.ro 2 (.ro 5 (.ro 8 (.ro 9 (.ro 10 (.ro 11 (.ro 12 (.ro 13 (.ro 14 (.ro 15 (.ro 16 (.ro 17 (.ro 18 (.ro 19 (.ro 20 (.ro 21 (.ro 22 (.ef 1 (.ef 3 (.ro 4 (.ef 6 (.ro 7 (.ro 23 (.ro 24 .nil))) .nil)) .nil) .nil))))))))))))))))))) (selP 5 (.ro 0 (.ro 1 (.ro 2 (.ro 4 (.ro 7 (.ro 11 (.ro 12 (.ro 13 (.ro 14 (.ro 15 (.ro 16 (.ro 17 (.ro 18 (.ro 19 (.ro 20 (.ro 22 (.ro 23 (.ro 24 (.ro 26 (.ef 3 (.ef 5 (.ro 6 (.ef 8 (.ro 9 (.ro 10 (.ro 21 (.ro 25 (.ro 27 (.ro 28 .nil)))))) .nil)) .nil) .nil)))))))))))))))))))) (selP 4 (.ro 0 (.ro 1 (.ro 2 (.ro 3 (.ro 4 (.ro 5 .nil)))))) Plan.nil q) q) q) q)
def T85 : Nat → List Value := fun q => (selT 26 [.pointer (some ⟨0, 0, none⟩), .nilIface, .nilIface, .nilIface, .pointer (some ⟨0, 0, none⟩), .nilIface, .nilIface, .nilIface, .nilIface, .nilIface, .nilIface, .nilIface, .nilIface, .nilIface, .nilIface, .nilIface, .nilIface, (.int .i64 0), .nilIface, .nilIface, .nilIface, .nilIface, .nilIface, .nilIface, .nilIface, .nilIface, .nilIface, .nilIface, .nilIface, .nilIface, .nilIface, .nilIface, .nilIface, .nilIface, .nilIface, .nilIface, .nilIface, .nilIface, .nilIface, .nilIface, .nilIface, .nilIface, .nilIface, .nilIface, .nilIface, .nilIface, .nilIface, .nilIface, .nilIface, .nilIface, .nilIface, .nilIface, .nilIface, .nilIface, .nilIface, .nilIface, .nilIface, .nilIface, .nilIface, .nilIface, .nilIface, .nilIface, .nilIface, .nilIface, .nilIface, .nilIface, .nilIface, .nilIface, .nilIface, .nilIface, .nilIface, .nilIface, .nilIface, .nilIface, .nilIface, .nilIface, .nilIface, .nilIface, .nilIface, .nilIface, .nilIface, .nilIface, .nilIface, .nilIface, .nilIface, .nilIface, .nilIface, .nilIface, .nilIface, .nilIface, .nilIface, .nilIface, .nilIface, .nilIface, .nilIface, .nilIface, .nilIface, .nilIface, .nilIface, .nilIface, .nilIface, .nilIface, .nilIface, .nilIface, .nilIface, .nilIface, .nilIface, .nilIface, .nilIface, .nilIface, .nilIface] (selT 30 [.pointer (some ⟨0, 0, none⟩), .nilIface, .nilIface, .nilIface, .pointer (some ⟨0, 0, none⟩), .nilIface, .nilIface, .nilIface, .nilIface, .nilIface, .nilIface, .nilIface, .nilIface, .nilIface, .nilIface, .nilIface, .nilIface, .nilIface, .nilIface, .nilIface, .nilIface, .nilIface, .nilIface, .nilIface, .nilIface, .nilIface, .nilIface, .nilIface, .nilIface, .nilIface, .nilIface, .nilIface, .nilIface, .nilIface, .nilIface, .nilIface, .nilIface, .nilIface, .nilIface, .nilIface, .nilIface, .nilIface, .nilIface, .nilIface, .nilIface, .nilIface, .nilIface, .nilIface, .nilIface, .nilIface, .nilIface, .nilIface, .nilIface, .nilIface, .nilIface, .nilIface, .nilIface, .nilIface, .nilIface, .nilIface, .nilIface, .nilIface, .nilIface, .nilIface, .nilIface, .nilIface, .nilIface, .nilIface, .nilIface, .nilIface, .nilIface, .nilIface, .nilIface, .nilIface, .nilIface, .nilIface, .nilIface, .nilIface, .nilIface, .nilIface, .nilIface, .nilIface, .nilIface, .nilIface, .nilIface, .nilIface, .nilIface, .nilIface, .nilIface, .nilIface, .nilIface, .nilIface, .nilIface, .nilIface, .nilIface, .nilIface, (.int .i64 0), .nilIface, .nilIface, .nilIface, .nilIface, .nilIface, .nilIface, .nilIface, .nilIface, .nilIface, .nilIface, .nilIface, .nilIface, .nilIface, .nilIface] [] q) q)
def G85 (I26 : List Nat → Addr → Addr → Value → Int → Hp → Prop) (I30 : List Nat → Addr → Addr → Int → Hp → Prop) : Inv := fun q => (selI 26 (fun ns l h => asAd (l.getD 0 undef) fun y0 => asAd (l.getD 4 undef) fun y4 => asIn .i64 (l.getD 17 undef) fun y17 => I26 ns y0 y4 (l.getD 16 undef) y17 h) (selI 30 (fun ns l h => asAd (l.getD 0 undef) fun y0 => asAd (l.getD 4 undef) fun y4 => asIn .i64 (l.getD 96 undef) fun y96 => I30 ns y0 y4 y96 h) (fun _ _ _ => False) q) q)
theorem L85_ok : plansOk P L85 C85 = true := by kernel_rfl
theorem W85 (I26 : List Nat → Addr → Addr → Value → Int → Hp → Prop) (I30 : List Nat → Addr → Addr → Int → Hp → Prop) (K : Value → Hp → Prop) (a0 : Addr) (a1 : Option Addr) (a1n a1c : Nat) (h : Hp) : ((∀ k26 : Nat, (∀ (y0 : Addr) (y1 : Value) (y2 : Value) (y3 : Value) (y4 : Addr) (y5 : Value) (y6 : Value) (y7 : Value) (y8 : Value) (y9 : Value) (y10 : Value) (y11 : Value) (y12 : Value) (y13 : Value) (y14 : Value) (y15 : Value) (y16 : Value) (y17 : Int) (y18 : Value) (y19 : Value) (y20 : Value) (y21 : Value) (y22 : Value) (y23 : Value) (y24 : Value) (y25 : Value) (y26 : Value) (y27 : Value) (y28 : Value) (y29 : Value) (y30 : Value) (y31 : Value) (y32 : Value) (y33 : Value) (y34 : Value) (y35 : Value) (y36 : Value) (y37 : Value) (y38 : Value) (y39 : Value) (y40 : Value) (y41 : Value) (y42 : Value) (y43 : Value) (y44 : Value) (y45 : Value) (y46 : Value) (y47 : Value) (y48 : Value) (y49 : Value) (y50 : Value) (y51 : Value) (y52 : Value) (y53 : Value) (y54 : Value) (y55 : Value) (y56 : Value) (y57 : Value) (y58 : Value) (y59 : Value) (y60 : Value) (y61 : Value) (y62 : Value) (y63 : Value) (y64 : Value) (y65 : Value) (y66 : Value) (y67 : Value) (y68 : Value) (y69 : Value) (y70 : Value) (y71 : Value) (y72 : Value) (y73 : Value) (y74 : Value) (y75 : Value) (y76 : Value) (y77 : Value) (y78 : Value) (y79 : Value) (y80 : Value) (y81 : Value) (y82 : Value) (y83 : Value) (y84 : Value) (y85 : Value) (y86 : Value) (y87 : Value) (y88 : Value) (y89 : Value) (y90 : Value) (y91 : Value) (y92 : Value) (y93 : Value) (y94 : Value) (y95 : Value) (y96 : Value) (y97 : Value) (y98 : Value) (y99 : Value) (y100 : Value) (y101 : Value) (y102 : Value) (y103 : Value) (y104 : Value) (y105 : Value) (y106 : Value) (y107 : Value) (y108 : Value) (y109 : Value) (y110 : Value) (h : Hp), I26 [k26] y0 y4 y16 y17 h → V85_26 I26 I30 K k26 y0 y4 y16 y17 h)) ∧ (∀ k30 : Nat, (∀ (y0 : Addr) (y1 : Value) (y2 : Value) (y3 : Value) (y4 : Addr) (y5 : Value) (y6 : Value) (y7 : Value) (y8 : Value) (y9 : Value) (y10 : Value) (y11 : Value) (y12 : Value) (y13 : Value) (y14 : Value) (y15 : Value) (y16 : Value) (y17 : Value) (y18 : Value) (y19 : Value) (y20 : Value) (y21 : Value) (y22 : Value) (y23 : Value) (y24 : Value) (y25 : Value) (y26 : Value) (y27 : Value) (y28 : Value) (y29 : Value) (y30 : Value) (y31 : Value) (y32 : Value) (y33 : Value) (y34 : Value) (y35 : Value) (y36 : Value) (y37 : Value) (y38 : Value) (y39 : Value) (y40 : Value) (y41 : Value) (y42 : Value) (y43 : Value) (y44 : Value) (y45 : Value) (y46 : Value) (y47 : Value) (y48 : Value) (y49 : Value) (y50 : Value) (y51 : Value) (y52 : Value) (y53 : Value) (y54 : Value) (y55 : Value) (y56 : Value) (y57 : Value) (y58 : Value) (y59 : Value) (y60 : Value) (y61 : Value) (y62 : Value) (y63 : Value) (y64 : Value) (y65 : Value) (y66 : Value) (y67 : Value) (y68 : Value) (y69 : Value) (y70 : Value) (y71 : Value) (y72 : Value) (y73 : Value) (y74 : Value) (y75 : Value) (y76 : Value) (y77 : Value) (y78 : Value) (y79 : Value) (y80 : Value) (y81 : Value) (y82 : Value) (y83 : Value) (y84 : Value) (y85 : Value) (y86 : Value) (y87 : Value) (y88 : Value) (y89 : Value) (y90 : Value) (y91 : Value) (y92 : Value) (y93 : Value) (y94 : Value) (y95 : Value) (y96 : Int) (y97 : Value) (y98 : Value) (y99 : Value) (y100 : Value) (y101 : Value) (y102 : Value) (y103 : Value) (y104 : Value) (y105 : Value) (y106 : Value) (y107 : Value) (y108 : Value) (y109 : Value) (y110 : Value) (h : Hp), I30 [k30] y0 y4 y96 h → V85_30 I26 I30 K k30 y0 y4 y96 h)) ∧ V85 I26 I30 K a0 a1 a1n a1c h) =
  allP (obls P L85 (fun q => false) T85 (G85 I26 I30) 1 [] C85 (endQ P Tryd.f85 K) ++ [awp P L85 (fun q => false) T85 (G85 I26 I30) 1 [] C85 (endQ P Tryd.f85 K) (frameL [(.pointer (some a0)), (.slice a1 a1n a1c)] 111) h]) := by kernel_rfl
theorem S85 (I26 : List Nat → Addr → Addr → Value → Int → Hp → Prop) (I30 : List Nat → Addr → Addr → Int → Hp → Prop) {K : Value → Hp → Prop} {a0 : Addr} {a1 : Option Addr} {a1n a1c : Nat} {h : Hp} (o26 : ∀ (k26 : Nat) (y0 : Addr) (y4 : Addr) (y16 : Value) (y17 : Int) (h : Hp), I26 [k26] y0 y4 y16 y17 h → V85_26 I26 I30 K k26 y0 y4 y16 y17 h) (o30 : ∀ (k30 : Nat) (y0 : Addr) (y4 : Addr) (y96 : Int) (h : Hp), I30 [k30] y0 y4 y96 h → V85_30 I26 I30 K k30 y0 y4 y96 h) (e : V85 I26 I30 K a0 a1 a1n a1c h) : Spec P 85 #[(.pointer (some a0)), (.slice a1 a1n a1c)] h K :=
  spec_of_awp (args := [(.pointer (some a0)), (.slice a1 a1n a1c)]) follows_P Tryd.func85 (by kernel_rfl : Tryd.f85.body = some C85) fits85 L85_ok (Nat.le_of_ble_eq_true (by kernel_rfl)) (Eq.mp (W85 I26 I30 K a0 a1 a1n a1c h) ⟨(fun k26 => (fun y0 _ _ _ y4 _ _ _ _ _ _ _ _ _ _ _ y16 y17 _ _ _ _ _ _ _ _ _ _ _ _ _ _ _ _ _ _ _ _ _ _ _ _ _ _ _ _ _ _ _ _ _ _ _ _ _ _ _ _ _ _ _ _ _ _ _ _ _ _ _ _ _ _ _ _ _ _ _ _ _ _ _ _ _ _ _ _ _ _ _ _ _ _ _ _ _ _ _ _ _ _ _ _ _ _ _ _ _ _ _ _ _ h hi => o26 k26 y0 y4 y16 y17 h hi)), (fun k30 => (fun y0 _ _ _ y4 _ _ _ _ _ _ _ _ _ _ _ _ _ _ _ _ _ _ _ _ _ _ _ _ _ _ _ _ _ _ _ _ _ _ _ _ _ _ _ _ _ _ _ _ _ _ _ _ _ _ _ _ _ _ _ _ _ _ _ _ _ _ _ _ _ _ _ _ _ _ _ _ _ _ _ _ _ _ _ _ _ _ _ _ _ _ _ _ _ _ _ y96 _ _ _ _ _ _ _ _ _ _ _ _ _ _ h hi => o30 k30 y0 y4 y96 h hi)), e⟩)

theorem fits86 : Fits P 86 := fits_of Tryd.func86 (by kernel_rfl) (by kernel_rfl)
/- 86 (*bulla/sha.Hash).Copy
-/
def V86 (K : Value → Hp → Prop) (a0 : Addr) (h : Hp) : Prop :=
ld h a0 fun v1 =>
asIn .u32 v1 fun n2 =>
ld h ⟨a0.block, a0.off + 1, none⟩ fun v3 =>
asIn .u32 v3 fun n4 =>
ld h ⟨a0.block, a0.off + 2, none⟩ fun v5 =>
asIn .u32 v5 fun n6 =>
ld h ⟨a0.block, a0.off + 3, none⟩ fun v7 =>
asIn .u32 v7 fun n8 =>
ld h ⟨a0.block, a0.off + 4, none⟩ fun v9 =>
asIn .u32 v9 fun n10 =>
ld h ⟨a0.block, a0.off + 5, none⟩ fun v11 =>
asIn .u32 v11 fun n12 =>
ld h ⟨a0.block, a0.off + 6, none⟩ fun v13 =>
asIn .u32 v13 fun n14 =>
ld h ⟨a0.block, a0.off + 7, none⟩ fun v15 =>
asIn .u32 v15 fun n16 =>
ld h ⟨a0.block, a0.off + 8, none⟩ fun v17 =>
asSl v17 fun a18 l19 c20 =>
ld h ⟨a0.block, a0.off + 9, none⟩ fun v21 =>
asIn .i64 v21 fun n22 =>
Spec P 37 #[(.slice a18 l19 c20)] h fun v23 h24 =>
asSl v23 fun a25 l26 c27 =>
(rd P (Instr.loadAt 3 (.pointer (some ⟨a0.block, a0.off + 9, none⟩))) h24 = rd P (Instr.loadAt 3 (.pointer (some ⟨a0.block, a0.off + 9, none⟩))) h ∧ (rd P (Instr.loadAt 140 (.pointer (some a0))) h24 = rd P (Instr.loadAt 140 (.pointer (some a0))) h)) ∧ (
nw h24 (.cells #[(.int .u32 n2), (.int .u32 n4), (.int .u32 n6), (.int .u32 n8), (.int .u32 n10), (.int .u32 n12), (.int .u32 n14), (.int .u32 n16), (.slice a25 l26 c27), (.int .i64 n22)] 142) fun r28 h29 =>
K (.pointer (some ⟨r28, 0, none⟩)) h29)
noncomputable def C86 : Code := match Tryd.f86.body with | some c => c | none => .skip
def L86 : Nat → Plan := fun q => (selP 1 (.ro 0 (.ro 1 (.ro 2 (.ro 3 (.ro 4 (.ro 5 (.ro 6 (.ro 7 (.ro 9 (.ro 10 (.ro 11 (.ro 12 (.ef 8 (.ro 13 (.ef 14 (.ro 15 .nil) .nil)) .nil))))))))))))) Plan.nil q)
theorem L86_ok : plansOk P L86 C86 = true := by kernel_rfl
theorem W86 (K : Value → Hp → Prop) (a0 : Addr) (h : Hp) : (V86 K a0 h) =
  allP (obls P L86 (fun q => false) (fun _ => []) (fun _ _ _ _ => False) 1 [] C86 (endQ P Tryd.f86 K) ++ [awp P L86 (fun q => false) (fun _ => []) (fun _ _ _ _ => False) 1 [] C86 (endQ P Tryd.f86 K) (frameL [(.pointer (some a0))] 18) h]) := by kernel_rfl
theorem S86 {K : Value → Hp → Prop} {a0 : Addr} {h : Hp} (e : V86 K a0 h) : Spec P 86 #[(.pointer (some a0))] h K :=
  spec_of_awp (args := [(.pointer (some a0))]) follows_P Tryd.func86 (by kernel_rfl : Tryd.f86.body = some C86) fits86 L86_ok (Nat.le_of_ble_eq_true (by kernel_rfl)) (Eq.mp (W86 K a0 h) e)

theorem fits90 : Fits P 90 := fits_of Tryd.func90 (by kernel_rfl) (by kernel_rfl)
/- 90 bulla/sha.spread
  path 58: loop 0:d 2: 3: 7:
-/
def V90_58 (I58 : List Nat → Option Addr → Nat → Nat → Addr → Addr → Int → Hp → Prop) (K : Value → Hp → Prop) (k58 : Nat) (y0 : Option Addr) (y0n y0c : Nat) (y2 : Addr) (y3 : Addr) (y7 : Int) (h : Hp) : Prop :=
bIf (decide ((y7 : Int) < 64)) (
bIf (decide ((y7 : Int) < 16)) (
ixA P 24 (.slice y0 y0n y0c) (.int .i64 (IntKind.i64.wrap (4 * y7))) h fun d1 =>
ld h d1 fun v2 =>
asIn .u8 v2 fun n3 =>
ixA P 24 (.slice y0 y0n y0c) (.int .i64 (IntKind.i64.wrap ((IntKind.i64.wrap (4 * y7)) + 1))) h fun d4 =>
ld h d4 fun v5 =>
asIn .u8 v5 fun n6 =>
ixA P 24 (.slice y0 y0n y0c) (.int .i64 (IntKind.i64.wrap ((IntKind.i64.wrap (4 * y7)) + 2))) h fun d7 =>
ld h d7 fun v8 =>
asIn .u8 v8 fun n9 =>
ixA P 24 (.slice y0 y0n y0c) (.int .i64 (IntKind.i64.wrap ((IntKind.i64.wrap (4 * y7)) + 3))) h fun d10 =>
ld h d10 fun v11 =>
asIn .u8 v11 fun n12 =>
ixA P 146 (.pointer (some y3)) (.int .i64 y7) h fun d13 =>
st h d13 (.int .u32 (bOr .u32 (bOr .u32 (bOr .u32 (sShl .u32 (IntKind.u32.wrap n3) 24) (sShl .u32 (IntKind.u32.wrap n6) 16)) (sShl .u32 (IntKind.u32.wrap n9) 8)) (IntKind.u32.wrap n12))) fun h14 =>
∃ m, m < k58 ∧ I58 [m] y0 y0n y0c y2 y3 (IntKind.i64.wrap (y7 + 1)) h14) (
ixA P 146 (.pointer (some y3)) (.int .i64 (IntKind.i64.wrap (y7 - 15))) h fun d15 =>
ld h d15 fun v16 =>
asIn .u32 v16 fun n17 =>
ixA P 146 (.pointer (some y3)) (.int .i64 (IntKind.i64.wrap (y7 - 2))) h fun d18 =>
ld h d18 fun v19 =>
asIn .u32 v19 fun n20 =>
ixA P 146 (.pointer (some y3)) (.int .i64 (IntKind.i64.wrap (y7 - 16))) h fun d21 =>
ld h d21 fun v22 =>
asIn .u32 v22 fun n23 =>
ixA P 146 (.pointer (some y3)) (.int .i64 (IntKind.i64.wrap (y7 - 7))) h fun d24 =>
ld h d24 fun v25 =>
asIn .u32 v25 fun n26 =>
Spec P 91 #[(.int .u32 n17), (.int .i64 7)] h fun v27 h28 =>
asIn .u32 v27 fun n29 =>
(rd P (sBin .shr 138 true (.int .u32 n20) (.int .u64 10)) h28 = rd P (sBin .shr 138 true (.int .u32 n20) (.int .u64 10)) h ∧ (rd P (Instr.loadAt 138 (.pointer (some d24))) h28 = rd P (Instr.loadAt 138 (.pointer (some d24))) h ∧ (rd P (sBin .sub 3 true (.int .i64 y7) (.int .i64 7)) h28 = rd P (sBin .sub 3 true (.int .i64 y7) (.int .i64 7)) h ∧ (rd P (sBin .shr 138 true (.int .u32 n17) (.int .u64 3)) h28 = rd P (sBin .shr 138 true (.int .u32 n17) (.int .u64 3)) h ∧ (rd P (Instr.loadAt 138 (.pointer (some d21))) h28 = rd P (Instr.loadAt 138 (.pointer (some d21))) h ∧ (rd P (sBin .sub 3 true (.int .i64 y7) (.int .i64 16)) h28 = rd P (sBin .sub 3 true (.int .i64 y7) (.int .i64 16)) h)))))) ∧ (
Spec P 91 #[(.int .u32 n17), (.int .i64 18)] h28 fun v30 h31 =>
asIn .u32 v30 fun n32 =>
(rd P (sBin .shr 138 true (.int .u32 n20) (.int .u64 10)) h31 = rd P (sBin .shr 138 true (.int .u32 n20) (.int .u64 10)) h ∧ (rd P (Instr.loadAt 138 (.pointer (some d24))) h31 = rd P (Instr.loadAt 138 (.pointer (some d24))) h ∧ (rd P (sBin .sub 3 true (.int .i64 y7) (.int .i64 7)) h31 = rd P (sBin .sub 3 true (.int .i64 y7) (.int .i64 7)) h ∧ (rd P (sBin .shr 138 true (.int .u32 n17) (.int .u64 3)) h31 = rd P (sBin .shr 138 true (.int .u32 n17) (.int .u64 3)) h ∧ (rd P (Instr.loadAt 138 (.pointer (some d21))) h31 = rd P (Instr.loadAt 138 (.pointer (some d21))) h ∧ (rd P (sBin .sub 3 true (.int .i64 y7) (.int .i64 16)) h31 = rd P (sBin .sub 3 true (.int .i64 y7) (.int .i64 16)) h)))))) ∧ (
Spec P 91 #[(.int .u32 n20), (.int .i64 17)] h31 fun v33 h34 =>
asIn .u32 v33 fun n35 =>
(rd P (sBin .add 138 false (.int .u32 (IntKind.u32.wrap (n23 + (bXor .u32 (bXor .u32 n29 n32) (sShr .u32 n17 3))))) (.int .u32 n26)) h34 = rd P (sBin .add 138 false (.int .u32 (IntKind.u32.wrap (n23 + (bXor .u32 (bXor .u32 n29 n32) (sShr .u32 n17 3))))) (.int .u32 n26)) h31 ∧ (rd P (sBin .add 138 false (.int .u32 n23) (.int .u32 (bXor .u32 (bXor .u32 n29 n32) (sShr .u32 n17 3)))) h34 = rd P (sBin .add 138 false (.int .u32 n23) (.int .u32 (bXor .u32 (bXor .u32 n29 n32) (sShr .u32 n17 3)))) h31 ∧ (rd P (sBin .xor 138 false (.int .u32 (bXor .u32 n29 n32)) (.int .u32 (sShr .u32 n17 3))) h34 = rd P (sBin .xor 138 false (.int .u32 (bXor .u32 n29 n32)) (.int .u32 (sShr .u32 n17 3))) h31 ∧ (rd P (sBin .xor 138 false (.int .u32 n29) (.int .u32 n32)) h34 = rd P (sBin .xor 138 false (.int .u32 n29) (.int .u32 n32)) h31 ∧ (rd P (sBin .shr 138 true (.int .u32 n20) (.int .u64 10)) h34 = rd P (sBin .shr 138 true (.int .u32 n20) (.int .u64 10)) h ∧ (rd P (Instr.loadAt 138 (.pointer (some d24))) h34 = rd P (Instr.loadAt 138 (.pointer (some d24))) h ∧ (rd P (sBin .sub 3 true (.int .i64 y7) (.int .i64 7)) h34 = rd P (sBin .sub 3 true (.int .i64 y7) (.int .i64 7)) h ∧ (rd P (sBin .shr 138 true (.int .u32 n17) (.int .u64 3)) h34 = rd P (sBin .shr 138 true (.int .u32 n17) (.int .u64 3)) h ∧ (rd P (Instr.loadAt 138 (.pointer (some d21))) h34 = rd P (Instr.loadAt 138 (.pointer (some d21))) h ∧ (rd P (sBin .sub 3 true (.int .i64 y7) (.int .i64 16)) h34 = rd P (sBin .sub 3 true (.int .i64 y7) (.int .i64 16)) h)))))))))) ∧ (
Spec P 91 #[(.int .u32 n20), (.int .i64 19)] h34 fun v36 h37 =>
asIn .u32 v36 fun n38 =>
(rd P (sBin .add 138 false (.int .u32 (IntKind.u32.wrap (n23 + (bXor .u32 (bXor .u32 n29 n32) (sShr .u32 n17 3))))) (.int .u32 n26)) h37 = rd P (sBin .add 138 false (.int .u32 (IntKind.u32.wrap (n23 + (bXor .u32 (bXor .u32 n29 n32) (sShr .u32 n17 3))))) (.int .u32 n26)) h31 ∧ (rd P (sBin .add 138 false (.int .u32 n23) (.int .u32 (bXor .u32 (bXor .u32 n29 n32) (sShr .u32 n17 3)))) h37 = rd P (sBin .add 138 false (.int .u32 n23) (.int .u32 (bXor .u32 (bXor .u32 n29 n32) (sShr .u32 n17 3)))) h31 ∧ (rd P (sBin .xor 138 false (.int .u32 (bXor .u32 n29 n32)) (.int .u32 (sShr .u32 n17 3))) h37 = rd P (sBin .xor 138 false (.int .u32 (bXor .u32 n29 n32)) (.int .u32 (sShr .u32 n17 3))) h31 ∧ (rd P (sBin .xor 138 false (.int .u32 n29) (.int .u32 n32)) h37 = rd P (sBin .xor 138 false (.int .u32 n29) (.int .u32 n32)) h31 ∧ (rd P (sBin .shr 138 true (.int .u32 n20) (.int .u64 10)) h37 = rd P (sBin .shr 138 true (.int .u32 n20) (.int .u64 10)) h ∧ (rd P (Instr.loadAt 138 (.pointer (some d24))) h37 = rd P (Instr.loadAt 138 (.pointer (some d24))) h ∧ (rd P (sBin .sub 3 true (.int .i64 y7) (.int .i64 7)) h37 = rd P (sBin .sub 3 true (.int .i64 y7) (.int .i64 7)) h ∧ (rd P (sBin .shr 138 true (.int .u32 n17) (.int .u64 3)) h37 = rd P (sBin .shr 138 true (.int .u32 n17) (.int .u64 3)) h ∧ (rd P (Instr.loadAt 138 (.pointer (some d21))) h37 = rd P (Instr.loadAt 138 (.pointer (some d21))) h ∧ (rd P (sBin .sub 3 true (.int .i64 y7) (.int .i64 16)) h37 = rd P (sBin .sub 3 true (.int .i64 y7) (.int .i64 16)) h)))))))))) ∧ (
ixA P 146 (.pointer (some y3)) (.int .i64 y7) h37 fun d39 =>
st h37 d39 (.int .u32 (IntKind.u32.wrap ((IntKind.u32.wrap ((IntKind.u32.wrap (n23 + (bXor .u32 (bXor .u32 n29 n32) (sShr .u32 n17 3)))) + n26)) + (bXor .u32 (bXor .u32 n35 n38) (sShr .u32 n20 10))))) fun h40 =>
∃ m, m < k58 ∧ I58 [m] y0 y0n y0c y2 y3 (IntKind.i64.wrap (y7 + 1)) h40)))))) (
oRd P (Instr.loadAt 146 (.pointer (some y3))) h fun v41 =>
oSt P (Instr.storeAt 146 (.pointer (some y2)) v41) h fun h42 =>
oRd P (Instr.loadAt 146 (.pointer (some y2))) h42 fun v43 =>
K v43 h42)
def V90 (I58 : List Nat → Option Addr → Nat → Nat → Addr → Addr → Int → Hp → Prop) (K : Value → Hp → Prop) (a0 : Option Addr) (a0n a0c : Nat) (h : Hp) : Prop :=
nw h (.cells (Value.cells (zeroOf P 146)) 146) fun r44 h45 =>
nw h45 (.cells (Value.cells (zeroOf P 146)) 146) fun r46 h47 =>
∃ n, I58 [n] a0 a0n a0c ⟨r44, 0, none⟩ ⟨r46, 0, none⟩ 0 h47
noncomputable def C90 : Code := match Tryd.f90.body with | some c => c | none => .skip
def L90 : Nat → Plan := fun q => (selP 8 (.ro 0 (.ro 1 (.ro 2 (.ro 3 (.ro 4 (.ro 5 (.ro 7 (.ro 10 (.ro 11 (.ro 14 (.ro 15 (.ro 16 (.ro 17 (.ro 19 (.ro 21 (.ro 24 (.ro 25 (.ef 6 (.ef 8 (.ro 9 (.ro 12 (.ro 13 (.ro 18 (.ef 20 (.ef 22 (.ro 23 (.ro 26 (.ro 27 (.ro 28 (.ef 29 .nil .nil))))) .nil) .nil))))) .nil) .nil)))))))))))))))))) (selP 7 (.ro 0 (.ro 1 (.ro 2 (.ro 3 (.ro 4 (.ro 5 (.ro 6 (.ro 7 (.ro 8 (.ro 9 .nil)))))))))) (selP 6 (.ro 0 (.ro 1 (.ro 2 (.ro 3 (.ro 4 (.ro 5 (.ro 6 (.ro 7 (.ro 8 (.ro 9 (.ro 10 (.ro 11 (.ro 12 (.ro 13 (.ro 14 (.ro 15 (.ro 16 (.ro 17 (.ro 18 (.ro 19 (.ro 20 (.ro 21 (.ro 22 (.ro 23 (.ro 24 (.ro 25 (.ro 26 (.ro 27 (.ro 28 (.ro 29 (.ro 30 (.ro 31 (.ro 32 (.ro 33 (.ro 34 (.ef 35 .nil .nil)))))))))))))))))))))))))))))))))))) Plan.nil q) q) q)
def T90 : Nat → List Value := fun q => (selT 58 [(.slice none 0 0), .nilIface, .pointer (some ⟨0, 0, none⟩), .pointer (some ⟨0, 0, none⟩), .nilIface, .nilIface, .nilIface, (.int .i64 0), .nilIface, .nilIface, .nilIface, .nilIface, .nilIface, .nilIface, .nilIface, .nilIface, .nilIface, .nilIface, .nilIface, .nilIface, .nilIface, .nilIface, .nilIface, .nilIface, .nilIface, .nilIface, .nilIface, .nilIface, .nilIface, .nilIface, .nilIface, .nilIface, .nilIface, .nilIface, .nilIface, .nilIface, .nilIface, .nilIface, .nilIface, .nilIface, .nilIface, .nilIface, .nilIface, .nilIface, .nilIface, .nilIface, .nilIface, .nilIface, .nilIface, .nilIface, .nilIface, .nilIface, .nilIface, .nilIface, .nilIface, .nilIface, .nilIface, .nilIface, .nilIface, .nilIface, .nilIface, .nilIface, .nilIface, .nilIface, .nilIface, .nilIface, .nilIface, .nilIface, .nilIface, .nilIface, .nilIface, .nilIface, .nilIface, .nilIface, .nilIface, .nilIface, .nilIface, .nilIface, .nilIface, .nilIface, .nilIface, .nilIface, .nilIface, .nilIface, .nilIface, .nilIface] [] q)
def G90 (I58 : List Nat → Option Addr → Nat → Nat → Addr → Addr → Int → Hp → Prop) : Inv := fun q => (selI 58 (fun ns l h => asSl (l.getD 0 undef) fun y0 y0n y0c => asAd (l.getD 2 undef) fun y2 => asAd (l.getD 3 undef) fun y3 => asIn .i64 (l.getD 7 undef) fun y7 => I58 ns y0 y0n y0c y2 y3 y7 h) (fun _ _ _ => False) q)
theorem L90_ok : plansOk P L90 C90 = true := by kernel_rfl
theorem W90 (I58 : List Nat → Option Addr → Nat → Nat → Addr → Addr → Int → Hp → Prop) (K : Value → Hp → Prop) (a0 : Option Addr) (a0n a0c : Nat) (h : Hp) : ((∀ k58 : Nat, (∀ (y0 : Option Addr) (y0n y0c : Nat) (y1 : Value) (y2 : Addr) (y3 : Addr) (y4 : Value) (y5 : Value) (y6 : Value) (y7 : Int) (y8 : Value) (y9 : Value) (y10 : Value) (y11 : Value) (y12 : Value) (y13 : Value) (y14 : Value) (y15 : Value) (y16 : Value) (y17 : Value) (y18 : Value) (y19 : Value) (y20 : Value) (y21 : Value) (y22 : Value) (y23 : Value) (y24 : Value) (y25 : Value) (y26 : Value) (y27 : Value) (y28 : Value) (y29 : Value) (y30 : Value) (y31 : Value) (y32 : Value) (y33 : Value) (y34 : Value) (y35 : Value) (y36 : Value) (y37 : Value) (y38 : Value) (y39 : Value) (y40 : Value) (y41 : Value) (y42 : Value) (y43 : Value) (y44 : Value) (y45 : Value) (y46 : Value) (y47 : Value) (y48 : Value) (y49 : Value) (y50 : Value) (y51 : Value) (y52 : Value) (y53 : Value) (y54 : Value) (y55 : Value) (y56 : Value) (y57 : Value) (y58 : Value) (y59 : Value) (y60 : Value) (y61 : Value) (y62 : Value) (y63 : Value) (y64 : Value) (y65 : Value) (y66 : Value) (y67 : Value) (y68 : Value) (y69 : Value) (y70 : Value) (y71 : Value) (y72 : Value) (y73 : Value) (y74 : Value) (y75 : Value) (y76 : Value) (y77 : Value) (y78 : Value) (y79 : Value) (y80 : Value) (y81 : Value) (y82 : Value) (y83 : Value) (y84 : Value) (y85 : Value) (h : Hp), I58 [k58] y0 y0n y0c y2 y3 y7 h → V90_58 I58 K k58 y0 y0n y0c y2 y3 y7 h)) ∧ V90 I58 K a0 a0n a0c h) =
  allP (obls P L90 (fun q => false) T90 (G90 I58) 1 [] C90 (endQ P Tryd.f90 K) ++ [awp P L90 (fun q => false) T90 (G90 I58) 1 [] C90 (endQ P Tryd.f90 K) (frameL [(.slice a0 a0n a0c)] 86) h]) := by kernel_rfl
theorem S90 (I58 : List Nat → Option Addr → Nat → Nat → Addr → Addr → Int → Hp → Prop) {K : Value → Hp → Prop} {a0 : Option Addr} {a0n a0c : Nat} {h : Hp} (o58 : ∀ (k58 : Nat) (y0 : Option Addr) (y0n y0c : Nat) (y2 : Addr) (y3 : Addr) (y7 : Int) (h : Hp), I58 [k58] y0 y0n y0c y2 y3 y7 h → V90_58 I58 K k58 y0 y0n y0c y2 y3 y7 h) (e : V90 I58 K a0 a0n a0c h) : Spec P 90 #[(.slice a0 a0n a0c)] h K :=
  spec_of_awp (args := [(.slice a0 a0n a0c)]) follows_P Tryd.func90 (by kernel_rfl : Tryd.f90.body = some C90) fits90 L90_ok (Nat.le_of_ble_eq_true (by kernel_rfl)) (Eq.mp (W90 I58 K a0 a0n a0c h) ⟨(fun k58 => (fun y0 y0n y0c _ y2 y3 _ _ _ y7 _ _ _ _ _ _ _ _ _ _ _ _ _ _ _ _ _ _ _ _ _ _ _ _ _ _ _ _ _ _ _ _ _ _ _ _ _ _ _ _ _ _ _ _ _ _ _ _ _ _ _ _ _ _ _ _ _ _ _ _ _ _ _ _ _ _ _ _ _ _ _ _ _ _ _ _ _ _ h hi => o58 k58 y0 y0n y0c y2 y3 y7 h hi)), e⟩)

theorem fits91 : Fits P 91 := fits_of Tryd.func91 (by kernel_rfl) (by kernel_rfl)
/- 91 bulla/sha.right
-/
def V91 (K : Value → Hp → Prop) (a0 : Int) (a1 : Int) (h : Hp) : Prop :=
Spec P 92 #[(.int .u32 a0), (.int .i64 (IntKind.i64.wrap (0 - a1)))] h fun v1 h2 =>
asIn .u32 v1 fun n3 =>
K (.int .u32 n3) h2
noncomputable def C91 : Code := match Tryd.f91.body with | some c => c | none => .skip
def L91 : Nat → Plan := fun q => Plan.nil
theorem L91_ok : plansOk P L91 C91 = true := by kernel_rfl
theorem W91 (K : Value → Hp → Prop) (a0 : Int) (a1 : Int) (h : Hp) : (V91 K a0 a1 h) =
  allP (obls P L91 (fun q => false) (fun _ => []) (fun _ _ _ _ => False) 1 [] C91 (endQ P Tryd.f91 K) ++ [awp P L91 (fun q => false) (fun _ => []) (fun _ _ _ _ => False) 1 [] C91 (endQ P Tryd.f91 K) (frameL [(.int .u32 a0), (.int .i64 a1)] 9) h]) := by kernel_rfl
theorem S91 {K : Value → Hp → Prop} {a0 : Int} {a1 : Int} {h : Hp} (e : V91 K a0 a1 h) : Spec P 91 #[(.int .u32 a0), (.int .i64 a1)] h K :=
  spec_of_awp (args := [(.int .u32 a0), (.int .i64 a1)]) follows_P Tryd.func91 (by kernel_rfl : Tryd.f91.body = some C91) fits91 L91_ok (Nat.le_of_ble_eq_true (by kernel_rfl)) (Eq.mp (W91 K a0 a1 h) e)

theorem fits92 : Fits P 92 := fits_of Tryd.func92 (by kernel_rfl) (by kernel_rfl)
/- 92 math/bits.RotateLeft32
-/
def V92 (K : Value → Hp → Prop) (a0 : Int) (a1 : Int) (h : Hp) : Prop :=
oRd P (sBin .shl 138 false (.int .u32 a0) (.int .u64 (bAnd .u64 (IntKind.u64.wrap a1) 31))) h fun v1 =>
asIn .u32 v1 fun n2 =>
oRd P (sBin .shr 138 false (.int .u32 a0) (.int .u64 (IntKind.u64.wrap (32 - (bAnd .u64 (IntKind.u64.wrap a1) 31))))) h fun v3 =>
asIn .u32 v3 fun n4 =>
K (.int .u32 (bOr .u32 n2 n4)) h
noncomputable def C92 : Code := match Tryd.f92.body with | some c => c | none => .skip
def L92 : Nat → Plan := fun q => Plan.nil
theorem L92_ok : plansOk P L92 C92 = true := by kernel_rfl
theorem W92 (K : Value → Hp → Prop) (a0 : Int) (a1 : Int) (h : Hp) : (V92 K a0 a1 h) =
  allP (obls P L92 (fun q => false) (fun _ => []) (fun _ _ _ _ => False) 1 [] C92 (endQ P Tryd.f92 K) ++ [awp P L92 (fun q => false) (fun _ => []) (fun _ _ _ _ => False) 1 [] C92 (endQ P Tryd.f92 K) (frameL [(.int .u32 a0), (.int .i64 a1)] 17) h]) := by kernel_rfl
theorem S92 {K : Value → Hp → Prop} {a0 : Int} {a1 : Int} {h : Hp} (e : V92 K a0 a1 h) : Spec P 92 #[(.int .u32 a0), (.int .i64 a1)] h K :=
  spec_of_awp (args := [(.int .u32 a0), (.int .i64 a1)]) follows_P Tryd.func92 (by kernel_rfl : Tryd.f92.body = some C92) fits92 L92_ok (Nat.le_of_ble_eq_true (by kernel_rfl)) (Eq.mp (W92 K a0 a1 h) e)

end Go.Proofs.YtcolhmddhaabnaaDoor
