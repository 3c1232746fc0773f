import Derived.Test.YtcolhmddhaabnaaDoorHbase
set_option maxRecDepth 1000000
set_option maxHeartbeats 4000000
set_option linter.unusedVariables false
namespace Go.Proofs.YtcolhmddhaabnaaDoor
open Go.H

theorem fits5 : Fits P 5 := fits_of Tryd.func5 (by kernel_rfl) (by kernel_rfl)
/- 5 bulla/bullalaw18.WalPower
  path 8186: loop 5: 7: 9: 10: 11: 12: 13: 48: 49: 50:
-/
def V5_s16383 (I8186 : List Nat → Addr → Option Addr → Option Addr → ByteArray → Option Addr → Nat → Nat → ByteArray → Option Addr → Nat → Nat → Option Addr → Nat → Nat → Int → Int → Hp → Prop) (K : Value → Hp → Prop) (y9 : Option Addr) (y12 : ByteArray) (y13 : Option Addr) (y13n y13c : Nat) (y17 : Bool) (h : Hp) : Prop :=
Spec P 23 #[(.pointer y9)] h fun v91 h92 =>
asSl v91 fun a93 l94 c95 =>
oRd P (convert 24 9 (.slice a93 l94 c95)) h92 fun v96 =>
asStr v96 fun s97 =>
bIf (strEq s97 y12) (
Spec P 25 #[(.pointer y9)] h92 fun v98 h99 =>
asSl v98 fun a100 l101 c102 =>
Spec P 24 #[(.slice a100 l101 c102), (.slice y13 y13n y13c)] h99 fun v103 h104 =>
asBo v103 fun b105 =>
bIf y17 (
K (.bool true) h104) (
K (.bool b105) h104)) (
bIf y17 (
K (.bool true) h92) (
K (.bool false) h92))
def V5_s2095719 (I8186 : List Nat → Addr → Option Addr → Option Addr → ByteArray → Option Addr → Nat → Nat → ByteArray → Option Addr → Nat → Nat → Option Addr → Nat → Nat → Int → Int → Hp → Prop) (K : Value → Hp → Prop) (k8186 : Nat) (y5 : Addr) (y7 : Option Addr) (y9 : Option Addr) (y10 : ByteArray) (y11 : Option Addr) (y11n y11c : Nat) (y12 : ByteArray) (y13 : Option Addr) (y13n y13c : Nat) (y16 : Value) (y48 : Option Addr) (y48n y48c : Nat) (y49 : Int) (y50 : Int) (h : Hp) : Prop :=
Spec P 27 #[y16] h fun v53 h54 =>
asIn .i64 v53 fun n55 =>
bIf (n55 == 26) (
∃ m, m < k8186 ∧ I8186 [m] y5 y7 y9 y10 y11 y11n y11c y10 y11 y11n y11c y48 y48n y48c y49 (IntKind.i64.wrap (y50 + 1)) h54) (
nlW P 31 true y16 fun v56 =>
asBo v56 fun b57 =>
bIf b57 (
ld h54 ⟨y5.block, y5.off + 1, none⟩ fun v58 =>
asIn .i64 v58 fun n59 =>
ld h54 ⟨y5.block, y5.off + 3, none⟩ fun v60 =>
asIn .u64 v60 fun n61 =>
ld h54 ⟨y5.block, y5.off + 2, none⟩ fun v62 =>
asIn .i64 v62 fun n63 =>
Spec P 14 #[(.pointer y7), (.int .i64 n59), (.int .u64 n61), (.int .i64 n63)] h54 fun v64 h65 =>
Spec P 19 #[(.pointer y7)] h65 fun v66 h67 =>
asTu v66 fun q68 =>
unc q68 fun v69 q70 =>
asPt v69 fun p71 =>
unc q70 fun v72 q73 =>
nilL q73 <|
nlW P 31 true v72 fun v74 =>
asBo v74 fun b75 =>
bIf b75 (
K (.bool false) h67) (
Spec P 23 #[(.pointer p71)] h67 fun v76 h77 =>
asSl v76 fun a78 l79 c80 =>
oRd P (convert 24 9 (.slice a78 l79 c80)) h77 fun v81 =>
asStr v81 fun s82 =>
bIf (strEq s82 y10) (
Spec P 25 #[(.pointer p71)] h77 fun v83 h84 =>
asSl v83 fun a85 l86 c87 =>
Spec P 24 #[(.slice a85 l86 c87), (.slice y11 y11n y11c)] h84 fun v88 h89 =>
asBo v88 fun b90 =>
V5_s16383 I8186 K p71 y12 y13 y13n y13c b90 h89) (
V5_s16383 I8186 K p71 y12 y13 y13n y13c false h77))) (
∃ m, m < k8186 ∧ I8186 [m] y5 y7 y9 y12 y13 y13n y13c y12 y13 y13n y13c y48 y48n y48c y49 (IntKind.i64.wrap (y50 + 1)) h54))
def V5_8186 (I8186 : List Nat → Addr → Option Addr → Option Addr → ByteArray → Option Addr → Nat → Nat → ByteArray → Option Addr → Nat → Nat → Option Addr → Nat → Nat → Int → Int → Hp → Prop) (K : Value → Hp → Prop) (k8186 : Nat) (y5 : Addr) (y7 : Option Addr) (y9 : Option Addr) (y10 : ByteArray) (y11 : Option Addr) (y11n y11c : Nat) (y12 : ByteArray) (y13 : Option Addr) (y13n y13c : Nat) (y48 : Option Addr) (y48n y48c : Nat) (y49 : Int) (y50 : Int) (h : Hp) : Prop :=
bIf (decide ((y50 : Int) < y49)) (
ixA P 45 (.slice y48 y48n y48c) (.int .i64 y50) h fun d1 =>
ld h d1 fun v2 =>
asIn .i64 v2 fun n3 =>
ld h ⟨d1.block, d1.off + 1, none⟩ fun v4 =>
asIn .i64 v4 fun n5 =>
ld h ⟨d1.block, d1.off + 2, none⟩ fun v6 =>
asIn .i64 v6 fun n7 =>
ld h ⟨d1.block, d1.off + 3, none⟩ fun v8 =>
asIn .u64 v8 fun n9 =>
ld h ⟨d1.block, d1.off + 4, none⟩ fun v10 =>
asSl v10 fun a11 l12 c13 =>
nw h (.cells #[(.int .i64 0), (.int .i64 0), (.int .i64 0), (.int .u64 0), (.slice none 0 0)] 51) fun r14 h15 =>
st h15 ⟨r14, 0, none⟩ (.int .i64 n3) fun h16 =>
st h16 ⟨r14, 1, none⟩ (.int .i64 n5) fun h17 =>
st h17 ⟨r14, 2, none⟩ (.int .i64 n7) fun h18 =>
st h18 ⟨r14, 3, none⟩ (.int .u64 n9) fun h19 =>
st h19 ⟨r14, 4, none⟩ (.slice a11 l12 c13) fun h20 =>
ld h20 ⟨r14, 4, none⟩ fun v21 =>
asSl v21 fun a22 l23 c24 =>
(nw h20 (.cells #[] 24) fun r25 h26 =>
(rd P (Instr.loadAt 24 (.pointer (some ⟨r14, 4, none⟩))) h26 = rd P (Instr.loadAt 24 (.pointer (some ⟨r14, 4, none⟩))) h20) ∧ (
(oNx P (builtin .append #[44, 44] 44 #[false, false] #[(.slice (some ⟨r25, 0, none⟩) 0 0), (.slice y11 y11n y11c)]) h26 fun v27 h28 =>
asSl v27 fun a29 l30 c31 =>
(rd P (Instr.loadAt 24 (.pointer (some ⟨r14, 4, none⟩))) h28 = rd P (Instr.loadAt 24 (.pointer (some ⟨r14, 4, none⟩))) h20) ∧ (
nw h28 (.cells #[(.slice a22 l23 c24)] 24) fun r32 h33 =>
oNx P (builtin .append #[44, 44] 44 #[false, false] #[(.slice a29 l30 c31), (.slice (some ⟨r32, 0, none⟩) 1 1)]) h33 fun v34 h35 =>
asSl v34 fun a36 l37 c38 =>
ld h35 ⟨r14, 0, none⟩ fun v39 =>
asIn .i64 v39 fun n40 =>
bIf (n40 == 1) (
ld h35 ⟨r14, 4, none⟩ fun v41 =>
asSl v41 fun a42 l43 c44 =>
oRd P (convert 24 9 (.slice a42 l43 c44)) h35 fun v45 =>
asStr v45 fun s46 =>
ld h35 ⟨r14, 4, none⟩ fun v47 =>
asSl v47 fun a48 l49 c50 =>
Spec P 20 #[(.pointer y9), (.slice a48 l49 c50)] h35 fun v51 h52 =>
V5_s2095719 I8186 K k8186 y5 y7 y9 y10 y11 y11n y11c s46 none 0 0 v51 y48 y48n y48c y49 y50 h52) (
ld h35 ⟨r14, 4, none⟩ fun v106 =>
asSl v106 fun a107 l108 c109 =>
Spec P 21 #[(.pointer y9), (.slice a107 l108 c109)] h35 fun v110 h111 =>
V5_s2095719 I8186 K k8186 y5 y7 y9 y10 y11 y11n y11c y10 a36 l37 c38 v110 y48 y48n y48c y49 y50 h111))) ∧
(nw h26 (.cells #[(.slice a22 l23 c24)] 24) fun r112 h113 =>
oNx P (builtin .append #[44, 44] 44 #[false, false] #[(.slice (some ⟨r25, 0, none⟩) 0 0), (.slice y11 y11n y11c)]) h113 fun v114 h115 =>
asSl v114 fun a116 l117 c118 =>
oNx P (builtin .append #[44, 44] 44 #[false, false] #[(.slice a116 l117 c118), (.slice (some ⟨r112, 0, none⟩) 1 1)]) h115 fun v119 h120 =>
asSl v119 fun a121 l122 c123 =>
ld h120 ⟨r14, 0, none⟩ fun v124 =>
asIn .i64 v124 fun n125 =>
bIf (n125 == 1) (
ld h120 ⟨r14, 4, none⟩ fun v126 =>
asSl v126 fun a127 l128 c129 =>
oRd P (convert 24 9 (.slice a127 l128 c129)) h120 fun v130 =>
asStr v130 fun s131 =>
ld h120 ⟨r14, 4, none⟩ fun v132 =>
asSl v132 fun a133 l134 c135 =>
Spec P 20 #[(.pointer y9), (.slice a133 l134 c135)] h120 fun v136 h137 =>
V5_s2095719 I8186 K k8186 y5 y7 y9 y10 y11 y11n y11c s131 none 0 0 v136 y48 y48n y48c y49 y50 h137) (
ld h120 ⟨r14, 4, none⟩ fun v138 =>
asSl v138 fun a139 l140 c141 =>
Spec P 21 #[(.pointer y9), (.slice a139 l140 c141)] h120 fun v142 h143 =>
V5_s2095719 I8186 K k8186 y5 y7 y9 y10 y11 y11n y11c y10 a121 l122 c123 v142 y48 y48n y48c y49 y50 h143)))) ∧
(nw h20 (.cells #[(.slice a22 l23 c24)] 24) fun r144 h145 =>
nw h145 (.cells #[] 24) fun r146 h147 =>
oNx P (builtin .append #[44, 44] 44 #[false, false] #[(.slice (some ⟨r146, 0, none⟩) 0 0), (.slice y11 y11n y11c)]) h147 fun v148 h149 =>
asSl v148 fun a150 l151 c152 =>
oNx P (builtin .append #[44, 44] 44 #[false, false] #[(.slice a150 l151 c152), (.slice (some ⟨r144, 0, none⟩) 1 1)]) h149 fun v153 h154 =>
asSl v153 fun a155 l156 c157 =>
ld h154 ⟨r14, 0, none⟩ fun v158 =>
asIn .i64 v158 fun n159 =>
bIf (n159 == 1) (
ld h154 ⟨r14, 4, none⟩ fun v160 =>
asSl v160 fun a161 l162 c163 =>
oRd P (convert 24 9 (.slice a161 l162 c163)) h154 fun v164 =>
asStr v164 fun s165 =>
ld h154 ⟨r14, 4, none⟩ fun v166 =>
asSl v166 fun a167 l168 c169 =>
Spec P 20 #[(.pointer y9), (.slice a167 l168 c169)] h154 fun v170 h171 =>
V5_s2095719 I8186 K k8186 y5 y7 y9 y10 y11 y11n y11c s165 none 0 0 v170 y48 y48n y48c y49 y50 h171) (
ld h154 ⟨r14, 4, none⟩ fun v172 =>
asSl v172 fun a173 l174 c175 =>
Spec P 21 #[(.pointer y9), (.slice a173 l174 c175)] h154 fun v176 h177 =>
V5_s2095719 I8186 K k8186 y5 y7 y9 y10 y11 y11n y11c y10 a155 l156 c157 v176 y48 y48n y48c y49 y50 h177))) (
ld h ⟨y5.block, y5.off + 1, none⟩ fun v178 =>
asIn .i64 v178 fun n179 =>
ld h ⟨y5.block, y5.off + 3, none⟩ fun v180 =>
asIn .u64 v180 fun n181 =>
ld h ⟨y5.block, y5.off + 2, none⟩ fun v182 =>
asIn .i64 v182 fun n183 =>
Spec P 14 #[(.pointer y7), (.int .i64 n179), (.int .u64 n181), (.int .i64 n183)] h fun v184 h185 =>
Spec P 19 #[(.pointer y7)] h185 fun v186 h187 =>
asTu v186 fun q188 =>
unc q188 fun v189 q190 =>
asPt v189 fun p191 =>
unc q190 fun v192 q193 =>
nilL q193 <|
nlW P 31 true v192 fun v194 =>
asBo v194 fun b195 =>
bIf b195 (
K (.bool false) h187) (
Spec P 23 #[(.pointer p191)] h187 fun v196 h197 =>
asSl v196 fun a198 l199 c200 =>
oRd P (convert 24 9 (.slice a198 l199 c200)) h197 fun v201 =>
asStr v201 fun s202 =>
bIf (strEq s202 y10) (
Spec P 25 #[(.pointer p191)] h197 fun v203 h204 =>
asSl v203 fun a205 l206 c207 =>
Spec P 24 #[(.slice a205 l206 c207), (.slice y11 y11n y11c)] h204 fun v208 h209 =>
asBo v208 fun b210 =>
V5_s16383 I8186 K p191 y12 y13 y13n y13c b210 h209) (
V5_s16383 I8186 K p191 y12 y13 y13n y13c false h197)))
def V5_s127 (I8186 : List Nat → Addr → Option Addr → Option Addr → ByteArray → Option Addr → Nat → Nat → ByteArray → Option Addr → Nat → Nat → Option Addr → Nat → Nat → Int → Int → Hp → Prop) (K : Value → Hp → Prop) (y0 : Option Addr) (y0n y0c : Nat) (y5 : Addr) (y7 : Option Addr) (y9 : Option Addr) (h : Hp) : Prop :=
nw h (.cells #[] 24) fun r239 h240 =>
∃ n, I8186 [n] y5 y7 y9 { data := #[] } (some ⟨r239, 0, none⟩) 0 0 { data := #[] } (some ⟨r239, 0, none⟩) 0 0 y0 y0n y0c ((y0n : Nat) : Int) 0 h240
def V5_s254 (I8186 : List Nat → Addr → Option Addr → Option Addr → ByteArray → Option Addr → Nat → Nat → ByteArray → Option Addr → Nat → Nat → Option Addr → Nat → Nat → Int → Int → Hp → Prop) (K : Value → Hp → Prop) (y0 : Option Addr) (y0n y0c : Nat) (y5 : Addr) (y7 : Option Addr) (y9 : Option Addr) (y44 : Bool) (h : Hp) : Prop :=
bIf y44 (
K (.bool false) h) (
V5_s127 I8186 K y0 y0n y0c y5 y7 y9 h)
def V5 (I8186 : List Nat → Addr → Option Addr → Option Addr → ByteArray → Option Addr → Nat → Nat → ByteArray → Option Addr → Nat → Nat → Option Addr → Nat → Nat → Int → Int → Hp → Prop) (K : Value → Hp → Prop) (a0 : Option Addr) (a0n a0c : Nat) (a1 : Int) (a2_0 : Int) (a2_1 : Int) (a2_2 : Int) (a2_3 : Int) (a2_4 : Option Addr) (a2_4n a2_4c : Nat) (h : Hp) : Prop :=
nw h (.cells #[(.int .i64 a2_0), (.int .i64 a2_1), (.int .i64 a2_2), (.int .u64 a2_3), (.slice a2_4 a2_4n a2_4c)] 51) fun r211 h212 =>
Spec P 17 #[] h212 fun v213 h214 =>
asBo v213 fun b215 =>
bIf (!b215) (
K (.bool false) h214) (
Spec P 18 #[(.slice a0 a0n a0c)] h214 fun v216 h217 =>
asBo v216 fun b218 =>
bIf b218 (
K (.bool true) h217) (
Spec P 9 #[(.int .i64 3000)] h217 fun v219 h220 =>
asTu v219 fun q221 =>
unc q221 fun v222 q223 =>
asPt v222 fun p224 =>
unc q223 fun v225 q226 =>
nilL q226 <|
nlW P 31 true v225 fun v227 =>
asBo v227 fun b228 =>
bIf b228 (
K (.bool false) h220) (
Spec P 19 #[(.pointer p224)] h220 fun v229 h230 =>
asTu v229 fun q231 =>
unc q231 fun v232 q233 =>
asPt v232 fun p234 =>
unc q233 fun v235 q236 =>
nilL q236 <|
nlW P 31 true v235 fun v237 =>
asBo v237 fun b238 =>
bIf b238 (
V5_s254 I8186 K a0 a0n a0c ⟨r211, 0, none⟩ p224 p234 true h230) (
Spec P 26 #[(.pointer p224), (.int .i64 (IntKind.i64.wrap (Int.tmod (IntKind.u64.wrap a1) 200)))] h230 fun v241 h242 =>
nlW P 31 true v241 fun v243 =>
asBo v243 fun b244 =>
V5_s254 I8186 K a0 a0n a0c ⟨r211, 0, none⟩ p224 p234 b244 h242))))
noncomputable def C5 : Code := match Tryd.f5.body with | some c => c | none => .skip
def L5 : Nat → Plan := fun q => (selP 16 (.ro 0 (.ro 2 (.ro 4 (.ro 5 (.ef 1 (.ef 3 (.ef 6 (.ef 7 (.ro 8 (.ro 9 .nil)) .nil) .nil) (.ef 6 (.ef 3 (.ef 7 (.ro 8 (.ro 9 .nil)) .nil) .nil) .nil)) (.ef 6 (.ef 1 (.ef 3 (.ef 7 (.ro 8 (.ro 9 .nil)) .nil) .nil) .nil) .nil)))))) Plan.nil q)
def T5 : Nat → List Value := fun q => (selT 8186 [.nilIface, .nilIface, .nilIface, .nilIface, .nilIface, .pointer (some ⟨0, 0, none⟩), .nilIface, (.pointer none), .nilIface, (.pointer none), (.string ByteArray.empty), (.slice none 0 0), (.string ByteArray.empty), (.slice none 0 0), .nilIface, .nilIface, .nilIface, .nilIface, .nilIface, .nilIface, .nilIface, .nilIface, .nilIface, .nilIface, .nilIface, .nilIface, .nilIface, .nilIface, .nilIface, .nilIface, .nilIface, .nilIface, .nilIface, .nilIface, .nilIface, .nilIface, .nilIface, .nilIface, .nilIface, .nilIface, .nilIface, .nilIface, .nilIface, .nilIface, .nilIface, .nilIface, .nilIface, .nilIface, (.slice none 0 0), (.int .i64 0), (.int .i64 0), .nilIface, .nilIface, .nilIface, .nilIface, .nilIface, .nilIface, .nilIface, .nilIface, .nilIface, .nilIface, .nilIface, .nilIface, .nilIface, .nilIface, .nilIface, .nilIface, .nilIface, .nilIface, .nilIface, .nilIface, .nilIface, .nilIface, .nilIface, .nilIface, .nilIface, .nilIface, .nilIface, .nilIface, .nilIface, .nilIface, .nilIface, .nilIface, .nilIface, .nilIface, .nilIface, .nilIface, .nilIface, .nilIface, .nilIface, .nilIface, .nilIface, .nilIface, .nilIface, .nilIface, .nilIface, .nilIface, .nilIface, .nilIface, .nilIface, .nilIface, .nilIface, .nilIface, .nilIface, .nilIface, .nilIface, .nilIface, .nilIface, .nilIface, .nilIface, .nilIface, .nilIface, .nilIface, .nilIface, .nilIface, .nilIface, .nilIface, .nilIface, .nilIface, .nilIface, .nilIface, .nilIface, .nilIface, .nilIface, .nilIface, .nilIface, .nilIface] [] q)
def G5 (I8186 : List Nat → Addr → Option Addr → Option Addr → ByteArray → Option Addr → Nat → Nat → ByteArray → Option Addr → Nat → Nat → Option Addr → Nat → Nat → Int → Int → Hp → Prop) : Inv := fun q => (selI 8186 (fun ns l h => asAd (l.getD 5 undef) fun y5 => asPt (l.getD 7 undef) fun y7 => asPt (l.getD 9 undef) fun y9 => asStr (l.getD 10 undef) fun y10 => asSl (l.getD 11 undef) fun y11 y11n y11c => asStr (l.getD 12 undef) fun y12 => asSl (l.getD 13 undef) fun y13 y13n y13c => asSl (l.getD 48 undef) fun y48 y48n y48c => asIn .i64 (l.getD 49 undef) fun y49 => asIn .i64 (l.getD 50 undef) fun y50 => I8186 ns y5 y7 y9 y10 y11 y11n y11c y12 y13 y13n y13c y48 y48n y48c y49 y50 h) (fun _ _ _ => False) q)
theorem L5_ok : plansOk P L5 C5 = true := by kernel_rfl
theorem W5 (I8186 : List Nat → Addr → Option Addr → Option Addr → ByteArray → Option Addr → Nat → Nat → ByteArray → Option Addr → Nat → Nat → Option Addr → Nat → Nat → Int → Int → Hp → Prop) (K : Value → Hp → Prop) (a0 : Option Addr) (a0n a0c : Nat) (a1 : Int) (a2_0 : Int) (a2_1 : Int) (a2_2 : Int) (a2_3 : Int) (a2_4 : Option Addr) (a2_4n a2_4c : Nat) (h : Hp) : ((∀ k8186 : Nat, (∀ (y0 : Value) (y1 : Value) (y2 : Value) (y3 : Value) (y4 : Value) (y5 : Addr) (y6 : Value) (y7 : Option Addr) (y8 : Value) (y9 : Option Addr) (y10 : ByteArray) (y11 : Option Addr) (y11n y11c : Nat) (y12 : ByteArray) (y13 : Option Addr) (y13n y13c : Nat) (y14 : Value) (y15 : Value) (y16 : Value) (y17 : Value) (y18 : Value) (y19 : Value) (y20 : Value) (y21 : Value) (y22 : Value) (y23 : Value) (y24 : Value) (y25 : Value) (y26 : Value) (y27 : Value) (y28 : Value) (y29 : Value) (y30 : Value) (y31 : Value) (y32 : Value) (y33 : Value) (y34 : Value) (y35 : Value) (y36 : Value) (y37 : Value) (y38 : Value) (y39 : Value) (y40 : Value) (y41 : Value) (y42 : Value) (y43 : Value) (y44 : Value) (y45 : Value) (y46 : Value) (y47 : Value) (y48 : Option Addr) (y48n y48c : Nat) (y49 : Int) (y50 : Int) (y51 : Value) (y52 : Value) (y53 : Value) (y54 : Value) (y55 : Value) (y56 : Value) (y57 : Value) (y58 : Value) (y59 : Value) (y60 : Value) (y61 : Value) (y62 : Value) (y63 : Value) (y64 : Value) (y65 : Value) (y66 : Value) (y67 : Value) (y68 : Value) (y69 : Value) (y70 : Value) (y71 : Value) (y72 : Value) (y73 : Value) (y74 : Value) (y75 : Value) (y76 : Value) (y77 : Value) (y78 : Value) (y79 : Value) (y80 : Value) (y81 : Value) (y82 : Value) (y83 : Value) (y84 : Value) (y85 : Value) (y86 : Value) (y87 : Value) (y88 : Value) (y89 : Value) (y90 : Value) (y91 : Value) (y92 : Value) (y93 : Value) (y94 : Value) (y95 : Value) (y96 : Value) (y97 : Value) (y98 : Value) (y99 : Value) (y100 : Value) (y101 : Value) (y102 : Value) (y103 : Value) (y104 : Value) (y105 : Value) (y106 : Value) (y107 : Value) (y108 : Value) (y109 : Value) (y110 : Value) (y111 : Value) (y112 : Value) (y113 : Value) (y114 : Value) (y115 : Value) (y116 : Value) (y117 : Value) (y118 : Value) (y119 : Value) (y120 : Value) (y121 : Value) (y122 : Value) (y123 : Value) (y124 : Value) (y125 : Value) (y126 : Value) (h : Hp), I8186 [k8186] y5 y7 y9 y10 y11 y11n y11c y12 y13 y13n y13c y48 y48n y48c y49 y50 h → V5_8186 I8186 K k8186 y5 y7 y9 y10 y11 y11n y11c y12 y13 y13n y13c y48 y48n y48c y49 y50 h)) ∧ V5 I8186 K a0 a0n a0c a1 a2_0 a2_1 a2_2 a2_3 a2_4 a2_4n a2_4c h) =
  allP (obls P L5 (fun q => false) T5 (G5 I8186) 1 [] C5 (endQ P Tryd.f5 K) ++ [awp P L5 (fun q => false) T5 (G5 I8186) 1 [] C5 (endQ P Tryd.f5 K) (frameL [(.slice a0 a0n a0c), (.int .i64 a1), (.agg #[(.int .i64 a2_0), (.int .i64 a2_1), (.int .i64 a2_2), (.int .u64 a2_3), (.slice a2_4 a2_4n a2_4c)])] 127) h]) := by kernel_rfl
theorem S5 (I8186 : List Nat → Addr → Option Addr → Option Addr → ByteArray → Option Addr → Nat → Nat → ByteArray → Option Addr → Nat → Nat → Option Addr → Nat → Nat → Int → Int → Hp → Prop) {K : Value → Hp → Prop} {a0 : Option Addr} {a0n a0c : Nat} {a1 : Int} {a2_0 : Int} {a2_1 : Int} {a2_2 : Int} {a2_3 : Int} {a2_4 : Option Addr} {a2_4n a2_4c : Nat} {h : Hp} (o8186 : ∀ (k8186 : Nat) (y5 : Addr) (y7 : Option Addr) (y9 : Option Addr) (y10 : ByteArray) (y11 : Option Addr) (y11n y11c : Nat) (y12 : ByteArray) (y13 : Option Addr) (y13n y13c : Nat) (y48 : Option Addr) (y48n y48c : Nat) (y49 : Int) (y50 : Int) (h : Hp), I8186 [k8186] y5 y7 y9 y10 y11 y11n y11c y12 y13 y13n y13c y48 y48n y48c y49 y50 h → V5_8186 I8186 K k8186 y5 y7 y9 y10 y11 y11n y11c y12 y13 y13n y13c y48 y48n y48c y49 y50 h) (e : V5 I8186 K a0 a0n a0c a1 a2_0 a2_1 a2_2 a2_3 a2_4 a2_4n a2_4c h) : Spec P 5 #[(.slice a0 a0n a0c), (.int .i64 a1), (.agg #[(.int .i64 a2_0), (.int .i64 a2_1), (.int .i64 a2_2), (.int .u64 a2_3), (.slice a2_4 a2_4n a2_4c)])] h K :=
  spec_of_awp (args := [(.slice a0 a0n a0c), (.int .i64 a1), (.agg #[(.int .i64 a2_0), (.int .i64 a2_1), (.int .i64 a2_2), (.int .u64 a2_3), (.slice a2_4 a2_4n a2_4c)])]) follows_P Tryd.func5 (by kernel_rfl : Tryd.f5.body = some C5) fits5 L5_ok (Nat.le_of_ble_eq_true (by kernel_rfl)) (Eq.mp (W5 I8186 K a0 a0n a0c a1 a2_0 a2_1 a2_2 a2_3 a2_4 a2_4n a2_4c h) ⟨(fun k8186 => (fun _ _ _ _ _ y5 _ y7 _ y9 y10 y11 y11n y11c y12 y13 y13n y13c _ _ _ _ _ _ _ _ _ _ _ _ _ _ _ _ _ _ _ _ _ _ _ _ _ _ _ _ _ _ _ _ _ _ y48 y48n y48c y49 y50 _ _ _ _ _ _ _ _ _ _ _ _ _ _ _ _ _ _ _ _ _ _ _ _ _ _ _ _ _ _ _ _ _ _ _ _ _ _ _ _ _ _ _ _ _ _ _ _ _ _ _ _ _ _ _ _ _ _ _ _ _ _ _ _ _ _ _ _ _ _ _ _ _ _ _ _ h hi => o8186 k8186 y5 y7 y9 y10 y11 y11n y11c y12 y13 y13n y13c y48 y48n y48c y49 y50 h hi)), e⟩)

end Go.Proofs.YtcolhmddhaabnaaDoor
