import Derived.Test.YtcolhmddhaabnaaDoorHbase
set_option maxRecDepth 1000000
set_option maxHeartbeats 4000000
set_option linter.unusedVariables false
namespace Go.Proofs.YtcolhmddhaabnaaDoor
open Go.H

theorem fits3 : Fits P 3 := fits_of Tryd.func3 (by kernel_rfl) (by kernel_rfl)
/- 3 bulla/bullalaw17.DiskKeeps
  path 1018: loop 5: 6: 7: 8: 37: 38: 39:
  path 8186: loop 5: 6: 7: 8: 12: 65:
  path 32762: loop 5: 6: 7: 8: 12: 86:
-/
def V3_1018 (I1018 : List Nat → Int → Int → Int → Option Addr → Option Addr → Nat → Nat → Int → Int → Hp → Prop) (I8186 : List Nat → Int → Int → Int → Option Addr → Addr → Int → Hp → Prop) (I32762 : List Nat → Int → Int → Int → Option Addr → Addr → Int → Hp → Prop) (K : Value → Hp → Prop) (n1018 : Nat) (y5 : Int) (y6 : Int) (y7 : Int) (y8 : Option Addr) (y37 : Option Addr) (y37n y37c : Nat) (y38 : Int) (y39 : Int) (h : Hp) : Prop :=
bIf (decide ((y39 : Int) < y38)) (
ixA P 22 (.slice y37 y37n y37c) (.int .i64 y39) h fun d1 =>
ld h d1 fun v2 =>
asIn .i64 v2 fun n3 =>
ld h ⟨d1.block, d1.off + 1, none⟩ fun v4 =>
asIn .i64 v4 fun n5 =>
ld h ⟨d1.block, d1.off + 2, none⟩ fun v6 =>
asIn .i64 v6 fun n7 =>
ld h ⟨d1.block, d1.off + 3, none⟩ fun v8 =>
asIn .i64 v8 fun n9 =>
ld h ⟨d1.block, d1.off + 4, none⟩ fun v10 =>
asIn .u64 v10 fun n11 =>
ld h ⟨d1.block, d1.off + 5, none⟩ fun v12 =>
asSl v12 fun a13 l14 c15 =>
nw h (.cells #[(.int .i64 0), (.int .i64 0), (.int .i64 0), (.int .i64 0), (.int .u64 0), (.slice none 0 0)] 26) fun r16 h17 =>
st h17 ⟨r16, 0, none⟩ (.int .i64 n3) fun h18 =>
st h18 ⟨r16, 1, none⟩ (.int .i64 n5) fun h19 =>
st h19 ⟨r16, 2, none⟩ (.int .i64 n7) fun h20 =>
st h20 ⟨r16, 3, none⟩ (.int .i64 n9) fun h21 =>
st h21 ⟨r16, 4, none⟩ (.int .u64 n11) fun h22 =>
st h22 ⟨r16, 5, none⟩ (.slice a13 l14 c15) fun h23 =>
ld h23 ⟨r16, 0, none⟩ fun v24 =>
asIn .i64 v24 fun n25 =>
bIf (n25 == 1) (
ld h23 ⟨r16, 1, none⟩ fun v26 =>
asIn .i64 v26 fun n27 =>
ld h23 ⟨r16, 2, none⟩ fun v28 =>
asIn .i64 v28 fun n29 =>
Spec P 10 #[(.pointer y8), (.int .i64 n27), (.int .i64 n29)] h23 fun v30 h31 =>
∃ m, m < n1018 ∧ I1018 [m] y5 y6 y7 y8 y37 y37n y37c y38 (IntKind.i64.wrap (y39 + 1)) h31) (
ld h23 ⟨r16, 1, none⟩ fun v32 =>
asIn .i64 v32 fun n33 =>
ld h23 ⟨r16, 2, none⟩ fun v34 =>
asIn .i64 v34 fun n35 =>
ld h23 ⟨r16, 5, none⟩ fun v36 =>
asSl v36 fun a37 l38 c39 =>
Spec P 11 #[(.pointer y8), (.int .i64 n33), (.int .i64 n35), (.slice a37 l38 c39)] h23 fun v40 h41 =>
∃ m, m < n1018 ∧ I1018 [m] y5 y6 y7 y8 y37 y37n y37c y38 (IntKind.i64.wrap (y39 + 1)) h41)) (
Spec P 12 #[(.pointer y8)] h fun v42 h43 =>
nlW P 31 true v42 fun v44 =>
asBo v44 fun b45 =>
bIf b45 (
K (.bool false) h43) (
oRd P (Instr.build 37 #[]) h43 fun v46 =>
asAg v46 fun q47 =>
unc q47 fun v48 q49 =>
asStr v48 fun s50 =>
unc q49 fun v51 q52 =>
asStr v51 fun s53 =>
unc q52 fun v54 q55 =>
asStr v54 fun s56 =>
nilL q55 <|
nw h43 (.cells #[(.string ByteArray.empty), (.string ByteArray.empty), (.string ByteArray.empty)] 37) fun r57 h58 =>
st h58 ⟨r57, 0, none⟩ (.string s50) fun h59 =>
st h59 ⟨r57, 1, none⟩ (.string s53) fun h60 =>
st h60 ⟨r57, 2, none⟩ (.string s56) fun h61 =>
∃ n, I8186 [n] y5 y6 y7 y8 ⟨r57, 0, none⟩ 0 h61))
def V3_8186 (I1018 : List Nat → Int → Int → Int → Option Addr → Option Addr → Nat → Nat → Int → Int → Hp → Prop) (I8186 : List Nat → Int → Int → Int → Option Addr → Addr → Int → Hp → Prop) (I32762 : List Nat → Int → Int → Int → Option Addr → Addr → Int → Hp → Prop) (K : Value → Hp → Prop) (n8186 : Nat) (y5 : Int) (y6 : Int) (y7 : Int) (y8 : Option Addr) (y12 : Addr) (y65 : Int) (h : Hp) : Prop :=
bIf (decide ((y65 : Int) < 3)) (
Spec P 13 #[(.pointer y8), (.int .i64 y65)] h fun v62 h63 =>
asTu v62 fun q64 =>
unc q64 fun v65 q66 =>
asSl v65 fun a67 l68 c69 =>
unc q66 fun v70 q71 =>
nilL q71 <|
nlW P 31 true v70 fun v72 =>
asBo v72 fun b73 =>
bIf b73 (
K (.bool false) h63) (
oRd P (convert 24 9 (.slice a67 l68 c69)) h63 fun v74 =>
asStr v74 fun s75 =>
ixA P 37 (.pointer (some y12)) (.int .i64 y65) h63 fun d76 =>
st h63 d76 (.string s75) fun h77 =>
∃ m, m < n8186 ∧ I8186 [m] y5 y6 y7 y8 y12 (IntKind.i64.wrap (y65 + 1)) h77)) (
Spec P 14 #[(.pointer y8), (.int .i64 y5), (.int .u64 y6), (.int .i64 y7)] h fun v78 h79 =>
∃ n, I32762 [n] y5 y6 y7 y8 y12 0 h79)
def V3_s4193587 (I1018 : List Nat → Int → Int → Int → Option Addr → Option Addr → Nat → Nat → Int → Int → Hp → Prop) (I8186 : List Nat → Int → Int → Int → Option Addr → Addr → Int → Hp → Prop) (I32762 : List Nat → Int → Int → Int → Option Addr → Addr → Int → Hp → Prop) (K : Value → Hp → Prop) (n32762 : Nat) (y5 : Int) (y6 : Int) (y7 : Int) (y8 : Option Addr) (y12 : Addr) (y86 : Int) (y104 : Bool) (h : Hp) : Prop :=
bIf y104 (
K (.bool false) h) (
∃ m, m < n32762 ∧ I32762 [m] y5 y6 y7 y8 y12 (IntKind.i64.wrap (y86 + 1)) h)
def V3_32762 (I1018 : List Nat → Int → Int → Int → Option Addr → Option Addr → Nat → Nat → Int → Int → Hp → Prop) (I8186 : List Nat → Int → Int → Int → Option Addr → Addr → Int → Hp → Prop) (I32762 : List Nat → Int → Int → Int → Option Addr → Addr → Int → Hp → Prop) (K : Value → Hp → Prop) (n32762 : Nat) (y5 : Int) (y6 : Int) (y7 : Int) (y8 : Option Addr) (y12 : Addr) (y86 : Int) (h : Hp) : Prop :=
bIf (decide ((y86 : Int) < 3)) (
Spec P 13 #[(.pointer y8), (.int .i64 y86)] h fun v80 h81 =>
asTu v80 fun q82 =>
unc q82 fun v83 q84 =>
asSl v83 fun a85 l86 c87 =>
unc q84 fun v88 q89 =>
nilL q89 <|
nlW P 31 true v88 fun v90 =>
asBo v90 fun b91 =>
bIf b91 (
V3_s4193587 I1018 I8186 I32762 K n32762 y5 y6 y7 y8 y12 y86 true h81) (
oRd P (convert 24 9 (.slice a85 l86 c87)) h81 fun v92 =>
asStr v92 fun s93 =>
ixA P 37 (.pointer (some y12)) (.int .i64 y86) h81 fun d94 =>
ld h81 d94 fun v95 =>
asStr v95 fun s96 =>
V3_s4193587 I1018 I8186 I32762 K n32762 y5 y6 y7 y8 y12 y86 (!(strEq s93 s96)) h81)) (
Spec P 15 #[(.pointer y8), (.int .i64 2)] h fun v97 h98 =>
asIn .i64 v97 fun n99 =>
nw h98 (.cells #[(.int .u8 97), (.int .u8 112), (.int .u8 112), (.int .u8 101), (.int .u8 110), (.int .u8 100), (.int .u8 101), (.int .u8 100)] 5) fun r100 h101 =>
oAw P (convert 24 24 (.slice (some ⟨r100, 0, none⟩) 8 8)) h101 fun v102 h103 =>
asSl v102 fun a104 l105 c106 =>
Spec P 11 #[(.pointer y8), (.int .i64 2), (.int .i64 n99), (.slice a104 l105 c106)] h103 fun v107 h108 =>
nlW P 31 true v107 fun v109 =>
asBo v109 fun b110 =>
bIf b110 (
Spec P 16 #[(.pointer y8)] h108 fun v111 h112 =>
asIn .i64 v111 fun n113 =>
K (.bool (decide ((n113 : Int) < 8))) h112) (
Spec P 14 #[(.pointer y8), (.int .i64 y5), (.int .u64 y6), (.int .i64 y7)] h108 fun v114 h115 =>
Spec P 13 #[(.pointer y8), (.int .i64 2)] h115 fun v116 h117 =>
asTu v116 fun q118 =>
unc q118 fun v119 q120 =>
asSl v119 fun a121 l122 c123 =>
unc q120 fun v124 q125 =>
nilL q125 <|
nlW P 31 false v124 fun v126 =>
asBo v126 fun b127 =>
bIf b127 (
bIf (decide ((((l122 : Nat) : Int) : Int) ≥ n99)) (
bIf (decide ((((l122 : Nat) : Int) : Int) ≤ (IntKind.i64.wrap (n99 + 8)))) (
oRd P (convert 24 9 (.slice a121 l122 c123)) h117 fun v128 =>
asStr v128 fun s129 =>
ld h117 ⟨y12.block, y12.off + 2, none⟩ fun v130 =>
asStr v130 fun s131 =>
oRd P (sBin .add 9 true (.string s131) (.string { data := #[97, 112, 112, 101, 110, 100, 101, 100] })) h117 fun v132 =>
asStr v132 fun s133 =>
oRd P (Instr.sliceAt 9 (.string s133) none (some (.int .i64 ((l122 : Nat) : Int))) none) h117 fun v134 =>
asStr v134 fun s135 =>
K (.bool (strEq s129 s135)) h117) (
K (.bool false) h117)) (
K (.bool false) h117)) (
K (.bool false) h117)))
def V3 (I1018 : List Nat → Int → Int → Int → Option Addr → Option Addr → Nat → Nat → Int → Int → Hp → Prop) (I8186 : List Nat → Int → Int → Int → Option Addr → Addr → Int → Hp → Prop) (I32762 : List Nat → Int → Int → Int → Option Addr → Addr → Int → Hp → Prop) (K : Value → Hp → Prop) (a0 : Option Addr) (a0n a0c : Nat) (a1_0 : Int) (a1_1 : Int) (a1_2 : Int) (a1_3 : Int) (a1_4 : Int) (a1_5 : Option Addr) (a1_5n a1_5c : Nat) (h : Hp) : Prop :=
nw h (.cells #[(.int .i64 a1_0), (.int .i64 a1_1), (.int .i64 a1_2), (.int .i64 a1_3), (.int .u64 a1_4), (.slice a1_5 a1_5n a1_5c)] 26) fun r136 h137 =>
Spec P 7 #[] h137 fun v138 h139 =>
asBo v138 fun b140 =>
bIf (!b140) (
K (.bool false) h139) (
Spec P 8 #[(.slice a0 a0n a0c)] h139 fun v141 h142 =>
asBo v141 fun b143 =>
bIf b143 (
K (.bool true) h142) (
ld h142 ⟨r136, 2, none⟩ fun v144 =>
asIn .i64 v144 fun n145 =>
ld h142 ⟨r136, 4, none⟩ fun v146 =>
asIn .u64 v146 fun n147 =>
ld h142 ⟨r136, 3, none⟩ fun v148 =>
asIn .i64 v148 fun n149 =>
Spec P 9 #[(.int .i64 1000)] h142 fun v150 h151 =>
asTu v150 fun q152 =>
unc q152 fun v153 q154 =>
asPt v153 fun p155 =>
unc q154 fun v156 q157 =>
nilL q157 <|
nlW P 31 true v156 fun v158 =>
asBo v158 fun b159 =>
bIf b159 (
K (.bool false) h151) (
∃ n, I1018 [n] n145 n147 n149 p155 a0 a0n a0c ((a0n : Nat) : Int) 0 h151)))
noncomputable def C3 : Code := match Tryd.f3.body with | some c => c | none => .skip
def L3 : Nat → Plan := fun q => (selP 40 (.ro 0 (.ro 1 (.ro 2 (.ro 3 (.ro 4 (.ro 5 (.ro 6 (.ro 7 (.ro 8 (.ro 9 (.ro 10 (.ro 11 (.ro 12 (.ro 13 (.ro 14 (.ro 15 (.ro 16 (.ro 17 (.ro 18 (.ro 19 (.ro 20 (.ro 21 (.ro 22 (.ro 23 (.ro 24 (.ro 25 (.ro 26 .nil))))))))))))))))))))))))))) (selP 32 (.ro 0 (.ro 1 (.ro 2 (.ro 3 (.ro 4 (.ro 5 (.ro 6 (.ro 7 (.ro 8 (.ro 9 .nil)))))))))) (selP 5 (.ro 0 (.ro 1 (.ro 2 (.ro 3 (.ro 4 (.ro 5 (.ro 6 (.ro 7 (.ro 8 .nil))))))))) Plan.nil q) q) q)
def T3 : Nat → List Value := fun q => (selT 1018 [.nilIface, .nilIface, .nilIface, .nilIface, .nilIface, (.int .i64 0), (.int .u64 0), (.int .i64 0), (.pointer none), .nilIface, .nilIface, .nilIface, .nilIface, .nilIface, .nilIface, .nilIface, .nilIface, .nilIface, .nilIface, .nilIface, .nilIface, .nilIface, .nilIface, .nilIface, .nilIface, .nilIface, .nilIface, .nilIface, .nilIface, .nilIface, .nilIface, .nilIface, .nilIface, .nilIface, .nilIface, .nilIface, .nilIface, (.slice none 0 0), (.int .i64 0), (.int .i64 0), .nilIface, .nilIface, .nilIface, .nilIface, .nilIface, .nilIface, .nilIface, .nilIface, .nilIface, .nilIface, .nilIface, .nilIface, .nilIface, .nilIface, .nilIface, .nilIface, .nilIface, .nilIface, .nilIface, .nilIface, .nilIface, .nilIface, .nilIface, .nilIface, .nilIface, .nilIface, .nilIface, .nilIface, .nilIface, .nilIface, .nilIface, .nilIface, .nilIface, .nilIface, .nilIface, .nilIface, .nilIface, .nilIface, .nilIface, .nilIface, .nilIface, .nilIface, .nilIface, .nilIface, .nilIface, .nilIface, .nilIface, .nilIface, .nilIface, .nilIface, .nilIface, .nilIface, .nilIface, .nilIface, .nilIface, .nilIface, .nilIface, .nilIface, .nilIface, .nilIface, .nilIface, .nilIface, .nilIface, .nilIface, .nilIface, .nilIface, .nilIface, .nilIface, .nilIface, .nilIface, .nilIface, .nilIface, .nilIface, .nilIface, .nilIface, .nilIface, .nilIface, .nilIface, .nilIface, .nilIface, .nilIface, .nilIface, .nilIface, .nilIface, .nilIface, .nilIface, .nilIface, .nilIface, .nilIface, .nilIface, .nilIface, .nilIface, .nilIface, .nilIface, .nilIface, .nilIface, .nilIface, .nilIface, .nilIface, .nilIface, .nilIface, .nilIface, .nilIface, .nilIface, .nilIface, .nilIface, .nilIface, .nilIface, .nilIface, .nilIface, .nilIface, .nilIface, .nilIface] (selT 8186 [.nilIface, .nilIface, .nilIface, .nilIface, .nilIface, (.int .i64 0), (.int .u64 0), (.int .i64 0), (.pointer none), .nilIface, .nilIface, .nilIface, .pointer (some ⟨0, 0, none⟩), .nilIface, .nilIface, .nilIface, .nilIface, .nilIface, .nilIface, .nilIface, .nilIface, .nilIface, .nilIface, .nilIface, .nilIface, .nilIface, .nilIface, .nilIface, .nilIface, .nilIface, .nilIface, .nilIface, .nilIface, .nilIface, .nilIface, .nilIface, .nilIface, .nilIface, .nilIface, .nilIface, .nilIface, .nilIface, .nilIface, .nilIface, .nilIface, .nilIface, .nilIface, .nilIface, .nilIface, .nilIface, .nilIface, .nilIface, .nilIface, .nilIface, .nilIface, .nilIface, .nilIface, .nilIface, .nilIface, .nilIface, .nilIface, .nilIface, .nilIface, .nilIface, .nilIface, (.int .i64 0), .nilIface, .nilIface, .nilIface, .nilIface, .nilIface, .nilIface, .nilIface, .nilIface, .nilIface, .nilIface, .nilIface, .nilIface, .nilIface, .nilIface, .nilIface, .nilIface, .nilIface, .nilIface, .nilIface, .nilIface, .nilIface, .nilIface, .nilIface, .nilIface, .nilIface, .nilIface, .nilIface, .nilIface, .nilIface, .nilIface, .nilIface, .nilIface, .nilIface, .nilIface, .nilIface, .nilIface, .nilIface, .nilIface, .nilIface, .nilIface, .nilIface, .nilIface, .nilIface, .nilIface, .nilIface, .nilIface, .nilIface, .nilIface, .nilIface, .nilIface, .nilIface, .nilIface, .nilIface, .nilIface, .nilIface, .nilIface, .nilIface, .nilIface, .nilIface, .nilIface, .nilIface, .nilIface, .nilIface, .nilIface, .nilIface, .nilIface, .nilIface, .nilIface, .nilIface, .nilIface, .nilIface, .nilIface, .nilIface, .nilIface, .nilIface, .nilIface, .nilIface, .nilIface, .nilIface, .nilIface, .nilIface, .nilIface, .nilIface, .nilIface, .nilIface, .nilIface, .nilIface] (selT 32762 [.nilIface, .nilIface, .nilIface, .nilIface, .nilIface, (.int .i64 0), (.int .u64 0), (.int .i64 0), (.pointer none), .nilIface, .nilIface, .nilIface, .pointer (some ⟨0, 0, none⟩), .nilIface, .nilIface, .nilIface, .nilIface, .nilIface, .nilIface, .nilIface, .nilIface, .nilIface, .nilIface, .nilIface, .nilIface, .nilIface, .nilIface, .nilIface, .nilIface, .nilIface, .nilIface, .nilIface, .nilIface, .nilIface, .nilIface, .nilIface, .nilIface, .nilIface, .nilIface, .nilIface, .nilIface, .nilIface, .nilIface, .nilIface, .nilIface, .nilIface, .nilIface, .nilIface, .nilIface, .nilIface, .nilIface, .nilIface, .nilIface, .nilIface, .nilIface, .nilIface, .nilIface, .nilIface, .nilIface, .nilIface, .nilIface, .nilIface, .nilIface, .nilIface, .nilIface, .nilIface, .nilIface, .nilIface, .nilIface, .nilIface, .nilIface, .nilIface, .nilIface, .nilIface, .nilIface, .nilIface, .nilIface, .nilIface, .nilIface, .nilIface, .nilIface, .nilIface, .nilIface, .nilIface, .nilIface, .nilIface, (.int .i64 0), .nilIface, .nilIface, .nilIface, .nilIface, .nilIface, .nilIface, .nilIface, .nilIface, .nilIface, .nilIface, .nilIface, .nilIface, .nilIface, .nilIface, .nilIface, .nilIface, .nilIface, .nilIface, .nilIface, .nilIface, .nilIface, .nilIface, .nilIface, .nilIface, .nilIface, .nilIface, .nilIface, .nilIface, .nilIface, .nilIface, .nilIface, .nilIface, .nilIface, .nilIface, .nilIface, .nilIface, .nilIface, .nilIface, .nilIface, .nilIface, .nilIface, .nilIface, .nilIface, .nilIface, .nilIface, .nilIface, .nilIface, .nilIface, .nilIface, .nilIface, .nilIface, .nilIface, .nilIface, .nilIface, .nilIface, .nilIface, .nilIface, .nilIface, .nilIface, .nilIface, .nilIface, .nilIface, .nilIface, .nilIface, .nilIface, .nilIface] [] q) q) q)
def G3 (I1018 : List Nat → Int → Int → Int → Option Addr → Option Addr → Nat → Nat → Int → Int → Hp → Prop) (I8186 : List Nat → Int → Int → Int → Option Addr → Addr → Int → Hp → Prop) (I32762 : List Nat → Int → Int → Int → Option Addr → Addr → Int → Hp → Prop) : Inv := fun q => (selI 1018 (fun ns l h => asIn .i64 (l.getD 5 undef) fun y5 => asIn .u64 (l.getD 6 undef) fun y6 => asIn .i64 (l.getD 7 undef) fun y7 => asPt (l.getD 8 undef) fun y8 => asSl (l.getD 37 undef) fun y37 y37n y37c => asIn .i64 (l.getD 38 undef) fun y38 => asIn .i64 (l.getD 39 undef) fun y39 => I1018 ns y5 y6 y7 y8 y37 y37n y37c y38 y39 h) (selI 8186 (fun ns l h => asIn .i64 (l.getD 5 undef) fun y5 => asIn .u64 (l.getD 6 undef) fun y6 => asIn .i64 (l.getD 7 undef) fun y7 => asPt (l.getD 8 undef) fun y8 => asAd (l.getD 12 undef) fun y12 => asIn .i64 (l.getD 65 undef) fun y65 => I8186 ns y5 y6 y7 y8 y12 y65 h) (selI 32762 (fun ns l h => asIn .i64 (l.getD 5 undef) fun y5 => asIn .u64 (l.getD 6 undef) fun y6 => asIn .i64 (l.getD 7 undef) fun y7 => asPt (l.getD 8 undef) fun y8 => asAd (l.getD 12 undef) fun y12 => asIn .i64 (l.getD 86 undef) fun y86 => I32762 ns y5 y6 y7 y8 y12 y86 h) (fun _ _ _ => False) q) q) q)
theorem L3_ok : plansOk P L3 C3 = true := by kernel_rfl
theorem W3 (I1018 : List Nat → Int → Int → Int → Option Addr → Option Addr → Nat → Nat → Int → Int → Hp → Prop) (I8186 : List Nat → Int → Int → Int → Option Addr → Addr → Int → Hp → Prop) (I32762 : List Nat → Int → Int → Int → Option Addr → Addr → Int → Hp → Prop) (K : Value → Hp → Prop) (a0 : Option Addr) (a0n a0c : Nat) (a1_0 : Int) (a1_1 : Int) (a1_2 : Int) (a1_3 : Int) (a1_4 : Int) (a1_5 : Option Addr) (a1_5n a1_5c : Nat) (h : Hp) : ((∀ n1018 : Nat, (∀ (y0 : Value) (y1 : Value) (y2 : Value) (y3 : Value) (y4 : Value) (y5 : Int) (y6 : Int) (y7 : Int) (y8 : Option Addr) (y9 : Value) (y10 : Value) (y11 : Value) (y12 : Value) (y13 : Value) (y14 : Value) (y15 : Value) (y16 : Value) (y17 : Value) (y18 : Value) (y19 : Value) (y20 : Value) (y21 : Value) (y22 : Value) (y23 : Value) (y24 : Value) (y25 : Value) (y26 : Value) (y27 : Value) (y28 : Value) (y29 : Value) (y30 : Value) (y31 : Value) (y32 : Value) (y33 : Value) (y34 : Value) (y35 : Value) (y36 : Value) (y37 : Option Addr) (y37n y37c : Nat) (y38 : Int) (y39 : Int) (y40 : Value) (y41 : Value) (y42 : Value) (y43 : Value) (y44 : Value) (y45 : Value) (y46 : Value) (y47 : Value) (y48 : Value) (y49 : Value) (y50 : Value) (y51 : Value) (y52 : Value) (y53 : Value) (y54 : Value) (y55 : Value) (y56 : Value) (y57 : Value) (y58 : Value) (y59 : Value) (y60 : Value) (y61 : Value) (y62 : Value) (y63 : Value) (y64 : Value) (y65 : Value) (y66 : Value) (y67 : Value) (y68 : Value) (y69 : Value) (y70 : Value) (y71 : Value) (y72 : Value) (y73 : Value) (y74 : Value) (y75 : Value) (y76 : Value) (y77 : Value) (y78 : Value) (y79 : Value) (y80 : Value) (y81 : Value) (y82 : Value) (y83 : Value) (y84 : Value) (y85 : Value) (y86 : Value) (y87 : Value) (y88 : Value) (y89 : Value) (y90 : Value) (y91 : Value) (y92 : Value) (y93 : Value) (y94 : Value) (y95 : Value) (y96 : Value) (y97 : Value) (y98 : Value) (y99 : Value) (y100 : Value) (y101 : Value) (y102 : Value) (y103 : Value) (y104 : Value) (y105 : Value) (y106 : Value) (y107 : Value) (y108 : Value) (y109 : Value) (y110 : Value) (y111 : Value) (y112 : Value) (y113 : Value) (y114 : Value) (y115 : Value) (y116 : Value) (y117 : Value) (y118 : Value) (y119 : Value) (y120 : Value) (y121 : Value) (y122 : Value) (y123 : Value) (y124 : Value) (y125 : Value) (y126 : Value) (y127 : Value) (y128 : Value) (y129 : Value) (y130 : Value) (y131 : Value) (y132 : Value) (y133 : Value) (y134 : Value) (y135 : Value) (y136 : Value) (y137 : Value) (y138 : Value) (y139 : Value) (y140 : Value) (y141 : Value) (y142 : Value) (y143 : Value) (y144 : Value) (y145 : Value) (y146 : Value) (y147 : Value) (y148 : Value) (y149 : Value) (y150 : Value) (y151 : Value) (y152 : Value) (h : Hp), I1018 [n1018] y5 y6 y7 y8 y37 y37n y37c y38 y39 h → V3_1018 I1018 I8186 I32762 K n1018 y5 y6 y7 y8 y37 y37n y37c y38 y39 h)) ∧ (∀ n8186 : Nat, (∀ (y0 : Value) (y1 : Value) (y2 : Value) (y3 : Value) (y4 : Value) (y5 : Int) (y6 : Int) (y7 : Int) (y8 : Option Addr) (y9 : Value) (y10 : Value) (y11 : Value) (y12 : Addr) (y13 : Value) (y14 : Value) (y15 : Value) (y16 : Value) (y17 : Value) (y18 : Value) (y19 : Value) (y20 : Value) (y21 : Value) (y22 : Value) (y23 : Value) (y24 : Value) (y25 : Value) (y26 : Value) (y27 : Value) (y28 : Value) (y29 : Value) (y30 : Value) (y31 : Value) (y32 : Value) (y33 : Value) (y34 : Value) (y35 : Value) (y36 : Value) (y37 : Value) (y38 : Value) (y39 : Value) (y40 : Value) (y41 : Value) (y42 : Value) (y43 : Value) (y44 : Value) (y45 : Value) (y46 : Value) (y47 : Value) (y48 : Value) (y49 : Value) (y50 : Value) (y51 : Value) (y52 : Value) (y53 : Value) (y54 : Value) (y55 : Value) (y56 : Value) (y57 : Value) (y58 : Value) (y59 : Value) (y60 : Value) (y61 : Value) (y62 : Value) (y63 : Value) (y64 : Value) (y65 : Int) (y66 : Value) (y67 : Value) (y68 : Value) (y69 : Value) (y70 : Value) (y71 : Value) (y72 : Value) (y73 : Value) (y74 : Value) (y75 : Value) (y76 : Value) (y77 : Value) (y78 : Value) (y79 : Value) (y80 : Value) (y81 : Value) (y82 : Value) (y83 : Value) (y84 : Value) (y85 : Value) (y86 : Value) (y87 : Value) (y88 : Value) (y89 : Value) (y90 : Value) (y91 : Value) (y92 : Value) (y93 : Value) (y94 : Value) (y95 : Value) (y96 : Value) (y97 : Value) (y98 : Value) (y99 : Value) (y100 : Value) (y101 : Value) (y102 : Value) (y103 : Value) (y104 : Value) (y105 : Value) (y106 : Value) (y107 : Value) (y108 : Value) (y109 : Value) (y110 : Value) (y111 : Value) (y112 : Value) (y113 : Value) (y114 : Value) (y115 : Value) (y116 : Value) (y117 : Value) (y118 : Value) (y119 : Value) (y120 : Value) (y121 : Value) (y122 : Value) (y123 : Value) (y124 : Value) (y125 : Value) (y126 : Value) (y127 : Value) (y128 : Value) (y129 : Value) (y130 : Value) (y131 : Value) (y132 : Value) (y133 : Value) (y134 : Value) (y135 : Value) (y136 : Value) (y137 : Value) (y138 : Value) (y139 : Value) (y140 : Value) (y141 : Value) (y142 : Value) (y143 : Value) (y144 : Value) (y145 : Value) (y146 : Value) (y147 : Value) (y148 : Value) (y149 : Value) (y150 : Value) (y151 : Value) (y152 : Value) (h : Hp), I8186 [n8186] y5 y6 y7 y8 y12 y65 h → V3_8186 I1018 I8186 I32762 K n8186 y5 y6 y7 y8 y12 y65 h)) ∧ (∀ n32762 : Nat, (∀ (y0 : Value) (y1 : Value) (y2 : Value) (y3 : Value) (y4 : Value) (y5 : Int) (y6 : Int) (y7 : Int) (y8 : Option Addr) (y9 : Value) (y10 : Value) (y11 : Value) (y12 : Addr) (y13 : Value) (y14 : Value) (y15 : Value) (y16 : Value) (y17 : Value) (y18 : Value) (y19 : Value) (y20 : Value) (y21 : Value) (y22 : Value) (y23 : Value) (y24 : Value) (y25 : Value) (y26 : Value) (y27 : Value) (y28 : Value) (y29 : Value) (y30 : Value) (y31 : Value) (y32 : Value) (y33 : Value) (y34 : Value) (y35 : Value) (y36 : Value) (y37 : Value) (y38 : Value) (y39 : Value) (y40 : Value) (y41 : Value) (y42 : Value) (y43 : Value) (y44 : Value) (y45 : Value) (y46 : Value) (y47 : Value) (y48 : Value) (y49 : Value) (y50 : Value) (y51 : Value) (y52 : Value) (y53 : Value) (y54 : Value) (y55 : Value) (y56 : Value) (y57 : Value) (y58 : Value) (y59 : Value) (y60 : Value) (y61 : Value) (y62 : Value) (y63 : Value) (y64 : Value) (y65 : Value) (y66 : Value) (y67 : Value) (y68 : Value) (y69 : Value) (y70 : Value) (y71 : Value) (y72 : Value) (y73 : Value) (y74 : Value) (y75 : Value) (y76 : Value) (y77 : Value) (y78 : Value) (y79 : Value) (y80 : Value) (y81 : Value) (y82 : Value) (y83 : Value) (y84 : Value) (y85 : Value) (y86 : Int) (y87 : Value) (y88 : Value) (y89 : Value) (y90 : Value) (y91 : Value) (y92 : Value) (y93 : Value) (y94 : Value) (y95 : Value) (y96 : Value) (y97 : Value) (y98 : Value) (y99 : Value) (y100 : Value) (y101 : Value) (y102 : Value) (y103 : Value) (y104 : Value) (y105 : Value) (y106 : Value) (y107 : Value) (y108 : Value) (y109 : Value) (y110 : Value) (y111 : Value) (y112 : Value) (y113 : Value) (y114 : Value) (y115 : Value) (y116 : Value) (y117 : Value) (y118 : Value) (y119 : Value) (y120 : Value) (y121 : Value) (y122 : Value) (y123 : Value) (y124 : Value) (y125 : Value) (y126 : Value) (y127 : Value) (y128 : Value) (y129 : Value) (y130 : Value) (y131 : Value) (y132 : Value) (y133 : Value) (y134 : Value) (y135 : Value) (y136 : Value) (y137 : Value) (y138 : Value) (y139 : Value) (y140 : Value) (y141 : Value) (y142 : Value) (y143 : Value) (y144 : Value) (y145 : Value) (y146 : Value) (y147 : Value) (y148 : Value) (y149 : Value) (y150 : Value) (y151 : Value) (y152 : Value) (h : Hp), I32762 [n32762] y5 y6 y7 y8 y12 y86 h → V3_32762 I1018 I8186 I32762 K n32762 y5 y6 y7 y8 y12 y86 h)) ∧ V3 I1018 I8186 I32762 K a0 a0n a0c a1_0 a1_1 a1_2 a1_3 a1_4 a1_5 a1_5n a1_5c h) =
  allP (obls P L3 (fun q => false) T3 (G3 I1018 I8186 I32762) 1 [] C3 (endQ P Tryd.f3 K) ++ [awp P L3 (fun q => false) T3 (G3 I1018 I8186 I32762) 1 [] C3 (endQ P Tryd.f3 K) (frameL [(.slice a0 a0n a0c), (.agg #[(.int .i64 a1_0), (.int .i64 a1_1), (.int .i64 a1_2), (.int .i64 a1_3), (.int .u64 a1_4), (.slice a1_5 a1_5n a1_5c)])] 153) h]) := by kernel_rfl
theorem S3 (I1018 : List Nat → Int → Int → Int → Option Addr → Option Addr → Nat → Nat → Int → Int → Hp → Prop) (I8186 : List Nat → Int → Int → Int → Option Addr → Addr → Int → Hp → Prop) (I32762 : List Nat → Int → Int → Int → Option Addr → Addr → Int → Hp → Prop) {K : Value → Hp → Prop} {a0 : Option Addr} {a0n a0c : Nat} {a1_0 : Int} {a1_1 : Int} {a1_2 : Int} {a1_3 : Int} {a1_4 : Int} {a1_5 : Option Addr} {a1_5n a1_5c : Nat} {h : Hp} (o1018 : ∀ (n1018 : Nat) (y5 : Int) (y6 : Int) (y7 : Int) (y8 : Option Addr) (y37 : Option Addr) (y37n y37c : Nat) (y38 : Int) (y39 : Int) (h : Hp), I1018 [n1018] y5 y6 y7 y8 y37 y37n y37c y38 y39 h → V3_1018 I1018 I8186 I32762 K n1018 y5 y6 y7 y8 y37 y37n y37c y38 y39 h) (o8186 : ∀ (n8186 : Nat) (y5 : Int) (y6 : Int) (y7 : Int) (y8 : Option Addr) (y12 : Addr) (y65 : Int) (h : Hp), I8186 [n8186] y5 y6 y7 y8 y12 y65 h → V3_8186 I1018 I8186 I32762 K n8186 y5 y6 y7 y8 y12 y65 h) (o32762 : ∀ (n32762 : Nat) (y5 : Int) (y6 : Int) (y7 : Int) (y8 : Option Addr) (y12 : Addr) (y86 : Int) (h : Hp), I32762 [n32762] y5 y6 y7 y8 y12 y86 h → V3_32762 I1018 I8186 I32762 K n32762 y5 y6 y7 y8 y12 y86 h) (e : V3 I1018 I8186 I32762 K a0 a0n a0c a1_0 a1_1 a1_2 a1_3 a1_4 a1_5 a1_5n a1_5c h) : Spec P 3 #[(.slice a0 a0n a0c), (.agg #[(.int .i64 a1_0), (.int .i64 a1_1), (.int .i64 a1_2), (.int .i64 a1_3), (.int .u64 a1_4), (.slice a1_5 a1_5n a1_5c)])] h K :=
  spec_of_awp (args := [(.slice a0 a0n a0c), (.agg #[(.int .i64 a1_0), (.int .i64 a1_1), (.int .i64 a1_2), (.int .i64 a1_3), (.int .u64 a1_4), (.slice a1_5 a1_5n a1_5c)])]) follows_P Tryd.func3 (by kernel_rfl : Tryd.f3.body = some C3) fits3 L3_ok (Nat.le_of_ble_eq_true (by kernel_rfl)) (Eq.mp (W3 I1018 I8186 I32762 K a0 a0n a0c a1_0 a1_1 a1_2 a1_3 a1_4 a1_5 a1_5n a1_5c h) ⟨(fun n1018 => (fun _ _ _ _ _ y5 y6 y7 y8 _ _ _ _ _ _ _ _ _ _ _ _ _ _ _ _ _ _ _ _ _ _ _ _ _ _ _ _ y37 y37n y37c y38 y39 _ _ _ _ _ _ _ _ _ _ _ _ _ _ _ _ _ _ _ _ _ _ _ _ _ _ _ _ _ _ _ _ _ _ _ _ _ _ _ _ _ _ _ _ _ _ _ _ _ _ _ _ _ _ _ _ _ _ _ _ _ _ _ _ _ _ _ _ _ _ _ _ _ _ _ _ _ _ _ _ _ _ _ _ _ _ _ _ _ _ _ _ _ _ _ _ _ _ _ _ _ _ _ _ _ _ _ _ _ _ _ _ _ h hi => o1018 n1018 y5 y6 y7 y8 y37 y37n y37c y38 y39 h hi)), (fun n8186 => (fun _ _ _ _ _ y5 y6 y7 y8 _ _ _ y12 _ _ _ _ _ _ _ _ _ _ _ _ _ _ _ _ _ _ _ _ _ _ _ _ _ _ _ _ _ _ _ _ _ _ _ _ _ _ _ _ _ _ _ _ _ _ _ _ _ _ _ _ y65 _ _ _ _ _ _ _ _ _ _ _ _ _ _ _ _ _ _ _ _ _ _ _ _ _ _ _ _ _ _ _ _ _ _ _ _ _ _ _ _ _ _ _ _ _ _ _ _ _ _ _ _ _ _ _ _ _ _ _ _ _ _ _ _ _ _ _ _ _ _ _ _ _ _ _ _ _ _ _ _ _ _ _ _ _ _ _ h hi => o8186 n8186 y5 y6 y7 y8 y12 y65 h hi)), (fun n32762 => (fun _ _ _ _ _ y5 y6 y7 y8 _ _ _ y12 _ _ _ _ _ _ _ _ _ _ _ _ _ _ _ _ _ _ _ _ _ _ _ _ _ _ _ _ _ _ _ _ _ _ _ _ _ _ _ _ _ _ _ _ _ _ _ _ _ _ _ _ _ _ _ _ _ _ _ _ _ _ _ _ _ _ _ _ _ _ _ _ _ y86 _ _ _ _ _ _ _ _ _ _ _ _ _ _ _ _ _ _ _ _ _ _ _ _ _ _ _ _ _ _ _ _ _ _ _ _ _ _ _ _ _ _ _ _ _ _ _ _ _ _ _ _ _ _ _ _ _ _ _ _ _ _ _ _ _ _ h hi => o32762 n32762 y5 y6 y7 y8 y12 y86 h hi)), e⟩)

theorem fits7 : Fits P 7 := fits_of Tryd.func7 (by kernel_rfl) (by kernel_rfl)
/- 7 bulla/bullalaw17.alive
-/
def V7_s7 (K : Value → Hp → Prop) (y1 : Option Addr) (h : Hp) : Prop :=
Spec P 14 #[(.pointer y1), (.int .i64 0), (.int .u64 0), (.int .i64 1)] h fun v11 h12 =>
Spec P 13 #[(.pointer y1), (.int .i64 2)] h12 fun v13 h14 =>
asTu v13 fun q15 =>
unc q15 fun v16 q17 =>
asSl v16 fun a18 l19 c20 =>
unc q17 fun v21 q22 =>
nilL q22 <|
nlW P 31 false v21 fun v23 =>
asBo v23 fun b24 =>
bIf b24 (
oRd P (convert 24 9 (.slice a18 l19 c20)) h14 fun v25 =>
asStr v25 fun s26 =>
K (.bool (strEq s26 { data := #[97, 98, 99] })) h14) (
K (.bool false) h14)
def V7_s14 (K : Value → Hp → Prop) (y1 : Option Addr) (y32 : Bool) (h : Hp) : Prop :=
bIf y32 (
K (.bool false) h) (
V7_s7 K y1 h)
def V7 (K : Value → Hp → Prop) (h : Hp) : Prop :=
Spec P 9 #[(.int .i64 9)] h fun v1 h2 =>
asTu v1 fun q3 =>
unc q3 fun v4 q5 =>
asPt v4 fun p6 =>
unc q5 fun v7 q8 =>
nilL q8 <|
nlW P 31 true v7 fun v9 =>
asBo v9 fun b10 =>
bIf b10 (
V7_s14 K p6 true h2) (
bIf (Option.isNone p6) (
V7_s14 K p6 true h2) (
nw h2 (.cells #[(.int .u8 97), (.int .u8 98)] 5) fun r27 h28 =>
oAw P (convert 24 24 (.slice (some ⟨r27, 0, none⟩) 2 2)) h28 fun v29 h30 =>
asSl v29 fun a31 l32 c33 =>
Spec P 11 #[(.pointer p6), (.int .i64 2), (.int .i64 0), (.slice a31 l32 c33)] h30 fun v34 h35 =>
nlW P 31 true v34 fun v36 =>
asBo v36 fun b37 =>
bIf b37 (
V7_s14 K p6 true h35) (
Spec P 12 #[(.pointer p6)] h35 fun v38 h39 =>
nlW P 31 true v38 fun v40 =>
asBo v40 fun b41 =>
bIf b41 (
V7_s14 K p6 true h39) (
nw h39 (.cells #[(.int .u8 99), (.int .u8 100)] 5) fun r42 h43 =>
oAw P (convert 24 24 (.slice (some ⟨r42, 0, none⟩) 2 2)) h43 fun v44 h45 =>
asSl v44 fun a46 l47 c48 =>
Spec P 11 #[(.pointer p6), (.int .i64 2), (.int .i64 2), (.slice a46 l47 c48)] h45 fun v49 h50 =>
nlW P 31 true v49 fun v51 =>
asBo v51 fun b52 =>
V7_s14 K p6 b52 h50))))
noncomputable def C7 : Code := match Tryd.f7.body with | some c => c | none => .skip
def L7 : Nat → Plan := fun q => Plan.nil
theorem L7_ok : plansOk P L7 C7 = true := by kernel_rfl
theorem W7 (K : Value → Hp → Prop) (h : Hp) : (V7 K  h) =
  allP (obls P L7 (fun q => false) (fun _ => []) (fun _ _ _ _ => False) 1 [] C7 (endQ P Tryd.f7 K) ++ [awp P L7 (fun q => false) (fun _ => []) (fun _ _ _ _ => False) 1 [] C7 (endQ P Tryd.f7 K) (frameL [] 47) h]) := by kernel_rfl
theorem S7 {K : Value → Hp → Prop} {h : Hp} (e : V7 K  h) : Spec P 7 #[] h K :=
  spec_of_awp (args := []) follows_P Tryd.func7 (by kernel_rfl : Tryd.f7.body = some C7) fits7 L7_ok (Nat.le_of_ble_eq_true (by kernel_rfl)) (Eq.mp (W7 K  h) e)

theorem fits8 : Fits P 8 := fits_of Tryd.func8 (by kernel_rfl) (by kernel_rfl)
/- 8 bulla/bullalaw17.long
  path 58: loop 8: 9: 10:
-/
def V8_58 (I58 : List Nat → Option Addr → Nat → Nat → Int → Int → Hp → Prop) (K : Value → Hp → Prop) (n58 : Nat) (y8 : Option Addr) (y8n y8c : Nat) (y9 : Int) (y10 : Int) (h : Hp) : Prop :=
bIf (decide ((y10 : Int) < y9)) (
ixA P 22 (.slice y8 y8n y8c) (.int .i64 y10) h fun d1 =>
ld h d1 fun v2 =>
asIn .i64 v2 fun n3 =>
ld h ⟨d1.block, d1.off + 1, none⟩ fun v4 =>
asIn .i64 v4 fun n5 =>
ld h ⟨d1.block, d1.off + 2, none⟩ fun v6 =>
asIn .i64 v6 fun n7 =>
ld h ⟨d1.block, d1.off + 3, none⟩ fun v8 =>
asIn .i64 v8 fun n9 =>
ld h ⟨d1.block, d1.off + 4, none⟩ fun v10 =>
asIn .u64 v10 fun n11 =>
ld h ⟨d1.block, d1.off + 5, none⟩ fun v12 =>
asSl v12 fun a13 l14 c15 =>
nw h (.cells #[(.int .i64 0), (.int .i64 0), (.int .i64 0), (.int .i64 0), (.int .u64 0), (.slice none 0 0)] 26) fun r16 h17 =>
st h17 ⟨r16, 0, none⟩ (.int .i64 n3) fun h18 =>
st h18 ⟨r16, 1, none⟩ (.int .i64 n5) fun h19 =>
st h19 ⟨r16, 2, none⟩ (.int .i64 n7) fun h20 =>
st h20 ⟨r16, 3, none⟩ (.int .i64 n9) fun h21 =>
st h21 ⟨r16, 4, none⟩ (.int .u64 n11) fun h22 =>
st h22 ⟨r16, 5, none⟩ (.slice a13 l14 c15) fun h23 =>
ld h23 ⟨r16, 5, none⟩ fun v24 =>
asSl v24 fun a25 l26 c27 =>
bIf (decide ((((l26 : Nat) : Int) : Int) > 200)) (
K (.bool true) h23) (
∃ m, m < n58 ∧ I58 [m] y8 y8n y8c y9 (IntKind.i64.wrap (y10 + 1)) h23)) (
K (.bool false) h)
def V8 (I58 : List Nat → Option Addr → Nat → Nat → Int → Int → Hp → Prop) (K : Value → Hp → Prop) (a0 : Option Addr) (a0n a0c : Nat) (h : Hp) : Prop :=
bIf (decide ((((a0n : Nat) : Int) : Int) > 60)) (
K (.bool true) h) (
∃ n, I58 [n] a0 a0n a0c ((a0n : Nat) : Int) 0 h)
noncomputable def C8 : Code := match Tryd.f8.body with | some c => c | none => .skip
def L8 : Nat → Plan := fun q => Plan.nil
def T8 : Nat → List Value := fun q => (selT 58 [.nilIface, .nilIface, .nilIface, .nilIface, .nilIface, .nilIface, .nilIface, .nilIface, (.slice none 0 0), (.int .i64 0), (.int .i64 0), .nilIface, .nilIface, .nilIface, .nilIface, .nilIface, .nilIface, .nilIface, .nilIface] [] q)
def G8 (I58 : List Nat → Option Addr → Nat → Nat → Int → Int → Hp → Prop) : Inv := fun q => (selI 58 (fun ns l h => asSl (l.getD 8 undef) fun y8 y8n y8c => asIn .i64 (l.getD 9 undef) fun y9 => asIn .i64 (l.getD 10 undef) fun y10 => I58 ns y8 y8n y8c y9 y10 h) (fun _ _ _ => False) q)
theorem L8_ok : plansOk P L8 C8 = true := by kernel_rfl
theorem W8 (I58 : List Nat → Option Addr → Nat → Nat → Int → Int → Hp → Prop) (K : Value → Hp → Prop) (a0 : Option Addr) (a0n a0c : Nat) (h : Hp) : ((∀ n58 : Nat, (∀ (y0 : Value) (y1 : Value) (y2 : Value) (y3 : Value) (y4 : Value) (y5 : Value) (y6 : Value) (y7 : Value) (y8 : Option Addr) (y8n y8c : Nat) (y9 : Int) (y10 : Int) (y11 : Value) (y12 : Value) (y13 : Value) (y14 : Value) (y15 : Value) (y16 : Value) (y17 : Value) (y18 : Value) (h : Hp), I58 [n58] y8 y8n y8c y9 y10 h → V8_58 I58 K n58 y8 y8n y8c y9 y10 h)) ∧ V8 I58 K a0 a0n a0c h) =
  allP (obls P L8 (fun q => false) T8 (G8 I58) 1 [] C8 (endQ P Tryd.f8 K) ++ [awp P L8 (fun q => false) T8 (G8 I58) 1 [] C8 (endQ P Tryd.f8 K) (frameL [(.slice a0 a0n a0c)] 19) h]) := by kernel_rfl
theorem S8 (I58 : List Nat → Option Addr → Nat → Nat → Int → Int → Hp → Prop) {K : Value → Hp → Prop} {a0 : Option Addr} {a0n a0c : Nat} {h : Hp} (o58 : ∀ (n58 : Nat) (y8 : Option Addr) (y8n y8c : Nat) (y9 : Int) (y10 : Int) (h : Hp), I58 [n58] y8 y8n y8c y9 y10 h → V8_58 I58 K n58 y8 y8n y8c y9 y10 h) (e : V8 I58 K a0 a0n a0c h) : Spec P 8 #[(.slice a0 a0n a0c)] h K :=
  spec_of_awp (args := [(.slice a0 a0n a0c)]) follows_P Tryd.func8 (by kernel_rfl : Tryd.f8.body = some C8) fits8 L8_ok (Nat.le_of_ble_eq_true (by kernel_rfl)) (Eq.mp (W8 I58 K a0 a0n a0c h) ⟨(fun n58 => (fun _ _ _ _ _ _ _ _ y8 y8n y8c y9 y10 _ _ _ _ _ _ _ _ h hi => o58 n58 y8 y8n y8c y9 y10 h hi)), e⟩)

end Go.Proofs.YtcolhmddhaabnaaDoor
