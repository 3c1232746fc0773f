/- WalPower answers true for all lists of acts, every power and every crash, and the arguments read afterwards as before. Conditions: the listed errors and the two tables of sha hold what the program's text lays. -/
import Derived.Test.YtcolhmddhaabnaaDoorSnt
set_option linter.unusedVariables false
set_option maxRecDepth 100000
namespace Go.Proofs.YtcolhmddhaabnaaDoor.power
open Go.H
open Go.ChangeShapes Go.WideShapes Go.ChangeAt Go.RowKit
theorem p5 : Tryd.f5.params.toList = [45, 3, 51] := by kernel_rfl
theorem r5 : Tryd.f5.resultTypes = #[4] := by kernel_rfl
theorem readable5 : ∀ t ∈ Tryd.f5.params.toList, Tryd.prog.readableRec t = true ∧ t < Tryd.prog.types.size := by
  rw [p5]
  intro t ht
  have h : ([45, 3, 51].all fun t => Tryd.prog.readableRec t && decide (t < Tryd.prog.types.size)) = true := by kernel_rfl
  have := List.all_eq_true.1 h t ht
  simpa using this
theorem contract (H : Type) (enc : TypeId × Value → H) (W : World) (base : Nat) (args : Array Value) (ds gs : List (DataW H)) (before : List MemPlace)
    (hval : ∀ (j : Nat) t v, Tryd.f5.params[j]? = some t → args[j]? = some v → Value.okWide Tryd.prog W .any base t v)
    (hW : DataW.Whole enc Tryd.prog Tryd.f5.params.toList Rows.walPowerSpec.vars false W args.toList ds gs before) (hL : laidMetH Tryd.prog Rows.walPowerRow.laid W) :
    Calls Tryd.prog 5 args W fun e W' => ∃ v, e = .returned v ∧ Rows.walPowerSpec.post enc Tryd.prog Tryd.f5 false true false false W args v W' := by
  have hW' := hW
  obtain ⟨p, q, hA0, hV, _, _, _⟩ := hW
  have hA : DataW.TrodAll enc Tryd.prog W 0 (fun _ => true) true Tryd.f5.params.toList args.toList ds p := hA0
  have hp5 : Tryd.f5.params = #[45, 3, 51] := by rw [← Array.toArray_toList (xs := Tryd.f5.params), p5]
  rw [p5] at hA
  obtain ⟨v0, vs0, d0, ds0, p0, q0, hargs, rfl, _, ⟨fu0, h0⟩, r0⟩ := trodAll_cons hA
  obtain ⟨v1, vs1, d1, ds1, p1, q1, rfl, rfl, _, ⟨fu1, h1⟩, r1⟩ := trodAll_cons r0
  obtain ⟨v2, vs2, d2, ds2, p2, q2, rfl, rfl, _, ⟨fu2, h2⟩, r2⟩ := trodAll_cons r1
  obtain ⟨rfl, rfl, rfl⟩ := trodAll_nil r2
  obtain rfl : args = #[v0, v1, v2] := by cases args; simp_all
  rw [hp5] at hval
  obtain ⟨l, ln, lc, rfl⟩ := okWide_slice und45 (hval 0 45 v0 rfl rfl)
  obtain ⟨power, rfl⟩ := okWide_int und3 (hval 1 3 v1 rfl rfl)
  obtain ⟨fs, hfs⟩ : ∃ fs, Tryd.prog.underlying 51 = some (.struct fs) := by
    have hf := fields51
    unfold fieldsB at hf
    split at hf
    · rename_i gs hg; exact ⟨gs, hg⟩
    · cases hf
  obtain ⟨cs, rfl, hcs⟩ := okWide_struct hfs (hval 2 51 v2 rfl rfl)
  obtain ⟨y, ba, bn, bcap, hy, _⟩ := bct_open (w := W) (cs := cs.toList) (fuel := fu2) (x := (d2, p2)) h2 (by rw [Array.length_toList, hcs, cells51])
  obtain rfl : cs = #[.int .i64 y.kind, .int .i64 y.n, .int .i64 y.torn, .int .u64 y.scat, .slice ba bn bcap] := by
    rw [← Array.toArray_toList (xs := cs), hy]
  obtain ⟨bs, hl⟩ := bcts_open h0
  rw [MakeChecks.laidMetH_plain _ _ _ (by kernel_rfl)] at hL
  obtain ⟨ad, hN⟩ := num_env hL
  have hc := sha_of hL
  have key : Go.H.Spec Tryd.prog 5 #[.slice l ln lc, .int .i64 power, .agg #[.int .i64 y.kind, .int .i64 y.n, .int .i64 y.torn, .int .u64 y.scat, .slice ba bn bcap]] (hp W) (fun v h' => v = .bool true ∧ ∃ o', Step Mut own0 (hp W) o' h') :=
    power_ok hN hc hl fun o' h' s => ⟨rfl, o', s⟩
  refine (key.2 W rfl).mono fun e W' ⟨v, he, ⟨hv, o', hs⟩, hS⟩ => ?_
  subst hv
  exact ⟨_, he, law_post laidOut readable5 r5 und4 rfl rfl hW' (kept_of hs) hS⟩

noncomputable abbrev wargs : Array Value := #[.slice none 0 0, .int .i64 0, .agg #[.int .i64 0, .int .i64 0, .int .i64 0, .int .u64 0, .slice none 0 0]]
theorem laid_met (os : Os) : laidMet Tryd.prog Rows.walPowerRow.laid ((World.doorLaid Tryd.prog 551 os).forCall (fun _ _ => 0) ⟨#[], wargs, []⟩).memory :=
  laidMet_of_run' 8 (by kernel_rfl) (by kernel_rfl)
theorem reads (os : Os) {H : Type} (enc : TypeId × Value → H) : ∃ places, DataW.whole enc Tryd.prog ((World.doorLaid Tryd.prog 551 os).forCall (fun _ _ => 0) ⟨#[], wargs, []⟩).memory Tryd.f5.params.toList Rows.walPowerSpec.vars false wargs.toList 8 =
    some ([.nil, .lit (.int .i64 0), .agg [.lit (.int .i64 0), .lit (.int .i64 0), .lit (.int .i64 0), .lit (.int .u64 0), .nil]], [], places) :=
  ⟨[], by kernel_rfl⟩
theorem lifted (os : Os) (started : os.Started) (H : Type) (enc : TypeId × Value → H) (F : Stop.Interp) :
    ReturnsInHanded {} Tryd.checked os 5 .any ((OpenSpec.ofChange Rows.walPowerSpec).preRow enc Tryd.prog Tryd.f5 Rows.walPowerRow.domain false Rows.walPowerRow.laid) (((OpenSpec.ofChange Rows.walPowerSpec).at F).post enc Tryd.prog Tryd.f5 false true false false) := by
  obtain ⟨places, hx⟩ := reads os enc
  refine returnsInHanded_of_row (C := Tryd.checked) (s := OpenSpec.ofChange Rows.walPowerSpec) own started (by kernel_rfl) Tryd.func5
    (witness_row_atRef (enc := enc) (C := Tryd.checked) false (World.doorLaid Tryd.prog 551 os) wargs rfl (by kernel_rfl) (by kernel_rfl) (by kernel_rfl)
      (OpenSpec.preRow_of_cond 8 hx (by kernel_rfl) (fun k hk => by cases hk) (by kernel_rfl) (laid_met os))) ?_
  intro W base args ds gs before hval hW _ _ _ hL _ _
  exact contract H enc W base args ds gs before hval hW hL
theorem said : Rows.WalPowerSaid :=
  OpenClaim.holds_of_cond 5 Tryd.f5 rfl rfl rfl rfl rfl rfl rfl ⟨rfl, rfl, rfl, rfl, rfl⟩ rfl rfl rfl rfl rfl (by kernel_rfl) Tryd.func5 (by kernel_rfl)
    (of_decide_eq_true (by kernel_rfl)) (by unfold Func.isWrapper; first | (rw [if_pos (by decide +kernel)]; kernel_rfl) | (rw [if_neg (by decide +kernel)]; exact ⟨rfl, rfl⟩))
    (fun os started H enc _ F => by rw [OpenClaim.pre_eq_preRow]; exact lifted os started H enc F)
theorem plain (f : FuncId) (fn : Func) (hf : Tryd.pinned.checked.prog.funcNamed "bulla/bullalaw18.WalPower" = some f) (hfn : Tryd.pinned.checked.prog.funcs[f]? = some fn) :
    true = Tryd.pinned.checked.prog.looks [] ∧ ∀ (j : Nat) t, fn.params[j]? = some t → Tryd.pinned.checked.prog.wantsStandIn t = false := by
  obtain rfl : f = 5 := Option.some.inj ((show Tryd.prog.funcNamed "bulla/bullalaw18.WalPower" = some 5 by kernel_rfl).symm.trans hf) |>.symm
  obtain rfl : fn = Tryd.f5 := (Option.some.inj (Tryd.func5.symm.trans hfn)).symm
  refine ⟨by kernel_rfl, fun j t ht => ?_⟩
  have hm : t ∈ Tryd.f5.params.toList := by rw [Array.mem_toList_iff]; exact Array.mem_of_getElem? ht
  rw [p5] at hm
  have hall : ([45, 3, 51].all fun u => !Tryd.prog.wantsStandIn u) = true := by kernel_rfl
  exact (show Tryd.prog.wantsStandIn t = false by simpa using List.all_eq_true.1 hall t hm)
end Go.Proofs.YtcolhmddhaabnaaDoor.power
namespace Go.Proofs.YtcolhmddhaabnaaDoor
/-- WalPower: its tied card. -/
theorem walPower_holds : Rows.WalPowerCardSaid :=
  Claim7.holds_tied_plain_at .later [] _ _ _ _ power.said (fun _ h => by cases h) (by kernel_rfl) (fun _ h => by cases h) walPower_row_tie rfl ⟨rfl, rfl⟩ (by kernel_rfl) rfl power.plain (by kernel_rfl)
#print axioms walPower_holds
end Go.Proofs.YtcolhmddhaabnaaDoor
