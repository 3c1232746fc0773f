/- DiskKeeps answers true for every list of acts and every last act, and the arguments read afterwards as before. Conditions: the three listed errors hold what the program's text lays. -/
import Derived.Test.YtcolhmddhaabnaaDoorKeep2
import Derived.SevenTiedAt
set_option linter.unusedVariables false
set_option maxRecDepth 100000
namespace Go.Proofs.YtcolhmddhaabnaaDoor.keeps
open Go.H
open Go.ChangeShapes Go.WideShapes Go.ChangeAt Go.RowKit

theorem own : ownKnob Tryd.prog.godebug = none := by kernel_rfl
theorem laidOut : laidOutB Tryd.prog = true := by kernel_rfl
theorem p3 : Tryd.f3.params.toList = [22, 26] := by kernel_rfl
theorem r3 : Tryd.f3.resultTypes = #[4] := by kernel_rfl
theorem readable3 : ∀ t ∈ Tryd.f3.params.toList, Tryd.prog.readableRec t = true ∧ t < Tryd.prog.types.size := by
  rw [p3]
  intro t ht
  have h : ([22, 26].all fun t => Tryd.prog.readableRec t && decide (t < Tryd.prog.types.size)) = true := by kernel_rfl
  have := List.all_eq_true.1 h t ht
  simpa using this
theorem g0 : Tryd.prog.globalNamed "bulla/api.ErrRange" = some 0 := by kernel_rfl
theorem g1 : Tryd.prog.globalNamed "bulla/api.ErrFull" = some 1 := by kernel_rfl
theorem g2 : Tryd.prog.globalNamed "bulla/api.ErrDown" = some 2 := by kernel_rfl
theorem gt0 : (Tryd.prog.globals[0]?).map (·.type) = some 31 := by kernel_rfl
theorem gt1 : (Tryd.prog.globals[1]?).map (·.type) = some 31 := by kernel_rfl
theorem gt2 : (Tryd.prog.globals[2]?).map (·.type) = some 31 := by kernel_rfl
theorem errs {W : World} (h : laidMetH Tryd.prog Rows.diskKeepsRow.laid W) : ∃ e, ErrsAt own0 (hp W) e := by
  rw [MakeChecks.laidMetH_plain _ _ _ (by kernel_rfl)] at h
  have h0 := Lib.laidMet.reads h (.head _)
  have h2 := Lib.laidMet.reads h (.tail _ (.head _))
  have h1 := Lib.laidMet.reads h (.tail _ (.tail _ (.head _)))
  obtain ⟨e0, k0⟩ := err_of g0 gt0 h0
  obtain ⟨e1, k1⟩ := err_of g1 gt1 h1
  obtain ⟨e2, k2⟩ := err_of g2 gt2 h2
  exact ⟨⟨e0, e1, e2⟩, k0, k1, k2⟩
/-- Without ownership: what a step of the law leaves stands as it was. -/
theorem kept_of {W W' : World} {o' : Own} (s : Step Mut own0 (hp W) o' (hp W')) : Kept W W' := by
  intro b o hb
  have h1 : hp W b ≠ none := by unfold hp; rw [hb]; simp
  have := s.keeps b h1 (fun h => h rfl)
  unfold hp at this
  rw [this, hb]
/-- The contract of the law. -/
theorem contract (H : Type) (enc : TypeId × Value → H) (W : World) (base : Nat) (args : Array Value) (ds gs : List (DataW H)) (before : List MemPlace)
    (hval : ∀ (j : Nat) t v, Tryd.f3.params[j]? = some t → args[j]? = some v → Value.okWide Tryd.prog W .any base t v)
    (hW : DataW.Whole enc Tryd.prog Tryd.f3.params.toList Rows.diskKeepsSpec.vars false W args.toList ds gs before) (hL : laidMetH Tryd.prog Rows.diskKeepsRow.laid W) :
    Calls Tryd.prog 3 args W fun e W' => ∃ v, e = .returned v ∧ Rows.diskKeepsSpec.post enc Tryd.prog Tryd.f3 false true false false W args v W' := by
  have hW' := hW
  obtain ⟨p, q, hA0, hV, _, _, _⟩ := hW
  have hA : DataW.TrodAll enc Tryd.prog W 0 (fun _ => true) true Tryd.f3.params.toList args.toList ds p := hA0
  have hp3 : Tryd.f3.params = #[22, 26] := by rw [← Array.toArray_toList (xs := Tryd.f3.params), p3]
  rw [p3] at hA
  obtain ⟨v0, vs0, d0, ds0, p0, q0, hargs, rfl, _, ⟨fu0, h0⟩, r0⟩ := trodAll_cons hA
  obtain ⟨v1, vs1, d1, ds1, p1, q1, rfl, rfl, _, ⟨fu1, h1⟩, r1⟩ := trodAll_cons r0
  obtain ⟨rfl, rfl, rfl⟩ := trodAll_nil r1
  obtain rfl : args = #[v0, v1] := by cases args; simp_all
  rw [hp3] at hval
  obtain ⟨a, n, c, rfl⟩ := okWide_slice und22 (hval 0 22 v0 rfl rfl)
  obtain ⟨fs, hfs⟩ : ∃ fs, Tryd.prog.underlying 26 = some (.struct fs) := by
    have hf := fields26
    unfold fieldsB at hf
    split at hf
    · rename_i gs hg; exact ⟨gs, hg⟩
    · cases hf
  obtain ⟨cs, rfl, hcs⟩ := okWide_struct hfs (hval 1 26 v1 rfl rfl)
  obtain ⟨y, ba, bn, bcap, hy, _⟩ := act_open (w := W) (cs := cs.toList) (fuel := fu1) (x := (d1, p1)) h1 (by rw [Array.length_toList, hcs, cells26])
  have hacts : ∃ l, ActsAt own0 (hp W) a n c l := by
    obtain ⟨a', n', c', l, xs, e1, e2, e3⟩ := slice_rows (ActAt own0 (hp W)) und22 cells26 (by omega) (fun n cs x hx hl => act_open hx hl) h0
    have e4 : [Value.slice a n c] = [Value.slice a' n' c'] := e1
    cases e4
    exact ⟨l, xs, e2, e3⟩
  obtain ⟨l, hl⟩ := hacts
  obtain ⟨e, he⟩ := errs hL
  obtain rfl : cs = #[.int .i64 y.kind, .int .i64 y.area, .int .i64 y.pos, .int .i64 y.torn, .int .u64 y.scat, .slice ba bn bcap] := by
    rw [← Array.toArray_toList (xs := cs), hy]
  have key : Go.H.Spec Tryd.prog 3 #[.slice a n c, .agg #[.int .i64 y.kind, .int .i64 y.area, .int .i64 y.pos, .int .i64 y.torn, .int .u64 y.scat, .slice ba bn bcap]] (hp W) (fun v h' => v = .bool true ∧ ∃ o', Step Mut own0 (hp W) o' h') :=
    keeps_ok he hl fun o' h' s => ⟨rfl, o', s⟩
  refine (key.2 W rfl).mono fun e W' ⟨v, he, ⟨hv, o', hs⟩, hS⟩ => ?_
  subst hv
  exact ⟨_, he, law_post laidOut readable3 r3 und4 rfl rfl hW' (kept_of hs) hS⟩

noncomputable abbrev wargs : Array Value := #[.slice none 0 0, .agg #[.int .i64 0, .int .i64 0, .int .i64 0, .int .i64 0, .int .u64 0, .slice none 0 0]]
theorem laid_met (os : Os) : laidMet Tryd.prog Rows.diskKeepsRow.laid ((World.doorLaid Tryd.prog 551 os).forCall (fun _ _ => 0) ⟨#[], wargs, []⟩).memory :=
  laidMet_of_run' 8 (by kernel_rfl) (by kernel_rfl)
theorem reads (os : Os) {H : Type} (enc : TypeId × Value → H) : ∃ places, DataW.whole enc Tryd.prog ((World.doorLaid Tryd.prog 551 os).forCall (fun _ _ => 0) ⟨#[], wargs, []⟩).memory Tryd.f3.params.toList Rows.diskKeepsSpec.vars false wargs.toList 8 =
    some ([.nil, .agg [.lit (.int .i64 0), .lit (.int .i64 0), .lit (.int .i64 0), .lit (.int .i64 0), .lit (.int .u64 0), .nil]], [], places) :=
  ⟨[], by kernel_rfl⟩
theorem lifted (os : Os) (started : os.Started) (H : Type) (enc : TypeId × Value → H) (F : Stop.Interp) :
    ReturnsInHanded {} Tryd.checked os 3 .any ((OpenSpec.ofChange Rows.diskKeepsSpec).preRow enc Tryd.prog Tryd.f3 Rows.diskKeepsRow.domain false Rows.diskKeepsRow.laid) (((OpenSpec.ofChange Rows.diskKeepsSpec).at F).post enc Tryd.prog Tryd.f3 false true false false) := by
  obtain ⟨places, hx⟩ := reads os enc
  refine returnsInHanded_of_row (C := Tryd.checked) (s := OpenSpec.ofChange Rows.diskKeepsSpec) own started (by kernel_rfl) Tryd.func3
    (witness_row_atRef (enc := enc) (C := Tryd.checked) false (World.doorLaid Tryd.prog 551 os) wargs rfl (by kernel_rfl) (by kernel_rfl) (by kernel_rfl)
      (OpenSpec.preRow_of_cond 8 hx (by kernel_rfl) (fun k hk => by cases hk) (by kernel_rfl) (laid_met os))) ?_
  intro W base args ds gs before hval hW _ _ _ hL _ _
  exact contract H enc W base args ds gs before hval hW hL
theorem said : Rows.DiskKeepsSaid :=
  OpenClaim.holds_of_cond 3 Tryd.f3 rfl rfl rfl rfl rfl rfl rfl ⟨rfl, rfl, rfl, rfl, rfl⟩ rfl rfl rfl rfl rfl (by kernel_rfl) Tryd.func3 (by kernel_rfl)
    (of_decide_eq_true (by kernel_rfl)) (by unfold Func.isWrapper; first | (rw [if_pos (by decide +kernel)]; kernel_rfl) | (rw [if_neg (by decide +kernel)]; exact ⟨rfl, rfl⟩))
    (fun os started H enc _ F => by rw [OpenClaim.pre_eq_preRow]; exact lifted os started H enc F)
theorem plain (f : FuncId) (fn : Func) (hf : Tryd.pinned.checked.prog.funcNamed "bulla/bullalaw17.DiskKeeps" = some f) (hfn : Tryd.pinned.checked.prog.funcs[f]? = some fn) :
    true = Tryd.pinned.checked.prog.looks [] ∧ ∀ (j : Nat) t, fn.params[j]? = some t → Tryd.pinned.checked.prog.wantsStandIn t = false := by
  obtain rfl : f = 3 := Option.some.inj ((show Tryd.prog.funcNamed "bulla/bullalaw17.DiskKeeps" = some 3 by kernel_rfl).symm.trans hf) |>.symm
  obtain rfl : fn = Tryd.f3 := (Option.some.inj (Tryd.func3.symm.trans hfn)).symm
  refine ⟨by kernel_rfl, fun j t ht => ?_⟩
  have hm : t ∈ Tryd.f3.params.toList := by rw [Array.mem_toList_iff]; exact Array.mem_of_getElem? ht
  rw [p3] at hm
  have hall : ([22, 26].all fun u => !Tryd.prog.wantsStandIn u) = true := by kernel_rfl
  exact (show Tryd.prog.wantsStandIn t = false by simpa using List.all_eq_true.1 hall t hm)
end Go.Proofs.YtcolhmddhaabnaaDoor.keeps
namespace Go.Proofs.YtcolhmddhaabnaaDoor
/-- DiskKeeps: its tied card. -/
theorem diskKeeps_holds : Rows.DiskKeepsCardSaid :=
  Claim7.holds_tied_plain_at .later [] _ _ _ _ keeps.said (fun _ h => by cases h) (by kernel_rfl) (fun _ h => by cases h) diskKeeps_row_tie rfl ⟨rfl, rfl⟩ (by kernel_rfl) rfl keeps.plain (by kernel_rfl)
#print axioms diskKeeps_holds
end Go.Proofs.YtcolhmddhaabnaaDoor
