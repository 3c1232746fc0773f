/- WalAgain answers true for all areas and all acts, and the arguments read afterwards as before. Conditions: the listed errors and the two tables of sha hold what the program's text lays. -/
import Derived.Test.YtcolhmddhaabnaaDoorKeep2
import Derived.Test.YtcolhmddhaabnaaDoorAg1
import Derived.SevenTiedAt
import Derived.Lib.LaidTab
set_option linter.unusedVariables false
set_option maxRecDepth 100000
namespace Go.Proofs.YtcolhmddhaabnaaDoor
open Go.H
open Go.ChangeShapes Go.WideShapes Go.ChangeAt Go.RowKit
theorem fields51 : fieldsB Tryd.prog 51 = some [(3, 0), (3, 1), (3, 2), (23, 3), (24, 4)] := by kernel_rfl
theorem und44 : Tryd.prog.underlying 44 = some (.slice 24) := by kernel_rfl
theorem und45 : Tryd.prog.underlying 45 = some (.slice 51) := by kernel_rfl
theorem und138 : Tryd.prog.underlying 138 = some (.int .u32) := by kernel_rfl
theorem und140 : Tryd.prog.underlying 140 = some (.array 8 138) := by kernel_rfl
theorem und146 : Tryd.prog.underlying 146 = some (.array 64 138) := by kernel_rfl
theorem cells51 : Tryd.prog.cellsOf 51 = 5 := by kernel_rfl
theorem cells138 : Tryd.prog.cellsOf 138 = 1 := by kernel_rfl
theorem cells140 : Tryd.prog.cellsOf 140 = 8 := by kernel_rfl
theorem cells146 : Tryd.prog.cellsOf 146 = 64 := by kernel_rfl
section
variable {H : Type} {enc : TypeId × Value → H} {w : World} {base : Nat} {spare : Nat → Bool} {held : Bool}
theorem bct_open {fuel : Nat} {cs : List Value} {x : DataW H × List MemPlace} (h : DataW.trod enc Tryd.prog w base spare held fuel 51 cs = some x) (hl : cs.length = 5) : ∃ y : Bct, BctAt own0 (hp w) y cs := by
  have hf := struct_open fields51 h
  match cs, hl with
  | [c0, c1, c2, c3, c4], _ =>
    obtain ⟨n0, y0, e0⟩ := hf 0 3 0 rfl
    obtain ⟨n1, y1, e1⟩ := hf 1 3 1 rfl
    obtain ⟨n2, y2, e2⟩ := hf 2 3 2 rfl
    obtain ⟨n3, y3, e3⟩ := hf 3 23 3 rfl
    obtain ⟨n4, y4, e4⟩ := hf 4 24 4 rfl
    rw [cells3] at e0 e1 e2
    rw [cells23] at e3
    rw [cells24] at e4
    obtain ⟨a0, f0⟩ := tr_int und3 e0
    obtain ⟨a1, f1⟩ := tr_int und3 e1
    obtain ⟨a2, f2⟩ := tr_int und3 e2
    obtain ⟨a3, f3⟩ := tr_int und23 e3
    obtain ⟨a, n, c, l, f5, f6⟩ := bytes_open und24 und5 cells5 e4
    simp only [List.drop, List.take, List.cons.injEq, and_true] at f0 f1 f2 f3 f5
    subst f0 f1 f2 f3 f5
    exact ⟨⟨a0, a1, a2, a3, l⟩, a, n, c, rfl, f6⟩
theorem parts_open {fuel : Nat} {a : Option Addr} {n c : Nat} {x : DataW H × List MemPlace} (h : DataW.trod enc Tryd.prog w base spare held fuel 44 [.slice a n c] = some x) : ∃ l, PartsAt own0 (hp w) (0, 0) a n c l := by
  obtain ⟨a', n', c', l, xs, e1, e2, e3⟩ := slice_rows (PartAt own0 (hp w)) und44 cells24 (by omega) (fun n cs x hx hl => by
    obtain ⟨a, n, c, l, e1, e2⟩ := bytes_open und24 und5 cells5 hx
    exact ⟨l, a, n, c, e1, e2⟩) h
  cases e1
  exact ⟨l, xs, e2, e3⟩
theorem bcts_open {fuel : Nat} {a : Option Addr} {n c : Nat} {x : DataW H × List MemPlace} (h : DataW.trod enc Tryd.prog w base spare held fuel 45 [.slice a n c] = some x) : ∃ l, BctsAt own0 (hp w) a n c l := by
  obtain ⟨a', n', c', l, xs, e1, e2, e3⟩ := slice_rows (BctAt own0 (hp w)) und45 cells51 (by omega) (fun n cs x hx hl => bct_open hx hl) h
  cases e1
  exact ⟨l, xs, e2, e3⟩
end
/-- A table in a listed variable. -/
theorem tab_of {W : World} {name : String} {g n : Nat} {t : TypeId} {zs : List Int} (hg : Tryd.prog.globalNamed name = some g) (ht : (Tryd.prog.globals[g]?).map (·.type) = some t) (hu : Tryd.prog.underlying t = some (.array n 138)) (hc : Tryd.prog.cellsOf t = n)
    (h : Lib.VarReads Tryd.prog W name (Lib.tabData .u32 zs)) : ∃ cs E fr, hp W g = some (.cells cs E fr) ∧ ∀ j, j < zs.length → cs[j]? = some (u32 (zs.getD j 0)) := by
  obtain ⟨g', t', cs, fuel, p, h1, h2, h3, h4⟩ := h
  rw [hg] at h1
  cases h1
  rw [ht] at h2
  cases h2
  have hcs := Lib.cells_of_tab hu und138 cells138 hc h4
  unfold World.var? at h3
  rw [hg] at h3
  simp only [Option.bind_some] at h3
  split at h3
  · rename_i cs' E fr hb
    cases h3
    refine ⟨cs, E, fr, hb, fun j hj => ?_⟩
    rw [← Array.getElem?_toList, hcs]
    simp [hj]
  · cases h3
theorem own : ownKnob Tryd.prog.godebug = none := by kernel_rfl
theorem laidOut : laidOutB Tryd.prog = true := by kernel_rfl
theorem g0 : Tryd.prog.globalNamed "bulla/api.ErrRange" = some 0 := by kernel_rfl
theorem g1 : Tryd.prog.globalNamed "bulla/api.ErrFull" = some 1 := by kernel_rfl
theorem g2 : Tryd.prog.globalNamed "bulla/api.ErrDown" = some 2 := by kernel_rfl
theorem g4 : Tryd.prog.globalNamed "bulla/api.ErrLong" = some 4 := by kernel_rfl
theorem g28 : Tryd.prog.globalNamed "bulla/sha.first" = some 28 := by kernel_rfl
theorem g29 : Tryd.prog.globalNamed "bulla/sha.constants" = some 29 := by kernel_rfl
theorem gt0 : (Tryd.prog.globals[0]?).map (·.type) = some 31 := by kernel_rfl
theorem gt1 : (Tryd.prog.globals[1]?).map (·.type) = some 31 := by kernel_rfl
theorem gt2 : (Tryd.prog.globals[2]?).map (·.type) = some 31 := by kernel_rfl
theorem gt4 : (Tryd.prog.globals[4]?).map (·.type) = some 31 := by kernel_rfl
theorem gt28 : (Tryd.prog.globals[28]?).map (·.type) = some 140 := by kernel_rfl
theorem gt29 : (Tryd.prog.globals[29]?).map (·.type) = some 146 := by kernel_rfl
def firstZ : List Int := match (Rows.laid_bulla_sha_first : DataW Unit) with
  | .agg l => l.map fun d => match d with | .lit (.int .u32 n) => n | _ => 0
  | _ => []
def consZ : List Int := match (Rows.laid_bulla_sha_constants : DataW Unit) with
  | .agg l => l.map fun d => match d with | .lit (.int .u32 n) => n | _ => 0
  | _ => []
theorem firstZ_tab : (Rows.laid_bulla_sha_first : DataW Unit) = Lib.tabData .u32 firstZ := by kernel_rfl
theorem consZ_tab : (Rows.laid_bulla_sha_constants : DataW Unit) = Lib.tabData .u32 consZ := by kernel_rfl
def shaC : ShaC := ⟨fun i => consZ.getD i 0, fun i => firstZ.getD i 0⟩
theorem sha_env {W : World} (h1 : Lib.VarReads Tryd.prog W "bulla/sha.first" Rows.laid_bulla_sha_first) (h2 : Lib.VarReads Tryd.prog W "bulla/sha.constants" Rows.laid_bulla_sha_constants) : ShaAt own0 (hp W) shaC := by
  rw [firstZ_tab] at h1
  rw [consZ_tab] at h2
  obtain ⟨cs, E, fr, a1, a2⟩ := tab_of g28 gt28 und140 cells140 h1
  obtain ⟨cs', E', fr', b1, b2⟩ := tab_of g29 gt29 und146 cells146 h2
  exact ⟨rfl, ⟨cs, E, fr, a1, fun j hj => a2 j (by rw [show firstZ.length = 8 by decide]; exact hj)⟩, rfl, ⟨cs', E', fr', b1, fun j hj => b2 j (by rw [show consZ.length = 64 by decide]; exact hj)⟩⟩
/-- What a step of a law leaves stands as it was. -/
theorem kept_of {W W' : World} {o' : Own} (s : Step Mut own0 (hp W) o' (hp W')) : Kept W W' := by
  intro b o hb
  have h1 : hp W b ≠ none := by unfold hp; rw [hb]; simp
  have := s.keeps b h1 (fun h => h rfl)
  unfold hp at this
  rw [this, hb]
end Go.Proofs.YtcolhmddhaabnaaDoor
namespace Go.Proofs.YtcolhmddhaabnaaDoor.again
open Go.H
open Go.ChangeShapes Go.WideShapes Go.ChangeAt Go.RowKit
theorem p4 : Tryd.f4.params.toList = [44, 45] := by kernel_rfl
theorem r4 : Tryd.f4.resultTypes = #[4] := by kernel_rfl
theorem readable4 : ∀ t ∈ Tryd.f4.params.toList, Tryd.prog.readableRec t = true ∧ t < Tryd.prog.types.size := by
  rw [p4]
  intro t ht
  have h : ([44, 45].all fun t => Tryd.prog.readableRec t && decide (t < Tryd.prog.types.size)) = true := by kernel_rfl
  have := List.all_eq_true.1 h t ht
  simpa using this
theorem env {W : World} (h : laidMetH Tryd.prog Rows.walAgainRow.laid W) : ∃ e lg, WEnv own0 (hp W) e lg shaC := by
  rw [MakeChecks.laidMetH_plain _ _ _ (by kernel_rfl)] at h
  have h0 := Lib.laidMet.reads h (.head _)
  have h4 := Lib.laidMet.reads h (.tail _ (.head _))
  have h2 := Lib.laidMet.reads h (.tail _ (.tail _ (.tail _ (.head _))))
  have h1 := Lib.laidMet.reads h (.tail _ (.tail _ (.tail _ (.tail _ (.head _)))))
  have hk := Lib.laidMet.reads h (.tail _ (.tail _ (.tail _ (.tail _ (.tail _ (.head _))))))
  have hf := Lib.laidMet.reads h (.tail _ (.tail _ (.tail _ (.tail _ (.tail _ (.tail _ (.head _)))))))
  obtain ⟨e0, k0⟩ := err_of g0 gt0 h0
  obtain ⟨e1, k1⟩ := err_of g1 gt1 h1
  obtain ⟨e2, k2⟩ := err_of g2 gt2 h2
  obtain ⟨e4, k4⟩ := err_of g4 gt4 h4
  exact ⟨⟨e0, e1, e2⟩, e4, ⟨k0, k1, k2⟩, k4, sha_env hf hk⟩
theorem contract (H : Type) (enc : TypeId × Value → H) (W : World) (base : Nat) (args : Array Value) (ds gs : List (DataW H)) (before : List MemPlace)
    (hval : ∀ (j : Nat) t v, Tryd.f4.params[j]? = some t → args[j]? = some v → Value.okWide Tryd.prog W .any base t v)
    (hW : DataW.Whole enc Tryd.prog Tryd.f4.params.toList Rows.walAgainSpec.vars false W args.toList ds gs before) (hL : laidMetH Tryd.prog Rows.walAgainRow.laid W) :
    Calls Tryd.prog 4 args W fun e W' => ∃ v, e = .returned v ∧ Rows.walAgainSpec.post enc Tryd.prog Tryd.f4 false true false false W args v W' := by
  have hW' := hW
  obtain ⟨p, q, hA0, hV, _, _, _⟩ := hW
  have hA : DataW.TrodAll enc Tryd.prog W 0 (fun _ => true) true Tryd.f4.params.toList args.toList ds p := hA0
  have hp4 : Tryd.f4.params = #[44, 45] := by rw [← Array.toArray_toList (xs := Tryd.f4.params), p4]
  rw [p4] at hA
  obtain ⟨v0, vs0, d0, ds0, p0, q0, hargs, rfl, _, ⟨fu0, h0⟩, r0⟩ := trodAll_cons hA
  obtain ⟨v1, vs1, d1, ds1, p1, q1, rfl, rfl, _, ⟨fu1, h1⟩, r1⟩ := trodAll_cons r0
  obtain ⟨rfl, rfl, rfl⟩ := trodAll_nil r1
  obtain rfl : args = #[v0, v1] := by cases args; simp_all
  rw [hp4] at hval
  obtain ⟨a, n, c, rfl⟩ := okWide_slice und44 (hval 0 44 v0 rfl rfl)
  obtain ⟨l, ln, lc, rfl⟩ := okWide_slice und45 (hval 1 45 v1 rfl rfl)
  obtain ⟨ars, ha⟩ := parts_open h0
  obtain ⟨bs, hl⟩ := bcts_open h1
  obtain ⟨e, lg, hw⟩ := env hL
  have key : Go.H.Spec Tryd.prog 4 #[.slice a n c, .slice l ln lc] (hp W) (fun v h' => v = .bool true ∧ ∃ o', Step Mut own0 (hp W) o' h') :=
    again_ok hw ha hl fun o' h' s => ⟨rfl, o', s⟩
  refine (key.2 W rfl).mono fun e W' ⟨v, he, ⟨hv, o', hs⟩, hS⟩ => ?_
  subst hv
  exact ⟨_, he, law_post laidOut readable4 r4 und4 rfl rfl hW' (kept_of hs) hS⟩
noncomputable abbrev wargs : Array Value := #[.slice none 0 0, .slice none 0 0]
theorem laid_met (os : Os) : laidMet Tryd.prog Rows.walAgainRow.laid ((World.doorLaid Tryd.prog 551 os).forCall (fun _ _ => 0) ⟨#[], wargs, []⟩).memory :=
  laidMet_of_run' 8 (by kernel_rfl) (by kernel_rfl)
theorem reads (os : Os) {H : Type} (enc : TypeId × Value → H) : ∃ places, DataW.whole enc Tryd.prog ((World.doorLaid Tryd.prog 551 os).forCall (fun _ _ => 0) ⟨#[], wargs, []⟩).memory Tryd.f4.params.toList Rows.walAgainSpec.vars false wargs.toList 8 =
    some ([.nil, .nil], [], places) :=
  ⟨[], by kernel_rfl⟩
theorem lifted (os : Os) (started : os.Started) (H : Type) (enc : TypeId × Value → H) (F : Stop.Interp) :
    ReturnsInHanded {} Tryd.checked os 4 .any ((OpenSpec.ofChange Rows.walAgainSpec).preRow enc Tryd.prog Tryd.f4 Rows.walAgainRow.domain false Rows.walAgainRow.laid) (((OpenSpec.ofChange Rows.walAgainSpec).at F).post enc Tryd.prog Tryd.f4 false true false false) := by
  obtain ⟨places, hx⟩ := reads os enc
  refine returnsInHanded_of_row (C := Tryd.checked) (s := OpenSpec.ofChange Rows.walAgainSpec) own started (by kernel_rfl) Tryd.func4
    (witness_row_atRef (enc := enc) (C := Tryd.checked) false (World.doorLaid Tryd.prog 551 os) wargs rfl (by kernel_rfl) (by kernel_rfl) (by kernel_rfl)
      (OpenSpec.preRow_of_cond 8 hx (by kernel_rfl) (fun k hk => by cases hk) (by kernel_rfl) (laid_met os))) ?_
  intro W base args ds gs before hval hW _ _ _ hL _ _
  exact contract H enc W base args ds gs before hval hW hL
theorem said : Rows.WalAgainSaid :=
  OpenClaim.holds_of_cond 4 Tryd.f4 rfl rfl rfl rfl rfl rfl rfl ⟨rfl, rfl, rfl, rfl, rfl⟩ rfl rfl rfl rfl rfl (by kernel_rfl) Tryd.func4 (by kernel_rfl)
    (of_decide_eq_true (by kernel_rfl)) (by unfold Func.isWrapper; first | (rw [if_pos (by decide +kernel)]; kernel_rfl) | (rw [if_neg (by decide +kernel)]; exact ⟨rfl, rfl⟩))
    (fun os started H enc _ F => by rw [OpenClaim.pre_eq_preRow]; exact lifted os started H enc F)
theorem plain (f : FuncId) (fn : Func) (hf : Tryd.pinned.checked.prog.funcNamed "bulla/bullalaw18.WalAgain" = some f) (hfn : Tryd.pinned.checked.prog.funcs[f]? = some fn) :
    true = Tryd.pinned.checked.prog.looks [] ∧ ∀ (j : Nat) t, fn.params[j]? = some t → Tryd.pinned.checked.prog.wantsStandIn t = false := by
  obtain rfl : f = 4 := Option.some.inj ((show Tryd.prog.funcNamed "bulla/bullalaw18.WalAgain" = some 4 by kernel_rfl).symm.trans hf) |>.symm
  obtain rfl : fn = Tryd.f4 := (Option.some.inj (Tryd.func4.symm.trans hfn)).symm
  refine ⟨by kernel_rfl, fun j t ht => ?_⟩
  have hm : t ∈ Tryd.f4.params.toList := by rw [Array.mem_toList_iff]; exact Array.mem_of_getElem? ht
  rw [p4] at hm
  have hall : ([44, 45].all fun u => !Tryd.prog.wantsStandIn u) = true := by kernel_rfl
  exact (show Tryd.prog.wantsStandIn t = false by simpa using List.all_eq_true.1 hall t hm)
end Go.Proofs.YtcolhmddhaabnaaDoor.again
namespace Go.Proofs.YtcolhmddhaabnaaDoor
/-- WalAgain: its tied card. -/
theorem walAgain_holds : Rows.WalAgainCardSaid :=
  Claim7.holds_tied_plain_at .later [] _ _ _ _ again.said (fun _ h => by cases h) (by kernel_rfl) (fun _ h => by cases h) walAgain_row_tie rfl ⟨rfl, rfl⟩ (by kernel_rfl) rfl again.plain (by kernel_rfl)
#print axioms walAgain_holds
end Go.Proofs.YtcolhmddhaabnaaDoor
