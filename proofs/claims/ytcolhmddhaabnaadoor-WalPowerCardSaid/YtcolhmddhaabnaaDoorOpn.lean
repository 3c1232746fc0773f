import Derived.Test.YtcolhmddhaabnaaDoorKeep2
import Derived.Test.YtcolhmddhaabnaaDoorAg1
import Derived.SevenTiedAt
import Derived.Lib.LaidTab
set_option linter.unusedVariables false
set_option maxRecDepth 100000
namespace Go.Proofs.YtcolhmddhaabnaaDoor
open Go.H
open Go.ChangeShapes Go.WideShapes Go.ChangeAt Go.RowKit
theorem fields51 : fieldsB Tryd.prog 51 = some [(3, 0), (3, 1), (3, 2), (23, 3), (24, 4)] := by kernel_rfl
theorem und44 : Tryd.prog.underlying 44 = some (.slice 24) := by kernel_rfl
theorem und45 : Tryd.prog.underlying 45 = some (.slice 51) := by kernel_rfl
theorem und138 : Tryd.prog.underlying 138 = some (.int .u32) := by kernel_rfl
theorem und140 : Tryd.prog.underlying 140 = some (.array 8 138) := by kernel_rfl
theorem und146 : Tryd.prog.underlying 146 = some (.array 64 138) := by kernel_rfl
theorem cells51 : Tryd.prog.cellsOf 51 = 5 := by kernel_rfl
theorem cells138 : Tryd.prog.cellsOf 138 = 1 := by kernel_rfl
theorem cells140 : Tryd.prog.cellsOf 140 = 8 := by kernel_rfl
theorem cells146 : Tryd.prog.cellsOf 146 = 64 := by kernel_rfl
section
variable {H : Type} {enc : TypeId × Value → H} {w : World} {base : Nat} {spare : Nat → Bool} {held : Bool}
theorem bct_open {fuel : Nat} {cs : List Value} {x : DataW H × List MemPlace} (h : DataW.trod enc Tryd.prog w base spare held fuel 51 cs = some x) (hl : cs.length = 5) : ∃ y : Bct, BctAt own0 (hp w) y cs := by
  have hf := struct_open fields51 h
  match cs, hl with
  | [c0, c1, c2, c3, c4], _ =>
    obtain ⟨n0, y0, e0⟩ := hf 0 3 0 rfl
    obtain ⟨n1, y1, e1⟩ := hf 1 3 1 rfl
    obtain ⟨n2, y2, e2⟩ := hf 2 3 2 rfl
    obtain ⟨n3, y3, e3⟩ := hf 3 23 3 rfl
    obtain ⟨n4, y4, e4⟩ := hf 4 24 4 rfl
    rw [cells3] at e0 e1 e2
    rw [cells23] at e3
    rw [cells24] at e4
    obtain ⟨a0, f0⟩ := tr_int und3 e0
    obtain ⟨a1, f1⟩ := tr_int und3 e1
    obtain ⟨a2, f2⟩ := tr_int und3 e2
    obtain ⟨a3, f3⟩ := tr_int und23 e3
    obtain ⟨a, n, c, l, f5, f6⟩ := bytes_open und24 und5 cells5 e4
    simp only [List.drop, List.take, List.cons.injEq, and_true] at f0 f1 f2 f3 f5
    subst f0 f1 f2 f3 f5
    exact ⟨⟨a0, a1, a2, a3, l⟩, a, n, c, rfl, f6⟩
theorem parts_open {fuel : Nat} {a : Option Addr} {n c : Nat} {x : DataW H × List MemPlace} (h : DataW.trod enc Tryd.prog w base spare held fuel 44 [.slice a n c] = some x) : ∃ l, PartsAt own0 (hp w) (0, 0) a n c l := by
  obtain ⟨a', n', c', l, xs, e1, e2, e3⟩ := slice_rows (PartAt own0 (hp w)) und44 cells24 (by omega) (fun n cs x hx hl => by
    obtain ⟨a, n, c, l, e1, e2⟩ := bytes_open und24 und5 cells5 hx
    exact ⟨l, a, n, c, e1, e2⟩) h
  cases e1
  exact ⟨l, xs, e2, e3⟩
theorem bcts_open {fuel : Nat} {a : Option Addr} {n c : Nat} {x : DataW H × List MemPlace} (h : DataW.trod enc Tryd.prog w base spare held fuel 45 [.slice a n c] = some x) : ∃ l, BctsAt own0 (hp w) a n c l := by
  obtain ⟨a', n', c', l, xs, e1, e2, e3⟩ := slice_rows (BctAt own0 (hp w)) und45 cells51 (by omega) (fun n cs x hx hl => bct_open hx hl) h
  cases e1
  exact ⟨l, xs, e2, e3⟩
end
/-- A table in a listed variable. -/
theorem tab_of {W : World} {name : String} {g n : Nat} {t : TypeId} {zs : List Int} (hg : Tryd.prog.globalNamed name = some g) (ht : (Tryd.prog.globals[g]?).map (·.type) = some t) (hu : Tryd.prog.underlying t = some (.array n 138)) (hc : Tryd.prog.cellsOf t = n)
    (h : Lib.VarReads Tryd.prog W name (Lib.tabData .u32 zs)) : ∃ cs E fr, hp W g = some (.cells cs E fr) ∧ ∀ j, j < zs.length → cs[j]? = some (u32 (zs.getD j 0)) := by
  obtain ⟨g', t', cs, fuel, p, h1, h2, h3, h4⟩ := h
  rw [hg] at h1
  cases h1
  rw [ht] at h2
  cases h2
  have hcs := Lib.cells_of_tab hu und138 cells138 hc h4
  unfold World.var? at h3
  rw [hg] at h3
  simp only [Option.bind_some] at h3
  split at h3
  · rename_i cs' E fr hb
    cases h3
    refine ⟨cs, E, fr, hb, fun j hj => ?_⟩
    rw [← Array.getElem?_toList, hcs]
    simp [hj]
  · cases h3
theorem own : ownKnob Tryd.prog.godebug = none := by kernel_rfl
theorem laidOut : laidOutB Tryd.prog = true := by kernel_rfl
theorem g0 : Tryd.prog.globalNamed "bulla/api.ErrRange" = some 0 := by kernel_rfl
theorem g1 : Tryd.prog.globalNamed "bulla/api.ErrFull" = some 1 := by kernel_rfl
theorem g2 : Tryd.prog.globalNamed "bulla/api.ErrDown" = some 2 := by kernel_rfl
theorem g4 : Tryd.prog.globalNamed "bulla/api.ErrLong" = some 4 := by kernel_rfl
theorem g28 : Tryd.prog.globalNamed "bulla/sha.first" = some 28 := by kernel_rfl
theorem g29 : Tryd.prog.globalNamed "bulla/sha.constants" = some 29 := by kernel_rfl
theorem gt0 : (Tryd.prog.globals[0]?).map (·.type) = some 31 := by kernel_rfl
theorem gt1 : (Tryd.prog.globals[1]?).map (·.type) = some 31 := by kernel_rfl
theorem gt2 : (Tryd.prog.globals[2]?).map (·.type) = some 31 := by kernel_rfl
theorem gt4 : (Tryd.prog.globals[4]?).map (·.type) = some 31 := by kernel_rfl
theorem gt28 : (Tryd.prog.globals[28]?).map (·.type) = some 140 := by kernel_rfl
theorem gt29 : (Tryd.prog.globals[29]?).map (·.type) = some 146 := by kernel_rfl
def firstZ : List Int := match (Rows.laid_bulla_sha_first : DataW Unit) with
  | .agg l => l.map fun d => match d with | .lit (.int .u32 n) => n | _ => 0
  | _ => []
def consZ : List Int := match (Rows.laid_bulla_sha_constants : DataW Unit) with
  | .agg l => l.map fun d => match d with | .lit (.int .u32 n) => n | _ => 0
  | _ => []
theorem firstZ_tab : (Rows.laid_bulla_sha_first : DataW Unit) = Lib.tabData .u32 firstZ := by kernel_rfl
theorem consZ_tab : (Rows.laid_bulla_sha_constants : DataW Unit) = Lib.tabData .u32 consZ := by kernel_rfl
def shaC : ShaC := ⟨fun i => consZ.getD i 0, fun i => firstZ.getD i 0⟩
theorem sha_env {W : World} (h1 : Lib.VarReads Tryd.prog W "bulla/sha.first" Rows.laid_bulla_sha_first) (h2 : Lib.VarReads Tryd.prog W "bulla/sha.constants" Rows.laid_bulla_sha_constants) : ShaAt own0 (hp W) shaC := by
  rw [firstZ_tab] at h1
  rw [consZ_tab] at h2
  obtain ⟨cs, E, fr, a1, a2⟩ := tab_of g28 gt28 und140 cells140 h1
  obtain ⟨cs', E', fr', b1, b2⟩ := tab_of g29 gt29 und146 cells146 h2
  exact ⟨rfl, ⟨cs, E, fr, a1, fun j hj => a2 j (by rw [show firstZ.length = 8 by decide]; exact hj)⟩, rfl, ⟨cs', E', fr', b1, fun j hj => b2 j (by rw [show consZ.length = 64 by decide]; exact hj)⟩⟩
/-- What a step of a law leaves stands as it was. -/
theorem kept_of {W W' : World} {o' : Own} (s : Step Mut own0 (hp W) o' (hp W')) : Kept W W' := by
  intro b o hb
  have h1 : hp W b ≠ none := by unfold hp; rw [hb]; simp
  have := s.keeps b h1 (fun h => h rfl)
  unfold hp at this
  rw [this, hb]
end Go.Proofs.YtcolhmddhaabnaaDoor
