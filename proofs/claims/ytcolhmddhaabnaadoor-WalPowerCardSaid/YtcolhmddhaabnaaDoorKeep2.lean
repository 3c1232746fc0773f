import Derived.Test.YtcolhmddhaabnaaDoorKeep
import Derived.Test.YtcolhmddhaabnaaDoorHtp
import Derived.Test.YtcolhmddhaabnaaDoorCards
import Derived.Test.YtcolhmddhaabnaaDoorTie
import Derived.ProofKit
import Derived.OpenShut
import Derived.LaidMore
import Derived.Deep.DeepHandedRow
import Derived.Deep.DeepWitnessRowRef
import Derived.Lib.LaidU8
set_option linter.unusedVariables false
set_option maxRecDepth 100000
namespace Go.Proofs.YtcolhmddhaabnaaDoor
open Go.H
open Go.ChangeShapes Go.WideShapes Go.ChangeAt Go.RowKit

theorem fields26 : fieldsB Tryd.prog 26 = some [(3, 0), (3, 1), (3, 2), (3, 3), (23, 4), (24, 5)] := by kernel_rfl
theorem und3 : Tryd.prog.underlying 3 = some (.int .i64) := by kernel_rfl
theorem und23 : Tryd.prog.underlying 23 = some (.int .u64) := by kernel_rfl
theorem und24 : Tryd.prog.underlying 24 = some (.slice 5) := by kernel_rfl
theorem und5 : Tryd.prog.underlying 5 = some (.int .u8) := by kernel_rfl
theorem und22 : Tryd.prog.underlying 22 = some (.slice 26) := by kernel_rfl
theorem und4 : Tryd.prog.underlying 4 = some .bool := by kernel_rfl
theorem cells3 : Tryd.prog.cellsOf 3 = 1 := by kernel_rfl
theorem cells23 : Tryd.prog.cellsOf 23 = 1 := by kernel_rfl
theorem cells24 : Tryd.prog.cellsOf 24 = 1 := by kernel_rfl
theorem cells5 : Tryd.prog.cellsOf 5 = 1 := by kernel_rfl
theorem cells26 : Tryd.prog.cellsOf 26 = 6 := by kernel_rfl
section
variable {H : Type} {enc : TypeId × Value → H} {w : World} {base : Nat} {spare : Nat → Bool} {held : Bool}
theorem act_open {fuel : Nat} {cs : List Value} {x : DataW H × List MemPlace} (h : DataW.trod enc Tryd.prog w base spare held fuel 26 cs = some x) (hl : cs.length = 6) : ∃ y : Act, ActAt own0 (hp w) y cs := by
  have hf := struct_open fields26 h
  match cs, hl with
  | [c0, c1, c2, c3, c4, c5], _ =>
    obtain ⟨n0, y0, e0⟩ := hf 0 3 0 rfl
    obtain ⟨n1, y1, e1⟩ := hf 1 3 1 rfl
    obtain ⟨n2, y2, e2⟩ := hf 2 3 2 rfl
    obtain ⟨n3, y3, e3⟩ := hf 3 3 3 rfl
    obtain ⟨n4, y4, e4⟩ := hf 4 23 4 rfl
    obtain ⟨n5, y5, e5⟩ := hf 5 24 5 rfl
    rw [cells3] at e0 e1 e2 e3
    rw [cells23] at e4
    rw [cells24] at e5
    obtain ⟨a0, f0⟩ := tr_int und3 e0
    obtain ⟨a1, f1⟩ := tr_int und3 e1
    obtain ⟨a2, f2⟩ := tr_int und3 e2
    obtain ⟨a3, f3⟩ := tr_int und3 e3
    obtain ⟨a4, f4⟩ := tr_int und23 e4
    obtain ⟨a, n, c, l, f5, f6⟩ := bytes_open und24 und5 cells5 e5
    simp only [List.drop, List.take, List.cons.injEq, and_true] at f0 f1 f2 f3 f4 f5
    subst f0 f1 f2 f3 f4 f5
    exact ⟨⟨a0, a1, a2, a3, a4, l⟩, a, n, c, rfl, f6⟩
end
/-- An error in a listed variable. -/
theorem err_of {W : World} {n : String} {g : Nat} {nm : String} {d : DataW Unit} (hg : Tryd.prog.globalNamed n = some g) (ht : (Tryd.prog.globals[g]?).map (·.type) = some 31) (h : Lib.VarReads Tryd.prog W n (.iface nm d)) :
    ∃ e, ErrAt own0 (hp W) g e := by
  obtain ⟨g', t, cs, fuel, p, h1, h2, h3, h4⟩ := h
  rw [hg] at h1
  cases h1
  rw [ht] at h2
  cases h2
  obtain ⟨ms, hm⟩ := iface31
  obtain ⟨f', u, v, e1, _, _⟩ := iface_of_trod hm h4
  unfold World.var? at h3
  rw [hg] at h3
  simp only [Option.bind_some] at h3
  split at h3
  · rename_i cs' E fr hb
    cases h3
    refine ⟨.iface u v, rfl, ⟨E, fr, ?_⟩, u, v, rfl⟩
    have : cs = #[.iface u v] := by rw [← Array.toArray_toList (xs := cs), e1]
    rw [← this]
    exact hb
  · cases h3
end Go.Proofs.YtcolhmddhaabnaaDoor
