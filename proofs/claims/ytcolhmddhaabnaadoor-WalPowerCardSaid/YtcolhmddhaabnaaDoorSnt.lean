import Derived.Test.YtcolhmddhaabnaaDoorOpn
import Derived.Test.YtcolhmddhaabnaaDoorPw3
import Derived.Stop.LaidErr
set_option linter.unusedVariables false
set_option maxRecDepth 100000
namespace Go.Proofs.YtcolhmddhaabnaaDoor
open Go.H
open Go.ChangeShapes Go.WideShapes Go.ChangeAt Go.RowKit
/-! ### The listed errors: each a pointer of its own -/
def sentD (text : List UInt8) : DataW Unit := .iface "*errors.errorString" (.ptr (.agg [.lit (.string text)]))
theorem only149 : ∀ u, Tryd.prog.typeName? 3 u = some "*errors.errorString" → u = 149 :=
  typeName_ptr_named (nm := "errors.errorString") (by kernel_rfl) (by kernel_rfl) (by decide)
/-- One listed error. -/
def SentAt (W : World) (n : String) (a : Addr) : Prop := ∃ g E fr, Tryd.prog.globalNamed n = some g ∧ hp W g = some (.cells #[eV a] E fr)
theorem sents {W : World} : ∀ (l : List (String × DataW Unit)) (ps : List MemPlace), DataW.LaidVars Tryd.prog W l ps → ps.Nodup → (∀ b off, MemPlace.cell b off ∈ ps → (∃ c t, W.heap[b]? = some (.cells c t (0, 0))) ∧ ∀ u v, W.cell? ⟨b, off, none⟩ = some (.iface u v) → Value.okWide Tryd.prog W .any 0 u v) →
    (∀ x ∈ l, (Tryd.prog.globalNamed x.1).bind (fun g => (Tryd.prog.globals[g]?).map (·.type)) = some 31 → ∃ text, x.2 = sentD text) →
    ∃ f : Nat → Addr, (∀ i x, l[i]? = some x → (∃ text, x.2 = sentD text) → (Tryd.prog.globalNamed x.1).bind (fun g => (Tryd.prog.globals[g]?).map (·.type)) = some 31 → SentAt W x.1 (f i) ∧ MemPlace.cell (f i).block (f i).off ∈ ps) ∧
      (∀ i j x y, l[i]? = some x → l[j]? = some y → (Tryd.prog.globalNamed x.1).bind (fun g => (Tryd.prog.globals[g]?).map (·.type)) = some 31 → (Tryd.prog.globalNamed y.1).bind (fun g => (Tryd.prog.globals[g]?).map (·.type)) = some 31 → f i = f j → i = j)
  | [], ps, _, _, _, _ => ⟨fun _ => ⟨0, 0, none⟩, fun i x h => by simp at h, fun i j x y h => by simp at h⟩
  | (n, d) :: r, ps, h, hnd, hok, hs => by
    obtain ⟨g, t, cs, fuel, p, q, h1, h2, h3, h4, h5, rfl⟩ := h
    have hndq : q.Nodup := List.Nodup.sublist (List.sublist_append_right _ _) hnd
    have hndpq : (p ++ q).Nodup := by rw [List.append_assoc] at hnd; exact List.Nodup.sublist (List.sublist_append_right _ _) hnd
    obtain ⟨f, k1, k2⟩ := sents r q h5 hndq (fun b off hm => hok b off (List.mem_append_right _ hm)) (fun x hx => hs x (List.mem_cons_of_mem _ hx))
    by_cases ht : t = 31
    · subst ht
      have hty : (Tryd.prog.globalNamed n).bind (fun g => (Tryd.prog.globals[g]?).map (·.type)) = some 31 := by rw [h1]; exact h2
      obtain ⟨text, hd⟩ := hs (n, d) (List.mem_cons_self ..) hty
      simp only at hd
      subst hd
      obtain ⟨l0⟩ := cs
      have ok0 : ∀ u v, l0 = [.iface u v] → Value.okWide Tryd.prog W .any 0 u v := fun u v e => by
        subst e
        exact (hok g 0 (by simp [MemPlace.row])).2 u v (by simpa using World.var?_cell h1 h3 0)
      obtain ⟨a, s, hcs, hcell, _, _, hpp⟩ := errorString_of_trod Tryd.underlying31 only149 Tryd.underlying149 Tryd.underlying173 rfl rfl Tryd.underlying9 (by kernel_rfl) (by kernel_rfl) h4 ok0
      have hpm : MemPlace.cell a.block a.off ∈ p := by rw [hpp]; simp [MemPlace.row]
      have hsent : SentAt W n a := by
        unfold World.var? at h3
        rw [h1] at h3
        simp only [Option.bind_some] at h3
        split at h3
        · rename_i cs' E fr hb
          simp only [Option.some.injEq] at h3
          refine ⟨g, E, fr, h1, ?_⟩
          have hl0 : l0 = [eV a] := hcs
          unfold hp
          rw [hb, h3, hl0]
        · cases h3
      refine ⟨fun i => match i with | 0 => a | i + 1 => f i, ?_, ?_⟩
      · intro i x hx hte hty'
        cases i with
        | zero =>
          simp only [List.getElem?_cons_zero, Option.some.injEq] at hx
          subst hx
          exact ⟨hsent, by simp [hpm]⟩
        | succ i =>
          have := k1 i x (by simpa using hx) hte hty'
          exact ⟨this.1, List.mem_append_right _ this.2⟩
      · have far : ∀ j y, r[j]? = some y → (Tryd.prog.globalNamed y.1).bind (fun g => (Tryd.prog.globals[g]?).map (·.type)) = some 31 → a ≠ f j := by
          intro j y hy hty' e
          have hte := hs y (List.mem_cons_of_mem _ (List.mem_of_getElem? hy)) hty'
          have := (k1 j y hy hte hty').2
          rw [← e] at this
          exact (List.nodup_append.1 hndpq).2.2 _ hpm _ this rfl
        intro i j x y hx hy tx ty e
        cases i with
        | zero => cases j with
          | zero => rfl
          | succ j => exact absurd e (far j y (by simpa using hy) ty)
        | succ i => cases j with
          | zero => exact absurd e.symm (far i x (by simpa using hx) tx)
          | succ j => rw [k2 i j x y (by simpa using hx) (by simpa using hy) tx ty e]
    · have hnt : ∀ {P : Prop}, (Tryd.prog.globalNamed n).bind (fun g => (Tryd.prog.globals[g]?).map (·.type)) = some 31 → P := by
        intro P hh; rw [h1] at hh; simp only [Option.bind_some] at hh; rw [h2] at hh; simp only [Option.some.injEq] at hh; exact absurd hh ht
      refine ⟨fun i => match i with | 0 => ⟨0, 0, none⟩ | i + 1 => f i, ?_, ?_⟩
      · intro i x hx hte hty'
        cases i with
        | zero =>
          simp only [List.getElem?_cons_zero, Option.some.injEq] at hx
          subst hx
          exact hnt hty'
        | succ i =>
          have := k1 i x (by simpa using hx) hte hty'
          exact ⟨this.1, List.mem_append_right _ this.2⟩
      · intro i j x y hx hy tx ty e
        cases i with
        | zero =>
          simp only [List.getElem?_cons_zero, Option.some.injEq] at hx
          subst hx
          exact hnt tx
        | succ i => cases j with
          | zero =>
            simp only [List.getElem?_cons_zero, Option.some.injEq] at hy
            subst hy
            exact hnt ty
          | succ j => rw [k2 i j x y (by simpa using hx) (by simpa using hy) tx ty e]
noncomputable def gty (n : String) : Option TypeId := (Tryd.prog.globalNamed n).bind fun g => (Tryd.prog.globals[g]?).map (·.type)
theorem gty_cons : gty "bulla/sha.constants" = some 146 := by kernel_rfl
theorem gty_first : gty "bulla/sha.first" = some 140 := by kernel_rfl
/-- What all laws of the log list, in the rows' order. -/
noncomputable def laidAll : List (String × DataW Unit) := Rows.walPowerRow.laid
theorem laidAll_names : (laidAll.map fun x => Tryd.prog.globalNamed x.1) = (ordN ++ [29, 28]).map some := by kernel_rfl
theorem laidAll_types : (laidAll.map fun x => gty x.1) = ordN.map (fun _ => some 31) ++ [some 146, some 140] := by kernel_rfl
theorem laidAll_sents : ∀ x ∈ laidAll, gty x.1 = some 31 → ∃ text, x.2 = sentD text := by
  unfold laidAll Rows.walPowerRow
  dsimp only
  iterate 28 refine List.forall_mem_cons.2 ⟨fun _ => ⟨_, rfl⟩, ?_⟩
  refine List.forall_mem_cons.2 ⟨fun h => ?_, ?_⟩
  · rw [gty_cons] at h; cases h
  refine List.forall_mem_cons.2 ⟨fun h => ?_, ?_⟩
  · rw [gty_first] at h; cases h
  · intro x hx; cases hx
theorem num_env {W : World} (h : laidMet Tryd.prog laidAll W) : ∃ ad, NumEnv own0 (hp W) ad := by
  obtain ⟨ps, h1, h2, h3⟩ := h
  obtain ⟨f, k1, k2⟩ := sents laidAll ps h1 h2 h3 laidAll_sents
  have hlen : laidAll.length = 30 := by rw [← List.length_map (f := fun x => Tryd.prog.globalNamed x.1), laidAll_names]; rfl
  have item : ∀ i, i < 28 → ∃ x, laidAll[i]? = some x ∧ Tryd.prog.globalNamed x.1 = some (ordN.getD i 0) ∧ gty x.1 = some 31 := by
    intro i hi
    have hil : i < laidAll.length := by omega
    have e1 : (laidAll.map fun x => Tryd.prog.globalNamed x.1)[i]? = some (Tryd.prog.globalNamed laidAll[i].1) := by rw [List.getElem?_map, List.getElem?_eq_getElem hil]; rfl
    have e2 : (laidAll.map fun x => gty x.1)[i]? = some (gty laidAll[i].1) := by rw [List.getElem?_map, List.getElem?_eq_getElem hil]; rfl
    rw [laidAll_names] at e1
    rw [laidAll_types] at e2
    have ho : i < ordN.length := hi
    refine ⟨laidAll[i], List.getElem?_eq_getElem hil, ?_, ?_⟩
    · rw [List.getElem?_map, List.getElem?_append_left ho, List.getElem?_eq_getElem ho] at e1
      simp only [Option.map_some, Option.some.injEq] at e1
      rw [← e1]; simp [ho]
    · rw [List.getElem?_append_left (by simpa using ho), List.getElem?_map, List.getElem?_eq_getElem ho] at e2
      simp only [Option.map_some, Option.some.injEq] at e2
      exact e2.symm
  refine ⟨fun g => f (posN g), fun _ _ => ⟨rfl, rfl⟩, fun g hg => ?_, fun g hg => ?_, fun g g' hg hg' e => ?_⟩
  · obtain ⟨p1, p2⟩ := posN_ok g hg
    obtain ⟨x, i1, i2, i3⟩ := item _ p1
    obtain ⟨⟨g2, E, fr, j1, j2⟩, _⟩ := k1 _ x i1 (laidAll_sents x (List.mem_of_getElem? i1) i3) i3
    rw [i2, p2] at j1
    cases j1
    exact ⟨E, fr, j2⟩
  · obtain ⟨p1, p2⟩ := posN_ok g hg
    obtain ⟨x, i1, i2, i3⟩ := item _ p1
    obtain ⟨_, j⟩ := k1 _ x i1 (laidAll_sents x (List.mem_of_getElem? i1) i3) i3
    obtain ⟨c, t, hc⟩ := (h3 _ _ j).1
    exact ⟨c, t, hc⟩
  · obtain ⟨p1, p2⟩ := posN_ok g hg
    obtain ⟨p1', p2'⟩ := posN_ok g' hg'
    obtain ⟨x, i1, i2, i3⟩ := item _ p1
    obtain ⟨y, i1', i2', i3'⟩ := item _ p1'
    have := k2 _ _ x y i1 i1' i3 i3' e
    rw [← p2, ← p2', this]
theorem sha_of {W : World} (h : laidMet Tryd.prog laidAll W) : ShaAt own0 (hp W) shaC := by
  refine sha_env (Lib.laidMet.reads h ?_) (Lib.laidMet.reads h ?_)
  · exact List.mem_of_getElem? (i := 29) rfl
  · exact List.mem_of_getElem? (i := 28) rfl
end Go.Proofs.YtcolhmddhaabnaaDoor
