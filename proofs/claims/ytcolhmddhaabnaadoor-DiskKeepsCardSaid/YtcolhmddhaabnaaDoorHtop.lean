import Derived.Test.YtcolhmddhaabnaaDoorHconv
import Derived.ProofKit
import Derived.OpenShut
import Derived.WideKeyArgs
import Derived.Deep.Slices
set_option linter.unusedVariables false
namespace Go.H
open Go.ChangeShapes Go.WideShapes Go.ChangeAt Go.RowKit
/-- What a call of a law leaves: all that was. -/
def Kept (w w' : World) : Prop := ∀ (b : Nat) (o : Obj), w.heap[b]? = some o → w'.heap[b]? = some o
theorem Kept.same {w w' : World} (h : Kept w w') {p : MemPlace} (hp : p.block < w.heap.size) : w.sameAt w' p := by
  have e : w.heap[p.block]? = some (w.heap[p.block]) := by simp [hp]
  have e' := h _ _ e
  cases p with
  | cell b off =>
    simp only [MemPlace.block] at e e'
    simp only [World.sameAt, World.cell?, e, e']
  | map b =>
    simp only [MemPlace.block] at e e'
    simp only [World.sameAt, e, e']
theorem args_stay {H : Type} {enc : TypeId × Value → H} {P : Program} (hl : laidOutB P = true) {W W' : World} (hk : Kept W W') (sp : Nat → Bool) :
    ∀ {ts : List TypeId} {vs : List Value} {ds : List (DataW H)} {ps : List MemPlace}, (∀ t ∈ ts, P.readableRec t = true ∧ t < P.types.size) → DataW.TrodAll enc P W 0 (fun _ => true) true ts vs ds ps →
      (∀ p ∈ ps, p.block < W.heap.size ∧ sp p.block = true) → DataW.TrodAll enc P W' 0 sp true ts vs ds ps
  | [], [], [], ps, _, h, _ => h
  | t :: ts, v :: vs, d :: ds, ps, ht, ⟨p, q, h1, h2, e⟩, hs => by
    refine ⟨p, q, ?_, args_stay hl hk sp (fun t ht' => ht t (List.mem_cons_of_mem _ ht')) h2 (fun x hx => hs x (by rw [e]; exact List.mem_append_right _ hx)), e⟩
    have := ht t (List.mem_cons_self ..)
    exact WideElems.Trod_stays hl this.1 this.2 h1 (fun x hx => hk.same (hs x (by rw [e]; exact List.mem_append_left _ hx)).1) (fun x hx => (hs x (by rw [e]; exact List.mem_append_left _ hx)).2)
theorem Kept.but {w w' : World} (h : Kept w w') (hs : Same w w') (may : MemPlace → Prop) : w.keptBut w' may := by
  refine ⟨hs.os, hs.output, fun i hi => ?_⟩
  have e : w.heap[i]? = some (w.heap[i]) := by simp [hi]
  have e' := h _ _ e
  rw [e, e']
  generalize w.heap[i] = o
  cases o <;> simp
theorem law_post {H : Type} {enc : TypeId × Value → H} {P : Program} {fn : Func} {s : ChangeSpec} {W W' : World} {args : Array Value} {ds gs : List (DataW H)} {before : List MemPlace} {tb : TypeId}
    (hl : laidOutB P = true) (hr : ∀ t ∈ fn.params.toList, P.readableRec t = true ∧ t < P.types.size) (hres : fn.resultTypes = #[tb]) (htb : P.underlying tb = some .bool) (hv : s.vars = [])
    (hs : s.fn H (ds ++ []) = { results := [.lit (.bool true)], args := ds }) (hW : DataW.Whole enc P fn.params.toList s.vars false W args.toList ds gs before) (hk : Kept W W') (hsame : Same W W') :
    s.post enc P fn false true false false W args (.bool true) W' := by
  have hW' := hW
  obtain ⟨p, q, hA, hV, e, hfz, hnd⟩ := hW
  rw [hv] at hV
  obtain ⟨rfl, rfl⟩ := trodVars_none hV
  have hlt := hW'.lt
  refine ⟨_, _, _, [], before, [], hW', ?_, ?_, ?_, ?_, fun h => by cases h⟩
  · rw [hs, hres]
    exact trodAll_mk1 (shut_bool htb _)
  · rw [hs]
    have e2 : before = p := by rw [e]; simp
    rw [e2] at hlt ⊢
    exact args_stay hl hk _ hr hA (fun x hx => ⟨hlt x hx, by simpa using hlt x hx⟩)
  · rw [hs, hv]; trivial
  · exact hk.but hsame _
end Go.H
