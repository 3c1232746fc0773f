import Derived.Test.YtcolhmddhaabnaaDoorHall
import Derived.ProofKit
import Derived.OpenShut
import Derived.WideKeyArgs
import Derived.Deep.Slices
set_option linter.unusedVariables false
namespace Go.H
open Go.ChangeShapes Go.WideShapes Go.ChangeAt Go.RowKit
/-- What a call of a law leaves: all that was. -/
def Kept (w w' : World) : Prop := ∀ (b : Nat) (o : Obj), w.heap[b]? = some o → w'.heap[b]? = some o
theorem Kept.same {w w' : World} (h : Kept w w') {p : MemPlace} (hp : p.block < w.heap.size) : w.sameAt w' p := by
  have e : w.heap[p.block]? = some (w.heap[p.block]) := by simp [hp]
  have e' := h _ _ e
  cases p with
  | cell b off =>
    simp only [MemPlace.block] at e e'
    simp only [World.sameAt, World.cell?, e, e']
  | map b =>
    simp only [MemPlace.block] at e e'
    simp only [World.sameAt, e, e']
theorem args_stay {H : Type} {enc : TypeId × Value → H} {P : Program} (hl : laidOutB P = true) {W W' : World} (hk : Kept W W') (sp : Nat → Bool) :
    ∀ {ts : List TypeId} {vs : List Value} {ds : List (DataW H)} {ps : List MemPlace}, (∀ t ∈ ts, P.readableRec t = true ∧ t < P.types.size) → DataW.TrodAll enc P W 0 (fun _ => true) true ts vs ds ps →
      (∀ p ∈ ps, p.block < W.heap.size ∧ sp p.block = true) → DataW.TrodAll enc P W' 0 sp true ts vs ds ps
  | [], [], [], ps, _, h, _ => h
  | t :: ts, v :: vs, d :: ds, ps, ht, ⟨p, q, h1, h2, e⟩, hs => by
    refine ⟨p, q, ?_, args_stay hl hk sp (fun t ht' => ht t (List.mem_cons_of_mem _ ht')) h2 (fun x hx => hs x (by rw [e]; exact List.mem_append_right _ hx)), e⟩
    have := ht t (List.mem_cons_self ..)
    exact WideElems.Trod_stays hl this.1 this.2 h1 (fun x hx => hk.same (hs x (by rw [e]; exact List.mem_append_left _ hx)).1) (fun x hx => (hs x (by rw [e]; exact List.mem_append_left _ hx)).2)
theorem Kept.but {w w' : World} (h : Kept w w') (hs : Same w w') (may : MemPlace → Prop) : w.keptBut w' may := by
  refine ⟨hs.os, hs.output, fun i hi => ?_⟩
  have e : w.heap[i]? = some (w.heap[i]) := by simp [hi]
  have e' := h _ _ e
  rw [e, e']
  generalize w.heap[i] = o
  cases o <;> simp
theorem law_post {H : Type} {enc : TypeId × Value → H} {P : Program} {fn : Func} {s : ChangeSpec} {W W' : World} {args : Array Value} {ds gs : List (DataW H)} {before : List MemPlace} {tb : TypeId}
    (hl : laidOutB P = true) (hr : ∀ t ∈ fn.params.toList, P.readableRec t = true ∧ t < P.types.size) (hres : fn.resultTypes = #[tb]) (htb : P.underlying tb = some .bool) (hv : s.vars = [])
    (hs : s.fn H (ds ++ []) = { results := [.lit (.bool true)], args := ds }) (hW : DataW.Whole enc P fn.params.toList s.vars false W args.toList ds gs before) (hk : Kept W W') (hsame : Same W W') :
    s.post enc P fn false true false false W args (.bool true) W' := by
  have hW' := hW
  obtain ⟨p, q, hA, hV, e, hfz, hnd⟩ := hW
  rw [hv] at hV
  obtain ⟨rfl, rfl⟩ := trodVars_none hV
  have hlt := hW'.lt
  refine ⟨_, _, _, [], before, [], hW', ?_, ?_, ?_, ?_, fun h => by cases h⟩
  · rw [hs, hres]
    exact trodAll_mk1 (shut_bool htb _)
  · rw [hs]
    have e2 : before = p := by rw [e]; simp
    rw [e2] at hlt ⊢
    exact args_stay hl hk _ hr hA (fun x hx => ⟨hlt x hx, by simpa using hlt x hx⟩)
  · rw [hs, hv]; trivial
  · exact hk.but hsame _
end Go.H
set_option linter.unusedVariables false
namespace Go.H
open Go.ChangeShapes Go.WideShapes Go.ChangeAt Go.RowKit
variable {H : Type} {enc : TypeId × Value → H} {P : Program} {w : World} {base : Nat} {spare : Nat → Bool} {held : Bool}
abbrev own0 : Own := fun _ => (0, 0)
theorem tr_int {t : TypeId} {k : IntKind} {fuel : Nat} {cs : List Value} {x : DataW H × List MemPlace} (ht : P.underlying t = some (.int k)) (h : DataW.trod enc P w base spare held fuel t cs = some x) :
    ∃ n, cs = [.int k n] := by
  obtain ⟨n, h1, _⟩ := DataW.trod_int ht h
  exact ⟨n, h1⟩
theorem slice_rows {α : Type} {t e : TypeId} {sz fuel : Nat} {cs : List Value} {x : DataW H × List MemPlace} (R : α → List Value → Prop) (ht : P.underlying t = some (.slice e)) (hsz : P.cellsOf e = sz) (hz : 0 < sz)
    (hR : ∀ n cs x, DataW.trod enc P w base spare held n e cs = some x → cs.length = sz → ∃ y, R y cs) (h : DataW.trod enc P w base spare held fuel t cs = some x) :
    ∃ a n c l xs, cs = [.slice a n c] ∧ Rc own0 (hp w) (0, 0) sz a n c xs ∧ RowsOf sz R l xs := by
  rcases Deep.open_slice ht h with ⟨rfl, _⟩ | ⟨a, len, cap, m, n, D, Pl, rfl, _, hle, _, hm, _, hx⟩
  · exact ⟨none, 0, 0, [], [], rfl, Rc.none, rfl⟩
  · refine ⟨some a, len, cap, ?_⟩
    have hlm : len ≤ m := by rw [hm]; split <;> omega
    by_cases h0 : len = 0
    · subst h0
      exact ⟨[], [], rfl, Rc.none, rfl⟩
    · obtain ⟨c0, hc0, _⟩ := hx 0 (by omega)
      obtain ⟨_, l0, g0⟩ := World.cells?_some hc0
      rw [hsz] at l0 g0
      have g00 := g0 0 hz
      obtain ⟨bk, off, sp⟩ := a
      obtain ⟨v0, hv0⟩ : ∃ v0, c0[0]? = some v0 := ⟨c0[0], by simp⟩
      rw [hv0] at g00
      -- the block
      have ea : (((⟨bk, off, sp⟩ : Addr).add (0 * sz)).add 0) = ⟨bk, off, sp⟩ := by simp [Addr.add]
      rw [ea, ← cell_hp] at g00
      obtain ⟨rfl, C, E, fr, hb⟩ : sp = none ∧ ∃ C E fr, hp w bk = some (.cells C E fr) := by
        unfold cell at g00
        dsimp only at g00
        split at g00
        · rename_i C E fr hb
          cases sp with
          | none => exact ⟨rfl, C, E, fr, hb⟩
          | some s => simp at g00
        · cases g00
      have cellAt : ∀ j, w.cell? ((⟨bk, off, none⟩ : Addr).add j) = C[off + j]? := by
        intro j
        rw [← cell_hp]
        have e6 : (⟨bk, off, none⟩ : Addr).add j = ⟨bk, off + j, none⟩ := add_at _ _ _
        rw [e6]
        simp [cell, hb]
      have key : ∀ k, k ≤ len → ∃ (l : List α) (xs : List Value), l.length = k ∧ xs.length = k * sz ∧ RowsOf sz R l xs ∧ CellsAt C off xs := by
        intro k
        induction k with
        | zero => intro _; exact ⟨[], [], rfl, by simp, rfl, fun i x hx => by simp at hx⟩
        | succ k ih =>
          intro hk
          obtain ⟨l, xs, e1, e2, e3, e4⟩ := ih (by omega)
          obtain ⟨ck, hck, htr⟩ := hx k (by omega)
          rw [hsz] at hck
          obtain ⟨_, lk, gk⟩ := World.cells?_some hck
          obtain ⟨y, hy⟩ := hR _ _ _ htr lk
          refine ⟨l ++ [y], xs ++ ck, by simp [e1], by rw [List.length_append, e2, lk, Nat.succ_mul], e3.append (RowsOf.one hy lk), ?_⟩
          intro i v hi
          by_cases hlt : i < xs.length
          · rw [List.getElem?_append_left hlt] at hi
            exact e4 i v hi
          · rw [List.getElem?_append_right (by omega)] at hi
            have hj : i - xs.length < sz := by rw [← lk]; exact (List.getElem?_eq_some_iff.1 hi).1
            have := gk (i - xs.length) hj
            rw [hi] at this
            rw [← this]
            have e5 : ((⟨bk, off, none⟩ : Addr).add (k * sz)).add (i - xs.length) = (⟨bk, off, none⟩ : Addr).add i := by
              rw [add_at, add_at, add_at]
              congr 1
              omega
            rw [e5, cellAt]
      obtain ⟨l, xs, e1, e2, e3, e4⟩ := key len (Nat.le_refl _)
      exact ⟨l, xs, rfl, ⟨e2, hle, .inr ⟨bk, off, C, E, fr, rfl, rfl, hb, e4⟩⟩, e3⟩
end Go.H
namespace Go.H
open Go.ChangeShapes Go.WideShapes Go.ChangeAt Go.RowKit
variable {H : Type} {enc : TypeId × Value → H} {P : Program} {w : World} {base : Nat} {spare : Nat → Bool} {held : Bool}
/-- A struct's fields: their types and where they begin. -/
def fieldsB (P : Program) (t : TypeId) : Option (List (TypeId × Nat)) :=
  match P.underlying t with
  | some (.struct fs) => some (fs.toList.map fun f => (f.type, f.offset))
  | _ => none
theorem struct_open {t : TypeId} {fs : List (TypeId × Nat)} {fuel : Nat} {cs : List Value} {x : DataW H × List MemPlace} (hf : fieldsB P t = some fs) (h : DataW.trod enc P w base spare held fuel t cs = some x) :
    ∀ (i : Nat) (u : TypeId) (o : Nat), fs[i]? = some (u, o) → ∃ n y, DataW.trod enc P w base spare held n u ((cs.drop o).take (P.cellsOf u)) = some y := by
  unfold fieldsB at hf
  split at hf
  · rename_i gs hg
    obtain ⟨xs, n, _, _, hl, hlen, hall⟩ := DataW.trod_struct hg h
    intro i u o hi
    simp only [Option.some.injEq] at hf
    rw [← hf, List.getElem?_map] at hi
    obtain ⟨f, hfi, he⟩ := Option.map_eq_some_iff.1 hi
    cases he
    have hi' : gs[i]? = some f := by rw [← Array.getElem?_toList]; exact hfi
    have := hall i f hi'
    have hlt : i < xs.length := by rw [hlen]; exact (Array.getElem?_eq_some_iff.1 hi').1
    exact ⟨n, xs[i], by rw [this]; simp [hlt]⟩
  · cases hf
theorem rows_bytes : ∀ {l : List UInt8} {xs : List Value}, RowsOf 1 (fun (b : UInt8) c => c = [by8 b]) l xs → xs = l.map by8
  | [], xs, h => h
  | b :: l, xs, ⟨c, r, e, _, hc, hr⟩ => by rw [e, hc, rows_bytes hr]; rfl
theorem bytes_open {t e fuel : Nat} {cs : List Value} {x : DataW H × List MemPlace} (ht : P.underlying t = some (.slice e)) (he : P.underlying e = some (.int .u8)) (hc : P.cellsOf e = 1) (h : DataW.trod enc P w base spare held fuel t cs = some x) :
    ∃ (a : Option Addr) (n c : Nat) (l : List UInt8), cs = [.slice a n c] ∧ Rc own0 (hp w) (0, 0) 1 a n c (l.map by8) := by
  obtain ⟨a, n, c, l, xs, h1, h2, h3⟩ := slice_rows (fun (b : UInt8) c => c = [by8 b]) ht hc (by omega) (fun n cs x hx _ => by
    obtain ⟨v, hv, _, hw⟩ := DataW.trod_int he hx
    simp only [Lit.wf, Bool.and_eq_true, decide_eq_true_eq] at hw
    have h0 : (0 : Int) ≤ v := hw.1
    have h1 : v ≤ 255 := hw.2
    refine ⟨UInt8.ofNat v.toNat, ?_⟩
    rw [hv]
    unfold by8
    congr 2
    rw [UInt8.toNat_ofNat']
    omega) h
  exact ⟨a, n, c, l, h1, by rw [← rows_bytes h3]; exact h2⟩
end Go.H
