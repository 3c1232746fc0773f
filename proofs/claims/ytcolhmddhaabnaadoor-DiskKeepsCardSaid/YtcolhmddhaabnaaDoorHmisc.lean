import Derived.Test.YtcolhmddhaabnaaDoorHrow
import Derived.Test.YtcolhmddhaabnaaDoorHzero
namespace Go.H
/-- A read of one cell, as a run. -/
theorem rd_load {P : Program} {T : TypeId} {h : Hp} {b o : Nat} {cs : Array Value} {E : TypeId} {fr : Nat × Nat} {v : Value} (ha : aggB P T = false) (hd : ∃ d, P.underlying T = some d)
    (hb : h b = some (.cells cs E fr)) (hv : cs[o]? = some v) : rd P (Instr.loadAt T (.pointer (some ⟨b, o, none⟩))) h = some v := by
  obtain ⟨d, hd⟩ := hd
  unfold Instr.loadAt
  change rd P (Sem.bind (Sem.pure _) _) h = _
  rw [rd_bind]
  simp only [rd, Option.bind_some]
  unfold loadVar
  change rd P (Sem.bind (isAgg T) _) h = _
  rw [rd_bind, rd_agg hd, ha]
  have hc : cell h ⟨b, o, none⟩ = some v := by simp [cell, hb, hv]
  simp [rd, Go.load, hc]
/-- A type that is one cell. -/
def leafOk (P : Program) (T : TypeId) : Bool := (match P.underlying T with | some _ => true | none => false) && !aggB P T
theorem leaf_of {P : Program} {T : TypeId} (h : leafOk P T = true) : aggB P T = false ∧ ∃ d, P.underlying T = some d := by
  unfold leafOk at h
  simp only [Bool.and_eq_true, Bool.not_eq_true'] at h
  refine ⟨h.2, ?_⟩
  have := h.1
  split at this
  · exact ⟨_, by assumption⟩
  · cases this
theorem rd_same {P : Program} {T : TypeId} {h h' : Hp} {b o : Nat} {cs : Array Value} {E : TypeId} {fr : Nat × Nat} (hl : leafOk P T = true)
    (hb : h b = some (.cells cs E fr)) (ho : o < cs.size) (hb' : h' b = some (.cells cs E fr)) :
    rd P (Instr.loadAt T (.pointer (some ⟨b, o, none⟩))) h' = rd P (Instr.loadAt T (.pointer (some ⟨b, o, none⟩))) h := by
  obtain ⟨h1, h2⟩ := leaf_of hl
  have hv : cs[o]? = some cs[o] := by simp [ho]
  rw [rd_load h1 h2 hb hv, rd_load h1 h2 hb' hv]
end Go.H
namespace Go.H
theorem asSl_i {a : Option Addr} {n c : Nat} {K : Option Addr → Nat → Nat → Prop} (H : K a n c) : asSl (.slice a n c) K := H
theorem asBo_i {b : Bool} {K : Bool → Prop} (H : K b) : asBo (.bool b) K := H
end Go.H
namespace Go.H
theorem asAg_i {xs : List Value} {K : List Value → Prop} (H : K xs) : asAg (.agg xs.toArray) K := H
theorem asTu_i {xs : List Value} {K : List Value → Prop} (H : K xs) : asTu (.tuple xs.toArray) K := H
theorem unc_i {v : Value} {l : List Value} {K : Value → List Value → Prop} (H : K v l) : unc (v :: l) K := H
theorem nilL_i {A : Prop} (H : A) : nilL [] A := H
theorem asPt_i {a : Option Addr} {K : Option Addr → Prop} (H : K a) : asPt (.pointer a) K := H
theorem asAd_i {a : Addr} {K : Addr → Prop} (H : K a) : asAd (.pointer (some a)) K := H
theorem asStr_i {s : ByteArray} {K : ByteArray → Prop} (H : K s) : asStr (.string s) K := H
end Go.H
namespace Go.H
theorem shr_i {P : Program} {t : TypeId} {h : Hp} {k yk : IntKind} {x y : Int} {c : Bool} {K : Value → Prop} (h0 : 0 ≤ y) (H : K (.int k (sShr k x y))) : oRd P (sBin .shr t c (.int k x) (.int yk y)) h K := by
  refine oRd_i (v := .int k (sShr k x y)) ?_ H
  have e : Op.shift .shr k x yk y = pure (.int k (sShr k x y)) := by simp [Op.shift, Int.not_lt.mpr h0, sShr]
  change rd P (Sem.bind (Sem.pure ()) fun _ => Op.shift .shr k x yk y) h = _
  rw [rd_bind, e]
  rfl
theorem shl_i {P : Program} {t : TypeId} {h : Hp} {k yk : IntKind} {x y : Int} {c : Bool} {K : Value → Prop} (h0 : 0 ≤ y) (H : K (.int k (sShl k x y))) : oRd P (sBin .shl t c (.int k x) (.int yk y)) h K := by
  refine oRd_i (v := .int k (sShl k x y)) ?_ H
  have e : Op.shift .shl k x yk y = pure (.int k (sShl k x y)) := by simp [Op.shift, Int.not_lt.mpr h0, sShl]
  change rd P (Sem.bind (Sem.pure ()) fun _ => Op.shift .shl k x yk y) h = _
  rw [rd_bind, e]
  rfl
end Go.H
namespace Go.H
theorem Hp.set_set (h : Hp) (r : Nat) (x y : Obj) : (h.set r x).set r y = h.set r y := by
  funext q
  unfold Hp.set
  split <;> rfl
end Go.H
namespace Go.H
theorem st_to {v : Value} {K : Hp → Prop} {h : Hp} {b o : Nat} {cs cs' : Array Value} {E : TypeId} {fr : Nat × Nat} (hb : h b = some (.cells cs E fr)) (hl : Loose cs fr) (hv : flatV v = true) (ho : o < cs.size)
    (hc : cs.setIfInBounds o v = cs') (H : ∀ h', h' = h.set b (.cells cs' E fr) → K h') : st h ⟨b, o, none⟩ v K :=
  st_v hb hl hv ho (by rw [hc]; exact H _ rfl)
theorem nw_to {x : Obj} {K : Nat → Hp → Prop} {h : Hp} (H : ∀ r h', h r = none → h' = h.set r x → K r h') : nw h x K := fun r hr => H r _ hr rfl
end Go.H
namespace Go.H
theorem Rc.take {o : Own} {h : Hp} {t : Tag} {sz : Nat} {a : Option Addr} {n c : Nat} {xs : List Value} (H : Rc o h t sz a n c xs) {m : Nat} (hm : m ≤ n) : Rc o h t sz a m c (xs.take (m * sz)) := by
  obtain ⟨h1, h2, h3⟩ := H
  have hb : m * sz ≤ n * sz := Nat.mul_le_mul_right _ hm
  refine ⟨by rw [List.length_take, h1]; omega, by omega, ?_⟩
  rcases h3 with h3 | ⟨b, off, cs, E, fr, e1, e2, e3, e4⟩
  · exact .inl (by omega)
  · refine .inr ⟨b, off, cs, E, fr, e1, e2, e3, fun i x hx => e4 i x ?_⟩
    rw [List.getElem?_take] at hx
    split at hx
    · exact hx
    · cases hx
end Go.H
namespace Go.H
theorem Step.no {S : Tag → Prop} {o o' : Own} {h h' : Hp} (st : Step (fun _ => False) o h o' h') : Step S o h o' h' := st.mono (by simp)
end Go.H
namespace Go.H
/-- What a method of the object τ may change. -/
def Of (τ : Nat) : Tag → Prop := fun t => t.1 = τ
/-- All but what stands for good. -/
def Mut : Tag → Prop := fun t => t ≠ (0, 0)
theorem Step.ofMut {τ : Nat} {o o' : Own} {h h' : Hp} (hτ : 2 ≤ τ) (st : Step (Of τ) o h o' h') : Step Mut o h o' h' := st.mono (by rintro t rfl e; rw [e] at hτ; simp at hτ)
end Go.H
namespace Go.H
theorem Rc.none {o : Own} {h : Hp} {t : Tag} {sz : Nat} {a : Option Addr} {c : Nat} : Rc o h t sz a 0 c [] := ⟨by simp, by omega, .inl rfl⟩
end Go.H
