import Derived.Test.YtcolhmddhaabnaaDoorHdraw
namespace Go.H
section
variable {P : Program} {ops : Array Oper}

def SH (P : Program) (ops : Array Oper) (held : Held) (L : Array Bool) (w : World) : Prop := ∀ x ∈ held, NoDep P ops x.1 L → x.2 (hp w)

theorem heldOk_all : ∀ {held : Held} {h : Hp}, heldOk held h → ∀ x ∈ held, x.2 h
  | [], _, _, _, hx => by cases hx
  | [y], _, hh, x, hx => by simp only [List.mem_singleton] at hx; subst hx; exact hh
  | y :: z :: r, h, hh, x, hx => by
    rcases List.mem_cons.1 hx with rfl | hx
    · exact hh.1
    · exact heldOk_all hh.2 x hx
theorem stepEf_iff {held : Held} {h : Hp} {A : Prop} (hh : stepEf held h A) : (∀ x ∈ held, x.2 h) ∧ A := by
  cases held with
  | nil => exact ⟨fun x hx => (by cases hx), hh⟩
  | cons y r => exact ⟨heldOk_all hh.1, hh.2⟩
theorem mem_prune {i : Nat} : ∀ {held : Held} {x : Nat × (Hp → Prop)}, x ∈ prune ops i held ↔ x ∈ held ∧ reach2 ops i x.1 = false
  | [], x => by simp [prune]
  | y :: r, x => by
    simp only [prune]
    split
    · rename_i hr
      rw [mem_prune]
      constructor
      · exact fun ⟨a, b⟩ => ⟨List.mem_cons_of_mem _ a, b⟩
      · rintro ⟨a, b⟩
        rcases List.mem_cons.1 a with rfl | a
        · rw [hr] at b; cases b
        · exact ⟨a, b⟩
    · rename_i hr
      constructor
      · intro h
        rcases List.mem_cons.1 h with rfl | h
        · exact ⟨List.mem_cons_self .., hr⟩
        · exact ⟨List.mem_cons_of_mem _ (mem_prune.1 h).1, (mem_prune.1 h).2⟩
      · rintro ⟨a, b⟩
        rcases List.mem_cons.1 a with rfl | a
        · exact List.mem_cons_self ..
        · exact List.mem_cons_of_mem _ (mem_prune.2 ⟨a, b⟩)

theorem opW_run {o : Oper} {a : Act} {w : World} {i : Nat} {K : Value → Hp → Prop} {A B : List Value → Prop} {Q : Exit → Act → World → Prop} {next : Act → World → Prop} (hi : ops[i]? = some o)
    (h : guardW ops o a.tmps.toList A B) (hA : A a.tmps.toList → opW P o a.tmps.toList (hp w) K)
    (hn : ∀ v w', K v (hp w') → Same w w' → next (a.put o.dst v) w') (hB : B a.tmps.toList → next (a.put o.dst undef) w) : wpOp P ops Q i next a w := by
  unfold wpOp
  simp only [hi]
  have hwl := wantL_eq ops o a
  cases hw : Region.wanted o (yielded ops a.tmps) with
  | true => simp only [if_true]; exact .inl (opW_sound (hA ((guardW_true (hwl.trans hw)).1 h)) hn)
  | false => simp only [Bool.false_eq_true, if_false]; exact hB ((guardW_false (hwl.trans hw)).1 h)

theorem alts {i : Nat} : ∀ {q : Plan} {L : Array Bool} {held : Held} {l : List Value} {h : Hp} {K : List Value → Hp → Prop},
    planOk P ops false q L = true → i ∈ heads q → regW P ops q held l h K →
    ∃ o p, ops[i]? = some o ∧ efOp P o = true ∧ planOk P ops true p (L.setIfInBounds i true) = true ∧ depth p + 1 ≤ depth q ∧
      guardW ops o l (fun l => opW P o l h fun v h' => stepEf (prune ops i held) h' (regW P ops p (prune ops i held) (putL l o.dst v) h' K)) (fun l => regW P ops p (prune ops i held) (putL l o.dst undef) h K) := by
  intro q
  induction q with
  | nil => intro L held l h K _ hm; simp [heads] at hm
  | ro j p ih => intro L held l h K ho; simp [planOk] at ho
  | ef j p q ihp ihq =>
    intro L held l h K ho hm hr
    simp only [planOk, Bool.not_false, Bool.true_or, Bool.true_and, Bool.and_eq_true] at ho
    obtain ⟨h1, h2, h3⟩ := ho
    cases hoj : ops[j]? with
    | none => simp [hoj] at h1
    | some o =>
      simp only [hoj] at h1
      simp only [regW, hoj] at hr
      simp only [heads, List.mem_cons] at hm
      rcases hm with rfl | hm
      · refine ⟨o, p, hoj, h1, h2, by simp only [depth]; omega, ?_⟩
        cases q with
        | nil => exact hr
        | ro _ _ => exact hr.1
        | ef _ _ _ => exact hr.1
      · have hr' : regW P ops q held l h K := by
          cases q with
          | nil => simp [heads] at hm
          | ro _ _ => exact hr.2
          | ef _ _ _ => exact hr.2
        obtain ⟨o', p'', a, b, c, d, e⟩ := ihq h3 hm hr'
        exact ⟨o', p'', a, b, c, by simp only [depth]; omega, e⟩

theorem planOk_alt {i : Nat} {p q : Plan} {L : Array Bool} (h : planOk P ops true (.ef i p q) L = true) : planOk P ops false (.ef i p q) L = true ∧ Region.ready .any ops L = heads (.ef i p q) := by
  simp only [planOk, Bool.not_true, Bool.false_or, Bool.and_eq_true, beq_iff_eq] at h
  obtain ⟨h1, h2⟩ := h
  refine ⟨?_, h1⟩
  simp only [planOk, Bool.not_false, Bool.true_or, Bool.true_and, Bool.and_eq_true]
  exact h2

theorem regW_sound {Q : Exit → Act → World → Prop} {w0 : World} {K : List Value → Hp → Prop} (hs : Region.noSelect ops = true)
    (hQp : ∀ c a w, ¬ Q (.panic c) a w)
    (hQ : ∀ a w, a.defers = [] → Same w0 w → K a.tmps.toList (hp w) → Q .normal a w) :
    ∀ (n : Nat) (p : Plan) (held : Held) (L : Array Bool) (f : Nat) (a : Act) (w : World), depth p ≤ n → depth p ≤ f → planOk P ops true p L = true → Closed ops L →
      (∀ x ∈ held, effAt P ops x.1 = false) → a.defers = [] → Same w0 w → SH P ops held L w →
      regW P ops p held a.tmps.toList (hp w) K → wpAnyL P ops Q (SH P ops held) f L a w := by
  intro n
  induction n with
  | zero =>
    intro p held L f a w hn hf hp' hcl hh hd hS hSH H
    cases p with
    | nil =>
      simp only [planOk, Bool.not_true, Bool.false_or, beq_iff_eq] at hp'
      have hq := hQ a w hd hS H
      cases f with
      | zero => exact ⟨hp', hq⟩
      | succ f => exact ⟨fun _ => hq, fun i hi => by rw [hp'] at hi; cases hi⟩
    | ro i p => simp [depth] at hn
    | ef i p q => simp only [depth] at hn; omega
  | succ n ih =>
    intro p held L f a w hn hf hp' hcl hh hd hS hSH H
    cases p with
    | nil =>
      simp only [planOk, Bool.not_true, Bool.false_or, beq_iff_eq] at hp'
      have hq := hQ a w hd hS H
      cases f with
      | zero => exact ⟨hp', hq⟩
      | succ f => exact ⟨fun _ => hq, fun i hi => by rw [hp'] at hi; cases hi⟩
    | ro i p =>
      simp only [depth] at hn hf
      obtain ⟨f, rfl⟩ : ∃ m, f = m + 1 := ⟨f - 1, by omega⟩
      simp only [planOk, Bool.true_and, Bool.and_eq_true, List.contains_eq_mem, decide_eq_true_eq] at hp'
      obtain ⟨hr, hfree, hne, hpp⟩ := hp'
      cases ho : ops[i]? with
      | none => simp [ho] at hne
      | some o =>
        simp only [ho] at hne
        simp only [regW, ho] at H
        have hne' : effAt P ops i = false := by simp only [effAt, ho]; simpa using hne
        have hSi : ∀ L w, SH P ops held (L.setIfInBounds i true) w → SH P ops held L w := fun L w h x hx hnd => h x hx ((NoDep.set hne').2 hnd)
        have hS0 : SH P ops held (L.setIfInBounds i true) w := fun x hx hnd => hSH x hx ((NoDep.set hne').1 hnd)
        have hfr := Region.free_spec ho hfree
        have hQ0 : ∀ c a w, Q (.panic c) (a.put o.dst undef) w → Q (.panic c) a w := fun c a w h => (hQp _ _ _ h).elim
        cases hw : wantL ops o a.tmps.toList with
        | false =>
          have hy : YieldsIf P ops (fun _ => True) o undef a := .inr ⟨by rw [← wantL_eq]; exact hw, rfl⟩
          replace H := (guardW_false hw).1 H
          refine firstL (D := fun _ => True) (v := undef) ho hne' (Region.noSelect_spec hs) (fun c a w h => (hQp _ _ _ h).elim) hSi f L a w hfr hr hcl hy trivial hS0 ?_
          refine wpAnyL_mono _ _ (fun L' _ w h => ⟨h, fun _ => trivial⟩) _ _ (ih p held _ f _ w (by omega) (by omega) hpp (hcl.set hr) hh (by rw [put_defers]; exact hd) hS hS0 ?_)
          rw [putL_put]; exact H
        | true =>
          have hwant : Region.wanted o (yielded ops a.tmps) = true := by rw [← wantL_eq]; exact hw
          replace H := (guardW_true hw).1 H
          cases hc : cls P a.tmps.toList o with
          | ef => simp only [hc] at H
          | mv v =>
            simp only [hc] at H
            have hy : YieldsIf P ops (fun _ => True) o v a := .inl ⟨hwant, fun w' _ => by rw [← evalL_act, exec_mv hc]; rfl⟩
            refine firstL (D := fun _ => True) (v := v) ho hne' (Region.noSelect_spec hs) (fun c a w h => (hQp _ _ _ h).elim) hSi f L a w hfr hr hcl hy trivial hS0 ?_
            refine wpAnyL_mono _ _ (fun L' _ w h => ⟨h, fun _ => trivial⟩) _ _ (ih p held _ f _ w (by omega) (by omega) hpp (hcl.set hr) hh (by rw [put_defers]; exact hd) hS hS0 ?_)
            rw [putL_put]; exact H
          | ro s =>
            simp only [hc] at H
            obtain ⟨v, hv, H⟩ := roW_sound hc H
            cases hm : memOp P o.op with
            | false =>
              simp only [hm] at H
              have hnm := memOp_NM hc hm
              have hy : YieldsIf P ops (fun _ => True) o v a := .inl ⟨hwant, fun w' _ => by
                rw [← evalL_act]
                exact rd_sound P _ w' _ (exec_cls hc _ _ ((hnm _ _).trans hv))⟩
              refine firstL (D := fun _ => True) (v := v) ho hne' (Region.noSelect_spec hs) (fun c a w h => (hQp _ _ _ h).elim) hSi f L a w hfr hr hcl hy trivial hS0 ?_
              refine wpAnyL_mono _ _ (fun L' _ w h => ⟨h, fun _ => trivial⟩) _ _ (ih p held _ f _ w (by omega) (by omega) hpp (hcl.set hr) hh (by rw [put_defers]; exact hd) hS hS0 ?_)
              rw [putL_put]; exact H
            | true =>
              simp only [hm] at H
              have hy : YieldsIf P ops (fun w' => rd P s (hp w') = some v) o v a := .inl ⟨hwant, fun w' hD => by
                rw [← evalL_act]
                exact rd_sound P _ w' _ (exec_cls hc _ _ hD)⟩
              refine firstL (D := fun w' => rd P s (hp w') = some v) (v := v) ho hne' (Region.noSelect_spec hs) (fun c a w h => (hQp _ _ _ h).elim) hSi f L a w hfr hr hcl hy hv hS0 ?_
              refine wpAnyL_mono (S' := SH P ops ((i, fun hh => rd P s hh = rd P s (hp w)) :: held)) _ _ (fun L' _ w' h => ⟨fun x hx => h x (List.mem_cons_of_mem _ hx), fun hnd => (h _ (List.mem_cons_self ..) hnd).trans hv⟩) _ _
                (ih p _ _ f _ w (by omega) (by omega) hpp (hcl.set hr) ?_ (by rw [put_defers]; exact hd) hS ?_ ?_)
              · intro x hx
                rcases List.mem_cons.1 hx with rfl | hx
                · exact hne'
                · exact hh x hx
              · intro x hx hnd
                rcases List.mem_cons.1 hx with rfl | hx
                · rfl
                · exact hS0 x hx hnd
              · rw [putL_put]; exact H
    | ef i0 p0 q0 =>
      obtain ⟨halt, hready⟩ := planOk_alt hp'
      have hdep : 1 ≤ depth (.ef i0 p0 q0) := by simp only [depth]; omega
      obtain ⟨f, rfl⟩ : ∃ m, f = m + 1 := ⟨f - 1, by omega⟩
      refine ⟨fun h0 => ?_, fun i hi => ?_⟩
      · rw [hready] at h0; simp [heads] at h0
      · obtain ⟨o, p, ho, he, hpp, hdp, H'⟩ := alts halt (hready ▸ hi) H
        have heff : effAt P ops i = true := by simp only [effAt, ho]; exact he
        have hiL : i < L.size := by
          have h0 := (mem_ready.1 hi).1
          rcases Nat.lt_or_ge i L.size with h' | h'
          · exact h'
          · simp [Array.getElem?_eq_none h'] at h0
        have hset : (L.setIfInBounds i true).getD i false = true := by simp [hiL]
        refine opW_run ho H' (fun h => h) (fun v w' hK hS' => ?_) (fun hK => ?_)
        case refine_2 =>
          have hSHb : ∀ x ∈ held, NoDep P ops x.1 (L.setIfInBounds i true) → x.2 (hp w) := fun x hx hnd => hSH x hx fun j hj he => hnd j (getD_set_true hj) he
          refine ⟨hSHb, ?_⟩
          refine wpAnyL_mono (S' := SH P ops (prune ops i held)) _ _ (fun L' hL' w h x hx hnd => h x (mem_prune.2 ⟨hx, hnd i (hL' i hset) heff⟩) hnd) _ _
            (ih p _ _ f _ w (by omega) (by omega) hpp (hcl.set hi) (fun x hx => hh x (mem_prune.1 hx).1) (by rw [put_defers]; exact hd) hS (fun x hx hnd => hSHb x (mem_prune.1 hx).1 hnd) ?_)
          rw [putL_put]; exact hK
        obtain ⟨hheld, hK⟩ := stepEf_iff hK
        have hSH' : SH P ops held (L.setIfInBounds i true) w' := fun x hx hnd => hheld x (mem_prune.2 ⟨hx, hnd i hset heff⟩)
        refine ⟨hSH', ?_⟩
        refine wpAnyL_mono (S' := SH P ops (prune ops i held)) _ _ (fun L' hL' w h x hx hnd => h x (mem_prune.2 ⟨hx, hnd i (hL' i hset) heff⟩) hnd) _ _
          (ih p _ _ f _ w' (by omega) (by omega) hpp (hcl.set hi) (fun x hx => hh x (mem_prune.1 hx).1) (by rw [put_defers]; exact hd) (hS.trans hS') (fun x hx _ => hheld x hx) ?_)
        rw [putL_put]; exact hK

end
end Go.H
