import Derived.Test.YtcolhmddhaabnaaDoorDisk1
set_option linter.unusedVariables false
set_option maxRecDepth 100000
namespace Go.Proofs.YtcolhmddhaabnaaDoor
open Go.H

/-! ### Errors: what stands in the package's variables -/
/-- Block g holds the error e, an error that is there. -/
def ErrAt (o : Own) (h : Hp) (g : Nat) (e : Value) : Prop := o g = (0, 0) ∧ (∃ E fr, h g = some (.cells #[e] E fr)) ∧ ∃ T v, e = .iface T v
theorem ErrAt.step {S : Tag → Prop} {o o' : Own} {h h' : Hp} {g : Nat} {e : Value} (H : ErrAt o h g e) (s : Step S o h o' h') (h0 : ¬ S (0, 0)) : ErrAt o' h' g e := by
  obtain ⟨h1, ⟨E, fr, h2⟩, h3⟩ := H
  obtain ⟨f1, f2⟩ := s.at h2 (by rw [h1]; exact h0)
  exact ⟨f2.trans h1, ⟨E, fr, f1⟩, h3⟩
/-- The errors that the disk answers. -/
structure Errs where
  range : Value
  full : Value
  down : Value
def ErrsAt (o : Own) (h : Hp) (e : Errs) : Prop := ErrAt o h 0 e.range ∧ ErrAt o h 1 e.full ∧ ErrAt o h 2 e.down
theorem ErrsAt.step {S : Tag → Prop} {o o' : Own} {h h' : Hp} {e : Errs} (H : ErrsAt o h e) (s : Step S o h o' h') (h0 : ¬ S (0, 0)) : ErrsAt o' h' e :=
  ⟨H.1.step s h0, H.2.1.step s h0, H.2.2.step s h0⟩
theorem ld_err {o : Own} {h : Hp} {g : Nat} {e : Value} {K : Value → Prop} (H : ErrAt o h g e) (hk : K e) : ld h ⟨g, 0, none⟩ K := by
  obtain ⟨_, ⟨E, fr, h2⟩, _⟩ := H
  exact ld_v h2 rfl hk
theorem iface31 : ∃ ms, P.underlying 31 = some (.interface ms) := by
  have : (match P.underlying 31 with | some (.interface _) => true | _ => false) = true := by kernel_rfl
  revert this
  split
  · intro _; exact ⟨_, by assumption⟩
  · intro h; cases h
/-- err != nil -/
theorem nl_nil {K : Bool → Prop} (H : K false) : nlW P 31 true .nilIface fun v => asBo v K := by
  obtain ⟨ms, hm⟩ := iface31
  unfold nlW; rw [hm]; exact H
theorem nl_err {o : Own} {h : Hp} {g : Nat} {e : Value} {K : Bool → Prop} (H : ErrAt o h g e) (hk : K true) : nlW P 31 true e fun v => asBo v K := by
  obtain ⟨ms, hm⟩ := iface31
  obtain ⟨_, _, T, v, rfl⟩ := H
  unfold nlW; rw [hm]; exact hk

/-! ### unit -/
theorem eta_gone {D : DS} (h : D.gone = true) : (if true = true then { D with gone := true } else if D.armed = true then { D with left := D.left - 1 } else D) = D := by
  rw [if_pos rfl, ← h]
def goneD (D : DS) : Bool := D.gone || (D.armed && D.left == 0)
def unitD (D : DS) : DS := if goneD D then { D with gone := true } else if D.armed then { D with left := D.left - 1 } else D
theorem unit_ok {o : Own} {h : Hp} {τ d : Nat} {D : DS} {e : Errs} {K : Value → Hp → Prop} (hd : DiskAt o h τ d D) (he : ErrsAt o h e) (hτ : 2 ≤ τ)
    (H : ∀ h', DiskAt o h' τ d (unitD D) → Step (fun t => t = (τ, 0)) o h o h' → K (if goneD D then e.down else .nilIface) h') :
    Spec P 38 #[.pointer (some ⟨d, 0, none⟩)] h K := by
  obtain ⟨cs, E, h1, h2, h3⟩ := hd
  obtain ⟨s1, s2, s3, s4, ⟨wa, wn, wc, s5, s6⟩, s7, s8, s9, s10, s11, s12⟩ := id h3
  have upd : ∀ (cs' : Array Value) (D' : DS) , cs'.size = 11 → (∀ j, j < 8 → cs'[j]? = cs[j]?) → cs'[8]? = some (.bool D'.armed) → cs'[9]? = some (.int .i64 D'.left) → cs'[10]? = some (.bool D'.gone) →
      D'.room = D.room → D'.sure = D.sure → D'.seen = D.seen → D'.waits = D.waits → (0 ≤ D'.left ∧ D'.left ≤ 9223372036854775807) →
      ∀ h', h' = h.set d (.cells cs' E (0, 0)) → DiskAt o h' τ d D' ∧ Step (fun t => t = (τ, 0)) o h o h' := by
    intro cs' D' e1 e2 e3 e4 e5 e6 e7 e8 e9 e10 h' rfl
    have st : Step (fun t => t = (τ, 0)) o h o (h.set d (.cells cs' E (0, 0))) := Step.put _ h2
    refine ⟨⟨cs', E, Hp.set_same _ _ _, h2, e1, by rw [e2 0 (by omega), e6]; exact s2, ?_, ?_, ?_, e3, e4, e5, e10, by rw [e6]; exact s11, ⟨by rw [e7]; exact s12.sures, by rw [e8]; exact s12.seens, by rw [e9]; exact s12.chs⟩⟩, st⟩
    · rw [e7]; exact (s3.step st (by intro k hk; simp)).cells fun k hk => e2 _ (by omega)
    · rw [e8]; exact (s4.step st (by intro k hk; simp)).cells fun k hk => e2 _ (by omega)
    · rw [e9]; exact ⟨wa, wn, wc, by rw [e2 7 (by omega)]; exact s5, s6.step st (by simp; omega) (by simp)⟩
  have same : D = unitD D → goneD D = false → K .nilIface h := by
    intro e1 e2
    have := H h (by rw [← e1]; exact ⟨cs, E, h1, h2, h3⟩) (.refl _ _ _)
    rw [e2] at this
    exact this
  -- the second part
  have part2 : ∀ (h' : Hp) (cs' : Array Value) (g : Bool), h' d = some (.cells cs' E (0, 0)) → cs'.size = 11 → cs'[8]? = some (.bool D.armed) → cs'[9]? = some (.int .i64 D.left) → cs'[10]? = some (.bool g) →
      (g = true → goneD D = true ∧ ErrAt o h' 2 e.down ∧ DiskAt o h' τ d (unitD D) ∧ Step (fun t => t = (τ, 0)) o h o h') → (g = false → goneD D = false ∧ h' = h ∧ cs' = cs) → V38_s3 K ⟨d, 0, none⟩ h' := by
    intro h' cs' g hb hsz hc8 hc9 hc10 hg1 hg0
    unfold V38_s3
    refine ld_b hb hc10 ?_
    refine bIf_ite (fun hg => ?_) (fun hg => ?_)
    · obtain ⟨a1, a2, a3, a4⟩ := hg1 hg
      refine ld_err a2 ?_
      have := H h' a3 a4
      rw [a1] at this
      exact this
    · obtain ⟨a1, rfl, rfl⟩ := hg0 hg
      refine ld_b hb hc8 ?_
      refine bIf_ite (fun ha => ?_) (fun ha => ?_)
      · refine ld_i hb hc9 ?_
        refine st_v hb (Loose.zero _) rfl (by dsimp only; omega) ?_
        have hw : IntKind.i64.wrap (D.left - 1) = D.left - 1 := wrap_i64 (by omega) (by omega)
        rw [hw]
        have hu : unitD D = { D with left := D.left - 1 } := by unfold unitD; rw [a1, ha]; rfl
        obtain ⟨p1, p2⟩ := upd (cs'.setIfInBounds (0 + 9) (.int .i64 (D.left - 1))) (unitD D) (by simpa using hsz) (fun j hj => Array.getElem?_setIfInBounds_ne (by omega))
          (by rw [Array.getElem?_setIfInBounds_ne (by omega), hu]; exact hc8) (by rw [hu]; simp [hsz]) (by rw [Array.getElem?_setIfInBounds_ne (by omega), hu]; exact s9) (by rw [hu]) (by rw [hu]) (by rw [hu]) (by rw [hu]) (by
            rw [hu]
            dsimp only
            constructor
            · have hl : D.left ≠ 0 := by
                intro e
                unfold goneD at a1
                rw [ha, e] at a1
                simp at a1
              omega
            · omega) _ rfl
        have := H _ p1 p2
        rw [a1] at this
        exact this
      · exact same (by unfold unitD; rw [a1, ha]; rfl) a1
  refine S38 ?_
  unfold V38
  refine ld_b h1 s7 ?_
  refine bIf_ite (fun ha => ?_) (fun ha => ?_)
  · refine ld_i h1 s8 ?_
    unfold V38_s6
    refine bIf_ite (fun hl => ?_) (fun hl => ?_)
    · refine st_v h1 (Loose.zero _) rfl (by dsimp only; omega) ?_
      have hg : goneD D = true := by unfold goneD; rw [ha, hl]; simp
      have hu : unitD D = { D with gone := true } := by unfold unitD; rw [hg]; rfl
      obtain ⟨p1, p2⟩ := upd (cs.setIfInBounds (0 + 10) (.bool true)) (unitD D) (by simpa using s1) (fun j hj => Array.getElem?_setIfInBounds_ne (by omega))
        (by rw [Array.getElem?_setIfInBounds_ne (by omega), hu]; exact s7) (by rw [Array.getElem?_setIfInBounds_ne (by omega), hu]; exact s8) (by rw [hu]; simp [s1]) (by rw [hu]) (by rw [hu]) (by rw [hu]) (by rw [hu]) (by rw [hu]; exact s10) _ rfl
      refine part2 _ _ true (Hp.set_same _ _ _) (by simpa using s1) (by rw [Array.getElem?_setIfInBounds_ne (by omega)]; exact s7) (by rw [Array.getElem?_setIfInBounds_ne (by omega)]; exact s8) (by simp [s1]) (fun _ => ⟨hg, he.2.2.step p2 (by simp; omega), p1, p2⟩) (fun h => by cases h)
    · refine part2 h cs D.gone h1 s1 s7 s8 s9 (fun hg => ?_) (fun hg => ⟨by unfold goneD; rw [hg, hl]; simp, rfl, rfl⟩)
      have hgd : goneD D = true := by unfold goneD; rw [hg]; rfl
      have hu : unitD D = D := by unfold unitD; rw [hgd]; exact eta_gone hg
      exact ⟨hgd, he.2.2, by rw [hu]; exact ⟨cs, E, h1, h2, h3⟩, .refl _ _ _⟩
  · unfold V38_s6
    refine bIf_f rfl ?_
    refine part2 h cs D.gone h1 s1 s7 s8 s9 (fun hg => ?_) (fun hg => ⟨by unfold goneD; rw [hg, ha]; simp, rfl, rfl⟩)
    have hgd : goneD D = true := by unfold goneD; rw [hg]; rfl
    have hu : unitD D = D := by unfold unitD; rw [hgd]; exact eta_gone hg
    exact ⟨hgd, he.2.2, by rw [hu]; exact ⟨cs, E, h1, h2, h3⟩, .refl _ _ _⟩
end Go.Proofs.YtcolhmddhaabnaaDoor
