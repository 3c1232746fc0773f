import Derived.Test.YtcolhmddhaabnaaDoorDisk4
set_option linter.unusedVariables false
set_option maxRecDepth 100000
namespace Go.Proofs.YtcolhmddhaabnaaDoor
open Go.H

def syncD (D : DS) : DS × Nat := if goneD D then (unitD D, 3) else ({ unitD D with sure := D.seen, waits := [] }, 0)
/-- The image in memory, as three slices. -/
theorem Img.three {o : Own} {h : Hp} {τ s off : Nat} {cs : Array Value} {m : Nat → Bytes} (H : Img o h τ s cs off m) :
    ∃ (A : Nat → Option Addr) (C : Nat → Nat), ∀ k, k < 3 → cs[off + k]? = some (.slice (A k) (m k).length (C k)) ∧ Oc o h (τ, s + k) 1 (A k) (m k).length (C k) ((m k).map bc) ∧ (m k).length ≤ 1099511627776 := by
  obtain ⟨a0, n0, c0, e0, f0, g0⟩ := H 0 (by omega)
  obtain ⟨a1, n1, c1, e1, f1, g1⟩ := H 1 (by omega)
  obtain ⟨a2, n2, c2, e2, f2, g2⟩ := H 2 (by omega)
  obtain rfl := len_of f0
  obtain rfl := len_of f1
  obtain rfl := len_of f2
  refine ⟨fun k => match k with | 0 => a0 | 1 => a1 | _ => a2, fun k => match k with | 0 => c0 | 1 => c1 | _ => c2, fun k hk => ?_⟩
  obtain rfl | rfl | rfl : k = 0 ∨ k = 1 ∨ k = 2 := by omega
  · exact ⟨e0, f0, g0⟩
  · exact ⟨e1, f1, g1⟩
  · exact ⟨e2, f2, g2⟩
theorem Step.put2 {S : Tag → Prop} {o o' : Own} {h h' : Hp} {r : Nat} (a : Step S o h o' h') (x : Obj) (hs : S (o' r)) : Step S o h o' (h'.set r x) := a.trans (Step.put x hs)

/-- (*disk.Disk).Sync -/
theorem sync_ok {o : Own} {h : Hp} {τ d : Nat} {D : DS} {e : Errs} {K : Value → Hp → Prop} (hd : DiskAt o h τ d D) (he : ErrsAt o h e) (hτ : 2 ≤ τ)
    (H : ∀ o' h', DiskAt o' h' τ d (syncD D).1 → Step (Of τ) o h o' h' → K (e.val (syncD D).2) h') :
    Spec P 12 #[.pointer (some ⟨d, 0, none⟩)] h K := by
  refine S12 ?_
  unfold V12
  refine unit_ok hd he hτ fun h1 hd1 st1 => ?_
  have st1' : Step (Of τ) o h o h1 := st1.mono (by rintro _ rfl; rfl)
  by_cases hg : goneD D = true
  · rw [if_pos hg]
    have e1 : syncD D = (unitD D, 3) := by unfold syncD; rw [if_pos hg]
    rw [e1] at H
    exact nl_err (he.step st1 (by simp; omega)).2.2 (bIf_t rfl (H _ _ hd1 st1'))
  · rw [if_neg hg]
    have e1 : syncD D = ({ unitD D with sure := D.seen, waits := [] }, 0) := by unfold syncD; rw [if_neg hg]
    rw [e1] at H
    refine nl_nil (bIf_f rfl ?_)
    obtain ⟨cs, E, b1, b2, b3⟩ := hd1
    have bsz := b3.size
    obtain ⟨A, C, hAC⟩ := b3.seen.three
    rw [unitD_seen] at hAC
    refine ld_l b1 (hAC 0 (by omega)).1 ?_
    refine ld_l b1 (hAC 1 (by omega)).1 ?_
    refine ld_l b1 (hAC 2 (by omega)).1 ?_
    refine copied_ok (τ := τ) (s := 1) (m := D.seen) (A := A) (C := C) (t := fun j => (τ, 4 + j)) (fun j hj => ⟨(hAC j hj).2.1.read, by simp, (hAC j hj).2.2⟩) (by omega) ?_
    intro o2 h2 a0 c0 a1 c1 a2 c2 f0 f1 f2 st2
    obtain ⟨d2, od2⟩ := st2.at b1 (by simp)
    rw [b2] at od2
    refine asAg_i (unc_i (asSl_i (unc_i (asSl_i (unc_i (asSl_i (nilL_i ?_)))))))
    dsimp only
    refine st_v d2 (Loose.zero _) (v := .slice a0 (D.seen 0).length c0) rfl (by omega) ?_
    refine st_v (Hp.set_same _ _ _) (Loose.zero _) (v := .slice a1 (D.seen 1).length c1) rfl (by simp; omega) ?_
    refine st_v (Hp.set_same _ _ _) (Loose.zero _) (v := .slice a2 (D.seen 2).length c2) rfl (by simp; omega) ?_
    refine st_v (Hp.set_same _ _ _) (Loose.zero _) (v := .slice none 0 0) rfl (by simp; omega) ?_
    generalize hcs' : (((cs.setIfInBounds (0 + 1) (.slice a0 (D.seen 0).length c0)).setIfInBounds (0 + 2) (.slice a1 (D.seen 1).length c1)).setIfInBounds (0 + 3) (.slice a2 (D.seen 2).length c2)).setIfInBounds (0 + 7) (.slice none 0 0) = cs'
    have get : ∀ j, j ≠ 1 → j ≠ 2 → j ≠ 3 → j ≠ 7 → cs'[j]? = cs[j]? := by
      intro j h1 h2 h3 h4
      rw [← hcs', Array.getElem?_setIfInBounds_ne (by omega), Array.getElem?_setIfInBounds_ne (by omega), Array.getElem?_setIfInBounds_ne (by omega), Array.getElem?_setIfInBounds_ne (by omega)]
    have g1 : cs'[1]? = some (.slice a0 (D.seen 0).length c0) := by
      rw [← hcs', Array.getElem?_setIfInBounds_ne (by omega), Array.getElem?_setIfInBounds_ne (by omega), Array.getElem?_setIfInBounds_ne (by omega), Array.getElem?_setIfInBounds_self_of_lt (by omega)]
    have g2 : cs'[2]? = some (.slice a1 (D.seen 1).length c1) := by
      rw [← hcs', Array.getElem?_setIfInBounds_ne (by omega), Array.getElem?_setIfInBounds_ne (by omega), Array.getElem?_setIfInBounds_self_of_lt (by simp; omega)]
    have g3 : cs'[3]? = some (.slice a2 (D.seen 2).length c2) := by
      rw [← hcs', Array.getElem?_setIfInBounds_ne (by omega), Array.getElem?_setIfInBounds_self_of_lt (by simp; omega)]
    have g7 : cs'[7]? = some (.slice none 0 0) := by
      rw [← hcs', Array.getElem?_setIfInBounds_self_of_lt (by simp; omega)]
    have hsz : cs'.size = 11 := by rw [← hcs']; simpa using bsz
    -- the last heap
    have st3 : Step (fun t => t = (τ, 0)) o2 h2 o2 (h2.set d (.cells cs' E (0, 0))) := Step.put _ od2
    have hset : ∀ x y z : Obj, ((((h2.set d x).set d y).set d z).set d (.cells cs' E (0, 0))) = h2.set d (.cells cs' E (0, 0)) := by
      intro x y z
      funext q
      unfold Hp.set
      split <;> rfl
    rw [hset]
    have bsz2 := b3.seen
    have fin : DiskAt o2 (h2.set d (.cells cs' E (0, 0))) τ d { unitD D with sure := D.seen, waits := [] } := by
      refine ⟨cs', E, Hp.set_same _ _ _, od2, hsz, ?_, ?_, ?_, ⟨none, 0, 0, g7, [], Oc.nil _, rfl, by simp⟩, ?_, ?_, ?_, b3.lefts, b3.rooms, ?_⟩
      · rw [get 0 (by omega) (by omega) (by omega) (by omega)]; exact b3.room
      · intro k hk
        obtain rfl | rfl | rfl : k = 0 ∨ k = 1 ∨ k = 2 := by omega
        · exact ⟨_, _, _, g1, f0.step st3 (by simp), (hAC 0 hk).2.2⟩
        · exact ⟨_, _, _, g2, f1.step st3 (by simp), (hAC 1 hk).2.2⟩
        · exact ⟨_, _, _, g3, f2.step st3 (by simp), (hAC 2 hk).2.2⟩
      · exact ((b3.seen.step st2 (by simp)).step st3 (by intro k hk; simp)).cells fun k hk => get _ (by omega) (by omega) (by omega) (by omega)
      · rw [get 8 (by omega) (by omega) (by omega) (by omega)]; exact b3.armed
      · rw [get 9 (by omega) (by omega) (by omega) (by omega)]; exact b3.left
      · rw [get 10 (by omega) (by omega) (by omega) (by omega)]; exact b3.gone
      · have hs := b3.ok.seens
        have hs' := hs
        rw [unitD_seen] at hs
        exact ⟨hs, hs', by simp⟩
    exact H _ _ fin ((st1'.trans (st2.mono (by simp))).trans (st3.mono (by rintro _ rfl; rfl)))

/-- (*disk.Disk).Read -/
theorem read_ok {o : Own} {h : Hp} {τ d : Nat} {t : Tag} {D : DS} {e : Errs} {area : Int} {K : Value → Hp → Prop} (hd : DiskAt o h τ d D) (he : ErrsAt o h e)
    (H1 : ¬ (0 ≤ area ∧ area < 3) → K (.tuple #[.slice none 0 0, e.range]) h)
    (H2 : (0 ≤ area ∧ area < 3) → D.gone = true → K (.tuple #[.slice none 0 0, e.down]) h)
    (H3 : (0 ≤ area ∧ area < 3) → D.gone = false → ∀ o' h' a c, Oc o' h' t 1 a (D.seen area.toNat).length c ((D.seen area.toNat).map bc) → Step (fun _ => False) o h o' h' →
      K (.tuple #[.slice a (D.seen area.toNat).length c, .nilIface]) h') :
    Spec P 13 #[.pointer (some ⟨d, 0, none⟩), .int .i64 area] h K := by
  obtain ⟨cs, E, b1, b2, b3⟩ := hd
  refine S13 ?_
  unfold V13
  refine is_ok ?_
  refine asBo_i ?_
  refine bIf_ite (fun h1 => ?_) (fun h1 => ?_)
  · exact ld_err he.1 (H1 (by simp at h1; omega))
  · have h1 : 0 ≤ area ∧ area < 3 := by simpa using h1
    refine ld_b b1 b3.gone ?_
    refine bIf_ite (fun h2 => ?_) (fun h2 => ?_)
    · exact ld_err he.2.2 (H2 h1 h2)
    · obtain ⟨k, rfl⟩ := Int.eq_ofNat_of_zero_le h1.1
      obtain ⟨A, C, hAC⟩ := b3.seen.three
      obtain ⟨e1, e2, e3⟩ := hAC k (by omega)
      refine ix_arr arr74 (by omega) (by omega) ?_
      simp only [Int.toNat_natCast, Nat.mul_one, Nat.zero_add]
      refine ld_l b1 e1 ?_
      refine clone_ok (t := t) e2.read e3 ?_
      intro o' h' a' c' f1 st1
      exact H3 h1 h2 o' h' a' c' f1 st1
end Go.Proofs.YtcolhmddhaabnaaDoor
