import Derived.Test.YtcolhmddhaabnaaDoorDisk3
set_option linter.unusedVariables false
set_option maxRecDepth 100000
namespace Go.Proofs.YtcolhmddhaabnaaDoor
open Go.H

def Errs.val (e : Errs) : Nat → Value
  | 0 => .nilIface
  | 1 => e.range
  | 2 => e.full
  | _ => e.down
def newD (room : Int) : DS := ⟨room, fun _ => [], fun _ => [], [], false, 0, false⟩
theorem Img.nils {o : Own} {h : Hp} {τ s off : Nat} {cs : Array Value} (H : ∀ k, k < 3 → cs[off + k]? = some (.slice none 0 0)) : Img o h τ s cs off (fun _ => []) :=
  fun k hk => ⟨none, 0, 0, H k hk, Oc.nil _, by simp⟩
/-- disk.New -/
theorem new_ok {o : Own} {h : Hp} {τ : Nat} {room : Int} {e : Errs} {K : Value → Hp → Prop} (he : ErrsAt o h e)
    (H0 : (room < 0 ∨ 1048576 < room) → K (.tuple #[.pointer none, e.range]) h)
    (H1 : (0 ≤ room ∧ room ≤ 1048576) → ∀ o' h' d, h d = none → DiskAt o' h' τ d (newD room) → Step (fun _ => False) o h o' h' → K (.tuple #[.pointer (some ⟨d, 0, none⟩), .nilIface]) h') :
    Spec P 9 #[.int .i64 room] h K := by
  refine S9 ?_
  unfold V9
  have fin : 0 ≤ room → V9_s6 K room (decide (room > 1048576)) h := by
    intro h0
    unfold V9_s6
    refine bIf_dec (fun h1 => ?_) (fun h1 => ?_)
    · exact ld_err he.1 (H0 (.inr h1))
    · unfold V9_s3
      intro r hr
      refine H1 ⟨h0, by omega⟩ (o.set r (τ, 0)) _ r hr ⟨_, _, Hp.set_same _ _ _, Own.set_same _ _ _, ?_⟩ (Step.new _ _ hr)
      refine ⟨rfl, rfl, Img.nils ?_, Img.nils ?_, ⟨none, 0, 0, rfl, [], Oc.nil _, rfl, by simp [newD]⟩, rfl, rfl, rfl, by simp [newD], ⟨h0, by simp only [newD]; omega⟩, ?_⟩
      · intro k hk
        obtain rfl | rfl | rfl : k = 0 ∨ k = 1 ∨ k = 2 := by omega
        all_goals rfl
      · intro k hk
        obtain rfl | rfl | rfl : k = 0 ∨ k = 1 ∨ k = 2 := by omega
        all_goals rfl
      · exact ⟨by simp [newD], by simp [newD], by simp [newD]⟩
  refine bIf_dec (fun h0 => ?_) (fun h0 => fin (by omega))
  exact bIf_t rfl (ld_err he.1 (H0 (.inl h0)))

/-! ### Cut, Write -/
def cutD (D : DS) (area n : Int) : DS × Nat :=
  if (0 ≤ area ∧ area < 3) ∧ 0 ≤ n ∧ n ≤ szD D area then (waitD D ⟨area.toNat, n.toNat, [], true⟩, if goneD D then 3 else 0) else (D, 1)
theorem szD_le {D : DS} (h : D.Ok) (area : Int) : szD D area ≤ 1048576 := by
  unfold szD
  split
  · exact h.seens _ (by omega)
  · omega
theorem DiskAt.ok {o : Own} {h : Hp} {τ d : Nat} {D : DS} (H : DiskAt o h τ d D) : D.Ok := by
  obtain ⟨_, _, _, _, h3⟩ := H
  exact h3.ok
/-- (*disk.Disk).Cut -/
theorem cut_ok {o : Own} {h : Hp} {τ d : Nat} {D : DS} {e : Errs} {area n : Int} {K : Value → Hp → Prop} (hd : DiskAt o h τ d D) (he : ErrsAt o h e) (hτ : 2 ≤ τ) (hw : D.waits.length < 1073741824)
    (H : ∀ o' h', DiskAt o' h' τ d (cutD D area n).1 → Step (Of τ) o h o' h' → K (e.val (cutD D area n).2) h') :
    Spec P 10 #[.pointer (some ⟨d, 0, none⟩), .int .i64 area, .int .i64 n] h K := by
  have hs := szD_le hd.ok area
  have bad : ¬ ((0 ≤ area ∧ area < 3) ∧ 0 ≤ n ∧ n ≤ szD D area) → V10_s6 K ⟨d, 0, none⟩ area n true h := by
    intro hn
    have e1 : cutD D area n = (D, 1) := by unfold cutD; rw [if_neg hn]
    rw [e1] at H
    exact bIf_t rfl (ld_err he.1 (H o h hd (.refl _ _ _)))
  refine S10 ?_
  unfold V10
  refine is_ok ?_
  refine asBo_i ?_
  refine bIf_ite (fun h1 => ?_) (fun h1 => ?_)
  · exact bad (by simp at h1; omega)
  · have h1 : 0 ≤ area ∧ area < 3 := by simpa using h1
    refine bIf_dec (fun h2 => bad (by omega)) (fun h2 => ?_)
    refine size_ok hd ?_
    refine asIn_i ?_
    by_cases h3 : n ≤ szD D area
    · have e0 : decide (n > (szD D area : Int)) = false := by simp; omega
      rw [e0]
      unfold V10_s6
      refine bIf_f rfl ?_
      unfold V10_s3
      have e1 : cutD D area n = (waitD D ⟨area.toNat, n.toNat, [], true⟩, if goneD D then 3 else 0) := by unfold cutD; rw [if_pos ⟨h1, by omega, h3⟩]
      rw [e1] at H
      have ea : ((area.toNat : Nat) : Int) = area := by omega
      have en : ((n.toNat : Nat) : Int) = n := by omega
      have hK : K = fun v h => K v h := rfl
      have := wait_ok (c := ⟨area.toNat, n.toNat, [], true⟩) (ca := none) (cn := 0) (cc := 0) (K := K) hd he hτ (by show area.toNat < 3; omega) Rc.none (by show n.toNat + 0 ≤ _; omega) hw (fun o' h' a1 a2 => by
        have := H o' h' a1 a2
        split
        · rename_i hg; simpa [hg, Errs.val] using this
        · rename_i hg; simpa [hg, Errs.val] using this)
      simp only [ea, en] at this
      exact this
    · have e0 : decide (n > (szD D area : Int)) = true := by simp; omega
      rw [e0]
      exact bad (by omega)
def writeD (D : DS) (area pos : Int) (l : Bytes) : DS × Nat :=
  if (0 ≤ area ∧ area < 3) ∧ 0 ≤ pos ∧ pos ≤ szD D area then
    if pos + l.length - szD D area > max 0 (freeD D) then (D, 2) else (waitD D ⟨area.toNat, pos.toNat, l, false⟩, if goneD D then 3 else 0)
  else (D, 1)
theorem write_end {D : DS} {area pos : Int} {l : Bytes} (hok : D.Ok) (hr : D.room ≤ 1048576) (h1 : (0 ≤ area ∧ area < 3) ∧ 0 ≤ pos ∧ pos ≤ szD D area) (h2 : ¬ pos + l.length - szD D area > max 0 (freeD D)) :
    pos + l.length ≤ 1048576 := by
  have hs := szD_le hok area
  have : (szD D area : Int) + max 0 (freeD D) ≤ 1048576 := by
    have e : szD D area = (D.seen area.toNat).length := by unfold szD; rw [if_pos h1.1]
    unfold freeD
    obtain h | h | h : area.toNat = 0 ∨ area.toNat = 1 ∨ area.toNat = 2 := by omega
    all_goals (rw [h] at e; omega)
  omega
theorem DiskAt.room {o : Own} {h : Hp} {τ d : Nat} {D : DS} (H : DiskAt o h τ d D) : 0 ≤ D.room ∧ D.room ≤ 1048576 := by
  obtain ⟨_, _, _, _, h3⟩ := H
  exact h3.rooms
/-- (*disk.Disk).Write -/
theorem write_ok {o : Own} {h : Hp} {τ d : Nat} {D : DS} {e : Errs} {area pos : Int} {tb : Tag} {a : Option Addr} {n c : Nat} {l : Bytes} {K : Value → Hp → Prop} (hd : DiskAt o h τ d D) (he : ErrsAt o h e) (hτ : 2 ≤ τ)
    (hw : D.waits.length < 1073741824) (hx : Rc o h tb 1 a n c (l.map bc)) (hl : l.length ≤ 1099511627776)
    (H : ∀ o' h', DiskAt o' h' τ d (writeD D area pos l).1 → Step (Of τ) o h o' h' → K (e.val (writeD D area pos l).2) h') :
    Spec P 11 #[.pointer (some ⟨d, 0, none⟩), .int .i64 area, .int .i64 pos, .slice a n c] h K := by
  have hs := szD_le hd.ok area
  have hn : n = l.length := len_rc hx
  have hroom := hd.room
  have bad : ∀ y, ¬ ((0 ≤ area ∧ area < 3) ∧ 0 ≤ pos ∧ pos ≤ szD D area) → V11_s28 K ⟨d, 0, none⟩ area pos a n c y true h := by
    intro y hn
    have e1 : writeD D area pos l = (D, 1) := by unfold writeD; rw [if_neg hn]
    rw [e1] at H
    exact bIf_t rfl (ld_err he.1 (H o h hd (.refl _ _ _)))
  refine S11 ?_
  unfold V11
  refine size_ok hd ?_
  refine asIn_i ?_
  refine is_ok ?_
  refine asBo_i ?_
  refine bIf_ite (fun h1 => ?_) (fun h1 => ?_)
  · exact bad _ (by simp at h1; omega)
  · have h1 : 0 ≤ area ∧ area < 3 := by simpa using h1
    refine bIf_dec (fun h2 => bad _ (by omega)) (fun h2 => ?_)
    refine size_ok hd ?_
    refine asIn_i ?_
    by_cases h3 : pos ≤ szD D area
    · have e0 : decide (pos > (szD D area : Int)) = false := by simp; omega
      rw [e0]
      unfold V11_s28
      refine bIf_f rfl ?_
      refine free_ok hd ?_
      refine asIn_i ?_
      have hcond : (0 ≤ area ∧ area < 3) ∧ 0 ≤ pos ∧ pos ≤ szD D area := ⟨h1, by omega, h3⟩
      have ew : IntKind.i64.wrap (IntKind.i64.wrap (pos + ((n : Nat) : Int)) - (szD D area : Int)) = pos + l.length - szD D area := by
        rw [wrap_i64 (n := pos + ((n : Nat) : Int)) (by omega) (by omega), wrap_i64 (by omega) (by omega), hn]
      rw [ew]
      have em : mxI 0 (freeD D) = max 0 (freeD D) := by unfold mxI; split <;> omega
      rw [em]
      refine bIf_dec (fun h4 => ?_) (fun h4 => ?_)
      · have e1 : writeD D area pos l = (D, 2) := by unfold writeD; rw [if_pos hcond, if_pos h4]
        rw [e1] at H
        exact ld_err he.2.1 (H o h hd (.refl _ _ _))
      · have e1 : writeD D area pos l = (waitD D ⟨area.toNat, pos.toNat, l, false⟩, if goneD D then 3 else 0) := by unfold writeD; rw [if_pos hcond, if_neg h4]
        rw [e1] at H
        have hend := write_end hd.ok hroom.2 hcond h4
        unfold V11_s7
        refine clone_ok (t := (0, 0)) hx hl ?_
        intro o1 h1' a1 c1 f1 st1
        refine asSl_i ?_
        have ea : ((area.toNat : Nat) : Int) = area := by omega
        have en : ((pos.toNat : Nat) : Int) = pos := by omega
        have := wait_ok (c := ⟨area.toNat, pos.toNat, l, false⟩) (K := K) (hd.step st1 (by simp) (by simp)) (he.step st1 (by simp)) hτ (by show area.toNat < 3; omega) f1.read (by show pos.toNat + l.length ≤ _; omega) hw (fun o' h' a1 a2 => by
          have := H o' h' a1 ((st1.mono (by simp)).trans a2)
          split
          · rename_i hg; simpa [hg, Errs.val] using this
          · rename_i hg; simpa [hg, Errs.val] using this)
        simp only [ea, en] at this
        exact this
    · have e0 : decide (pos > (szD D area : Int)) = true := by simp; omega
      rw [e0]
      exact bad _ (by omega)

end Go.Proofs.YtcolhmddhaabnaaDoor
