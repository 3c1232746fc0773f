import Derived.Test.YtcolhmddhaabnaaDoorHmisc
import Derived.Test.YtcolhmddhaabnaaDoorDisk2
set_option linter.unusedVariables false
set_option maxRecDepth 100000
namespace Go.Proofs.YtcolhmddhaabnaaDoor
open Go.H

theorem elem75 : Elem P 75 81 4 48 := elem_of (by kernel_rfl)
theorem splice_len (b x : Bytes) (p : Nat) : (splice b p x).length = max b.length (p + x.length) := by
  unfold splice
  simp only [List.length_append, List.length_take, List.length_drop, List.length_replicate]
  omega
theorem Ch.on_len (c : Ch) (b : Bytes) : (c.on b).length ≤ max b.length (c.pos + c.bytes.length) := by
  unfold Ch.on
  split
  · simp; omega
  · rw [splice_len]; omega
theorem doI_len {m : Nat → Bytes} {c : Ch} (hm : ∀ k, k < 3 → (m k).length ≤ 1048576) (hc : c.pos + c.bytes.length ≤ 1048576) : ∀ k, k < 3 → (doI m c k).length ≤ 1048576 := by
  intro k hk
  unfold doI
  have := hm k hk
  split
  · have := c.on_len (m k); omega
  · exact this
def waitD (D : DS) (c : Ch) : DS := if goneD D then unitD D else { unitD D with waits := D.waits ++ [c], seen := doI D.seen c }
theorem unitD_waits (D : DS) : (unitD D).waits = D.waits := by unfold unitD; (repeat' split) <;> rfl
theorem unitD_seen (D : DS) : (unitD D).seen = D.seen := by unfold unitD; (repeat' split) <;> rfl
theorem unitD_sure (D : DS) : (unitD D).sure = D.sure := by unfold unitD; (repeat' split) <;> rfl
theorem unitD_room (D : DS) : (unitD D).room = D.room := by unfold unitD; (repeat' split) <;> rfl

theorem wait_ok {o : Own} {h : Hp} {τ d : Nat} {D : DS} {e : Errs} {c : Ch} {ca : Option Addr} {cn cc : Nat} {K : Value → Hp → Prop} (hd : DiskAt o h τ d D) (he : ErrsAt o h e) (hτ : 2 ≤ τ)
    (ha : c.area < 3) (hc : Rc o h (0, 0) 1 ca cn cc (c.bytes.map bc)) (hlen : c.pos + c.bytes.length ≤ 1048576) (hw : D.waits.length < 1073741824)
    (H : ∀ o' h', DiskAt o' h' τ d (waitD D c) → Step (Of τ) o h o' h' → K (if goneD D then e.down else .nilIface) h') :
    Spec P 36 #[.pointer (some ⟨d, 0, none⟩), .agg #[.int .i64 c.area, .int .i64 c.pos, .slice ca cn cc, .bool c.cuts]] h K := by
  refine S36 ?_
  unfold V36
  intro r hr
  have st0 : Step (fun _ => False) o h (o.set r (1, 0)) (h.set r (.cells #[.int .i64 c.area, .int .i64 c.pos, .slice ca cn cc, .bool c.cuts] 81)) := Step.new _ _ hr
  have hr0 : (h.set r (.cells #[.int .i64 c.area, .int .i64 c.pos, .slice ca cn cc, .bool c.cuts] 81)) r = some (.cells #[.int .i64 c.area, .int .i64 c.pos, .slice ca cn cc, .bool c.cuts] 81) := Hp.set_same _ _ _
  have or0 : (o.set r (1, 0)) r = (1, 0) := Own.set_same _ _ _
  have hd0 := hd.step st0 (by simp) (by simp)
  have he0 := he.step st0 (by simp)
  have hc0 := hc.step st0 (by simp)
  generalize h.set r (.cells #[.int .i64 c.area, .int .i64 c.pos, .slice ca cn cc, .bool c.cuts] 81) = h0 at *
  generalize o.set r (1, 0) = o0 at *
  refine unit_ok hd0 he0 hτ fun h1 hd1 st1 => ?_
  obtain ⟨hr1, or1⟩ := st1.at hr0 (by rw [or0]; simp; omega)
  have he1 := he0.step st1 (by simp; omega)
  have hc1 := hc0.step st1 (by simp; omega)
  have st01 : Step (Of τ) o h o0 h1 := (st0.mono (by simp)).trans (st1.mono (by rintro _ rfl; rfl))
  by_cases hg : goneD D = true
  · rw [if_pos hg]
    refine nl_err he1.2.2 (bIf_t rfl ?_)
    have := H o0 h1 (by unfold waitD; rw [if_pos hg]; exact hd1) st01
    rw [if_pos hg] at this
    exact this
  · rw [if_neg hg]
    refine nl_nil (bIf_f rfl ?_)
    obtain ⟨cs, E, b1, b2, b3⟩ := hd1
    obtain ⟨wa, wn, wc, b4, ⟨xs, b5, b6, b7⟩⟩ := b3.waits
    rw [unitD_waits] at b6 b7
    have bsz := b3.size
    refine ld_l b1 b4 ?_
    refine ld_i hr1 rfl ?_
    refine ld_i hr1 rfl ?_
    refine ld_l hr1 rfl ?_
    refine ld_b hr1 rfl ?_
    intro r2 hr2
    have st2 : Step (fun _ => False) o0 h1 (o0.set r2 (1, 0)) (h1.set r2 (.cells #[.int .i64 c.area, .int .i64 c.pos, .slice ca cn cc, .bool c.cuts] 81)) := Step.new _ _ hr2
    have hr2' : (h1.set r2 (.cells #[.int .i64 c.area, .int .i64 c.pos, .slice ca cn cc, .bool c.cuts] 81)) r2 = some (.cells #[.int .i64 c.area, .int .i64 c.pos, .slice ca cn cc, .bool c.cuts] 81) := Hp.set_same _ _ _
    have or2 : (o0.set r2 (1, 0)) r2 = (1, 0) := Own.set_same _ _ _
    generalize h1.set r2 (.cells #[.int .i64 c.area, .int .i64 c.pos, .slice ca cn cc, .bool c.cuts] 81) = h2 at *
    generalize o0.set r2 (1, 0) = o2 at *
    obtain ⟨d2, od2⟩ := st2.at b1 (by simp)
    refine ⟨rd_same (by kernel_rfl) b1 (by dsimp only; omega) d2, ?_⟩
    have row : Rc o2 h2 (1, 0) 4 (some ⟨r2, 0, none⟩) 1 1 [.int .i64 c.area, .int .i64 c.pos, .slice ca cn cc, .bool c.cuts] :=
      ⟨rfl, Nat.le_refl _, .inr ⟨r2, 0, _, 81, (0, 0), rfl, or2, hr2', fun i x hx => by rw [Nat.zero_add]; simpa using hx⟩⟩
    have hxn : wn = D.waits.length := by have h1 := b6.length; have h2 := b5.1; omega
    refine append_own (t := (τ, 7)) elem75 (b5.step st2 (by simp)) row.src (by simp [flatV]) (by omega) (by omega) ?_
    intro a' c' o3 h3 f1 st3 _
    obtain ⟨d3, od3⟩ := st3.at d2 (by rw [od2, b2]; simp [Only])
    obtain ⟨hr3, _⟩ := (st2.mono (S' := Only (τ, 7)) (by simp)).trans st3 |>.at hr1 (by rw [or1, or0]; simp [Only])
    have od3' : o3 d = (τ, 0) := by rw [od3, od2, b2]
    refine asSl_i ?_
    dsimp only
    refine st_v d3 (Loose.zero _) rfl (by omega) ?_
    have st4 : Step (fun t => t = (τ, 0)) o3 h3 o3 (h3.set d (.cells (cs.setIfInBounds (0 + 7) (.slice a' (wn + 1) c')) E (0, 0))) := Step.put _ od3'
    have d4 : (h3.set d (.cells (cs.setIfInBounds (0 + 7) (.slice a' (wn + 1) c')) E (0, 0))) d = some (.cells (cs.setIfInBounds (0 + 7) (.slice a' (wn + 1) c')) E (0, 0)) := Hp.set_same _ _ _
    have hr4 : (h3.set d (.cells (cs.setIfInBounds (0 + 7) (.slice a' (wn + 1) c')) E (0, 0))) r = some (.cells #[.int .i64 c.area, .int .i64 c.pos, .slice ca cn cc, .bool c.cuts] 81) := by
      rw [Hp.set_ne _ _ (fun e => by rw [e] at hr3; rw [hr3] at d3; cases d3; simp at bsz)]; exact hr3
    have st24 : Step (fun t => t = (τ, 7) ∨ t = (τ, 0)) o0 h1 o3 (h3.set d (.cells (cs.setIfInBounds (0 + 7) (.slice a' (wn + 1) c')) E (0, 0))) :=
      ((st2.mono (by simp)).trans (st3.mono fun t ht => .inl ht)).trans (st4.mono fun t ht => .inr ht)
    have f4 := f1.step st4 (by simp)
    generalize h3.set d (.cells (cs.setIfInBounds (0 + 7) (.slice a' (wn + 1) c')) E (0, 0)) = h4 at *
    refine ld_i hr4 rfl ?_
    refine ld_i hr4 rfl ?_
    refine ld_l hr4 rfl ?_
    refine ld_b hr4 rfl ?_
    have hc4 := hc1.step st24 (by simp; omega)
    have seen4 : Img o3 h4 τ 4 (cs.setIfInBounds (0 + 7) (.slice a' (wn + 1) c')) 4 (unitD D).seen :=
      (b3.seen.step st24 (by intro k hk; simp; omega)).cells fun k hk => Array.getElem?_setIfInBounds_ne (by omega)
    have sure4 : Img o3 h4 τ 1 (cs.setIfInBounds (0 + 7) (.slice a' (wn + 1) c')) 1 (unitD D).sure :=
      (b3.sure.step st24 (by intro k hk; simp; omega)).cells fun k hk => Array.getElem?_setIfInBounds_ne (by omega)
    refine do_ok (c := c) (τ := τ) (s := 4) (m := (unitD D).seen) d4 od3' (by omega) (by omega) (by simp; omega) seen4 ha hc4 (by omega) ?_
    intro o5 h5 a5 n5 c5 g1 g2 g3 st5
    have st15 : Step (Of τ) o h o5 h5 := (st01.trans (st24.mono (by rintro t (rfl | rfl) <;> rfl))).trans (st5.mono (by rintro t (rfl | rfl) <;> rfl))
    have fin : DiskAt o5 h5 τ d (waitD D c) := by
      have hwd : waitD D c = { unitD D with waits := D.waits ++ [c], seen := doI D.seen c } := by unfold waitD; rw [if_neg hg]
      rw [hwd]
      have get : ∀ j, j ≠ 7 → j ≠ 4 + c.area → ((cs.setIfInBounds (0 + 7) (.slice a' (wn + 1) c')).setIfInBounds (4 + c.area) (.slice a5 n5 c5))[j]? = cs[j]? := by
        intro j h1 h2
        rw [Array.getElem?_setIfInBounds_ne (fun e => h2 e.symm), Array.getElem?_setIfInBounds_ne (by omega)]
      refine ⟨_, E, g1, g2, by simpa using bsz, ?_, ?_, ?_, ⟨a', wn + 1, c', ?_, ?_⟩, ?_, ?_, ?_, b3.lefts, b3.rooms, ?_⟩
      · rw [get 0 (by omega) (by omega)]; exact b3.room
      · exact (sure4.step st5 (by intro k hk; simp; omega)).cells fun k hk => Array.getElem?_setIfInBounds_ne (by omega)
      · intro k hk
        by_cases hka : k = c.area
        · subst hka
          refine ⟨a5, n5, c5, by rw [Array.getElem?_setIfInBounds_self_of_lt (by simp; omega)], ?_, ?_⟩
          · simp only [doI, if_true]
            rw [unitD_seen] at g3
            exact g3
          · exact Nat.le_trans (doI_len (by have := b3.ok.seens; rw [unitD_seen] at this; exact this) hlen _ hk) (by omega)
        · obtain ⟨a, n, cp, e1, e2, e3⟩ := seen4 k hk
          refine ⟨a, n, cp, by rw [Array.getElem?_setIfInBounds_ne (by omega)]; exact e1, ?_, ?_⟩
          · have := e2.step st5 (by simp; omega)
            rw [unitD_seen] at this
            simp only [doI, if_neg hka]
            exact this
          · simp only [doI, if_neg hka]
            rw [unitD_seen] at e3
            exact e3
      · rw [Array.getElem?_setIfInBounds_ne (by omega), Array.getElem?_setIfInBounds_self_of_lt (by omega)]
      · have f5 := f4.step st5 (by simp; omega)
        refine ⟨_, f5, RowsOf.append (b6.mono fun x cl _ hx => (hx.step st24 (by simp; omega)).step st5 (by simp; omega)) (RowsOf.one ⟨ca, cn, cc, rfl, ha, hc4.step st5 (by simp; omega), by omega⟩ rfl), by simp; omega⟩
      · rw [get 8 (by omega) (by omega)]; exact b3.armed
      · rw [get 9 (by omega) (by omega)]; exact b3.left
      · rw [get 10 (by omega) (by omega)]; exact b3.gone
      · refine ⟨b3.ok.sures, doI_len (by have := b3.ok.seens; rw [unitD_seen] at this; exact this) hlen, ?_⟩
        intro x hx
        rcases List.mem_append.1 hx with hx | hx
        · have := b3.ok.chs; rw [unitD_waits] at this; exact this x hx
        · rw [List.mem_singleton.1 hx]; exact hlen
    have := H o5 h5 fin st15
    rw [if_neg hg] at this
    exact this
end Go.Proofs.YtcolhmddhaabnaaDoor
