import Derived.Test.YtcolhmddhaabnaaDoorDisk0
set_option linter.unusedVariables false
set_option maxRecDepth 100000
namespace Go.Proofs.YtcolhmddhaabnaaDoor
open Go.H

/-! ### slices.Clone of bytes -/
theorem clone_ok {o : Own} {h : Hp} {tb t : Tag} {a : Option Addr} {n c : Nat} {l : Bytes} {K : Value → Hp → Prop} (hx : Rc o h tb 1 a n c (l.map bc)) (hlen : l.length ≤ 1099511627776)
    (H : ∀ o' h' a' c', Oc o' h' t 1 a' n c' (l.map bc) → Step (fun _ => False) o h o' h' → K (.slice a' n c') h') :
    Spec P 37 #[.slice a n c] h K := by
  have hn : n = l.length := by have := hx.1; simp at this; omega
  refine S37 ?_
  unfold V37
  refine bIf_ite (fun hnil => ?_) (fun hnil => ?_)
  · have ha : a = none := by simpa using hnil
    subst ha
    have h0 : n = 0 := by
      rcases hx.2.2 with h0 | ⟨b, off, cs, E, fr, e, _⟩
      · exact h0
      · cases e
    have hl : l = [] := by rw [h0] at hn; exact List.length_eq_zero_iff.1 hn.symm
    subst h0 hl
    exact H o h none 0 (Oc.nil _) (.refl _ _ _)
  · intro r hr
    have stp : Step (fun _ => False) o h (o.set r t) (h.set r (.cells #[] 5)) := Step.new _ _ hr
    refine append_own (o := o.set r t) (t := t) elem24 (Oc.nil _) (hx.step stp (by simp)).src plain_bc (by omega) (by omega) ?_
    intro a' c' o' h' h1 _ h3
    rw [Nat.zero_add] at h1 ⊢
    exact H o' h' a' c' h1 (stp.trans (h3 rfl))
/-! ### (image).copied -/
theorem len_rc {o : Own} {h : Hp} {t : Tag} {a : Option Addr} {n c : Nat} {l : Bytes} (H : Rc o h t 1 a n c (l.map bc)) : n = l.length := by
  have := H.1; simp at this; omega
theorem copied_ok {o : Own} {h : Hp} {m : Nat → Bytes} {t : Nat → Tag} {τ s : Nat} {A : Nat → Option Addr} {C : Nat → Nat} {K : Value → Hp → Prop}
    (hA : ∀ j, j < 3 → Rc o h (t j) 1 (A j) (m j).length (C j) ((m j).map bc) ∧ t j ≠ (1, 0) ∧ (m j).length ≤ 1099511627776) (hτ : τ ≠ 1)
    (H : ∀ o' h' a0 c0 a1 c1 a2 c2, Oc o' h' (τ, s) 1 a0 (m 0).length c0 ((m 0).map bc) → Oc o' h' (τ, s + 1) 1 a1 (m 1).length c1 ((m 1).map bc) → Oc o' h' (τ, s + 2) 1 a2 (m 2).length c2 ((m 2).map bc) →
      Step (fun _ => False) o h o' h' → K (.agg #[.slice a0 (m 0).length c0, .slice a1 (m 1).length c1, .slice a2 (m 2).length c2]) h') :
    Spec P 39 #[.agg #[.slice (A 0) (m 0).length (C 0), .slice (A 1) (m 1).length (C 1), .slice (A 2) (m 2).length (C 2)]] h K := by
  refine S39 (I26 := fun ns y1 y2 y4 hh => ∃ (k : Nat) (o' : Own) (r1 r2 : Nat) (cs : Array Value), ns = [3 - k] ∧ k ≤ 3 ∧ y4 = k ∧ y1 = ⟨r1, 0, none⟩ ∧ y2 = ⟨r2, 0, none⟩ ∧
      h r1 = none ∧ h r2 = none ∧ r1 ≠ r2 ∧ o' r1 = (1, 0) ∧ o' r2 = (1, 0) ∧ hh r1 = some (.cells cs 74 (0, 0)) ∧ hh r2 = some (.cells #[.slice none 0 0, .slice none 0 0, .slice none 0 0] 74 (0, 0)) ∧ cs.size = 3 ∧
      (∀ j, j < 3 → ∃ a c, cs[j]? = some (.slice a (m j).length c) ∧ (j < k → Oc o' hh (τ, s + j) 1 a (m j).length c ((m j).map bc)) ∧ (k ≤ j → Rc o' hh (t j) 1 a (m j).length c ((m j).map bc))) ∧
      Step (fun _ => False) o h o' hh) ?_ ?_
  · rintro n y1 y2 y4 hh ⟨k, o', r1, r2, cs, hns, hk, rfl, rfl, rfl, hr1, hr2, hne, ho1, ho2, hb1, hb2, hsz, hcs, st0⟩
    obtain rfl : n = 3 - k := by simpa using hns
    unfold V39_26
    refine bIf_dec (fun hlt => ?_) (fun hge => ?_)
    · have hk3 : k < 3 := by omega
      obtain ⟨a, c, e1, _, e3⟩ := hcs k hk3
      have e3 := e3 (Nat.le_refl _)
      refine ix_arr arr74 (by omega) (by omega) ?_
      simp only [Int.toNat_natCast, Nat.mul_one, Nat.zero_add]
      refine ld_l hb1 e1 ?_
      refine clone_ok (t := (τ, s + k)) e3 (hA k hk3).2.2 ?_
      intro o3 h3 a3 c3 f1 st1
      refine ix_arr arr74 (by omega) (by omega) ?_
      simp only [Int.toNat_natCast, Nat.mul_one, Nat.zero_add]
      obtain ⟨hb1', ho1'⟩ := st1.at hb1 (by simp)
      obtain ⟨hb2', ho2'⟩ := st1.at hb2 (by simp)
      refine st_v hb1' (Loose.zero _) rfl (by omega) ?_
      have hw : IntKind.i64.wrap ((k : Int) + 1) = ((k + 1 : Nat) : Int) := by rw [wrap_i64] <;> omega
      rw [hw]
      have stp : Step (fun t => t = (1, 0)) o3 h3 o3 (h3.set r1 (.cells (cs.setIfInBounds k (.slice a3 (m k).length c3)) 74 (0, 0))) := Step.put _ (ho1'.trans ho1)
      refine ⟨3 - (k + 1), by omega, k + 1, o3, r1, r2, _, rfl, hk3, rfl, rfl, rfl, hr1, hr2, hne, ho1'.trans ho1, ho2'.trans ho2, Hp.set_same _ _ _, by rw [Hp.set_ne _ _ (fun e => hne e.symm)]; exact hb2', by simpa using hsz, ?_, (st0.trans st1).putNew _ hr1⟩
      intro j hj
      by_cases hjk : j = k
      · subst hjk
        refine ⟨a3, c3, by simp [hsz, hj], fun _ => f1.step stp ?_, fun h => by omega⟩
        intro e; exact hτ (Prod.mk.inj e).1
      · obtain ⟨a', c', g1, g2, g3⟩ := hcs j hj
        refine ⟨a', c', by rw [Array.getElem?_setIfInBounds_ne (fun e => hjk e.symm)]; exact g1, fun h => ((g2 (by omega)).step st1 (by simp)).step stp ?_, fun h => ((g3 (by omega)).step st1 (by simp)).step stp ?_⟩
        · intro e; exact hτ (Prod.mk.inj e).1
        · exact (hA j hj).2.1
    · have hk3 : k = 3 := by omega
      subst hk3
      obtain ⟨a0, c0, g0, p0, _⟩ := hcs 0 (by omega)
      obtain ⟨a1, c1, g1, p1, _⟩ := hcs 1 (by omega)
      obtain ⟨a2, c2, g2, p2, _⟩ := hcs 2 (by omega)
      refine ld_l hb1 g0 ?_
      refine ld_l hb1 g1 ?_
      refine ld_l hb1 g2 ?_
      refine st_v hb2 (Loose.zero _) rfl (by simp) ?_
      refine st_v (Hp.set_same _ _ _) (Loose.zero _) rfl (by simp) ?_
      refine st_v (Hp.set_same _ _ _) (Loose.zero _) rfl (by simp) ?_
      refine ld_l (Hp.set_same _ _ _) rfl ?_
      refine ld_l (Hp.set_same _ _ _) rfl ?_
      refine ld_l (Hp.set_same _ _ _) rfl ?_
      have stp : Step (fun t => t = (1, 0)) o' hh o' (((hh.set r2 (.cells (#[Value.slice none 0 0, .slice none 0 0, .slice none 0 0].setIfInBounds 0 (.slice a0 (m 0).length c0)) 74 (0, 0))).set r2 (.cells ((#[Value.slice none 0 0, .slice none 0 0, .slice none 0 0].setIfInBounds 0 (.slice a0 (m 0).length c0)).setIfInBounds (0 + 1) (.slice a1 (m 1).length c1)) 74 (0, 0))).set r2 (.cells (((#[Value.slice none 0 0, .slice none 0 0, .slice none 0 0].setIfInBounds 0 (.slice a0 (m 0).length c0)).setIfInBounds (0 + 1) (.slice a1 (m 1).length c1)).setIfInBounds (0 + 2) (.slice a2 (m 2).length c2)) 74 (0, 0))) :=
        ((Step.put (S := fun t => t = (1, 0)) _ ho2).trans (Step.put (S := fun t => t = (1, 0)) _ ho2)).trans (Step.put (S := fun t => t = (1, 0)) _ ho2)
      refine H o' _ a0 c0 a1 c1 a2 c2 ((p0 (by omega)).step stp ?_) ((p1 (by omega)).step stp ?_) ((p2 (by omega)).step stp ?_) (((st0.putNew _ hr2).putNew _ hr2).putNew _ hr2)
      all_goals exact fun e => hτ (Prod.mk.inj e).1
  · unfold V39
    intro r1 hr1 r2 hr2
    have hne : r1 ≠ r2 := by
      intro e
      subst e
      simp at hr2
    have hr2' : h r2 = none := by rw [Hp.set_ne _ _ (fun e => hne e.symm)] at hr2; exact hr2
    have st1 : Step (fun _ => False) o h (o.set r1 (1, 0)) (h.set r1 (.cells #[.slice (A 0) (m 0).length (C 0), .slice (A 1) (m 1).length (C 1), .slice (A 2) (m 2).length (C 2)] 74)) := Step.new _ _ hr1
    have st2 := st1.trans (Step.new (.cells #[.slice none 0 0, .slice none 0 0, .slice none 0 0] 74) (1, 0) hr2)
    refine ⟨3, 0, (o.set r1 (1, 0)).set r2 (1, 0), r1, r2, #[.slice (A 0) (m 0).length (C 0), .slice (A 1) (m 1).length (C 1), .slice (A 2) (m 2).length (C 2)], rfl, by omega, rfl, rfl, rfl, hr1, hr2', hne, ?_, Own.set_same _ _ _, ?_, Hp.set_same _ _ _, ?_, ?_, st2⟩
    · rw [Own.set_ne _ _ hne]; exact Own.set_same _ _ _
    · rw [Hp.set_ne _ _ hne]; exact Hp.set_same _ _ _
    · rfl
    · intro j hj
      refine ⟨A j, C j, ?_, fun h => by omega, fun _ => (hA j hj).1.step st2 (by simp)⟩
      match j, hj with
      | 0, _ => rfl
      | 1, _ => rfl
      | 2, _ => rfl

/-! ### The disk in memory -/
structure DS where
  room : Int
  sure : Nat → Bytes
  seen : Nat → Bytes
  waits : List Ch
  armed : Bool
  left : Int
  gone : Bool
def ChAt (o : Own) (h : Hp) (c : Ch) (cs : List Value) : Prop :=
  ∃ a n cp, cs = [.int .i64 c.area, .int .i64 c.pos, .slice a n cp, .bool c.cuts] ∧ c.area < 3 ∧ Rc o h (0, 0) 1 a n cp (c.bytes.map bc) ∧ c.pos + c.bytes.length ≤ 1099511627776
theorem ChAt.step {S : Tag → Prop} {o o' : Own} {h h' : Hp} {c : Ch} {cs : List Value} (H : ChAt o h c cs) (s : Step S o h o' h') (h0 : ¬ S (0, 0)) : ChAt o' h' c cs := by
  obtain ⟨a, n, cp, e, h1, h2, h3⟩ := H
  exact ⟨a, n, cp, e, h1, h2.step s h0, h3⟩
def WaitsAt (o : Own) (h : Hp) (τ : Nat) (a : Option Addr) (n c : Nat) (l : List Ch) : Prop := ∃ xs, Oc o h (τ, 7) 4 a n c xs ∧ RowsOf 4 (ChAt o h) l xs ∧ l.length ≤ 1073741824
theorem WaitsAt.step {S : Tag → Prop} {o o' : Own} {h h' : Hp} {τ : Nat} {a : Option Addr} {n c : Nat} {l : List Ch} (H : WaitsAt o h τ a n c l) (s : Step S o h o' h') (h0 : ¬ S (0, 0)) (h7 : ¬ S (τ, 7)) : WaitsAt o' h' τ a n c l := by
  obtain ⟨xs, h1, h2, h3⟩ := H
  exact ⟨xs, h1.step s h7, h2.mono fun x c _ hx => hx.step s h0, h3⟩
theorem Img.step {S : Tag → Prop} {o o' : Own} {h h' : Hp} {τ s off : Nat} {cs : Array Value} {m : Nat → Bytes} (H : Img o h τ s cs off m) (st : Step S o h o' h') (hk : ∀ k, k < 3 → ¬ S (τ, s + k)) : Img o' h' τ s cs off m := by
  intro k hk3
  obtain ⟨a, n, c, e1, e2, e3⟩ := H k hk3
  exact ⟨a, n, c, e1, e2.step st (hk k hk3), e3⟩
theorem Img.cells {o : Own} {h : Hp} {τ s off : Nat} {cs cs' : Array Value} {m : Nat → Bytes} (H : Img o h τ s cs off m) (e : ∀ k, k < 3 → cs'[off + k]? = cs[off + k]?) : Img o h τ s cs' off m := by
  intro k hk3
  obtain ⟨a, n, c, e1, e2, e3⟩ := H k hk3
  exact ⟨a, n, c, (e k hk3).trans e1, e2, e3⟩
/-- Nothing is longer than a disk has room. -/
structure DS.Ok (D : DS) : Prop where
  sures : ∀ k, k < 3 → (D.sure k).length ≤ 1048576
  seens : ∀ k, k < 3 → (D.seen k).length ≤ 1048576
  chs : ∀ c ∈ D.waits, c.pos + c.bytes.length ≤ 1048576
/-- The cells of a disk. -/
structure DiskC (o : Own) (h : Hp) (τ : Nat) (cs : Array Value) (D : DS) : Prop where
  size : cs.size = 11
  room : cs[0]? = some (.int .i64 D.room)
  sure : Img o h τ 1 cs 1 D.sure
  seen : Img o h τ 4 cs 4 D.seen
  waits : ∃ a n c, cs[7]? = some (.slice a n c) ∧ WaitsAt o h τ a n c D.waits
  armed : cs[8]? = some (.bool D.armed)
  left : cs[9]? = some (.int .i64 D.left)
  gone : cs[10]? = some (.bool D.gone)
  lefts : 0 ≤ D.left ∧ D.left ≤ 9223372036854775807
  rooms : 0 ≤ D.room ∧ D.room ≤ 1048576
  ok : D.Ok
/-- A disk in memory. -/
def DiskAt (o : Own) (h : Hp) (τ d : Nat) (D : DS) : Prop := ∃ cs E, h d = some (.cells cs E (0, 0)) ∧ o d = (τ, 0) ∧ DiskC o h τ cs D
theorem DiskC.step {S : Tag → Prop} {o o' : Own} {h h' : Hp} {τ : Nat} {cs : Array Value} {D : DS} (H : DiskC o h τ cs D) (s : Step S o h o' h') (h0 : ¬ S (0, 0)) (hτ : ∀ k, ¬ S (τ, k)) : DiskC o' h' τ cs D :=
  ⟨H.size, H.room, H.sure.step s fun k _ => hτ _, H.seen.step s fun k _ => hτ _, (let ⟨a, n, c, e, hw⟩ := H.waits; ⟨a, n, c, e, hw.step s h0 (hτ _)⟩), H.armed, H.left, H.gone, H.lefts, H.rooms, H.ok⟩
theorem DiskAt.step {S : Tag → Prop} {o o' : Own} {h h' : Hp} {τ d : Nat} {D : DS} (H : DiskAt o h τ d D) (s : Step S o h o' h') (h0 : ¬ S (0, 0)) (hτ : ∀ k, ¬ S (τ, k)) : DiskAt o' h' τ d D := by
  obtain ⟨cs, E, h1, h2, h3⟩ := H
  obtain ⟨f1, f2⟩ := s.at h1 (by rw [h2]; exact hτ 0)
  exact ⟨cs, E, f1, f2.trans h2, h3.step s h0 hτ⟩

theorem is_ok {area : Int} {h : Hp} {K : Value → Hp → Prop} (H : K (.bool (decide (0 ≤ area ∧ area < 3))) h) : Spec P 35 #[.int .i64 area] h K := by
  refine S35 ?_
  unfold V35
  refine bIf_dec (fun h1 => ?_) (fun h1 => ?_)
  · rw [show decide (area < 3) = decide (0 ≤ area ∧ area < 3) by simp; omega]; exact H
  · rw [show false = decide (0 ≤ area ∧ area < 3) by simp; omega]; exact H
def szD (D : DS) (area : Int) : Nat := if 0 ≤ area ∧ area < 3 then (D.seen area.toNat).length else 0
theorem size_ok {o : Own} {h : Hp} {τ d : Nat} {D : DS} {area : Int} {K : Value → Hp → Prop} (hd : DiskAt o h τ d D) (H : K (.int .i64 (szD D area)) h) :
    Spec P 15 #[.pointer (some ⟨d, 0, none⟩), .int .i64 area] h K := by
  obtain ⟨cs, E, h1, h2, h3⟩ := hd
  refine S15 ?_
  unfold V15
  refine is_ok ?_
  refine bIf_ite (fun hn => ?_) (fun hn => ?_)
  · have : szD D area = 0 := by unfold szD; simp at hn; rw [if_neg]; omega
    rw [this] at H; exact H
  · have hin : 0 ≤ area ∧ area < 3 := by simpa using hn
    obtain ⟨k, rfl⟩ := Int.eq_ofNat_of_zero_le hin.1
    have hk : k < 3 := by omega
    obtain ⟨a, n, c, e1, e2, _⟩ := h3.seen k hk
    refine ix_arr arr74 (by omega) (by omega) ?_
    simp only [Int.toNat_natCast, Nat.mul_one, Nat.zero_add]
    refine ld_l h1 e1 ?_
    have : szD D (k : Int) = n := by unfold szD; rw [if_pos hin, len_of e2]; simp
    rw [← this]; exact H
def freeD (D : DS) : Int := D.room - (D.seen 0).length - (D.seen 1).length - (D.seen 2).length
theorem free_ok {o : Own} {h : Hp} {τ d : Nat} {D : DS} {K : Value → Hp → Prop} (hd : DiskAt o h τ d D) (H : K (.int .i64 (freeD D)) h) : Spec P 16 #[.pointer (some ⟨d, 0, none⟩)] h K := by
  obtain ⟨cs, E, h1, h2, h3⟩ := hd
  have hb : ∀ k, k < 3 → (D.seen k).length ≤ 1099511627776 := fun k hk => by obtain ⟨_, _, _, _, _, h⟩ := h3.seen k hk; exact h
  have hb0 := hb 0 (by omega)
  have hb1 := hb 1 (by omega)
  have hb2 := hb 2 (by omega)
  have hr := h3.rooms
  let part : Nat → Int := fun k => D.room - (if 0 < k then ((D.seen 0).length : Int) else 0) - (if 1 < k then ((D.seen 1).length : Int) else 0) - (if 2 < k then ((D.seen 2).length : Int) else 0)
  refine S16 (I58 := fun ns y0 y3 y9 hh => ∃ k : Nat, ns = [3 - k] ∧ k ≤ 3 ∧ y0 = ⟨d, 0, none⟩ ∧ y9 = k ∧ y3 = part k ∧ hh = h) ?_ ?_
  · rintro n y0 y3 y9 hh ⟨k, hns, hk, rfl, rfl, rfl, rfl⟩
    obtain rfl : n = 3 - k := by simpa using hns
    unfold V16_58
    refine bIf_dec (fun hlt => ?_) (fun hge => ?_)
    · have hk3 : k < 3 := by omega
      obtain ⟨a, n, c, e1, e2, _⟩ := h3.seen k hk3
      refine ix_arr arr74 (by omega) (by omega) ?_
      simp only [Int.toNat_natCast, Nat.mul_one, Nat.zero_add]
      refine ld_l h1 e1 ?_
      refine ⟨3 - (k + 1), by omega, k + 1, by trivial, hk3, by trivial, ?_, ?_, by trivial⟩
      · rw [wrap_i64] <;> omega
      · have hn := len_of e2
        have hs : part k - (n : Int) = part (k + 1) := by
          obtain rfl | rfl | rfl : k = 0 ∨ k = 1 ∨ k = 2 := by omega
          all_goals simp only [part] <;> simp <;> omega
        rw [hs]
        rw [wrap_i64]
        all_goals (simp only [part]; (repeat' split) <;> omega)
    · have hk3 : k = 3 := by omega
      subst hk3
      have : part 3 = freeD D := by simp [part, freeD]
      rw [this]; exact H
  · unfold V16
    refine ld_i h1 h3.room ?_
    refine ⟨3, 0, rfl, by omega, ?_, ?_, ?_, ?_⟩
    all_goals first | rfl | simp [part]

end Go.Proofs.YtcolhmddhaabnaaDoor
