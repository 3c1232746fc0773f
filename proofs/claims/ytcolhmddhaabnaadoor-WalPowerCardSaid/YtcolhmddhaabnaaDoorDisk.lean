import Derived.Test.YtcolhmddhaabnaaDoorHall
import Derived.Test.YtcolhmddhaabnaaDoorVd
set_option linter.unusedVariables false
set_option maxRecDepth 100000
namespace Go.Proofs.YtcolhmddhaabnaaDoor
open Go.H
abbrev Bytes := List UInt8
abbrev bc : UInt8 → Value := by8
theorem plain_bc {l : Bytes} : ∀ y ∈ l.map bc, flatV y = true := plain_by8
theorem elem24 : Elem P 24 5 1 1 := elem_of (by kernel_rfl)
theorem arr74 : ArrT P 74 24 3 1 := arr_of (by kernel_rfl)
theorem int3 : ∃ k, P.underlying 3 = some (.int k) := ⟨.i64, by kernel_rfl⟩
theorem zero5 : (P.info? 5).bind (·.zero) = some (.int .u8 0) := by kernel_rfl
theorem bc0 : Value.int .u8 0 = bc 0 := rfl

/-! ### The disk, as data -/
structure Ch where
  area : Nat
  pos : Nat
  bytes : Bytes
  cuts : Bool
def splice (b : Bytes) (p : Nat) (x : Bytes) : Bytes :=
  (b ++ List.replicate (p + x.length - b.length) 0).take p ++ x ++ (b ++ List.replicate (p + x.length - b.length) 0).drop (p + x.length)
def Ch.on (c : Ch) (b : Bytes) : Bytes := if c.cuts then b.take c.pos else splice b c.pos c.bytes
def doI (m : Nat → Bytes) (c : Ch) : Nat → Bytes := fun k => if k = c.area then c.on (m k) else m k
/-- An image in memory: three slices, each of its own. -/
def Img (o : Own) (h : Hp) (τ s : Nat) (cs : Array Value) (off : Nat) (m : Nat → Bytes) : Prop :=
  ∀ k, k < 3 → ∃ a n c, cs[off + k]? = some (.slice a n c) ∧ Oc o h (τ, s + k) 1 a n c ((m k).map bc) ∧ (m k).length ≤ 1099511627776
theorem len_of {o : Own} {h : Hp} {t : Tag} {a : Option Addr} {n c : Nat} {l : Bytes} (H : Oc o h t 1 a n c (l.map bc)) : n = l.length := by
  have := H.1; simp at this; omega

/-- disk.image.do -/
theorem do_ok {o : Own} {h : Hp} {τ s b off : Nat} {cs : Array Value} {E : TypeId} {m : Nat → Bytes} {c : Ch} {ca : Option Addr} {cn cc : Nat} {K : Value → Hp → Prop}
    (hb : h b = some (.cells cs E (0, 0))) (hob : o b = (τ, 0)) (hτ : τ ≠ 0) (hs : 0 < s) (hsz : off + 3 ≤ cs.size) (hm : Img o h τ s cs off m)
    (ha : c.area < 3) (hc : Rc o h (0, 0) 1 ca cn cc (c.bytes.map bc)) (hlen : c.pos + c.bytes.length ≤ 1099511627776)
    (H : ∀ o' h' a' n' c', h' b = some (.cells (cs.setIfInBounds (off + c.area) (.slice a' n' c')) E (0, 0)) → o' b = (τ, 0) →
      Oc o' h' (τ, s + c.area) 1 a' n' c' ((c.on (m c.area)).map bc) → Step (fun t => t = (τ, 0) ∨ t = (τ, s + c.area)) o h o' h' → K (.tuple #[]) h') :
    Spec P 40 #[.pointer (some ⟨b, off, none⟩), .agg #[.int .i64 c.area, .int .i64 c.pos, .slice ca cn cc, .bool c.cuts]] h K := by
  have hcn : cn = c.bytes.length := by have := hc.1; simp at this; omega
  refine S40 ?_
  unfold V40
  intro r hr
  have hbr : b ≠ r := fun e => by rw [e, hr] at hb; cases hb
  have st0 : Step (fun t => t = (τ, 0) ∨ t = (τ, s + c.area)) o h (o.set r (1, 0)) (h.set r (.cells #[.int .i64 c.area, .int .i64 c.pos, .slice ca cn cc, .bool c.cuts] 81)) := Step.new _ _ hr
  have hb2 : (h.set r (.cells #[.int .i64 c.area, .int .i64 c.pos, .slice ca cn cc, .bool c.cuts] 81)) b = some (.cells cs E (0, 0)) := by rw [Hp.set_ne _ _ hbr]; exact hb
  have hr2 : (h.set r (.cells #[.int .i64 c.area, .int .i64 c.pos, .slice ca cn cc, .bool c.cuts] 81)) r = some (.cells #[.int .i64 c.area, .int .i64 c.pos, .slice ca cn cc, .bool c.cuts] 81) := Hp.set_same _ _ _
  obtain ⟨a, n, cap, e1, e2, e3⟩ := hm c.area ha
  have hn := len_of e2
  have stp : Step (fun _ => False) o h (o.set r (1, 0)) (h.set r (.cells #[.int .i64 c.area, .int .i64 c.pos, .slice ca cn cc, .bool c.cuts] 81)) := Step.new _ _ hr
  replace e2 := e2.step stp (by simp)
  replace hc := hc.step stp (by simp)
  have hob2 : (o.set r (1, 0)) b = (τ, 0) := by rw [Own.set_ne _ _ hbr]; exact hob
  generalize hh2 : h.set r (.cells #[.int .i64 c.area, .int .i64 c.pos, .slice ca cn cc, .bool c.cuts] 81) = h2 at *
  generalize ho2 : o.set r (1, 0) = o2 at *
  have hor : o2 r = (1, 0) := by rw [← ho2]; exact Own.set_same _ _ _
  refine ld_i hr2 rfl ?_
  refine ix_arr arr74 (by omega) (by omega) ?_
  simp only [Int.toNat_natCast, Nat.mul_one]
  refine ld_l hb2 e1 ?_
  refine ld_b hr2 rfl ?_
  refine bIf_ite (fun hcut => ?_) (fun hcut => ?_)
  · -- a cut
    refine ld_i hr2 rfl ?_
    refine ld_i hr2 rfl ?_
    have hmn : mnI (c.pos : Int) ((n : Nat) : Int) = ((min c.pos n : Nat) : Int) := by unfold mnI; split <;> omega
    rw [hmn]
    have hcap := e2.2.1
    refine sl_hi elem24 (by omega) (by omega) ?_
    refine ix_arr arr74 (by omega) (by omega) ?_
    simp only [Int.toNat_natCast, Nat.mul_one]
    refine st_v hb2 (Loose.zero _) rfl (by omega) ?_
    have stq : Step (fun t => t = (τ, 0) ∨ t = (τ, s + c.area)) o2 h2 o2 (h2.set b (.cells (cs.setIfInBounds (off + c.area) (.slice a (min c.pos n) cap)) E (0, 0))) := Step.put _ (.inl hob2)
    have stq' : Step (fun t => t = (τ, 0)) o2 h2 o2 (h2.set b (.cells (cs.setIfInBounds (off + c.area) (.slice a (min c.pos n) cap)) E (0, 0))) := Step.put _ hob2
    refine H o2 _ a _ cap (Hp.set_same _ _ _) hob2 ?_ (st0.trans stq)
    have := (e2.take (m := min c.pos n) (by omega)).step stq' (by simp; omega)
    have e : ((m c.area).map bc).take (min c.pos n * 1) = (c.on (m c.area)).map bc := by
      unfold Ch.on
      rw [if_pos hcut, List.map_take, Nat.mul_one, hn]
      rw [← List.length_map (f := bc), ← List.take_eq_take_min]
    rw [e] at this
    exact this
  · -- a write
    refine ld_i hr2 rfl ?_
    refine ld_l hr2 rfl ?_
    have hw : IntKind.i64.wrap ((c.pos : Int) + ((cn : Nat) : Int)) = ((c.pos + cn : Nat) : Int) := by rw [wrap_i64] <;> omega
    rw [hw]
    have hon : c.on (m c.area) = splice (m c.area) c.pos c.bytes := by unfold Ch.on; rw [hcut]; rfl
    -- what stands behind the growth
    have fin : ∀ (o3 : Own) (h3 : Hp) (a3 : Option Addr) (n3 c3 : Nat), Oc o3 h3 (τ, s + c.area) 1 a3 n3 c3 (((m c.area) ++ List.replicate (c.pos + c.bytes.length - (m c.area).length) 0).map bc) →
        Step (fun t => t = (τ, s + c.area)) o2 h2 o3 h3 → V40_s31 K ⟨b, off, none⟩ ⟨r, 0, none⟩ a3 n3 c3 h3 := by
      intro o3 h3 a3 n3 c3 e4 st3
      have hn3 := len_of e4
      simp only [List.length_append, List.length_replicate] at hn3
      have hnb : ¬ (o2 b = (τ, s + c.area)) := by rw [hob2]; simp; omega
      have hnr : ¬ (o2 r = (τ, s + c.area)) := by rw [hor]; simp; omega
      obtain ⟨hb3, hob3⟩ := st3.at hb2 hnb
      obtain ⟨hr3, _⟩ := st3.at hr2 hnr
      rw [hob2] at hob3
      have hc3 := hc.step st3 (by simp; omega)
      unfold V40_s31
      refine ld_i hr3 rfl ?_
      refine sl_lo elem24 (by omega) (by omega) ?_
      refine ld_l hr3 rfl ?_
      simp only [Int.toNat_natCast]
      refine copy_own (t := (τ, s + c.area)) elem24 e4 (m := cn) (by omega) hc3.src plain_bc ?_
      intro h4 e5 st4
      have hnb3 : ¬ (Only (τ, s + c.area) (o3 b)) := by unfold Only; rw [hob3]; simp; omega
      have hnr3 : ¬ (Only (τ, s + c.area) (o3 r)) := by unfold Only; rw [st3.owns r (by rw [hr2]; simp) hnr, hor]; simp; omega
      obtain ⟨hb4, _⟩ := st4.at hb3 hnb3
      obtain ⟨hr4, _⟩ := st4.at hr3 hnr3
      refine asIn_i ?_
      refine ld_i hr4 rfl ?_
      refine ix_arr arr74 (by omega) (by omega) ?_
      simp only [Int.toNat_natCast, Nat.mul_one]
      refine st_v hb4 (Loose.zero _) rfl (by omega) ?_
      have stq' : Step (fun t => t = (τ, 0)) o3 h4 o3 (h4.set b (.cells (cs.setIfInBounds (off + c.area) (.slice a3 n3 c3)) E (0, 0))) := Step.put _ hob3
      refine H o3 _ a3 n3 c3 (Hp.set_same _ _ _) hob3 ?_ (((st0.trans (st3.mono fun t ht => .inr ht)).trans (st4.mono fun t ht => .inr ht)).trans (stq'.mono fun t ht => .inl ht))
      have := e5.step stq' (by simp; omega)
      have e : List.take (c.pos * 1) (((m c.area) ++ List.replicate (c.pos + c.bytes.length - (m c.area).length) 0).map bc) ++ c.bytes.map bc ++ List.drop ((c.pos + cn) * 1) (((m c.area) ++ List.replicate (c.pos + c.bytes.length - (m c.area).length) 0).map bc) = (c.on (m c.area)).map bc := by
        rw [hon]
        unfold splice
        rw [hcn, Nat.mul_one, Nat.mul_one]
        simp only [List.map_append, List.map_take, List.map_drop]
      rw [e] at this
      exact this
    refine bIf_dec (fun hlt => ?_) (fun hge => ?_)
    · have hw2 : IntKind.i64.wrap (((c.pos + cn : Nat) : Int) - ((n : Nat) : Int)) = ((c.pos + cn - n : Nat) : Int) := by rw [wrap_i64] <;> omega
      rw [hw2]
      refine append_zeros (t := (τ, s + c.area)) elem24 int3 zero5 rfl e2 (by omega) (by simp only [Int.toNat_natCast]; omega) (by simp only [Int.toNat_natCast]; omega) (by omega) ?_
      intro a' c' o' h' e4 st4
      refine fin o' h' a' _ c' ?_ st4
      simp only [Int.toNat_natCast] at e4
      rw [List.map_append, List.map_replicate, ← bc0, ← hn, ← hcn]
      exact e4
    · refine fin o2 h2 a n cap ?_ (.refl _ _ _)
      have : c.pos + c.bytes.length - (m c.area).length = 0 := by omega
      rw [this]
      simpa using e2
end Go.Proofs.YtcolhmddhaabnaaDoor
set_option linter.unusedVariables false
set_option maxRecDepth 100000
namespace Go.Proofs.YtcolhmddhaabnaaDoor
open Go.H

/-! ### slices.Clone of bytes -/
theorem clone_ok {o : Own} {h : Hp} {tb t : Tag} {a : Option Addr} {n c : Nat} {l : Bytes} {K : Value → Hp → Prop} (hx : Rc o h tb 1 a n c (l.map bc)) (hlen : l.length ≤ 1099511627776)
    (H : ∀ o' h' a' c', Oc o' h' t 1 a' n c' (l.map bc) → Step (fun _ => False) o h o' h' → K (.slice a' n c') h') :
    Spec P 37 #[.slice a n c] h K := by
  have hn : n = l.length := by have := hx.1; simp at this; omega
  refine S37 ?_
  unfold V37
  refine bIf_ite (fun hnil => ?_) (fun hnil => ?_)
  · have ha : a = none := by simpa using hnil
    subst ha
    have h0 : n = 0 := by
      rcases hx.2.2 with h0 | ⟨b, off, cs, E, fr, e, _⟩
      · exact h0
      · cases e
    have hl : l = [] := by rw [h0] at hn; exact List.length_eq_zero_iff.1 hn.symm
    subst h0 hl
    exact H o h none 0 (Oc.nil _) (.refl _ _ _)
  · intro r hr
    have stp : Step (fun _ => False) o h (o.set r t) (h.set r (.cells #[] 5)) := Step.new _ _ hr
    refine append_own (o := o.set r t) (t := t) elem24 (Oc.nil _) (hx.step stp (by simp)).src plain_bc (by omega) (by omega) ?_
    intro a' c' o' h' h1 _ h3
    rw [Nat.zero_add] at h1 ⊢
    exact H o' h' a' c' h1 (stp.trans (h3 rfl))
/-! ### (image).copied -/
theorem len_rc {o : Own} {h : Hp} {t : Tag} {a : Option Addr} {n c : Nat} {l : Bytes} (H : Rc o h t 1 a n c (l.map bc)) : n = l.length := by
  have := H.1; simp at this; omega
theorem copied_ok {o : Own} {h : Hp} {m : Nat → Bytes} {t : Nat → Tag} {τ s : Nat} {A : Nat → Option Addr} {C : Nat → Nat} {K : Value → Hp → Prop}
    (hA : ∀ j, j < 3 → Rc o h (t j) 1 (A j) (m j).length (C j) ((m j).map bc) ∧ t j ≠ (1, 0) ∧ (m j).length ≤ 1099511627776) (hτ : τ ≠ 1)
    (H : ∀ o' h' a0 c0 a1 c1 a2 c2, Oc o' h' (τ, s) 1 a0 (m 0).length c0 ((m 0).map bc) → Oc o' h' (τ, s + 1) 1 a1 (m 1).length c1 ((m 1).map bc) → Oc o' h' (τ, s + 2) 1 a2 (m 2).length c2 ((m 2).map bc) →
      Step (fun _ => False) o h o' h' → K (.agg #[.slice a0 (m 0).length c0, .slice a1 (m 1).length c1, .slice a2 (m 2).length c2]) h') :
    Spec P 39 #[.agg #[.slice (A 0) (m 0).length (C 0), .slice (A 1) (m 1).length (C 1), .slice (A 2) (m 2).length (C 2)]] h K := by
  refine S39 (I26 := fun ns y1 y2 y4 hh => ∃ (k : Nat) (o' : Own) (r1 r2 : Nat) (cs : Array Value), ns = [3 - k] ∧ k ≤ 3 ∧ y4 = k ∧ y1 = ⟨r1, 0, none⟩ ∧ y2 = ⟨r2, 0, none⟩ ∧
      h r1 = none ∧ h r2 = none ∧ r1 ≠ r2 ∧ o' r1 = (1, 0) ∧ o' r2 = (1, 0) ∧ hh r1 = some (.cells cs 74 (0, 0)) ∧ hh r2 = some (.cells #[.slice none 0 0, .slice none 0 0, .slice none 0 0] 74 (0, 0)) ∧ cs.size = 3 ∧
      (∀ j, j < 3 → ∃ a c, cs[j]? = some (.slice a (m j).length c) ∧ (j < k → Oc o' hh (τ, s + j) 1 a (m j).length c ((m j).map bc)) ∧ (k ≤ j → Rc o' hh (t j) 1 a (m j).length c ((m j).map bc))) ∧
      Step (fun _ => False) o h o' hh) ?_ ?_
  · rintro n y1 y2 y4 hh ⟨k, o', r1, r2, cs, hns, hk, rfl, rfl, rfl, hr1, hr2, hne, ho1, ho2, hb1, hb2, hsz, hcs, st0⟩
    obtain rfl : n = 3 - k := by simpa using hns
    unfold V39_26
    refine bIf_dec (fun hlt => ?_) (fun hge => ?_)
    · have hk3 : k < 3 := by omega
      obtain ⟨a, c, e1, _, e3⟩ := hcs k hk3
      have e3 := e3 (Nat.le_refl _)
      refine ix_arr arr74 (by omega) (by omega) ?_
      simp only [Int.toNat_natCast, Nat.mul_one, Nat.zero_add]
      refine ld_l hb1 e1 ?_
      refine clone_ok (t := (τ, s + k)) e3 (hA k hk3).2.2 ?_
      intro o3 h3 a3 c3 f1 st1
      refine ix_arr arr74 (by omega) (by omega) ?_
      simp only [Int.toNat_natCast, Nat.mul_one, Nat.zero_add]
      obtain ⟨hb1', ho1'⟩ := st1.at hb1 (by simp)
      obtain ⟨hb2', ho2'⟩ := st1.at hb2 (by simp)
      refine st_v hb1' (Loose.zero _) rfl (by omega) ?_
      have hw : IntKind.i64.wrap ((k : Int) + 1) = ((k + 1 : Nat) : Int) := by rw [wrap_i64] <;> omega
      rw [hw]
      have stp : Step (fun t => t = (1, 0)) o3 h3 o3 (h3.set r1 (.cells (cs.setIfInBounds k (.slice a3 (m k).length c3)) 74 (0, 0))) := Step.put _ (ho1'.trans ho1)
      refine ⟨3 - (k + 1), by omega, k + 1, o3, r1, r2, _, rfl, hk3, rfl, rfl, rfl, hr1, hr2, hne, ho1'.trans ho1, ho2'.trans ho2, Hp.set_same _ _ _, by rw [Hp.set_ne _ _ (fun e => hne e.symm)]; exact hb2', by simpa using hsz, ?_, (st0.trans st1).putNew _ hr1⟩
      intro j hj
      by_cases hjk : j = k
      · subst hjk
        refine ⟨a3, c3, by simp [hsz, hj], fun _ => f1.step stp ?_, fun h => by omega⟩
        intro e; exact hτ (Prod.mk.inj e).1
      · obtain ⟨a', c', g1, g2, g3⟩ := hcs j hj
        refine ⟨a', c', by rw [Array.getElem?_setIfInBounds_ne (fun e => hjk e.symm)]; exact g1, fun h => ((g2 (by omega)).step st1 (by simp)).step stp ?_, fun h => ((g3 (by omega)).step st1 (by simp)).step stp ?_⟩
        · intro e; exact hτ (Prod.mk.inj e).1
        · exact (hA j hj).2.1
    · have hk3 : k = 3 := by omega
      subst hk3
      obtain ⟨a0, c0, g0, p0, _⟩ := hcs 0 (by omega)
      obtain ⟨a1, c1, g1, p1, _⟩ := hcs 1 (by omega)
      obtain ⟨a2, c2, g2, p2, _⟩ := hcs 2 (by omega)
      refine ld_l hb1 g0 ?_
      refine ld_l hb1 g1 ?_
      refine ld_l hb1 g2 ?_
      refine st_v hb2 (Loose.zero _) rfl (by simp) ?_
      refine st_v (Hp.set_same _ _ _) (Loose.zero _) rfl (by simp) ?_
      refine st_v (Hp.set_same _ _ _) (Loose.zero _) rfl (by simp) ?_
      refine ld_l (Hp.set_same _ _ _) rfl ?_
      refine ld_l (Hp.set_same _ _ _) rfl ?_
      refine ld_l (Hp.set_same _ _ _) rfl ?_
      have stp : Step (fun t => t = (1, 0)) o' hh o' (((hh.set r2 (.cells (#[Value.slice none 0 0, .slice none 0 0, .slice none 0 0].setIfInBounds 0 (.slice a0 (m 0).length c0)) 74 (0, 0))).set r2 (.cells ((#[Value.slice none 0 0, .slice none 0 0, .slice none 0 0].setIfInBounds 0 (.slice a0 (m 0).length c0)).setIfInBounds (0 + 1) (.slice a1 (m 1).length c1)) 74 (0, 0))).set r2 (.cells (((#[Value.slice none 0 0, .slice none 0 0, .slice none 0 0].setIfInBounds 0 (.slice a0 (m 0).length c0)).setIfInBounds (0 + 1) (.slice a1 (m 1).length c1)).setIfInBounds (0 + 2) (.slice a2 (m 2).length c2)) 74 (0, 0))) :=
        ((Step.put (S := fun t => t = (1, 0)) _ ho2).trans (Step.put (S := fun t => t = (1, 0)) _ ho2)).trans (Step.put (S := fun t => t = (1, 0)) _ ho2)
      refine H o' _ a0 c0 a1 c1 a2 c2 ((p0 (by omega)).step stp ?_) ((p1 (by omega)).step stp ?_) ((p2 (by omega)).step stp ?_) (((st0.putNew _ hr2).putNew _ hr2).putNew _ hr2)
      all_goals exact fun e => hτ (Prod.mk.inj e).1
  · unfold V39
    intro r1 hr1 r2 hr2
    have hne : r1 ≠ r2 := by
      intro e
      subst e
      simp at hr2
    have hr2' : h r2 = none := by rw [Hp.set_ne _ _ (fun e => hne e.symm)] at hr2; exact hr2
    have st1 : Step (fun _ => False) o h (o.set r1 (1, 0)) (h.set r1 (.cells #[.slice (A 0) (m 0).length (C 0), .slice (A 1) (m 1).length (C 1), .slice (A 2) (m 2).length (C 2)] 74)) := Step.new _ _ hr1
    have st2 := st1.trans (Step.new (.cells #[.slice none 0 0, .slice none 0 0, .slice none 0 0] 74) (1, 0) hr2)
    refine ⟨3, 0, (o.set r1 (1, 0)).set r2 (1, 0), r1, r2, #[.slice (A 0) (m 0).length (C 0), .slice (A 1) (m 1).length (C 1), .slice (A 2) (m 2).length (C 2)], rfl, by omega, rfl, rfl, rfl, hr1, hr2', hne, ?_, Own.set_same _ _ _, ?_, Hp.set_same _ _ _, ?_, ?_, st2⟩
    · rw [Own.set_ne _ _ hne]; exact Own.set_same _ _ _
    · rw [Hp.set_ne _ _ hne]; exact Hp.set_same _ _ _
    · rfl
    · intro j hj
      refine ⟨A j, C j, ?_, fun h => by omega, fun _ => (hA j hj).1.step st2 (by simp)⟩
      match j, hj with
      | 0, _ => rfl
      | 1, _ => rfl
      | 2, _ => rfl

/-! ### The disk in memory -/
structure DS where
  room : Int
  sure : Nat → Bytes
  seen : Nat → Bytes
  waits : List Ch
  armed : Bool
  left : Int
  gone : Bool
def ChAt (o : Own) (h : Hp) (c : Ch) (cs : List Value) : Prop :=
  ∃ a n cp, cs = [.int .i64 c.area, .int .i64 c.pos, .slice a n cp, .bool c.cuts] ∧ c.area < 3 ∧ Rc o h (0, 0) 1 a n cp (c.bytes.map bc) ∧ c.pos + c.bytes.length ≤ 1099511627776
theorem ChAt.step {S : Tag → Prop} {o o' : Own} {h h' : Hp} {c : Ch} {cs : List Value} (H : ChAt o h c cs) (s : Step S o h o' h') (h0 : ¬ S (0, 0)) : ChAt o' h' c cs := by
  obtain ⟨a, n, cp, e, h1, h2, h3⟩ := H
  exact ⟨a, n, cp, e, h1, h2.step s h0, h3⟩
def WaitsAt (o : Own) (h : Hp) (τ : Nat) (a : Option Addr) (n c : Nat) (l : List Ch) : Prop := ∃ xs, Oc o h (τ, 7) 4 a n c xs ∧ RowsOf 4 (ChAt o h) l xs ∧ l.length ≤ 1073741824
theorem WaitsAt.step {S : Tag → Prop} {o o' : Own} {h h' : Hp} {τ : Nat} {a : Option Addr} {n c : Nat} {l : List Ch} (H : WaitsAt o h τ a n c l) (s : Step S o h o' h') (h0 : ¬ S (0, 0)) (h7 : ¬ S (τ, 7)) : WaitsAt o' h' τ a n c l := by
  obtain ⟨xs, h1, h2, h3⟩ := H
  exact ⟨xs, h1.step s h7, h2.mono fun x c _ hx => hx.step s h0, h3⟩
theorem Img.step {S : Tag → Prop} {o o' : Own} {h h' : Hp} {τ s off : Nat} {cs : Array Value} {m : Nat → Bytes} (H : Img o h τ s cs off m) (st : Step S o h o' h') (hk : ∀ k, k < 3 → ¬ S (τ, s + k)) : Img o' h' τ s cs off m := by
  intro k hk3
  obtain ⟨a, n, c, e1, e2, e3⟩ := H k hk3
  exact ⟨a, n, c, e1, e2.step st (hk k hk3), e3⟩
theorem Img.cells {o : Own} {h : Hp} {τ s off : Nat} {cs cs' : Array Value} {m : Nat → Bytes} (H : Img o h τ s cs off m) (e : ∀ k, k < 3 → cs'[off + k]? = cs[off + k]?) : Img o h τ s cs' off m := by
  intro k hk3
  obtain ⟨a, n, c, e1, e2, e3⟩ := H k hk3
  exact ⟨a, n, c, (e k hk3).trans e1, e2, e3⟩
/-- Nothing is longer than a disk has room. -/
structure DS.Ok (D : DS) : Prop where
  sures : ∀ k, k < 3 → (D.sure k).length ≤ 1048576
  seens : ∀ k, k < 3 → (D.seen k).length ≤ 1048576
  chs : ∀ c ∈ D.waits, c.pos + c.bytes.length ≤ 1048576
/-- The cells of a disk. -/
structure DiskC (o : Own) (h : Hp) (τ : Nat) (cs : Array Value) (D : DS) : Prop where
  size : cs.size = 11
  room : cs[0]? = some (.int .i64 D.room)
  sure : Img o h τ 1 cs 1 D.sure
  seen : Img o h τ 4 cs 4 D.seen
  waits : ∃ a n c, cs[7]? = some (.slice a n c) ∧ WaitsAt o h τ a n c D.waits
  armed : cs[8]? = some (.bool D.armed)
  left : cs[9]? = some (.int .i64 D.left)
  gone : cs[10]? = some (.bool D.gone)
  lefts : 0 ≤ D.left ∧ D.left ≤ 9223372036854775807
  rooms : 0 ≤ D.room ∧ D.room ≤ 1048576
  ok : D.Ok
/-- A disk in memory. -/
def DiskAt (o : Own) (h : Hp) (τ d : Nat) (D : DS) : Prop := ∃ cs E, h d = some (.cells cs E (0, 0)) ∧ o d = (τ, 0) ∧ DiskC o h τ cs D
theorem DiskC.step {S : Tag → Prop} {o o' : Own} {h h' : Hp} {τ : Nat} {cs : Array Value} {D : DS} (H : DiskC o h τ cs D) (s : Step S o h o' h') (h0 : ¬ S (0, 0)) (hτ : ∀ k, ¬ S (τ, k)) : DiskC o' h' τ cs D :=
  ⟨H.size, H.room, H.sure.step s fun k _ => hτ _, H.seen.step s fun k _ => hτ _, (let ⟨a, n, c, e, hw⟩ := H.waits; ⟨a, n, c, e, hw.step s h0 (hτ _)⟩), H.armed, H.left, H.gone, H.lefts, H.rooms, H.ok⟩
theorem DiskAt.step {S : Tag → Prop} {o o' : Own} {h h' : Hp} {τ d : Nat} {D : DS} (H : DiskAt o h τ d D) (s : Step S o h o' h') (h0 : ¬ S (0, 0)) (hτ : ∀ k, ¬ S (τ, k)) : DiskAt o' h' τ d D := by
  obtain ⟨cs, E, h1, h2, h3⟩ := H
  obtain ⟨f1, f2⟩ := s.at h1 (by rw [h2]; exact hτ 0)
  exact ⟨cs, E, f1, f2.trans h2, h3.step s h0 hτ⟩

theorem is_ok {area : Int} {h : Hp} {K : Value → Hp → Prop} (H : K (.bool (decide (0 ≤ area ∧ area < 3))) h) : Spec P 35 #[.int .i64 area] h K := by
  refine S35 ?_
  unfold V35
  refine bIf_dec (fun h1 => ?_) (fun h1 => ?_)
  · rw [show decide (area < 3) = decide (0 ≤ area ∧ area < 3) by simp; omega]; exact H
  · rw [show false = decide (0 ≤ area ∧ area < 3) by simp; omega]; exact H
def szD (D : DS) (area : Int) : Nat := if 0 ≤ area ∧ area < 3 then (D.seen area.toNat).length else 0
theorem size_ok {o : Own} {h : Hp} {τ d : Nat} {D : DS} {area : Int} {K : Value → Hp → Prop} (hd : DiskAt o h τ d D) (H : K (.int .i64 (szD D area)) h) :
    Spec P 15 #[.pointer (some ⟨d, 0, none⟩), .int .i64 area] h K := by
  obtain ⟨cs, E, h1, h2, h3⟩ := hd
  refine S15 ?_
  unfold V15
  refine is_ok ?_
  refine bIf_ite (fun hn => ?_) (fun hn => ?_)
  · have : szD D area = 0 := by unfold szD; simp at hn; rw [if_neg]; omega
    rw [this] at H; exact H
  · have hin : 0 ≤ area ∧ area < 3 := by simpa using hn
    obtain ⟨k, rfl⟩ := Int.eq_ofNat_of_zero_le hin.1
    have hk : k < 3 := by omega
    obtain ⟨a, n, c, e1, e2, _⟩ := h3.seen k hk
    refine ix_arr arr74 (by omega) (by omega) ?_
    simp only [Int.toNat_natCast, Nat.mul_one, Nat.zero_add]
    refine ld_l h1 e1 ?_
    have : szD D (k : Int) = n := by unfold szD; rw [if_pos hin, len_of e2]; simp
    rw [← this]; exact H
def freeD (D : DS) : Int := D.room - (D.seen 0).length - (D.seen 1).length - (D.seen 2).length
theorem free_ok {o : Own} {h : Hp} {τ d : Nat} {D : DS} {K : Value → Hp → Prop} (hd : DiskAt o h τ d D) (H : K (.int .i64 (freeD D)) h) : Spec P 16 #[.pointer (some ⟨d, 0, none⟩)] h K := by
  obtain ⟨cs, E, h1, h2, h3⟩ := hd
  have hb : ∀ k, k < 3 → (D.seen k).length ≤ 1099511627776 := fun k hk => by obtain ⟨_, _, _, _, _, h⟩ := h3.seen k hk; exact h
  have hb0 := hb 0 (by omega)
  have hb1 := hb 1 (by omega)
  have hb2 := hb 2 (by omega)
  have hr := h3.rooms
  let part : Nat → Int := fun k => D.room - (if 0 < k then ((D.seen 0).length : Int) else 0) - (if 1 < k then ((D.seen 1).length : Int) else 0) - (if 2 < k then ((D.seen 2).length : Int) else 0)
  refine S16 (I58 := fun ns y0 y3 y9 hh => ∃ k : Nat, ns = [3 - k] ∧ k ≤ 3 ∧ y0 = ⟨d, 0, none⟩ ∧ y9 = k ∧ y3 = part k ∧ hh = h) ?_ ?_
  · rintro n y0 y3 y9 hh ⟨k, hns, hk, rfl, rfl, rfl, rfl⟩
    obtain rfl : n = 3 - k := by simpa using hns
    unfold V16_58
    refine bIf_dec (fun hlt => ?_) (fun hge => ?_)
    · have hk3 : k < 3 := by omega
      obtain ⟨a, n, c, e1, e2, _⟩ := h3.seen k hk3
      refine ix_arr arr74 (by omega) (by omega) ?_
      simp only [Int.toNat_natCast, Nat.mul_one, Nat.zero_add]
      refine ld_l h1 e1 ?_
      refine ⟨3 - (k + 1), by omega, k + 1, by trivial, hk3, by trivial, ?_, ?_, by trivial⟩
      · rw [wrap_i64] <;> omega
      · have hn := len_of e2
        have hs : part k - (n : Int) = part (k + 1) := by
          obtain rfl | rfl | rfl : k = 0 ∨ k = 1 ∨ k = 2 := by omega
          all_goals simp only [part] <;> simp <;> omega
        rw [hs]
        rw [wrap_i64]
        all_goals (simp only [part]; (repeat' split) <;> omega)
    · have hk3 : k = 3 := by omega
      subst hk3
      have : part 3 = freeD D := by simp [part, freeD]
      rw [this]; exact H
  · unfold V16
    refine ld_i h1 h3.room ?_
    refine ⟨3, 0, rfl, by omega, ?_, ?_, ?_, ?_⟩
    all_goals first | rfl | simp [part]

end Go.Proofs.YtcolhmddhaabnaaDoor
set_option linter.unusedVariables false
set_option maxRecDepth 100000
namespace Go.Proofs.YtcolhmddhaabnaaDoor
open Go.H

/-! ### Errors: what stands in the package's variables -/
/-- Block g holds the error e, an error that is there. -/
def ErrAt (o : Own) (h : Hp) (g : Nat) (e : Value) : Prop := o g = (0, 0) ∧ (∃ E fr, h g = some (.cells #[e] E fr)) ∧ ∃ T v, e = .iface T v
theorem ErrAt.step {S : Tag → Prop} {o o' : Own} {h h' : Hp} {g : Nat} {e : Value} (H : ErrAt o h g e) (s : Step S o h o' h') (h0 : ¬ S (0, 0)) : ErrAt o' h' g e := by
  obtain ⟨h1, ⟨E, fr, h2⟩, h3⟩ := H
  obtain ⟨f1, f2⟩ := s.at h2 (by rw [h1]; exact h0)
  exact ⟨f2.trans h1, ⟨E, fr, f1⟩, h3⟩
/-- The errors that the disk answers. -/
structure Errs where
  range : Value
  full : Value
  down : Value
def ErrsAt (o : Own) (h : Hp) (e : Errs) : Prop := ErrAt o h 0 e.range ∧ ErrAt o h 1 e.full ∧ ErrAt o h 2 e.down
theorem ErrsAt.step {S : Tag → Prop} {o o' : Own} {h h' : Hp} {e : Errs} (H : ErrsAt o h e) (s : Step S o h o' h') (h0 : ¬ S (0, 0)) : ErrsAt o' h' e :=
  ⟨H.1.step s h0, H.2.1.step s h0, H.2.2.step s h0⟩
theorem ld_err {o : Own} {h : Hp} {g : Nat} {e : Value} {K : Value → Prop} (H : ErrAt o h g e) (hk : K e) : ld h ⟨g, 0, none⟩ K := by
  obtain ⟨_, ⟨E, fr, h2⟩, _⟩ := H
  exact ld_v h2 rfl hk
theorem iface31 : ∃ ms, P.underlying 31 = some (.interface ms) := by
  have : (match P.underlying 31 with | some (.interface _) => true | _ => false) = true := by kernel_rfl
  revert this
  split
  · intro _; exact ⟨_, by assumption⟩
  · intro h; cases h
/-- err != nil -/
theorem nl_nil {K : Bool → Prop} (H : K false) : nlW P 31 true .nilIface fun v => asBo v K := by
  obtain ⟨ms, hm⟩ := iface31
  unfold nlW; rw [hm]; exact H
theorem nl_err {o : Own} {h : Hp} {g : Nat} {e : Value} {K : Bool → Prop} (H : ErrAt o h g e) (hk : K true) : nlW P 31 true e fun v => asBo v K := by
  obtain ⟨ms, hm⟩ := iface31
  obtain ⟨_, _, T, v, rfl⟩ := H
  unfold nlW; rw [hm]; exact hk

/-! ### unit -/
theorem eta_gone {D : DS} (h : D.gone = true) : (if true = true then { D with gone := true } else if D.armed = true then { D with left := D.left - 1 } else D) = D := by
  rw [if_pos rfl, ← h]
def goneD (D : DS) : Bool := D.gone || (D.armed && D.left == 0)
def unitD (D : DS) : DS := if goneD D then { D with gone := true } else if D.armed then { D with left := D.left - 1 } else D
theorem unit_ok {o : Own} {h : Hp} {τ d : Nat} {D : DS} {e : Errs} {K : Value → Hp → Prop} (hd : DiskAt o h τ d D) (he : ErrsAt o h e) (hτ : 2 ≤ τ)
    (H : ∀ h', DiskAt o h' τ d (unitD D) → Step (fun t => t = (τ, 0)) o h o h' → K (if goneD D then e.down else .nilIface) h') :
    Spec P 38 #[.pointer (some ⟨d, 0, none⟩)] h K := by
  obtain ⟨cs, E, h1, h2, h3⟩ := hd
  obtain ⟨s1, s2, s3, s4, ⟨wa, wn, wc, s5, s6⟩, s7, s8, s9, s10, s11, s12⟩ := id h3
  have upd : ∀ (cs' : Array Value) (D' : DS) , cs'.size = 11 → (∀ j, j < 8 → cs'[j]? = cs[j]?) → cs'[8]? = some (.bool D'.armed) → cs'[9]? = some (.int .i64 D'.left) → cs'[10]? = some (.bool D'.gone) →
      D'.room = D.room → D'.sure = D.sure → D'.seen = D.seen → D'.waits = D.waits → (0 ≤ D'.left ∧ D'.left ≤ 9223372036854775807) →
      ∀ h', h' = h.set d (.cells cs' E (0, 0)) → DiskAt o h' τ d D' ∧ Step (fun t => t = (τ, 0)) o h o h' := by
    intro cs' D' e1 e2 e3 e4 e5 e6 e7 e8 e9 e10 h' rfl
    have st : Step (fun t => t = (τ, 0)) o h o (h.set d (.cells cs' E (0, 0))) := Step.put _ h2
    refine ⟨⟨cs', E, Hp.set_same _ _ _, h2, e1, by rw [e2 0 (by omega), e6]; exact s2, ?_, ?_, ?_, e3, e4, e5, e10, by rw [e6]; exact s11, ⟨by rw [e7]; exact s12.sures, by rw [e8]; exact s12.seens, by rw [e9]; exact s12.chs⟩⟩, st⟩
    · rw [e7]; exact (s3.step st (by intro k hk; simp)).cells fun k hk => e2 _ (by omega)
    · rw [e8]; exact (s4.step st (by intro k hk; simp)).cells fun k hk => e2 _ (by omega)
    · rw [e9]; exact ⟨wa, wn, wc, by rw [e2 7 (by omega)]; exact s5, s6.step st (by simp; omega) (by simp)⟩
  have same : D = unitD D → goneD D = false → K .nilIface h := by
    intro e1 e2
    have := H h (by rw [← e1]; exact ⟨cs, E, h1, h2, h3⟩) (.refl _ _ _)
    rw [e2] at this
    exact this
  -- the second part
  have part2 : ∀ (h' : Hp) (cs' : Array Value) (g : Bool), h' d = some (.cells cs' E (0, 0)) → cs'.size = 11 → cs'[8]? = some (.bool D.armed) → cs'[9]? = some (.int .i64 D.left) → cs'[10]? = some (.bool g) →
      (g = true → goneD D = true ∧ ErrAt o h' 2 e.down ∧ DiskAt o h' τ d (unitD D) ∧ Step (fun t => t = (τ, 0)) o h o h') → (g = false → goneD D = false ∧ h' = h ∧ cs' = cs) → V38_s3 K ⟨d, 0, none⟩ h' := by
    intro h' cs' g hb hsz hc8 hc9 hc10 hg1 hg0
    unfold V38_s3
    refine ld_b hb hc10 ?_
    refine bIf_ite (fun hg => ?_) (fun hg => ?_)
    · obtain ⟨a1, a2, a3, a4⟩ := hg1 hg
      refine ld_err a2 ?_
      have := H h' a3 a4
      rw [a1] at this
      exact this
    · obtain ⟨a1, rfl, rfl⟩ := hg0 hg
      refine ld_b hb hc8 ?_
      refine bIf_ite (fun ha => ?_) (fun ha => ?_)
      · refine ld_i hb hc9 ?_
        refine st_v hb (Loose.zero _) rfl (by dsimp only; omega) ?_
        have hw : IntKind.i64.wrap (D.left - 1) = D.left - 1 := wrap_i64 (by omega) (by omega)
        rw [hw]
        have hu : unitD D = { D with left := D.left - 1 } := by unfold unitD; rw [a1, ha]; rfl
        obtain ⟨p1, p2⟩ := upd (cs'.setIfInBounds (0 + 9) (.int .i64 (D.left - 1))) (unitD D) (by simpa using hsz) (fun j hj => Array.getElem?_setIfInBounds_ne (by omega))
          (by rw [Array.getElem?_setIfInBounds_ne (by omega), hu]; exact hc8) (by rw [hu]; simp [hsz]) (by rw [Array.getElem?_setIfInBounds_ne (by omega), hu]; exact s9) (by rw [hu]) (by rw [hu]) (by rw [hu]) (by rw [hu]) (by
            rw [hu]
            dsimp only
            constructor
            · have hl : D.left ≠ 0 := by
                intro e
                unfold goneD at a1
                rw [ha, e] at a1
                simp at a1
              omega
            · omega) _ rfl
        have := H _ p1 p2
        rw [a1] at this
        exact this
      · exact same (by unfold unitD; rw [a1, ha]; rfl) a1
  refine S38 ?_
  unfold V38
  refine ld_b h1 s7 ?_
  refine bIf_ite (fun ha => ?_) (fun ha => ?_)
  · refine ld_i h1 s8 ?_
    unfold V38_s6
    refine bIf_ite (fun hl => ?_) (fun hl => ?_)
    · refine st_v h1 (Loose.zero _) rfl (by dsimp only; omega) ?_
      have hg : goneD D = true := by unfold goneD; rw [ha, hl]; simp
      have hu : unitD D = { D with gone := true } := by unfold unitD; rw [hg]; rfl
      obtain ⟨p1, p2⟩ := upd (cs.setIfInBounds (0 + 10) (.bool true)) (unitD D) (by simpa using s1) (fun j hj => Array.getElem?_setIfInBounds_ne (by omega))
        (by rw [Array.getElem?_setIfInBounds_ne (by omega), hu]; exact s7) (by rw [Array.getElem?_setIfInBounds_ne (by omega), hu]; exact s8) (by rw [hu]; simp [s1]) (by rw [hu]) (by rw [hu]) (by rw [hu]) (by rw [hu]) (by rw [hu]; exact s10) _ rfl
      refine part2 _ _ true (Hp.set_same _ _ _) (by simpa using s1) (by rw [Array.getElem?_setIfInBounds_ne (by omega)]; exact s7) (by rw [Array.getElem?_setIfInBounds_ne (by omega)]; exact s8) (by simp [s1]) (fun _ => ⟨hg, he.2.2.step p2 (by simp; omega), p1, p2⟩) (fun h => by cases h)
    · refine part2 h cs D.gone h1 s1 s7 s8 s9 (fun hg => ?_) (fun hg => ⟨by unfold goneD; rw [hg, hl]; simp, rfl, rfl⟩)
      have hgd : goneD D = true := by unfold goneD; rw [hg]; rfl
      have hu : unitD D = D := by unfold unitD; rw [hgd]; exact eta_gone hg
      exact ⟨hgd, he.2.2, by rw [hu]; exact ⟨cs, E, h1, h2, h3⟩, .refl _ _ _⟩
  · unfold V38_s6
    refine bIf_f rfl ?_
    refine part2 h cs D.gone h1 s1 s7 s8 s9 (fun hg => ?_) (fun hg => ⟨by unfold goneD; rw [hg, ha]; simp, rfl, rfl⟩)
    have hgd : goneD D = true := by unfold goneD; rw [hg]; rfl
    have hu : unitD D = D := by unfold unitD; rw [hgd]; exact eta_gone hg
    exact ⟨hgd, he.2.2, by rw [hu]; exact ⟨cs, E, h1, h2, h3⟩, .refl _ _ _⟩
end Go.Proofs.YtcolhmddhaabnaaDoor
set_option linter.unusedVariables false
set_option maxRecDepth 100000
namespace Go.Proofs.YtcolhmddhaabnaaDoor
open Go.H

theorem elem75 : Elem P 75 81 4 48 := elem_of (by kernel_rfl)
theorem splice_len (b x : Bytes) (p : Nat) : (splice b p x).length = max b.length (p + x.length) := by
  unfold splice
  simp only [List.length_append, List.length_take, List.length_drop, List.length_replicate]
  omega
theorem Ch.on_len (c : Ch) (b : Bytes) : (c.on b).length ≤ max b.length (c.pos + c.bytes.length) := by
  unfold Ch.on
  split
  · simp; omega
  · rw [splice_len]; omega
theorem doI_len {m : Nat → Bytes} {c : Ch} (hm : ∀ k, k < 3 → (m k).length ≤ 1048576) (hc : c.pos + c.bytes.length ≤ 1048576) : ∀ k, k < 3 → (doI m c k).length ≤ 1048576 := by
  intro k hk
  unfold doI
  have := hm k hk
  split
  · have := c.on_len (m k); omega
  · exact this
def waitD (D : DS) (c : Ch) : DS := if goneD D then unitD D else { unitD D with waits := D.waits ++ [c], seen := doI D.seen c }
theorem unitD_waits (D : DS) : (unitD D).waits = D.waits := by unfold unitD; (repeat' split) <;> rfl
theorem unitD_seen (D : DS) : (unitD D).seen = D.seen := by unfold unitD; (repeat' split) <;> rfl
theorem unitD_sure (D : DS) : (unitD D).sure = D.sure := by unfold unitD; (repeat' split) <;> rfl
theorem unitD_room (D : DS) : (unitD D).room = D.room := by unfold unitD; (repeat' split) <;> rfl

theorem wait_ok {o : Own} {h : Hp} {τ d : Nat} {D : DS} {e : Errs} {c : Ch} {ca : Option Addr} {cn cc : Nat} {K : Value → Hp → Prop} (hd : DiskAt o h τ d D) (he : ErrsAt o h e) (hτ : 2 ≤ τ)
    (ha : c.area < 3) (hc : Rc o h (0, 0) 1 ca cn cc (c.bytes.map bc)) (hlen : c.pos + c.bytes.length ≤ 1048576) (hw : D.waits.length < 1073741824)
    (H : ∀ o' h', DiskAt o' h' τ d (waitD D c) → Step (Of τ) o h o' h' → K (if goneD D then e.down else .nilIface) h') :
    Spec P 36 #[.pointer (some ⟨d, 0, none⟩), .agg #[.int .i64 c.area, .int .i64 c.pos, .slice ca cn cc, .bool c.cuts]] h K := by
  refine S36 ?_
  unfold V36
  intro r hr
  have st0 : Step (fun _ => False) o h (o.set r (1, 0)) (h.set r (.cells #[.int .i64 c.area, .int .i64 c.pos, .slice ca cn cc, .bool c.cuts] 81)) := Step.new _ _ hr
  have hr0 : (h.set r (.cells #[.int .i64 c.area, .int .i64 c.pos, .slice ca cn cc, .bool c.cuts] 81)) r = some (.cells #[.int .i64 c.area, .int .i64 c.pos, .slice ca cn cc, .bool c.cuts] 81) := Hp.set_same _ _ _
  have or0 : (o.set r (1, 0)) r = (1, 0) := Own.set_same _ _ _
  have hd0 := hd.step st0 (by simp) (by simp)
  have he0 := he.step st0 (by simp)
  have hc0 := hc.step st0 (by simp)
  generalize h.set r (.cells #[.int .i64 c.area, .int .i64 c.pos, .slice ca cn cc, .bool c.cuts] 81) = h0 at *
  generalize o.set r (1, 0) = o0 at *
  refine unit_ok hd0 he0 hτ fun h1 hd1 st1 => ?_
  obtain ⟨hr1, or1⟩ := st1.at hr0 (by rw [or0]; simp; omega)
  have he1 := he0.step st1 (by simp; omega)
  have hc1 := hc0.step st1 (by simp; omega)
  have st01 : Step (Of τ) o h o0 h1 := (st0.mono (by simp)).trans (st1.mono (by rintro _ rfl; rfl))
  by_cases hg : goneD D = true
  · rw [if_pos hg]
    refine nl_err he1.2.2 (bIf_t rfl ?_)
    have := H o0 h1 (by unfold waitD; rw [if_pos hg]; exact hd1) st01
    rw [if_pos hg] at this
    exact this
  · rw [if_neg hg]
    refine nl_nil (bIf_f rfl ?_)
    obtain ⟨cs, E, b1, b2, b3⟩ := hd1
    obtain ⟨wa, wn, wc, b4, ⟨xs, b5, b6, b7⟩⟩ := b3.waits
    rw [unitD_waits] at b6 b7
    have bsz := b3.size
    refine ld_l b1 b4 ?_
    refine ld_i hr1 rfl ?_
    refine ld_i hr1 rfl ?_
    refine ld_l hr1 rfl ?_
    refine ld_b hr1 rfl ?_
    intro r2 hr2
    have st2 : Step (fun _ => False) o0 h1 (o0.set r2 (1, 0)) (h1.set r2 (.cells #[.int .i64 c.area, .int .i64 c.pos, .slice ca cn cc, .bool c.cuts] 81)) := Step.new _ _ hr2
    have hr2' : (h1.set r2 (.cells #[.int .i64 c.area, .int .i64 c.pos, .slice ca cn cc, .bool c.cuts] 81)) r2 = some (.cells #[.int .i64 c.area, .int .i64 c.pos, .slice ca cn cc, .bool c.cuts] 81) := Hp.set_same _ _ _
    have or2 : (o0.set r2 (1, 0)) r2 = (1, 0) := Own.set_same _ _ _
    generalize h1.set r2 (.cells #[.int .i64 c.area, .int .i64 c.pos, .slice ca cn cc, .bool c.cuts] 81) = h2 at *
    generalize o0.set r2 (1, 0) = o2 at *
    obtain ⟨d2, od2⟩ := st2.at b1 (by simp)
    refine ⟨rd_same (by kernel_rfl) b1 (by dsimp only; omega) d2, ?_⟩
    have row : Rc o2 h2 (1, 0) 4 (some ⟨r2, 0, none⟩) 1 1 [.int .i64 c.area, .int .i64 c.pos, .slice ca cn cc, .bool c.cuts] :=
      ⟨rfl, Nat.le_refl _, .inr ⟨r2, 0, _, 81, (0, 0), rfl, or2, hr2', fun i x hx => by rw [Nat.zero_add]; simpa using hx⟩⟩
    have hxn : wn = D.waits.length := by have h1 := b6.length; have h2 := b5.1; omega
    refine append_own (t := (τ, 7)) elem75 (b5.step st2 (by simp)) row.src (by simp [flatV]) (by omega) (by omega) ?_
    intro a' c' o3 h3 f1 st3 _
    obtain ⟨d3, od3⟩ := st3.at d2 (by rw [od2, b2]; simp [Only])
    obtain ⟨hr3, _⟩ := (st2.mono (S' := Only (τ, 7)) (by simp)).trans st3 |>.at hr1 (by rw [or1, or0]; simp [Only])
    have od3' : o3 d = (τ, 0) := by rw [od3, od2, b2]
    refine asSl_i ?_
    dsimp only
    refine st_v d3 (Loose.zero _) rfl (by omega) ?_
    have st4 : Step (fun t => t = (τ, 0)) o3 h3 o3 (h3.set d (.cells (cs.setIfInBounds (0 + 7) (.slice a' (wn + 1) c')) E (0, 0))) := Step.put _ od3'
    have d4 : (h3.set d (.cells (cs.setIfInBounds (0 + 7) (.slice a' (wn + 1) c')) E (0, 0))) d = some (.cells (cs.setIfInBounds (0 + 7) (.slice a' (wn + 1) c')) E (0, 0)) := Hp.set_same _ _ _
    have hr4 : (h3.set d (.cells (cs.setIfInBounds (0 + 7) (.slice a' (wn + 1) c')) E (0, 0))) r = some (.cells #[.int .i64 c.area, .int .i64 c.pos, .slice ca cn cc, .bool c.cuts] 81) := by
      rw [Hp.set_ne _ _ (fun e => by rw [e] at hr3; rw [hr3] at d3; cases d3; simp at bsz)]; exact hr3
    have st24 : Step (fun t => t = (τ, 7) ∨ t = (τ, 0)) o0 h1 o3 (h3.set d (.cells (cs.setIfInBounds (0 + 7) (.slice a' (wn + 1) c')) E (0, 0))) :=
      ((st2.mono (by simp)).trans (st3.mono fun t ht => .inl ht)).trans (st4.mono fun t ht => .inr ht)
    have f4 := f1.step st4 (by simp)
    generalize h3.set d (.cells (cs.setIfInBounds (0 + 7) (.slice a' (wn + 1) c')) E (0, 0)) = h4 at *
    refine ld_i hr4 rfl ?_
    refine ld_i hr4 rfl ?_
    refine ld_l hr4 rfl ?_
    refine ld_b hr4 rfl ?_
    have hc4 := hc1.step st24 (by simp; omega)
    have seen4 : Img o3 h4 τ 4 (cs.setIfInBounds (0 + 7) (.slice a' (wn + 1) c')) 4 (unitD D).seen :=
      (b3.seen.step st24 (by intro k hk; simp; omega)).cells fun k hk => Array.getElem?_setIfInBounds_ne (by omega)
    have sure4 : Img o3 h4 τ 1 (cs.setIfInBounds (0 + 7) (.slice a' (wn + 1) c')) 1 (unitD D).sure :=
      (b3.sure.step st24 (by intro k hk; simp; omega)).cells fun k hk => Array.getElem?_setIfInBounds_ne (by omega)
    refine do_ok (c := c) (τ := τ) (s := 4) (m := (unitD D).seen) d4 od3' (by omega) (by omega) (by simp; omega) seen4 ha hc4 (by omega) ?_
    intro o5 h5 a5 n5 c5 g1 g2 g3 st5
    have st15 : Step (Of τ) o h o5 h5 := (st01.trans (st24.mono (by rintro t (rfl | rfl) <;> rfl))).trans (st5.mono (by rintro t (rfl | rfl) <;> rfl))
    have fin : DiskAt o5 h5 τ d (waitD D c) := by
      have hwd : waitD D c = { unitD D with waits := D.waits ++ [c], seen := doI D.seen c } := by unfold waitD; rw [if_neg hg]
      rw [hwd]
      have get : ∀ j, j ≠ 7 → j ≠ 4 + c.area → ((cs.setIfInBounds (0 + 7) (.slice a' (wn + 1) c')).setIfInBounds (4 + c.area) (.slice a5 n5 c5))[j]? = cs[j]? := by
        intro j h1 h2
        rw [Array.getElem?_setIfInBounds_ne (fun e => h2 e.symm), Array.getElem?_setIfInBounds_ne (by omega)]
      refine ⟨_, E, g1, g2, by simpa using bsz, ?_, ?_, ?_, ⟨a', wn + 1, c', ?_, ?_⟩, ?_, ?_, ?_, b3.lefts, b3.rooms, ?_⟩
      · rw [get 0 (by omega) (by omega)]; exact b3.room
      · exact (sure4.step st5 (by intro k hk; simp; omega)).cells fun k hk => Array.getElem?_setIfInBounds_ne (by omega)
      · intro k hk
        by_cases hka : k = c.area
        · subst hka
          refine ⟨a5, n5, c5, by rw [Array.getElem?_setIfInBounds_self_of_lt (by simp; omega)], ?_, ?_⟩
          · simp only [doI, if_true]
            rw [unitD_seen] at g3
            exact g3
          · exact Nat.le_trans (doI_len (by have := b3.ok.seens; rw [unitD_seen] at this; exact this) hlen _ hk) (by omega)
        · obtain ⟨a, n, cp, e1, e2, e3⟩ := seen4 k hk
          refine ⟨a, n, cp, by rw [Array.getElem?_setIfInBounds_ne (by omega)]; exact e1, ?_, ?_⟩
          · have := e2.step st5 (by simp; omega)
            rw [unitD_seen] at this
            simp only [doI, if_neg hka]
            exact this
          · simp only [doI, if_neg hka]
            rw [unitD_seen] at e3
            exact e3
      · rw [Array.getElem?_setIfInBounds_ne (by omega), Array.getElem?_setIfInBounds_self_of_lt (by omega)]
      · have f5 := f4.step st5 (by simp; omega)
        refine ⟨_, f5, RowsOf.append (b6.mono fun x cl _ hx => (hx.step st24 (by simp; omega)).step st5 (by simp; omega)) (RowsOf.one ⟨ca, cn, cc, rfl, ha, hc4.step st5 (by simp; omega), by omega⟩ rfl), by simp; omega⟩
      · rw [get 8 (by omega) (by omega)]; exact b3.armed
      · rw [get 9 (by omega) (by omega)]; exact b3.left
      · rw [get 10 (by omega) (by omega)]; exact b3.gone
      · refine ⟨b3.ok.sures, doI_len (by have := b3.ok.seens; rw [unitD_seen] at this; exact this) hlen, ?_⟩
        intro x hx
        rcases List.mem_append.1 hx with hx | hx
        · have := b3.ok.chs; rw [unitD_waits] at this; exact this x hx
        · rw [List.mem_singleton.1 hx]; exact hlen
    have := H o5 h5 fin st15
    rw [if_neg hg] at this
    exact this
end Go.Proofs.YtcolhmddhaabnaaDoor
set_option linter.unusedVariables false
set_option maxRecDepth 100000
namespace Go.Proofs.YtcolhmddhaabnaaDoor
open Go.H

def Errs.val (e : Errs) : Nat → Value
  | 0 => .nilIface
  | 1 => e.range
  | 2 => e.full
  | _ => e.down
def newD (room : Int) : DS := ⟨room, fun _ => [], fun _ => [], [], false, 0, false⟩
theorem Img.nils {o : Own} {h : Hp} {τ s off : Nat} {cs : Array Value} (H : ∀ k, k < 3 → cs[off + k]? = some (.slice none 0 0)) : Img o h τ s cs off (fun _ => []) :=
  fun k hk => ⟨none, 0, 0, H k hk, Oc.nil _, by simp⟩
/-- disk.New -/
theorem new_ok {o : Own} {h : Hp} {τ : Nat} {room : Int} {e : Errs} {K : Value → Hp → Prop} (he : ErrsAt o h e)
    (H0 : (room < 0 ∨ 1048576 < room) → K (.tuple #[.pointer none, e.range]) h)
    (H1 : (0 ≤ room ∧ room ≤ 1048576) → ∀ o' h' d, h d = none → DiskAt o' h' τ d (newD room) → Step (fun _ => False) o h o' h' → K (.tuple #[.pointer (some ⟨d, 0, none⟩), .nilIface]) h') :
    Spec P 9 #[.int .i64 room] h K := by
  refine S9 ?_
  unfold V9
  have fin : 0 ≤ room → V9_s6 K room (decide (room > 1048576)) h := by
    intro h0
    unfold V9_s6
    refine bIf_dec (fun h1 => ?_) (fun h1 => ?_)
    · exact ld_err he.1 (H0 (.inr h1))
    · unfold V9_s3
      intro r hr
      refine H1 ⟨h0, by omega⟩ (o.set r (τ, 0)) _ r hr ⟨_, _, Hp.set_same _ _ _, Own.set_same _ _ _, ?_⟩ (Step.new _ _ hr)
      refine ⟨rfl, rfl, Img.nils ?_, Img.nils ?_, ⟨none, 0, 0, rfl, [], Oc.nil _, rfl, by simp [newD]⟩, rfl, rfl, rfl, by simp [newD], ⟨h0, by simp only [newD]; omega⟩, ?_⟩
      · intro k hk
        obtain rfl | rfl | rfl : k = 0 ∨ k = 1 ∨ k = 2 := by omega
        all_goals rfl
      · intro k hk
        obtain rfl | rfl | rfl : k = 0 ∨ k = 1 ∨ k = 2 := by omega
        all_goals rfl
      · exact ⟨by simp [newD], by simp [newD], by simp [newD]⟩
  refine bIf_dec (fun h0 => ?_) (fun h0 => fin (by omega))
  exact bIf_t rfl (ld_err he.1 (H0 (.inl h0)))

/-! ### Cut, Write -/
def cutD (D : DS) (area n : Int) : DS × Nat :=
  if (0 ≤ area ∧ area < 3) ∧ 0 ≤ n ∧ n ≤ szD D area then (waitD D ⟨area.toNat, n.toNat, [], true⟩, if goneD D then 3 else 0) else (D, 1)
theorem szD_le {D : DS} (h : D.Ok) (area : Int) : szD D area ≤ 1048576 := by
  unfold szD
  split
  · exact h.seens _ (by omega)
  · omega
theorem DiskAt.ok {o : Own} {h : Hp} {τ d : Nat} {D : DS} (H : DiskAt o h τ d D) : D.Ok := by
  obtain ⟨_, _, _, _, h3⟩ := H
  exact h3.ok
/-- (*disk.Disk).Cut -/
theorem cut_ok {o : Own} {h : Hp} {τ d : Nat} {D : DS} {e : Errs} {area n : Int} {K : Value → Hp → Prop} (hd : DiskAt o h τ d D) (he : ErrsAt o h e) (hτ : 2 ≤ τ) (hw : D.waits.length < 1073741824)
    (H : ∀ o' h', DiskAt o' h' τ d (cutD D area n).1 → Step (Of τ) o h o' h' → K (e.val (cutD D area n).2) h') :
    Spec P 10 #[.pointer (some ⟨d, 0, none⟩), .int .i64 area, .int .i64 n] h K := by
  have hs := szD_le hd.ok area
  have bad : ¬ ((0 ≤ area ∧ area < 3) ∧ 0 ≤ n ∧ n ≤ szD D area) → V10_s6 K ⟨d, 0, none⟩ area n true h := by
    intro hn
    have e1 : cutD D area n = (D, 1) := by unfold cutD; rw [if_neg hn]
    rw [e1] at H
    exact bIf_t rfl (ld_err he.1 (H o h hd (.refl _ _ _)))
  refine S10 ?_
  unfold V10
  refine is_ok ?_
  refine asBo_i ?_
  refine bIf_ite (fun h1 => ?_) (fun h1 => ?_)
  · exact bad (by simp at h1; omega)
  · have h1 : 0 ≤ area ∧ area < 3 := by simpa using h1
    refine bIf_dec (fun h2 => bad (by omega)) (fun h2 => ?_)
    refine size_ok hd ?_
    refine asIn_i ?_
    by_cases h3 : n ≤ szD D area
    · have e0 : decide (n > (szD D area : Int)) = false := by simp; omega
      rw [e0]
      unfold V10_s6
      refine bIf_f rfl ?_
      unfold V10_s3
      have e1 : cutD D area n = (waitD D ⟨area.toNat, n.toNat, [], true⟩, if goneD D then 3 else 0) := by unfold cutD; rw [if_pos ⟨h1, by omega, h3⟩]
      rw [e1] at H
      have ea : ((area.toNat : Nat) : Int) = area := by omega
      have en : ((n.toNat : Nat) : Int) = n := by omega
      have hK : K = fun v h => K v h := rfl
      have := wait_ok (c := ⟨area.toNat, n.toNat, [], true⟩) (ca := none) (cn := 0) (cc := 0) (K := K) hd he hτ (by show area.toNat < 3; omega) Rc.none (by show n.toNat + 0 ≤ _; omega) hw (fun o' h' a1 a2 => by
        have := H o' h' a1 a2
        split
        · rename_i hg; simpa [hg, Errs.val] using this
        · rename_i hg; simpa [hg, Errs.val] using this)
      simp only [ea, en] at this
      exact this
    · have e0 : decide (n > (szD D area : Int)) = true := by simp; omega
      rw [e0]
      exact bad (by omega)
def writeD (D : DS) (area pos : Int) (l : Bytes) : DS × Nat :=
  if (0 ≤ area ∧ area < 3) ∧ 0 ≤ pos ∧ pos ≤ szD D area then
    if pos + l.length - szD D area > max 0 (freeD D) then (D, 2) else (waitD D ⟨area.toNat, pos.toNat, l, false⟩, if goneD D then 3 else 0)
  else (D, 1)
theorem write_end {D : DS} {area pos : Int} {l : Bytes} (hok : D.Ok) (hr : D.room ≤ 1048576) (h1 : (0 ≤ area ∧ area < 3) ∧ 0 ≤ pos ∧ pos ≤ szD D area) (h2 : ¬ pos + l.length - szD D area > max 0 (freeD D)) :
    pos + l.length ≤ 1048576 := by
  have hs := szD_le hok area
  have : (szD D area : Int) + max 0 (freeD D) ≤ 1048576 := by
    have e : szD D area = (D.seen area.toNat).length := by unfold szD; rw [if_pos h1.1]
    unfold freeD
    obtain h | h | h : area.toNat = 0 ∨ area.toNat = 1 ∨ area.toNat = 2 := by omega
    all_goals (rw [h] at e; omega)
  omega
theorem DiskAt.room {o : Own} {h : Hp} {τ d : Nat} {D : DS} (H : DiskAt o h τ d D) : 0 ≤ D.room ∧ D.room ≤ 1048576 := by
  obtain ⟨_, _, _, _, h3⟩ := H
  exact h3.rooms
/-- (*disk.Disk).Write -/
theorem write_ok {o : Own} {h : Hp} {τ d : Nat} {D : DS} {e : Errs} {area pos : Int} {tb : Tag} {a : Option Addr} {n c : Nat} {l : Bytes} {K : Value → Hp → Prop} (hd : DiskAt o h τ d D) (he : ErrsAt o h e) (hτ : 2 ≤ τ)
    (hw : D.waits.length < 1073741824) (hx : Rc o h tb 1 a n c (l.map bc)) (hl : l.length ≤ 1099511627776)
    (H : ∀ o' h', DiskAt o' h' τ d (writeD D area pos l).1 → Step (Of τ) o h o' h' → K (e.val (writeD D area pos l).2) h') :
    Spec P 11 #[.pointer (some ⟨d, 0, none⟩), .int .i64 area, .int .i64 pos, .slice a n c] h K := by
  have hs := szD_le hd.ok area
  have hn : n = l.length := len_rc hx
  have hroom := hd.room
  have bad : ∀ y, ¬ ((0 ≤ area ∧ area < 3) ∧ 0 ≤ pos ∧ pos ≤ szD D area) → V11_s28 K ⟨d, 0, none⟩ area pos a n c y true h := by
    intro y hn
    have e1 : writeD D area pos l = (D, 1) := by unfold writeD; rw [if_neg hn]
    rw [e1] at H
    exact bIf_t rfl (ld_err he.1 (H o h hd (.refl _ _ _)))
  refine S11 ?_
  unfold V11
  refine size_ok hd ?_
  refine asIn_i ?_
  refine is_ok ?_
  refine asBo_i ?_
  refine bIf_ite (fun h1 => ?_) (fun h1 => ?_)
  · exact bad _ (by simp at h1; omega)
  · have h1 : 0 ≤ area ∧ area < 3 := by simpa using h1
    refine bIf_dec (fun h2 => bad _ (by omega)) (fun h2 => ?_)
    refine size_ok hd ?_
    refine asIn_i ?_
    by_cases h3 : pos ≤ szD D area
    · have e0 : decide (pos > (szD D area : Int)) = false := by simp; omega
      rw [e0]
      unfold V11_s28
      refine bIf_f rfl ?_
      refine free_ok hd ?_
      refine asIn_i ?_
      have hcond : (0 ≤ area ∧ area < 3) ∧ 0 ≤ pos ∧ pos ≤ szD D area := ⟨h1, by omega, h3⟩
      have ew : IntKind.i64.wrap (IntKind.i64.wrap (pos + ((n : Nat) : Int)) - (szD D area : Int)) = pos + l.length - szD D area := by
        rw [wrap_i64 (n := pos + ((n : Nat) : Int)) (by omega) (by omega), wrap_i64 (by omega) (by omega), hn]
      rw [ew]
      have em : mxI 0 (freeD D) = max 0 (freeD D) := by unfold mxI; split <;> omega
      rw [em]
      refine bIf_dec (fun h4 => ?_) (fun h4 => ?_)
      · have e1 : writeD D area pos l = (D, 2) := by unfold writeD; rw [if_pos hcond, if_pos h4]
        rw [e1] at H
        exact ld_err he.2.1 (H o h hd (.refl _ _ _))
      · have e1 : writeD D area pos l = (waitD D ⟨area.toNat, pos.toNat, l, false⟩, if goneD D then 3 else 0) := by unfold writeD; rw [if_pos hcond, if_neg h4]
        rw [e1] at H
        have hend := write_end hd.ok hroom.2 hcond h4
        unfold V11_s7
        refine clone_ok (t := (0, 0)) hx hl ?_
        intro o1 h1' a1 c1 f1 st1
        refine asSl_i ?_
        have ea : ((area.toNat : Nat) : Int) = area := by omega
        have en : ((pos.toNat : Nat) : Int) = pos := by omega
        have := wait_ok (c := ⟨area.toNat, pos.toNat, l, false⟩) (K := K) (hd.step st1 (by simp) (by simp)) (he.step st1 (by simp)) hτ (by show area.toNat < 3; omega) f1.read (by show pos.toNat + l.length ≤ _; omega) hw (fun o' h' a1 a2 => by
          have := H o' h' a1 ((st1.mono (by simp)).trans a2)
          split
          · rename_i hg; simpa [hg, Errs.val] using this
          · rename_i hg; simpa [hg, Errs.val] using this)
        simp only [ea, en] at this
        exact this
    · have e0 : decide (pos > (szD D area : Int)) = true := by simp; omega
      rw [e0]
      exact bad _ (by omega)

end Go.Proofs.YtcolhmddhaabnaaDoor
set_option linter.unusedVariables false
set_option maxRecDepth 100000
namespace Go.Proofs.YtcolhmddhaabnaaDoor
open Go.H

def syncD (D : DS) : DS × Nat := if goneD D then (unitD D, 3) else ({ unitD D with sure := D.seen, waits := [] }, 0)
/-- The image in memory, as three slices. -/
theorem Img.three {o : Own} {h : Hp} {τ s off : Nat} {cs : Array Value} {m : Nat → Bytes} (H : Img o h τ s cs off m) :
    ∃ (A : Nat → Option Addr) (C : Nat → Nat), ∀ k, k < 3 → cs[off + k]? = some (.slice (A k) (m k).length (C k)) ∧ Oc o h (τ, s + k) 1 (A k) (m k).length (C k) ((m k).map bc) ∧ (m k).length ≤ 1099511627776 := by
  obtain ⟨a0, n0, c0, e0, f0, g0⟩ := H 0 (by omega)
  obtain ⟨a1, n1, c1, e1, f1, g1⟩ := H 1 (by omega)
  obtain ⟨a2, n2, c2, e2, f2, g2⟩ := H 2 (by omega)
  obtain rfl := len_of f0
  obtain rfl := len_of f1
  obtain rfl := len_of f2
  refine ⟨fun k => match k with | 0 => a0 | 1 => a1 | _ => a2, fun k => match k with | 0 => c0 | 1 => c1 | _ => c2, fun k hk => ?_⟩
  obtain rfl | rfl | rfl : k = 0 ∨ k = 1 ∨ k = 2 := by omega
  · exact ⟨e0, f0, g0⟩
  · exact ⟨e1, f1, g1⟩
  · exact ⟨e2, f2, g2⟩
theorem Step.put2 {S : Tag → Prop} {o o' : Own} {h h' : Hp} {r : Nat} (a : Step S o h o' h') (x : Obj) (hs : S (o' r)) : Step S o h o' (h'.set r x) := a.trans (Step.put x hs)

/-- (*disk.Disk).Sync -/
theorem sync_ok {o : Own} {h : Hp} {τ d : Nat} {D : DS} {e : Errs} {K : Value → Hp → Prop} (hd : DiskAt o h τ d D) (he : ErrsAt o h e) (hτ : 2 ≤ τ)
    (H : ∀ o' h', DiskAt o' h' τ d (syncD D).1 → Step (Of τ) o h o' h' → K (e.val (syncD D).2) h') :
    Spec P 12 #[.pointer (some ⟨d, 0, none⟩)] h K := by
  refine S12 ?_
  unfold V12
  refine unit_ok hd he hτ fun h1 hd1 st1 => ?_
  have st1' : Step (Of τ) o h o h1 := st1.mono (by rintro _ rfl; rfl)
  by_cases hg : goneD D = true
  · rw [if_pos hg]
    have e1 : syncD D = (unitD D, 3) := by unfold syncD; rw [if_pos hg]
    rw [e1] at H
    exact nl_err (he.step st1 (by simp; omega)).2.2 (bIf_t rfl (H _ _ hd1 st1'))
  · rw [if_neg hg]
    have e1 : syncD D = ({ unitD D with sure := D.seen, waits := [] }, 0) := by unfold syncD; rw [if_neg hg]
    rw [e1] at H
    refine nl_nil (bIf_f rfl ?_)
    obtain ⟨cs, E, b1, b2, b3⟩ := hd1
    have bsz := b3.size
    obtain ⟨A, C, hAC⟩ := b3.seen.three
    rw [unitD_seen] at hAC
    refine ld_l b1 (hAC 0 (by omega)).1 ?_
    refine ld_l b1 (hAC 1 (by omega)).1 ?_
    refine ld_l b1 (hAC 2 (by omega)).1 ?_
    refine copied_ok (τ := τ) (s := 1) (m := D.seen) (A := A) (C := C) (t := fun j => (τ, 4 + j)) (fun j hj => ⟨(hAC j hj).2.1.read, by simp, (hAC j hj).2.2⟩) (by omega) ?_
    intro o2 h2 a0 c0 a1 c1 a2 c2 f0 f1 f2 st2
    obtain ⟨d2, od2⟩ := st2.at b1 (by simp)
    rw [b2] at od2
    refine asAg_i (unc_i (asSl_i (unc_i (asSl_i (unc_i (asSl_i (nilL_i ?_)))))))
    dsimp only
    refine st_v d2 (Loose.zero _) (v := .slice a0 (D.seen 0).length c0) rfl (by omega) ?_
    refine st_v (Hp.set_same _ _ _) (Loose.zero _) (v := .slice a1 (D.seen 1).length c1) rfl (by simp; omega) ?_
    refine st_v (Hp.set_same _ _ _) (Loose.zero _) (v := .slice a2 (D.seen 2).length c2) rfl (by simp; omega) ?_
    refine st_v (Hp.set_same _ _ _) (Loose.zero _) (v := .slice none 0 0) rfl (by simp; omega) ?_
    generalize hcs' : (((cs.setIfInBounds (0 + 1) (.slice a0 (D.seen 0).length c0)).setIfInBounds (0 + 2) (.slice a1 (D.seen 1).length c1)).setIfInBounds (0 + 3) (.slice a2 (D.seen 2).length c2)).setIfInBounds (0 + 7) (.slice none 0 0) = cs'
    have get : ∀ j, j ≠ 1 → j ≠ 2 → j ≠ 3 → j ≠ 7 → cs'[j]? = cs[j]? := by
      intro j h1 h2 h3 h4
      rw [← hcs', Array.getElem?_setIfInBounds_ne (by omega), Array.getElem?_setIfInBounds_ne (by omega), Array.getElem?_setIfInBounds_ne (by omega), Array.getElem?_setIfInBounds_ne (by omega)]
    have g1 : cs'[1]? = some (.slice a0 (D.seen 0).length c0) := by
      rw [← hcs', Array.getElem?_setIfInBounds_ne (by omega), Array.getElem?_setIfInBounds_ne (by omega), Array.getElem?_setIfInBounds_ne (by omega), Array.getElem?_setIfInBounds_self_of_lt (by omega)]
    have g2 : cs'[2]? = some (.slice a1 (D.seen 1).length c1) := by
      rw [← hcs', Array.getElem?_setIfInBounds_ne (by omega), Array.getElem?_setIfInBounds_ne (by omega), Array.getElem?_setIfInBounds_self_of_lt (by simp; omega)]
    have g3 : cs'[3]? = some (.slice a2 (D.seen 2).length c2) := by
      rw [← hcs', Array.getElem?_setIfInBounds_ne (by omega), Array.getElem?_setIfInBounds_self_of_lt (by simp; omega)]
    have g7 : cs'[7]? = some (.slice none 0 0) := by
      rw [← hcs', Array.getElem?_setIfInBounds_self_of_lt (by simp; omega)]
    have hsz : cs'.size = 11 := by rw [← hcs']; simpa using bsz
    -- the last heap
    have st3 : Step (fun t => t = (τ, 0)) o2 h2 o2 (h2.set d (.cells cs' E (0, 0))) := Step.put _ od2
    have hset : ∀ x y z : Obj, ((((h2.set d x).set d y).set d z).set d (.cells cs' E (0, 0))) = h2.set d (.cells cs' E (0, 0)) := by
      intro x y z
      funext q
      unfold Hp.set
      split <;> rfl
    rw [hset]
    have bsz2 := b3.seen
    have fin : DiskAt o2 (h2.set d (.cells cs' E (0, 0))) τ d { unitD D with sure := D.seen, waits := [] } := by
      refine ⟨cs', E, Hp.set_same _ _ _, od2, hsz, ?_, ?_, ?_, ⟨none, 0, 0, g7, [], Oc.nil _, rfl, by simp⟩, ?_, ?_, ?_, b3.lefts, b3.rooms, ?_⟩
      · rw [get 0 (by omega) (by omega) (by omega) (by omega)]; exact b3.room
      · intro k hk
        obtain rfl | rfl | rfl : k = 0 ∨ k = 1 ∨ k = 2 := by omega
        · exact ⟨_, _, _, g1, f0.step st3 (by simp), (hAC 0 hk).2.2⟩
        · exact ⟨_, _, _, g2, f1.step st3 (by simp), (hAC 1 hk).2.2⟩
        · exact ⟨_, _, _, g3, f2.step st3 (by simp), (hAC 2 hk).2.2⟩
      · exact ((b3.seen.step st2 (by simp)).step st3 (by intro k hk; simp)).cells fun k hk => get _ (by omega) (by omega) (by omega) (by omega)
      · rw [get 8 (by omega) (by omega) (by omega) (by omega)]; exact b3.armed
      · rw [get 9 (by omega) (by omega) (by omega) (by omega)]; exact b3.left
      · rw [get 10 (by omega) (by omega) (by omega) (by omega)]; exact b3.gone
      · have hs := b3.ok.seens
        have hs' := hs
        rw [unitD_seen] at hs
        exact ⟨hs, hs', by simp⟩
    exact H _ _ fin ((st1'.trans (st2.mono (by simp))).trans (st3.mono (by rintro _ rfl; rfl)))

/-- (*disk.Disk).Read -/
theorem read_ok {o : Own} {h : Hp} {τ d : Nat} {t : Tag} {D : DS} {e : Errs} {area : Int} {K : Value → Hp → Prop} (hd : DiskAt o h τ d D) (he : ErrsAt o h e)
    (H1 : ¬ (0 ≤ area ∧ area < 3) → K (.tuple #[.slice none 0 0, e.range]) h)
    (H2 : (0 ≤ area ∧ area < 3) → D.gone = true → K (.tuple #[.slice none 0 0, e.down]) h)
    (H3 : (0 ≤ area ∧ area < 3) → D.gone = false → ∀ o' h' a c, Oc o' h' t 1 a (D.seen area.toNat).length c ((D.seen area.toNat).map bc) → Step (fun _ => False) o h o' h' →
      K (.tuple #[.slice a (D.seen area.toNat).length c, .nilIface]) h') :
    Spec P 13 #[.pointer (some ⟨d, 0, none⟩), .int .i64 area] h K := by
  obtain ⟨cs, E, b1, b2, b3⟩ := hd
  refine S13 ?_
  unfold V13
  refine is_ok ?_
  refine asBo_i ?_
  refine bIf_ite (fun h1 => ?_) (fun h1 => ?_)
  · exact ld_err he.1 (H1 (by simp at h1; omega))
  · have h1 : 0 ≤ area ∧ area < 3 := by simpa using h1
    refine ld_b b1 b3.gone ?_
    refine bIf_ite (fun h2 => ?_) (fun h2 => ?_)
    · exact ld_err he.2.2 (H2 h1 h2)
    · obtain ⟨k, rfl⟩ := Int.eq_ofNat_of_zero_le h1.1
      obtain ⟨A, C, hAC⟩ := b3.seen.three
      obtain ⟨e1, e2, e3⟩ := hAC k (by omega)
      refine ix_arr arr74 (by omega) (by omega) ?_
      simp only [Int.toNat_natCast, Nat.mul_one, Nat.zero_add]
      refine ld_l b1 e1 ?_
      refine clone_ok (t := t) e2.read e3 ?_
      intro o' h' a' c' f1 st1
      exact H3 h1 h2 o' h' a' c' f1 st1
end Go.Proofs.YtcolhmddhaabnaaDoor
set_option linter.unusedVariables false
set_option maxRecDepth 100000
namespace Go.Proofs.YtcolhmddhaabnaaDoor
open Go.H

def Low (τ k : Nat) : Tag → Prop := fun t => t.1 = τ ∧ t.2 < k
/-- A change done to what is sure. -/
theorem sure_do {o : Own} {h : Hp} {τ d : Nat} {D : DS} {c : Ch} {ca : Option Addr} {cn cc : Nat} {K : Value → Hp → Prop} (hd : DiskAt o h τ d D) (hτ : 2 ≤ τ)
    (ha : c.area < 3) (hc : Rc o h (0, 0) 1 ca cn cc (c.bytes.map bc)) (hlen : c.pos + c.bytes.length ≤ 1048576)
    (H : ∀ o' h', DiskAt o' h' τ d { D with sure := doI D.sure c } → Step (Low τ 4) o h o' h' → K (.tuple #[]) h') :
    Spec P 40 #[.pointer (some ⟨d, 1, none⟩), .agg #[.int .i64 c.area, .int .i64 c.pos, .slice ca cn cc, .bool c.cuts]] h K := by
  obtain ⟨cs, E, b1, b2, b3⟩ := hd
  have bsz := b3.size
  refine do_ok (c := c) (τ := τ) (s := 1) (m := D.sure) b1 b2 (by omega) (by omega) (by omega) b3.sure ha hc (by omega) ?_
  intro o5 h5 a5 n5 c5 g1 g2 g3 st5
  have get : ∀ j, j ≠ 1 + c.area → (cs.setIfInBounds (1 + c.area) (.slice a5 n5 c5))[j]? = cs[j]? := fun j h1 => Array.getElem?_setIfInBounds_ne (fun e => h1 e.symm)
  refine H o5 h5 ?_ (st5.mono (by rintro t (rfl | rfl) <;> exact ⟨rfl, by dsimp only; omega⟩))
  obtain ⟨wa, wn, wc, w1, w2⟩ := b3.waits
  refine ⟨_, E, g1, g2, by simpa using bsz, ?_, ?_, ?_, ⟨wa, wn, wc, ?_, w2.step st5 (by simp; omega) (by simp; omega)⟩, ?_, ?_, ?_, b3.lefts, b3.rooms, doI_len b3.ok.sures hlen, b3.ok.seens, b3.ok.chs⟩
  · rw [get 0 (by omega)]; exact b3.room
  · intro k hk
    by_cases hka : k = c.area
    · subst hka
      refine ⟨a5, n5, c5, by rw [Array.getElem?_setIfInBounds_self_of_lt (by omega)], ?_, ?_⟩
      · simp only [doI, if_true]
        exact g3
      · exact Nat.le_trans (doI_len b3.ok.sures hlen _ hk) (by omega)
    · obtain ⟨a, n, cp, e1, e2, e3⟩ := b3.sure k hk
      refine ⟨a, n, cp, by rw [get _ (by omega)]; exact e1, ?_, ?_⟩
      · simp only [doI, if_neg hka]
        exact e2.step st5 (by simp; omega)
      · simp only [doI, if_neg hka]
        exact e3
  · exact (b3.seen.step st5 (by intro k hk; simp; omega)).cells fun k hk => get _ (by omega)
  · rw [get 7 (by omega)]; exact w1
  · rw [get 8 (by omega)]; exact b3.armed
  · rw [get 9 (by omega)]; exact b3.left
  · rw [get 10 (by omega)]; exact b3.gone

/-! ### What a crash does -/
def bitC (sc : Int) (k : Nat) : Bool := bAnd .u64 (sShr .u64 sc k) 1 == 1
def tornC (torn : Int) (c : Ch) : Ch := { c with bytes := c.bytes.take torn.toNat }
def crash1 (kept : Nat) (sc torn : Int) (i : Nat) (c : Ch) (m : Nat → Bytes) : Nat → Bytes :=
  if i < kept ∨ (i - kept < 63 ∧ bitC sc (i - kept) = true) then doI m c
  else if i = kept ∧ c.cuts = false ∧ 0 < (tornC torn c).bytes.length then doI m (tornC torn c) else m
def crashL (kept : Nat) (sc torn : Int) : Nat → List Ch → (Nat → Bytes) → Nat → Bytes
  | _, [], m => m
  | i, c :: l, m => crashL kept sc torn (i + 1) l (crash1 kept sc torn i c m)
def keptN (D : DS) (kept : Int) : Nat := min kept.toNat D.waits.length
def crashD (D : DS) (kept sc torn : Int) : DS :=
  let m := crashL (keptN D kept) sc torn 0 D.waits D.sure
  ⟨D.room, m, m, [], false, 0, false⟩

def CrI (o : Own) (h : Hp) (τ d : Nat) (D : DS) (kept sc torn : Int) (wa : Option Addr) (wc : Nat) (ns : List Nat) (y0 : Addr) (y1 y2 y3 : Int) (y22 : Option Addr) (y22n y22c : Nat) (y23 y24 : Int) (hh : Hp) : Prop :=
  ∃ (i : Nat) (o' : Own) (m : Nat → Bytes), ns = [D.waits.length - i] ∧ i ≤ D.waits.length ∧ y0 = ⟨d, 0, none⟩ ∧ y1 = (keptN D kept : Nat) ∧ y2 = sc ∧ y3 = torn ∧
      y22 = wa ∧ y22n = D.waits.length ∧ y22c = wc ∧ y23 = D.waits.length ∧ y24 = i ∧ DiskAt o' hh τ d { D with sure := m } ∧ Step (Low τ 4) o h o' hh ∧
      crashL (keptN D kept) sc torn i (D.waits.drop i) m = crashL (keptN D kept) sc torn 0 D.waits D.sure
/-- (*disk.Disk).Crash -/
theorem crash_ok {o : Own} {h : Hp} {τ d : Nat} {D : DS} {kept sc torn : Int} {K : Value → Hp → Prop} (hd : DiskAt o h τ d D) (hτ : 2 ≤ τ)
    (H : ∀ o' h', DiskAt o' h' τ d (crashD D kept sc torn) → Step (Of τ) o h o' h' → K (.tuple #[]) h') :
    Spec P 14 #[.pointer (some ⟨d, 0, none⟩), .int .i64 kept, .int .u64 sc, .int .i64 torn] h K := by
  obtain ⟨cs0, E0, b1, b2, b3⟩ := id hd
  obtain ⟨wa, wn, wc, w1, ⟨xs, w2, w3, w4⟩⟩ := b3.waits
  have hwn : wn = D.waits.length := w3.count w2.read (by omega)
  subst hwn
  have hmm : mxI 0 (mnI kept ((D.waits.length : Nat) : Int)) = ((keptN D kept : Nat) : Int) := by unfold mxI mnI keptN; (repeat' split) <;> omega
  have hkn : keptN D kept ≤ D.waits.length := by unfold keptN; omega
  refine S14 (I26 := CrI o h τ d D kept sc torn wa wc) ?_ ?_
  · rintro n y0 y1 y2 y3 y22 y22n y22c y23 y24 hh ⟨i, o', m, hns, hi, rfl, rfl, rfl, rfl, rfl, rfl, rfl, rfl, rfl, hd1, st1, hm⟩
    obtain rfl : n = D.waits.length - i := by simpa using hns
    have wr := (w2.step st1 (by simp [Low])).read
    have wrow := w3.mono fun x cl _ hx => hx.step st1 (by simp [Low]; omega)
    unfold V14_26
    refine bIf_dec (fun hlt => ?_) (fun hge => ?_)
    · have hlt' : i < D.waits.length := by omega
      obtain ⟨c, hc⟩ : ∃ c, D.waits[i]? = some c := ⟨D.waits[i], by simp [hlt']⟩
      have hdrop : D.waits.drop i = c :: D.waits.drop (i + 1) := by
        rw [List.drop_eq_getElem_cons hlt']
        congr 1
        simpa [hlt'] using hc
      rw [hdrop] at hm
      have hmem : c ∈ D.waits := List.mem_of_getElem? hc
      obtain ⟨b, off, cs, E, fr, cl, e1, e2, e3, e4, ⟨ca, cn, cc, rfl, ha, hca, _⟩, e5⟩ := wr.row wrow hc (by omega)
      have hlen : c.pos + c.bytes.length ≤ 1048576 := b3.ok.chs c hmem
      have hcn : cn = c.bytes.length := len_rc hca
      subst hcn
      -- the step, when it is done
      have next : ∀ (o2 : Own) (h2 : Hp) (m' : Nat → Bytes), m' = crash1 (keptN D kept) y2 y3 i c m → DiskAt o2 h2 τ d { D with sure := m' } → Step (Low τ 4) o h o2 h2 →
          ∃ k, k < D.waits.length - i ∧ CrI o h τ d D kept y2 y3 y22 y22c [k] ⟨d, 0, none⟩ ((keptN D kept : Nat) : Int) y2 y3 y22 D.waits.length y22c (D.waits.length : Int) (IntKind.i64.wrap ((i : Int) + 1)) h2 := by
        intro o2 h2 m' e hd2 st2
        refine ⟨D.waits.length - (i + 1), by omega, i + 1, o2, m', rfl, hlt', rfl, rfl, rfl, rfl, rfl, rfl, rfl, rfl, ?_, hd2, st2, by rw [e]; exact hm⟩
        rw [wrap_i64] <;> omega
      have hix : ∀ Q : Addr → Prop, Q ⟨b, off + i * 4, none⟩ → ixA P 75 (.slice y22 D.waits.length y22c) (.int .i64 (i : Int)) hh Q := by
        intro Q hQ
        rw [e1]
        exact ix_slice elem75 (by omega) (by omega) (by rw [Int.toNat_natCast]; exact hQ)
      refine hix _ ?_
      refine ld_i e3 (e5 0 _ rfl) ?_
      refine ld_i e3 (e5 1 _ rfl) ?_
      refine ld_l e3 (e5 2 _ rfl) ?_
      refine ld_b e3 (e5 3 _ rfl) ?_
      intro r hr
      have hr0 : h r = none := by
        cases hq : h r with
        | none => rfl
        | some q => exact absurd hr (st1.stays r (by simp [hq]))
      refine st_v (Hp.set_same _ _ _) (Loose.zero _) rfl (by simp) ?_
      refine st_v (Hp.set_same _ _ _) (Loose.zero _) rfl (by simp) ?_
      refine st_v (Hp.set_same _ _ _) (Loose.zero _) rfl (by simp) ?_
      refine st_v (Hp.set_same _ _ _) (Loose.zero _) rfl (by simp) ?_
      rw [Hp.set_set, Hp.set_set, Hp.set_set, Hp.set_set]
      have st2 : Step (Low τ 4) o h (o'.set r (1, 0)) _ := st1.trans (Step.new (.cells #[.int .i64 c.area, .int .i64 c.pos, .slice ca c.bytes.length cc, .bool c.cuts] 81) (1, 0) hr)
      have st2' : Step (fun _ => False) o' hh (o'.set r (1, 0)) _ := Step.new (.cells #[.int .i64 c.area, .int .i64 c.pos, .slice ca c.bytes.length cc, .bool c.cuts] 81) (1, 0) hr
      have hr2 : (hh.set r (.cells #[.int .i64 c.area, .int .i64 c.pos, .slice ca c.bytes.length cc, .bool c.cuts] 81)) r = some (.cells #[.int .i64 c.area, .int .i64 c.pos, .slice ca c.bytes.length cc, .bool c.cuts] 81) := Hp.set_same _ _ _
      have or2 : (o'.set r (1, 0)) r = (1, 0) := Own.set_same _ _ _
      change bIf _ (V14_s6758 _ _ _ _ _ _ _ _ _ _ _ _ _ _ _ (hh.set r (.cells #[.int .i64 c.area, .int .i64 c.pos, .slice ca c.bytes.length cc, .bool c.cuts] 81))) (bIf _ (oRd _ _ (hh.set r (.cells #[.int .i64 c.area, .int .i64 c.pos, .slice ca c.bytes.length cc, .bool c.cuts] 81)) fun v61 => asIn .u64 v61 fun n62 => V14_s6758 _ _ _ _ _ _ _ _ _ _ _ _ _ _ _ (hh.set r (.cells #[.int .i64 c.area, .int .i64 c.pos, .slice ca c.bytes.length cc, .bool c.cuts] 81))) (V14_s6758 _ _ _ _ _ _ _ _ _ _ _ _ _ _ _ (hh.set r (.cells #[.int .i64 c.area, .int .i64 c.pos, .slice ca c.bytes.length cc, .bool c.cuts] 81))))
      generalize hh.set r (.cells #[.int .i64 c.area, .int .i64 c.pos, .slice ca c.bytes.length cc, .bool c.cuts] 81) = h2 at *
      generalize o'.set r (1, 0) = o2 at *
      have hd2 := hd1.step st2' (by simp) (by simp)
      have hca2 := (hca.step st2' (by simp))
      have full : (i < keptN D kept ∨ (i - keptN D kept < 63 ∧ bitC y2 (i - keptN D kept) = true)) → ∀ y10, V14_s6758 (CrI o h τ d D kept y2 y3 y22 y22c) K (D.waits.length - i) ⟨d, 0, none⟩ ((keptN D kept : Nat) : Int) y2 y3 ⟨r, 0, none⟩ y10 y22 D.waits.length y22c (D.waits.length : Int) (i : Int) true h2 := by
        intro hyes y10
        unfold V14_s6758
        refine bIf_t rfl ?_
        refine ld_i hr2 rfl ?_
        refine ld_i hr2 rfl ?_
        refine ld_l hr2 rfl ?_
        refine ld_b hr2 rfl ?_
        refine sure_do (c := c) hd2 hτ ha hca2 hlen ?_
        intro o3 h3 hd3 st3
        exact next o3 h3 _ (by unfold crash1; rw [if_pos hyes]) hd3 (st2.trans st3)
      have part : ¬ (i < keptN D kept ∨ (i - keptN D kept < 63 ∧ bitC y2 (i - keptN D kept) = true)) → V14_s6758 (CrI o h τ d D kept y2 y3 y22 y22c) K (D.waits.length - i) ⟨d, 0, none⟩ ((keptN D kept : Nat) : Int) y2 y3 ⟨r, 0, none⟩ ((i - keptN D kept : Nat) : Int) y22 D.waits.length y22c (D.waits.length : Int) (i : Int) false h2 := by
        intro hno
        unfold V14_s6758
        refine bIf_f rfl ?_
        have skip : ¬ (i = keptN D kept ∧ c.cuts = false ∧ 0 < (tornC y3 c).bytes.length) → ∃ k, k < D.waits.length - i ∧ CrI o h τ d D kept y2 y3 y22 y22c [k] ⟨d, 0, none⟩ ((keptN D kept : Nat) : Int) y2 y3 y22 D.waits.length y22c (D.waits.length : Int) (IntKind.i64.wrap ((i : Int) + 1)) h2 := by
          intro hn
          exact next o2 h2 m (by unfold crash1; rw [if_neg hno, if_neg hn]) hd2 st2
        refine bIf_ite (fun h0 => ?_) (fun h0 => ?_)
        · have hik : i = keptN D kept ∨ i < keptN D kept := by
            have : ((i - keptN D kept : Nat) : Int) = 0 := by simpa using h0
            omega
          refine ld_b hr2 rfl ?_
          unfold V14_s27035
          refine bIf_ite (fun hcut => ?_) (fun hcut => ?_)
          · have hcut : c.cuts = false := by simpa using hcut
            refine ld_l hr2 rfl ?_
            refine ld_l hr2 rfl ?_
            have hcc := hca2.2.1
            have em : mxI 0 (mnI y3 ((c.bytes.length : Nat) : Int)) = ((min y3.toNat c.bytes.length : Nat) : Int) := by unfold mxI mnI; (repeat' split) <;> omega
            rw [em]
            refine sl_hi elem24 (by omega) (by omega) ?_
            rw [Int.toNat_natCast]
            refine st_to (v := .slice ca (min y3.toNat c.bytes.length) cc) (cs' := #[.int .i64 c.area, .int .i64 c.pos, .slice ca (min y3.toNat c.bytes.length) cc, .bool c.cuts]) hr2 (Loose.zero _) rfl (by simp) rfl ?_
            rintro h4 hh4
            have tl : (tornC y3 c).bytes.length = min y3.toNat c.bytes.length := by simp [tornC]
            have st4 : Step (Low τ 4) o h o2 _ := st2.putNew (.cells #[.int .i64 c.area, .int .i64 c.pos, .slice ca (min y3.toNat c.bytes.length) cc, .bool c.cuts] 81) hr0
            have st4' : Step (fun t => t = (1, 0)) o2 h2 o2 _ := Step.put (.cells #[.int .i64 c.area, .int .i64 c.pos, .slice ca (min y3.toNat c.bytes.length) cc, .bool c.cuts] 81) or2
            have hr4 : (h2.set r (.cells #[.int .i64 c.area, .int .i64 c.pos, .slice ca (min y3.toNat c.bytes.length) cc, .bool c.cuts] 81)) r = some (.cells #[.int .i64 c.area, .int .i64 c.pos, .slice ca (min y3.toNat c.bytes.length) cc, .bool c.cuts] 81) := Hp.set_same _ _ _
            have hd4 := hd2.step st4' (by simp) (by simp; omega)
            have hca4 := hca2.step st4' (by simp)
            rw [← hh4] at hr4 st4 st4' hd4 hca4
            refine ld_l hr4 rfl ?_
            refine bIf_dec (fun hpos => ?_) (fun hpos => ?_)
            · refine ld_i hr4 rfl ?_
              refine ld_i hr4 rfl ?_
              refine ld_l hr4 rfl ?_
              refine ld_b hr4 rfl ?_
              refine sure_do (c := tornC y3 c) hd4 hτ ha ?_ (by rw [tl]; show c.pos + _ ≤ _; omega) ?_
              · have := hca4.take (m := min y3.toNat c.bytes.length) (by omega)
                have e : (c.bytes.map bc).take (min y3.toNat c.bytes.length * 1) = (tornC y3 c).bytes.map bc := by
                  rw [← List.map_take, Nat.mul_one]
                  congr 1
                  rw [← List.take_eq_take_min]
                  rfl
                rw [e] at this
                exact this
              · intro o5 h5 hd5 st5
                exact next o5 h5 _ (by unfold crash1; rw [if_neg hno, if_pos ⟨by omega, hcut, by omega⟩]) hd5 (st4.trans st5)
            · exact next o2 h4 m (by unfold crash1; rw [if_neg hno, if_neg (by omega)]) hd4 st4
          · exact skip (by simp at hcut; simp [hcut])
        · refine bIf_f rfl ?_
          exact skip (by
            have : ¬ ((i - keptN D kept : Nat) : Int) = 0 := by simpa using h0
            omega)
      by_cases hk : i < keptN D kept
      · refine bIf_t ?_ (full (.inl hk) _)
        rw [wrap_i64 (by omega) (by omega)]
        simp; omega
      · have ek : IntKind.i64.wrap ((i : Int) - ((keptN D kept : Nat) : Int)) = ((i - keptN D kept : Nat) : Int) := by rw [wrap_i64] <;> omega
        rw [ek]
        refine bIf_f (by simp) ?_
        refine bIf_dec (fun h63 => ?_) (fun h63 => ?_)
        · refine shr_i (by omega) ?_
          refine asIn_i ?_
          change V14_s6758 _ _ _ _ _ _ _ _ _ _ _ _ _ _ (bitC y2 (i - keptN D kept)) _
          cases hb : bitC y2 (i - keptN D kept)
          · exact part (by rw [hb]; simp; omega)
          · exact full (.inr ⟨by omega, hb⟩) _
        · exact part (by omega)
    · obtain rfl : i = D.waits.length := by omega
      rw [List.drop_length] at hm
      change m = _ at hm
      obtain ⟨cs, E, c1, c2, c3⟩ := hd1
      have bsz := c3.size
      obtain ⟨A, C, hAC⟩ := c3.sure.three
      refine ld_l c1 (hAC 0 (by omega)).1 ?_
      refine ld_l c1 (hAC 1 (by omega)).1 ?_
      refine ld_l c1 (hAC 2 (by omega)).1 ?_
      refine copied_ok (τ := τ) (s := 4) (m := m) (A := A) (C := C) (t := fun j => (τ, 1 + j)) (fun j hj => ⟨(hAC j hj).2.1.read, by simp, (hAC j hj).2.2⟩) (by omega) ?_
      intro o2 h2 a0 cc0 a1 cc1 a2 cc2 f0 f1 f2 st2
      obtain ⟨d2, od2⟩ := st2.at c1 (by simp)
      rw [c2] at od2
      refine asAg_i (unc_i (asSl_i (unc_i (asSl_i (unc_i (asSl_i (nilL_i ?_)))))))
      refine st_v d2 (Loose.zero _) (v := .slice a0 (m 0).length cc0) rfl (by dsimp only; omega) ?_
      refine st_v (Hp.set_same _ _ _) (Loose.zero _) (v := .slice a1 (m 1).length cc1) rfl (by simp; omega) ?_
      refine st_v (Hp.set_same _ _ _) (Loose.zero _) (v := .slice a2 (m 2).length cc2) rfl (by simp; omega) ?_
      refine st_v (Hp.set_same _ _ _) (Loose.zero _) (v := .slice none 0 0) rfl (by simp; omega) ?_
      refine st_v (Hp.set_same _ _ _) (Loose.zero _) (v := .bool false) rfl (by simp; omega) ?_
      refine st_v (Hp.set_same _ _ _) (Loose.zero _) (v := .int .i64 0) rfl (by simp; omega) ?_
      refine st_v (Hp.set_same _ _ _) (Loose.zero _) (v := .bool false) rfl (by simp; omega) ?_
      rw [Hp.set_set, Hp.set_set, Hp.set_set, Hp.set_set, Hp.set_set, Hp.set_set]
      generalize hcs' : ((((((cs.setIfInBounds (0 + 4) (.slice a0 (m 0).length cc0)).setIfInBounds (0 + 5) (.slice a1 (m 1).length cc1)).setIfInBounds (0 + 6) (.slice a2 (m 2).length cc2)).setIfInBounds (0 + 7) (.slice none 0 0)).setIfInBounds (0 + 8) (.bool false)).setIfInBounds (0 + 9) (.int .i64 0)).setIfInBounds (0 + 10) (.bool false) = cs'
      have hsz : cs'.size = 11 := by rw [← hcs']; simpa using bsz
      have get : ∀ j, j < 4 → cs'[j]? = cs[j]? := by
        intro j h1
        rw [← hcs']
        simp only [Array.getElem?_setIfInBounds_ne (show ¬ (0 + 4 = j) by omega), Array.getElem?_setIfInBounds_ne (show ¬ (0 + 5 = j) by omega), Array.getElem?_setIfInBounds_ne (show ¬ (0 + 6 = j) by omega), Array.getElem?_setIfInBounds_ne (show ¬ (0 + 7 = j) by omega),
          Array.getElem?_setIfInBounds_ne (show ¬ (0 + 8 = j) by omega), Array.getElem?_setIfInBounds_ne (show ¬ (0 + 9 = j) by omega), Array.getElem?_setIfInBounds_ne (show ¬ (0 + 10 = j) by omega)]
      have g4 : cs'[4]? = some (.slice a0 (m 0).length cc0) := by rw [← hcs']; simp [Array.getElem?_setIfInBounds, bsz]
      have g5 : cs'[5]? = some (.slice a1 (m 1).length cc1) := by rw [← hcs']; simp [Array.getElem?_setIfInBounds, bsz]
      have g6 : cs'[6]? = some (.slice a2 (m 2).length cc2) := by rw [← hcs']; simp [Array.getElem?_setIfInBounds, bsz]
      have g7 : cs'[7]? = some (.slice none 0 0) := by rw [← hcs']; simp [Array.getElem?_setIfInBounds, bsz]
      have g8 : cs'[8]? = some (.bool false) := by rw [← hcs']; simp [Array.getElem?_setIfInBounds, bsz]
      have g9 : cs'[9]? = some (.int .i64 0) := by rw [← hcs']; simp [Array.getElem?_setIfInBounds, bsz]
      have g10 : cs'[10]? = some (.bool false) := by rw [← hcs']; simp [Array.getElem?_setIfInBounds, bsz]
      have st3 : Step (fun t => t = (τ, 0)) o2 h2 o2 (h2.set d (.cells cs' E (0, 0))) := Step.put _ od2
      have fin : DiskAt o2 (h2.set d (.cells cs' E (0, 0))) τ d (crashD D kept y2 y3) := by
        have e : crashD D kept y2 y3 = ⟨D.room, m, m, [], false, 0, false⟩ := by unfold crashD; rw [← hm]
        rw [e]
        refine ⟨cs', E, Hp.set_same _ _ _, od2, hsz, ?_, ?_, ?_, ⟨none, 0, 0, g7, [], Oc.nil _, rfl, by simp⟩, g8, g9, g10, by simp, c3.rooms, ⟨c3.ok.sures, c3.ok.sures, by simp⟩⟩
        · rw [get 0 (by omega)]; exact c3.room
        · exact ((c3.sure.step st2 (by simp)).step st3 (by intro k hk; simp)).cells fun k hk => get _ (by omega)
        · intro k hk
          obtain rfl | rfl | rfl : k = 0 ∨ k = 1 ∨ k = 2 := by omega
          · exact ⟨_, _, _, g4, f0.step st3 (by simp), (hAC 0 hk).2.2⟩
          · exact ⟨_, _, _, g5, f1.step st3 (by simp), (hAC 1 hk).2.2⟩
          · exact ⟨_, _, _, g6, f2.step st3 (by simp), (hAC 2 hk).2.2⟩
      exact H _ _ fin (((st1.mono (fun t ht => ht.1)).trans (st2.mono (by simp))).trans (st3.mono (by rintro _ rfl; rfl)))
  · unfold V14
    refine ld_l b1 w1 ?_
    refine ld_l b1 w1 ?_
    refine ⟨D.waits.length, 0, o, D.sure, rfl, by omega, rfl, ?_, rfl, rfl, rfl, rfl, rfl, rfl, rfl, hd, .refl _ _ _, rfl⟩
    exact hmm
end Go.Proofs.YtcolhmddhaabnaaDoor
