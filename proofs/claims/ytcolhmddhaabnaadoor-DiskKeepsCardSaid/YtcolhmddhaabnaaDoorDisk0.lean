import Derived.Test.YtcolhmddhaabnaaDoorHconv
import Derived.Test.YtcolhmddhaabnaaDoorVd
set_option linter.unusedVariables false
set_option maxRecDepth 100000
namespace Go.Proofs.YtcolhmddhaabnaaDoor
open Go.H
abbrev Bytes := List UInt8
abbrev bc : UInt8 → Value := by8
theorem plain_bc {l : Bytes} : ∀ y ∈ l.map bc, flatV y = true := plain_by8
theorem elem24 : Elem P 24 5 1 1 := elem_of (by kernel_rfl)
theorem arr74 : ArrT P 74 24 3 1 := arr_of (by kernel_rfl)
theorem int3 : ∃ k, P.underlying 3 = some (.int k) := ⟨.i64, by kernel_rfl⟩
theorem zero5 : (P.info? 5).bind (·.zero) = some (.int .u8 0) := by kernel_rfl
theorem bc0 : Value.int .u8 0 = bc 0 := rfl

/-! ### The disk, as data -/
structure Ch where
  area : Nat
  pos : Nat
  bytes : Bytes
  cuts : Bool
def splice (b : Bytes) (p : Nat) (x : Bytes) : Bytes :=
  (b ++ List.replicate (p + x.length - b.length) 0).take p ++ x ++ (b ++ List.replicate (p + x.length - b.length) 0).drop (p + x.length)
def Ch.on (c : Ch) (b : Bytes) : Bytes := if c.cuts then b.take c.pos else splice b c.pos c.bytes
def doI (m : Nat → Bytes) (c : Ch) : Nat → Bytes := fun k => if k = c.area then c.on (m k) else m k
/-- An image in memory: three slices, each of its own. -/
def Img (o : Own) (h : Hp) (τ s : Nat) (cs : Array Value) (off : Nat) (m : Nat → Bytes) : Prop :=
  ∀ k, k < 3 → ∃ a n c, cs[off + k]? = some (.slice a n c) ∧ Oc o h (τ, s + k) 1 a n c ((m k).map bc) ∧ (m k).length ≤ 1099511627776
theorem len_of {o : Own} {h : Hp} {t : Tag} {a : Option Addr} {n c : Nat} {l : Bytes} (H : Oc o h t 1 a n c (l.map bc)) : n = l.length := by
  have := H.1; simp at this; omega

/-- disk.image.do -/
theorem do_ok {o : Own} {h : Hp} {τ s b off : Nat} {cs : Array Value} {E : TypeId} {m : Nat → Bytes} {c : Ch} {ca : Option Addr} {cn cc : Nat} {K : Value → Hp → Prop}
    (hb : h b = some (.cells cs E (0, 0))) (hob : o b = (τ, 0)) (hτ : τ ≠ 0) (hs : 0 < s) (hsz : off + 3 ≤ cs.size) (hm : Img o h τ s cs off m)
    (ha : c.area < 3) (hc : Rc o h (0, 0) 1 ca cn cc (c.bytes.map bc)) (hlen : c.pos + c.bytes.length ≤ 1099511627776)
    (H : ∀ o' h' a' n' c', h' b = some (.cells (cs.setIfInBounds (off + c.area) (.slice a' n' c')) E (0, 0)) → o' b = (τ, 0) →
      Oc o' h' (τ, s + c.area) 1 a' n' c' ((c.on (m c.area)).map bc) → Step (fun t => t = (τ, 0) ∨ t = (τ, s + c.area)) o h o' h' → K (.tuple #[]) h') :
    Spec P 40 #[.pointer (some ⟨b, off, none⟩), .agg #[.int .i64 c.area, .int .i64 c.pos, .slice ca cn cc, .bool c.cuts]] h K := by
  have hcn : cn = c.bytes.length := by have := hc.1; simp at this; omega
  refine S40 ?_
  unfold V40
  intro r hr
  have hbr : b ≠ r := fun e => by rw [e, hr] at hb; cases hb
  have st0 : Step (fun t => t = (τ, 0) ∨ t = (τ, s + c.area)) o h (o.set r (1, 0)) (h.set r (.cells #[.int .i64 c.area, .int .i64 c.pos, .slice ca cn cc, .bool c.cuts] 81)) := Step.new _ _ hr
  have hb2 : (h.set r (.cells #[.int .i64 c.area, .int .i64 c.pos, .slice ca cn cc, .bool c.cuts] 81)) b = some (.cells cs E (0, 0)) := by rw [Hp.set_ne _ _ hbr]; exact hb
  have hr2 : (h.set r (.cells #[.int .i64 c.area, .int .i64 c.pos, .slice ca cn cc, .bool c.cuts] 81)) r = some (.cells #[.int .i64 c.area, .int .i64 c.pos, .slice ca cn cc, .bool c.cuts] 81) := Hp.set_same _ _ _
  obtain ⟨a, n, cap, e1, e2, e3⟩ := hm c.area ha
  have hn := len_of e2
  have stp : Step (fun _ => False) o h (o.set r (1, 0)) (h.set r (.cells #[.int .i64 c.area, .int .i64 c.pos, .slice ca cn cc, .bool c.cuts] 81)) := Step.new _ _ hr
  replace e2 := e2.step stp (by simp)
  replace hc := hc.step stp (by simp)
  have hob2 : (o.set r (1, 0)) b = (τ, 0) := by rw [Own.set_ne _ _ hbr]; exact hob
  generalize hh2 : h.set r (.cells #[.int .i64 c.area, .int .i64 c.pos, .slice ca cn cc, .bool c.cuts] 81) = h2 at *
  generalize ho2 : o.set r (1, 0) = o2 at *
  have hor : o2 r = (1, 0) := by rw [← ho2]; exact Own.set_same _ _ _
  refine ld_i hr2 rfl ?_
  refine ix_arr arr74 (by omega) (by omega) ?_
  simp only [Int.toNat_natCast, Nat.mul_one]
  refine ld_l hb2 e1 ?_
  refine ld_b hr2 rfl ?_
  refine bIf_ite (fun hcut => ?_) (fun hcut => ?_)
  · -- a cut
    refine ld_i hr2 rfl ?_
    refine ld_i hr2 rfl ?_
    have hmn : mnI (c.pos : Int) ((n : Nat) : Int) = ((min c.pos n : Nat) : Int) := by unfold mnI; split <;> omega
    rw [hmn]
    have hcap := e2.2.1
    refine sl_hi elem24 (by omega) (by omega) ?_
    refine ix_arr arr74 (by omega) (by omega) ?_
    simp only [Int.toNat_natCast, Nat.mul_one]
    refine st_v hb2 (Loose.zero _) rfl (by omega) ?_
    have stq : Step (fun t => t = (τ, 0) ∨ t = (τ, s + c.area)) o2 h2 o2 (h2.set b (.cells (cs.setIfInBounds (off + c.area) (.slice a (min c.pos n) cap)) E (0, 0))) := Step.put _ (.inl hob2)
    have stq' : Step (fun t => t = (τ, 0)) o2 h2 o2 (h2.set b (.cells (cs.setIfInBounds (off + c.area) (.slice a (min c.pos n) cap)) E (0, 0))) := Step.put _ hob2
    refine H o2 _ a _ cap (Hp.set_same _ _ _) hob2 ?_ (st0.trans stq)
    have := (e2.take (m := min c.pos n) (by omega)).step stq' (by simp; omega)
    have e : ((m c.area).map bc).take (min c.pos n * 1) = (c.on (m c.area)).map bc := by
      unfold Ch.on
      rw [if_pos hcut, List.map_take, Nat.mul_one, hn]
      rw [← List.length_map (f := bc), ← List.take_eq_take_min]
    rw [e] at this
    exact this
  · -- a write
    refine ld_i hr2 rfl ?_
    refine ld_l hr2 rfl ?_
    have hw : IntKind.i64.wrap ((c.pos : Int) + ((cn : Nat) : Int)) = ((c.pos + cn : Nat) : Int) := by rw [wrap_i64] <;> omega
    rw [hw]
    have hon : c.on (m c.area) = splice (m c.area) c.pos c.bytes := by unfold Ch.on; rw [hcut]; rfl
    -- what stands behind the growth
    have fin : ∀ (o3 : Own) (h3 : Hp) (a3 : Option Addr) (n3 c3 : Nat), Oc o3 h3 (τ, s + c.area) 1 a3 n3 c3 (((m c.area) ++ List.replicate (c.pos + c.bytes.length - (m c.area).length) 0).map bc) →
        Step (fun t => t = (τ, s + c.area)) o2 h2 o3 h3 → V40_s31 K ⟨b, off, none⟩ ⟨r, 0, none⟩ a3 n3 c3 h3 := by
      intro o3 h3 a3 n3 c3 e4 st3
      have hn3 := len_of e4
      simp only [List.length_append, List.length_replicate] at hn3
      have hnb : ¬ (o2 b = (τ, s + c.area)) := by rw [hob2]; simp; omega
      have hnr : ¬ (o2 r = (τ, s + c.area)) := by rw [hor]; simp; omega
      obtain ⟨hb3, hob3⟩ := st3.at hb2 hnb
      obtain ⟨hr3, _⟩ := st3.at hr2 hnr
      rw [hob2] at hob3
      have hc3 := hc.step st3 (by simp; omega)
      unfold V40_s31
      refine ld_i hr3 rfl ?_
      refine sl_lo elem24 (by omega) (by omega) ?_
      refine ld_l hr3 rfl ?_
      simp only [Int.toNat_natCast]
      refine copy_own (t := (τ, s + c.area)) elem24 e4 (m := cn) (by omega) hc3.src plain_bc ?_
      intro h4 e5 st4
      have hnb3 : ¬ (Only (τ, s + c.area) (o3 b)) := by unfold Only; rw [hob3]; simp; omega
      have hnr3 : ¬ (Only (τ, s + c.area) (o3 r)) := by unfold Only; rw [st3.owns r (by rw [hr2]; simp) hnr, hor]; simp; omega
      obtain ⟨hb4, _⟩ := st4.at hb3 hnb3
      obtain ⟨hr4, _⟩ := st4.at hr3 hnr3
      refine asIn_i ?_
      refine ld_i hr4 rfl ?_
      refine ix_arr arr74 (by omega) (by omega) ?_
      simp only [Int.toNat_natCast, Nat.mul_one]
      refine st_v hb4 (Loose.zero _) rfl (by omega) ?_
      have stq' : Step (fun t => t = (τ, 0)) o3 h4 o3 (h4.set b (.cells (cs.setIfInBounds (off + c.area) (.slice a3 n3 c3)) E (0, 0))) := Step.put _ hob3
      refine H o3 _ a3 n3 c3 (Hp.set_same _ _ _) hob3 ?_ (((st0.trans (st3.mono fun t ht => .inr ht)).trans (st4.mono fun t ht => .inr ht)).trans (stq'.mono fun t ht => .inl ht))
      have := e5.step stq' (by simp; omega)
      have e : List.take (c.pos * 1) (((m c.area) ++ List.replicate (c.pos + c.bytes.length - (m c.area).length) 0).map bc) ++ c.bytes.map bc ++ List.drop ((c.pos + cn) * 1) (((m c.area) ++ List.replicate (c.pos + c.bytes.length - (m c.area).length) 0).map bc) = (c.on (m c.area)).map bc := by
        rw [hon]
        unfold splice
        rw [hcn, Nat.mul_one, Nat.mul_one]
        simp only [List.map_append, List.map_take, List.map_drop]
      rw [e] at this
      exact this
    refine bIf_dec (fun hlt => ?_) (fun hge => ?_)
    · have hw2 : IntKind.i64.wrap (((c.pos + cn : Nat) : Int) - ((n : Nat) : Int)) = ((c.pos + cn - n : Nat) : Int) := by rw [wrap_i64] <;> omega
      rw [hw2]
      refine append_zeros (t := (τ, s + c.area)) elem24 int3 zero5 rfl e2 (by omega) (by simp only [Int.toNat_natCast]; omega) (by simp only [Int.toNat_natCast]; omega) (by omega) ?_
      intro a' c' o' h' e4 st4
      refine fin o' h' a' _ c' ?_ st4
      simp only [Int.toNat_natCast] at e4
      rw [List.map_append, List.map_replicate, ← bc0, ← hn, ← hcn]
      exact e4
    · refine fin o2 h2 a n cap ?_ (.refl _ _ _)
      have : c.pos + c.bytes.length - (m c.area).length = 0 := by omega
      rw [this]
      simpa using e2
end Go.Proofs.YtcolhmddhaabnaaDoor
