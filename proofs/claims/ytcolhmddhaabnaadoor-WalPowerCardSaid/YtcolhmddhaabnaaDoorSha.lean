import Derived.Test.YtcolhmddhaabnaaDoorHall
import Derived.Test.YtcolhmddhaabnaaDoorDisk
import Derived.Test.YtcolhmddhaabnaaDoorVs
import Derived.Test.YtcolhmddhaabnaaDoorVx
set_option linter.unusedVariables false
set_option maxRecDepth 100000
namespace Go.Proofs.YtcolhmddhaabnaaDoor
open Go.H
abbrev u32 : Int → Value := fun x => .int .u32 x
def rotA (n : Int) : Int := bAnd .u64 (IntKind.u64.wrap (IntKind.i64.wrap (0 - n))) 31
def rot (x n : Int) : Int := bOr .u32 (sShl .u32 x (rotA n)) (sShr .u32 x (IntKind.u64.wrap (32 - rotA n)))
theorem right_ok {h : Hp} {x n : Int} {K : Value → Hp → Prop} (h1 : 0 ≤ rotA n) (h2 : 0 ≤ IntKind.u64.wrap (32 - rotA n)) (H : K (.int .u32 (rot x n)) h) : Spec P 91 #[.int .u32 x, .int .i64 n] h K := by
  refine S91 ?_
  unfold V91
  refine S92 ?_
  unfold V92
  refine shl_i h1 ?_
  refine asIn_i ?_
  refine shr_i h2 ?_
  refine asIn_i ?_
  exact asIn_i H
def bAt (l : Bytes) (i : Nat) : Int := ((l.getD i 0).toNat : Int)
def wordAt (l : Bytes) (i : Nat) : Int :=
  bOr .u32 (bOr .u32 (bOr .u32 (sShl .u32 (IntKind.u32.wrap (bAt l (4 * i))) 24) (sShl .u32 (IntKind.u32.wrap (bAt l (4 * i + 1))) 16)) (sShl .u32 (IntKind.u32.wrap (bAt l (4 * i + 2))) 8)) (IntKind.u32.wrap (bAt l (4 * i + 3)))
def mixW (w : List Int) (i : Nat) : Int :=
  IntKind.u32.wrap ((IntKind.u32.wrap ((IntKind.u32.wrap (w.getD (i - 16) 0 + (bXor .u32 (bXor .u32 (rot (w.getD (i - 15) 0) 7) (rot (w.getD (i - 15) 0) 18)) (sShr .u32 (w.getD (i - 15) 0) 3)))) + w.getD (i - 7) 0)) +
    (bXor .u32 (bXor .u32 (rot (w.getD (i - 2) 0) 17) (rot (w.getD (i - 2) 0) 19)) (sShr .u32 (w.getD (i - 2) 0) 10)))
def spreadN (l : Bytes) : Nat → List Int
  | 0 => []
  | n + 1 => spreadN l n ++ [if n < 16 then wordAt l n else mixW (spreadN l n) n]
theorem spreadN_len (l : Bytes) : ∀ n, (spreadN l n).length = n
  | 0 => rfl
  | n + 1 => by simp [spreadN, spreadN_len l n]
/-- Words, those that are known, and zeros behind them. -/
def padW (w : List Int) (n : Nat) : Array Value := ((w ++ List.replicate (n - w.length) 0).map u32).toArray
theorem padW_size {w : List Int} {n : Nat} (h : w.length ≤ n) : (padW w n).size = n := by simp [padW]; omega
theorem padW_get {w : List Int} {n i : Nat} (h : i < w.length) : (padW w n)[i]? = some (u32 (w.getD i 0)) := by
  unfold padW
  simp only [List.map_append, List.getElem?_toArray]
  rw [List.getElem?_append_left (by simpa using h)]
  simp [h]
theorem padW_set {w : List Int} {n : Nat} {x : Int} (h : w.length < n) : (padW w n).setIfInBounds w.length (u32 x) = padW (w ++ [x]) n := by
  apply Array.ext_getElem?
  intro j
  have hs : (padW w n).size = n := padW_size (Nat.le_of_lt h)
  rw [Array.getElem?_setIfInBounds]
  by_cases hj : w.length = j
  · subst hj
    rw [if_pos rfl, if_pos (by rw [hs]; exact h), padW_get (by simp)]
    simp
  · rw [if_neg hj]
    by_cases h1 : j < w.length
    · rw [padW_get h1, padW_get (by simp; omega)]
      congr 2
      simp only [List.getD_eq_getElem?_getD]
      rw [List.getElem?_append_left h1]
    · unfold padW
      simp only [List.map_append, List.map_replicate, List.map_cons, List.map_nil, List.append_assoc, List.getElem?_toArray]
      rw [List.getElem?_append_right (by simp; omega), List.getElem?_append_right (by simp; omega)]
      simp only [List.length_map, List.length_append, List.length_cons, List.length_nil]
      rw [List.getElem?_append_right (by simp; omega)]
      simp only [List.length_cons, List.length_nil, List.getElem?_replicate]
      by_cases h2 : j - w.length < n - w.length
      · rw [if_pos h2, if_pos (by omega)]
      · rw [if_neg h2, if_neg (by omega)]
theorem arr146 : ArrT P 146 138 64 1 := arr_of (by kernel_rfl)
theorem agg146 : aggOk P 146 64 = true := by kernel_rfl
theorem zero146 : Value.cells (zeroOf P 146) = padW [] 64 := by kernel_rfl
theorem padW_laid {w : List Int} {n : Nat} (hw : w.length = n) : laid (padW [] n) 0 (w.map u32) = padW w n := by
  apply Array.ext_getElem?
  intro j
  have hs : (padW [] n).size = n := padW_size (by simp)
  rw [laid_get _ _ _ _ (by simp [hs]; omega)]
  simp only [Nat.zero_le, Nat.zero_add, true_and, Nat.sub_zero, List.length_map]
  have e : padW w n = (w.map u32).toArray := by simp [padW, hw]
  rw [e]
  by_cases h1 : j < w.length
  · rw [if_pos h1]; simp
  · rw [if_neg h1, Array.getElem?_eq_none (by rw [hs]; omega), Array.getElem?_eq_none (by simp; omega)]
theorem rc_byte {o : Own} {h : Hp} {t : Tag} {a : Option Addr} {n c i : Nat} {l : Bytes} {j : Int} {k : IntKind} {K : Int → Prop} (hx : Rc o h t 1 a n c (l.map bc)) (hj : j = (i : Int)) (hi : i < l.length) (H : K (bAt l i)) :
    ixA P 24 (.slice a n c) (.int k j) h fun d => ld h d fun v => asIn .u8 v K := by
  subst hj
  have hn : n = l.length := len_rc hx
  rcases hx.2.2 with h0 | ⟨b, off, cs, E, fr, e1, _, e3, e4⟩
  · omega
  · subst e1
    refine ix_slice elem24 (by omega) (by omega) ?_
    simp only [Int.toNat_natCast, Nat.mul_one]
    refine ld_i e3 (e4 i (bc (l.getD i 0)) ?_) H
    simp [hi]
def SpI (o : Own) (h : Hp) (a : Option Addr) (c : Nat) (l : Bytes) (ns : List Nat) (y0 : Option Addr) (y0n y0c : Nat) (y2 y3 : Addr) (y7 : Int) (hh : Hp) : Prop :=
  ∃ (i : Nat) (o' : Own) (r1 r2 : Nat), ns = [64 - i] ∧ i ≤ 64 ∧ y0 = a ∧ y0n = 64 ∧ y0c = c ∧ y2 = ⟨r1, 0, none⟩ ∧ y3 = ⟨r2, 0, none⟩ ∧ y7 = i ∧ h r1 = none ∧ h r2 = none ∧ r1 ≠ r2 ∧
    hh r1 = some (.cells (padW [] 64) 146) ∧ hh r2 = some (.cells (padW (spreadN l i) 64) 146) ∧ Step (fun _ => False) o h o' hh
theorem spread_ok {o : Own} {h : Hp} {t : Tag} {a : Option Addr} {c : Nat} {l : Bytes} {K : Value → Hp → Prop} (hx : Rc o h t 1 a 64 c (l.map bc))
    (H : ∀ o' h', Step (fun _ => False) o h o' h' → K (.agg ((spreadN l 64).map u32).toArray) h') : Spec P 90 #[.slice a 64 c] h K := by
  have hl : l.length = 64 := (len_rc hx).symm
  refine S90 (SpI o h a c l) ?_ ?_
  · rintro n y0 y0n y0c y2 y3 y7 hh ⟨i, o', r1, r2, hns, hi, rfl, rfl, rfl, rfl, rfl, rfl, hr1, hr2, hne, hb1, hb2, st0⟩
    obtain rfl : n = 64 - i := by simpa using hns
    have hx' := hx.step st0 (by simp)
    have hlen := spreadN_len l i
    have step : ∀ (v : Int), i < 64 → v = (if i < 16 then wordAt l i else mixW (spreadN l i) i) → ∃ m, m < 64 - i ∧ SpI o h y0 y0c l [m] y0 64 y0c ⟨r1, 0, none⟩ ⟨r2, 0, none⟩ (IntKind.i64.wrap ((i : Int) + 1)) (hh.set r2 (.cells ((padW (spreadN l i) 64).setIfInBounds i (u32 v)) 146)) := by
      intro v hlt hv
      refine ⟨64 - (i + 1), by omega, i + 1, o', r1, r2, rfl, by omega, rfl, rfl, rfl, rfl, rfl, ?_, hr1, hr2, hne, ?_, ?_, st0.putNew _ hr2⟩
      · rw [wrap_i64] <;> omega
      · rw [Hp.set_ne _ _ hne]; exact hb1
      · rw [Hp.set_same]
        have := padW_set (w := spreadN l i) (n := 64) (x := v) (by omega)
        rw [hlen] at this
        rw [this, hv]
        rfl
    unfold V90_58
    refine bIf_dec (fun hlt => ?_) (fun hge => ?_)
    · have hlt' : i < 64 := by omega
      refine bIf_dec (fun h16 => ?_) (fun h16 => ?_)
      · have h16' : i < 16 := by omega
        have w4 : IntKind.i64.wrap (4 * (i : Int)) = ((4 * i : Nat) : Int) := by rw [wrap_i64] <;> omega
        rw [w4]
        have w1 : ∀ k : Nat, k < 4 → IntKind.i64.wrap (((4 * i : Nat) : Int) + k) = ((4 * i + k : Nat) : Int) := by intro k hk; rw [wrap_i64] <;> omega
        refine rc_byte hx' rfl (by omega) ?_
        refine rc_byte hx' (w1 1 (by omega)) (by omega) ?_
        refine rc_byte hx' (w1 2 (by omega)) (by omega) ?_
        refine rc_byte hx' (w1 3 (by omega)) (by omega) ?_
        refine ix_arr arr146 (by omega) (by omega) ?_
        simp only [Int.toNat_natCast, Nat.mul_one, Nat.zero_add]
        refine st_v hb2 (Loose.zero _) rfl (by rw [padW_size (by omega)]; exact hlt') ?_
        exact step _ hlt' (by rw [if_pos h16']; rfl)
      · have h16' : 16 ≤ i := by omega
        have wk : ∀ k : Nat, k ≤ 16 → IntKind.i64.wrap ((i : Int) - k) = ((i - k : Nat) : Int) := by intro k hk; rw [wrap_i64] <;> omega
        have get : ∀ k : Nat, 0 < k → k ≤ 16 → (padW (spreadN l i) 64)[i - k]? = some (u32 ((spreadN l i).getD (i - k) 0)) := fun k h0 hk => padW_get (by omega)
        have ix : ∀ (kk : Int) (k : Nat) (Q : Int → Prop), kk = (k : Int) → 0 < k → k ≤ 16 → Q ((spreadN l i).getD (i - k) 0) → ixA P 146 (.pointer (some ⟨r2, 0, none⟩)) (.int .i64 (IntKind.i64.wrap ((i : Int) - kk))) hh fun d => ld hh d fun v => asIn .u32 v Q := by
          intro kk k Q e h0 hk hQ
          rw [e, wk k hk]
          refine ix_arr arr146 (by omega) (by omega) ?_
          simp only [Int.toNat_natCast, Nat.mul_one, Nat.zero_add]
          exact ld_i hb2 (get k h0 hk) hQ
        have ix' : ∀ (kk : Int) (k : Nat) (Q : Addr → Int → Prop), kk = (k : Int) → 0 < k → k ≤ 16 → Q ⟨r2, i - k, none⟩ ((spreadN l i).getD (i - k) 0) → ixA P 146 (.pointer (some ⟨r2, 0, none⟩)) (.int .i64 (IntKind.i64.wrap ((i : Int) - kk))) hh fun d => ld hh d fun v => asIn .u32 v (Q d) := by
          intro kk k Q e h0 hk hQ
          rw [e, wk k hk]
          refine ix_arr arr146 (by omega) (by omega) ?_
          simp only [Int.toNat_natCast, Nat.mul_one, Nat.zero_add]
          exact ld_i hb2 (get k h0 hk) hQ
        refine ix 15 15 _ rfl (by omega) (by omega) ?_
        refine ix 2 2 _ rfl (by omega) (by omega) ?_
        refine ix' 16 16 _ rfl (by omega) (by omega) ?_
        refine ix' 7 7 _ rfl (by omega) (by omega) ?_
        refine right_ok (by decide) (by decide) ?_
        refine asIn_i ?_
        refine ⟨by (repeat' apply And.intro) <;> rfl, ?_⟩
        refine right_ok (by decide) (by decide) ?_
        refine asIn_i ?_
        refine ⟨by (repeat' apply And.intro) <;> rfl, ?_⟩
        refine right_ok (by decide) (by decide) ?_
        refine asIn_i ?_
        refine ⟨by (repeat' apply And.intro) <;> rfl, ?_⟩
        refine right_ok (by decide) (by decide) ?_
        refine asIn_i ?_
        refine ⟨by (repeat' apply And.intro) <;> rfl, ?_⟩
        refine ix_arr arr146 (by omega) (by omega) ?_
        simp only [Int.toNat_natCast, Nat.mul_one, Nat.zero_add]
        refine st_v hb2 (Loose.zero _) rfl (by rw [padW_size (by omega)]; exact hlt') ?_
        exact step _ hlt' (by rw [if_neg (by omega)]; rfl)
    · obtain rfl : i = 64 := by omega
      clear step
      generalize spreadN l 64 = w at hb2 hlen H
      refine ldAgg agg146 hb2 (xs := w.map u32) ?_ (by simp [hlen]) ?_
      · intro j x hj
        have hj' : j < 64 := by have := (List.getElem?_eq_some_iff.1 hj).1; simpa [hlen] using this
        rw [Nat.zero_add, padW_get (by omega)]
        rw [List.getElem?_map] at hj
        simp only [List.getD_eq_getElem?_getD]
        obtain ⟨y, hy, rfl⟩ := Option.map_eq_some_iff.1 hj
        simp [hy]
      · refine stAgg agg146 hb1 (Loose.zero _) (by intro x hx; obtain ⟨y, _, rfl⟩ := List.mem_map.1 hx; rfl) (by simp [hlen]) (by rw [padW_size (by simp)]; omega) ?_
        rw [padW_laid hlen]
        refine ldAgg agg146 (Hp.set_same _ _ _) (xs := w.map u32) ?_ (by simp [hlen]) ?_
        · intro j x hj
          have hj' : j < 64 := by have := (List.getElem?_eq_some_iff.1 hj).1; simpa [hlen] using this
          rw [Nat.zero_add, padW_get (by omega)]
          rw [List.getElem?_map] at hj
          simp only [List.getD_eq_getElem?_getD]
          obtain ⟨y, hy, rfl⟩ := Option.map_eq_some_iff.1 hj
          simp [hy]
        · exact H _ _ (st0.putNew _ hr1)
  · unfold V90
    rw [zero146]
    refine nw_to ?_
    intro r1 h1 hr1 hh1
    refine nw_to ?_
    intro r2 h2 hr2 hh2
    have hne : r1 ≠ r2 := by rintro rfl; rw [hh1, Hp.set_same] at hr2; cases hr2
    have hr2' : h r2 = none := by rw [hh1, Hp.set_ne _ _ (Ne.symm hne)] at hr2; exact hr2
    refine ⟨64, 0, (o.set r1 (1, 0)).set r2 (1, 0), r1, r2, rfl, by omega, rfl, rfl, rfl, rfl, rfl, rfl, hr1, hr2', hne, ?_, ?_, ?_⟩
    · rw [hh2, Hp.set_ne _ _ hne, hh1, Hp.set_same]
    · rw [hh2, Hp.set_same]; rfl
    · rw [hh2]
      have s1 : Step (fun _ => False) o h (o.set r1 (1, 0)) h1 := by rw [hh1]; exact Step.new _ _ hr1
      exact s1.trans (Step.new _ _ hr2)
end Go.Proofs.YtcolhmddhaabnaaDoor
set_option linter.unusedVariables false
set_option maxRecDepth 100000
namespace Go.Proofs.YtcolhmddhaabnaaDoor
open Go.H
/-- The two tables. -/
structure ShaC where
  cons : Nat → Int
  first : Nat → Int
structure ShaAt (o : Own) (h : Hp) (c : ShaC) : Prop where
  f0 : o 28 = (0, 0)
  f1 : ∃ cs E fr, h 28 = some (.cells cs E fr) ∧ ∀ j, j < 8 → cs[j]? = some (u32 (c.first j))
  k0 : o 29 = (0, 0)
  k1 : ∃ cs E fr, h 29 = some (.cells cs E fr) ∧ ∀ j, j < 64 → cs[j]? = some (u32 (c.cons j))
theorem ShaAt.step {S : Tag → Prop} {o o' : Own} {h h' : Hp} {c : ShaC} (H : ShaAt o h c) (s : Step S o h o' h') (h0 : ¬ S (0, 0)) : ShaAt o' h' c := by
  obtain ⟨f0, ⟨cs, E, fr, f1, f2⟩, k0, ⟨ks, E', fr', k1, k2⟩⟩ := H
  obtain ⟨a1, a2⟩ := s.at f1 (by rw [f0]; exact h0)
  obtain ⟨b1, b2⟩ := s.at k1 (by rw [k0]; exact h0)
  exact ⟨a2.trans f0, ⟨cs, E, fr, a1, f2⟩, b2.trans k0, ⟨ks, E', fr', b1, k2⟩⟩
theorem ShaAt.own0 {o : Own} {h : Hp} {c : ShaC} (H : ShaAt o h c) : ShaAt ownZ h c := ⟨rfl, H.f1, rfl, H.k1⟩
def Wd8 (v : Nat → Int) : Array Value := #[u32 (v 0), u32 (v 1), u32 (v 2), u32 (v 3), u32 (v 4), u32 (v 5), u32 (v 6), u32 (v 7)]
def tF (v : Nat → Int) (k w : Int) : Int :=
  IntKind.u32.wrap ((IntKind.u32.wrap ((IntKind.u32.wrap ((IntKind.u32.wrap (v 7 + (bXor .u32 (bXor .u32 (rot (v 4) 6) (rot (v 4) 11)) (rot (v 4) 25)))) + (bXor .u32 (bAnd .u32 (v 4) (v 5)) (bAnd .u32 (bNot .u32 (v 4)) (v 6))))) + k)) + w)
def uF (v : Nat → Int) : Int :=
  IntKind.u32.wrap ((bXor .u32 (bXor .u32 (rot (v 0) 2) (rot (v 0) 13)) (rot (v 0) 22)) + (bXor .u32 (bXor .u32 (bAnd .u32 (v 0) (v 1)) (bAnd .u32 (v 0) (v 2))) (bAnd .u32 (v 1) (v 2))))
def roundF (v : Nat → Int) (k w : Int) : Nat → Int
  | 0 => IntKind.u32.wrap (tF v k w + uF v)
  | 1 => v 0
  | 2 => v 1
  | 3 => v 2
  | 4 => IntKind.u32.wrap (v 3 + tF v k w)
  | 5 => v 4
  | 6 => v 5
  | _ => v 6
def roundsF (c : ShaC) (s : Nat → Int) (ws : List Int) : Nat → (Nat → Int)
  | 0 => s
  | n + 1 => roundF (roundsF c s ws n) (c.cons n) (ws.getD n 0)
def takeF (c : ShaC) (s : Nat → Int) (l : Bytes) (n : Nat) : Nat → Int := fun j => IntKind.u32.wrap (s j + roundsF c s (spreadN l n) n j)
theorem arr140 : ArrT P 140 138 8 1 := arr_of (by kernel_rfl)
theorem leaf138 : leafOk P 138 = true := by kernel_rfl
theorem build140 (h : Hp) (a b c d e f g i : Int) : rd P (Instr.build 140 #[(0, .int .u32 a), (1, .int .u32 b), (2, .int .u32 c), (3, .int .u32 d), (4, .int .u32 e), (5, .int .u32 f), (6, .int .u32 g), (7, .int .u32 i)]) h =
    some (.agg [u32 a, u32 b, u32 c, u32 d, u32 e, u32 f, u32 g, u32 i].toArray) := by kernel_rfl
theorem oRd_eq {P : Program} {s : Sem Value} {h : Hp} {v : Value} {K : Value → Prop} (h1 : rd P s h = some v) : oRd P s h K = K v := by unfold oRd; rw [h1]
theorem Wd8_get (v : Nat → Int) {j : Nat} (hj : j < 8) : (Wd8 v)[j]? = some (u32 (v j)) := by
  match j, hj with
  | 0, _ => rfl
  | 1, _ => rfl
  | 2, _ => rfl
  | 3, _ => rfl
  | 4, _ => rfl
  | 5, _ => rfl
  | 6, _ => rfl
  | 7, _ => rfl
def TkI (o : Own) (h : Hp) (c : ShaC) (x : Nat) (s : Nat → Int) (ws : List Int) (ns : List Nat) (y0 y4 : Addr) (y16 : Value) (y17 : Int) (hh : Hp) : Prop :=
  ∃ (i : Nat) (o' : Own) (r : Nat), ns = [64 - i] ∧ i ≤ 64 ∧ y0 = ⟨x, 0, none⟩ ∧ y4 = ⟨r, 0, none⟩ ∧ y16 = .agg (ws.map u32).toArray ∧ y17 = i ∧ h r = none ∧ x ≠ r ∧
    hh r = some (.cells (Wd8 (roundsF c s ws i)) 140) ∧ Step (fun _ => False) o h o' hh
def TkJ (o : Own) (h : Hp) (x : Nat) (cs : Array Value) (E : TypeId) (s v : Nat → Int) (ns : List Nat) (y0 y4 : Addr) (y96 : Int) (hh : Hp) : Prop :=
  ∃ (i : Nat) (o' : Own) (r : Nat) (cs' : Array Value), ns = [8 - i] ∧ i ≤ 8 ∧ y0 = ⟨x, 0, none⟩ ∧ y4 = ⟨r, 0, none⟩ ∧ y96 = i ∧ h r = none ∧ x ≠ r ∧
    hh r = some (.cells (Wd8 v) 140) ∧ hh x = some (.cells cs' E) ∧ o' x = o x ∧ cs'.size = cs.size ∧ (∀ j, j < 8 → cs'[j]? = some (u32 (if j < i then IntKind.u32.wrap (s j + v j) else s j))) ∧ (∀ j, 8 ≤ j → cs'[j]? = cs[j]?) ∧
    Step (fun t => t = o x) o h o' hh
theorem take_ok {o : Own} {h : Hp} {t : Tag} {a : Option Addr} {cc : Nat} {l : Bytes} {c : ShaC} {x : Nat} {cs : Array Value} {E : TypeId} {s : Nat → Int} {K : Value → Hp → Prop} (hc : ShaAt o h c) (hx : Rc o h t 1 a 64 cc (l.map bc))
    (hb : h x = some (.cells cs E)) (hsz : 8 ≤ cs.size) (hs : ∀ j, j < 8 → cs[j]? = some (u32 (s j)))
    (H : ∀ o' h' cs', h' x = some (.cells cs' E) → o' x = o x → cs'.size = cs.size → (∀ j, j < 8 → cs'[j]? = some (u32 (takeF c s l 64 j))) → (∀ j, 8 ≤ j → cs'[j]? = cs[j]?) → Step (fun t => t = o x) o h o' h' → K (.tuple #[]) h') :
    Spec P 85 #[.pointer (some ⟨x, 0, none⟩), .slice a 64 cc] h K := by
  have hlen := spreadN_len l 64
  unfold takeF at H
  obtain ⟨ws, hws⟩ : ∃ ws, spreadN l 64 = ws := ⟨_, rfl⟩
  rw [hws] at hlen H
  obtain ⟨v, hv⟩ : ∃ v, roundsF c s ws 64 = v := ⟨_, rfl⟩
  rw [hv] at H
  refine S85 (TkI o h c x s ws) (TkJ o h x cs E s v) ?_ ?_ ?_
  · rintro n y0 y4 y16 y17 hh ⟨i, o', r, hns, hi, rfl, rfl, rfl, rfl, hr, hne, hb1, st0⟩
    obtain rfl : n = 64 - i := by simpa using hns
    unfold V85_26
    refine bIf_dec (fun hlt => ?_) (fun hge => ?_)
    · have hlt' : i < 64 := by omega
      have hc' := hc.step st0 (by simp)
      obtain ⟨ks, E', fr', k1, k2⟩ := hc'.k1
      have hw : (ws.map u32)[(i : Int).toNat]? = some (u32 (ws.getD i 0)) := by
        rw [Int.toNat_natCast, List.getElem?_map]
        have : i < ws.length := by omega
        simp [this]
      have g : ∀ j, j < 8 → (Wd8 (roundsF c s ws i))[j]? = some (u32 (roundsF c s ws i j)) := fun j hj => Wd8_get _ hj
      have g' : ∀ j, j < 8 → (Wd8 (roundsF c s ws i))[0 + j]? = some (u32 (roundsF c s ws i j)) := fun j hj => by rw [Nat.zero_add]; exact Wd8_get _ hj
      have hsucc : roundsF c s ws (i + 1) = roundF (roundsF c s ws i) (c.cons i) (ws.getD i 0) := rfl
      have step : ∃ m, m < 64 - i ∧ TkI o h c x s ws [m] ⟨x, 0, none⟩ ⟨r, 0, none⟩ (.agg (ws.map u32).toArray) (IntKind.i64.wrap ((i : Int) + 1)) (hh.set r (.cells (Wd8 (roundF (roundsF c s ws i) (c.cons i) (ws.getD i 0))) 140)) := by
        refine ⟨64 - (i + 1), by omega, i + 1, o', r, rfl, by omega, rfl, rfl, rfl, ?_, hr, hne, Hp.set_same _ _ _, st0.putNew _ hr⟩
        rw [wrap_i64] <;> omega
      generalize roundsF c s ws i = z at *
      refine ixAgg arr146 leaf138 hw (by simp [hlen]) (by omega) ?_
      refine asIn_i ?_
      refine ld_i hb1 (g 0 (by omega)) ?_
      refine ld_i hb1 (g' 4 (by omega)) ?_
      refine ld_i hb1 (g' 7 (by omega)) ?_
      refine ld_i hb1 (g' 5 (by omega)) ?_
      refine ld_i hb1 (g' 6 (by omega)) ?_
      refine ix_arr arr146 (by omega) (by omega) ?_
      simp only [Int.toNat_natCast, Nat.mul_one, Nat.zero_add]
      refine ld_i k1 (k2 i hlt') ?_
      refine right_ok (by decide) (by decide) ?_
      refine asIn_i ?_
      refine ⟨by (repeat' apply And.intro) <;> rfl, ?_⟩
      refine right_ok (by decide) (by decide) ?_
      refine asIn_i ?_
      refine ⟨by (repeat' apply And.intro) <;> rfl, ?_⟩
      refine right_ok (by decide) (by decide) ?_
      refine asIn_i ?_
      refine ⟨by (repeat' apply And.intro) <;> rfl, ?_⟩
      refine ld_i hb1 (g 1 (by omega)) ?_
      refine ld_i hb1 (g 2 (by omega)) ?_
      refine ld_i hb1 (g 1 (by omega)) ?_
      refine ld_i hb1 (g 2 (by omega)) ?_
      refine right_ok (by decide) (by decide) ?_
      refine asIn_i ?_
      refine ⟨by (repeat' apply And.intro) <;> rfl, ?_⟩
      refine right_ok (by decide) (by decide) ?_
      refine asIn_i ?_
      refine ⟨by (repeat' apply And.intro) <;> rfl, ?_⟩
      refine right_ok (by decide) (by decide) ?_
      refine asIn_i ?_
      refine ⟨by (repeat' apply And.intro) <;> rfl, ?_⟩
      refine ld_i hb1 (g 1 (by omega)) ?_
      refine ld_i hb1 (g 2 (by omega)) ?_
      refine ld_i hb1 (g 3 (by omega)) ?_
      refine ld_i hb1 (g 5 (by omega)) ?_
      refine ld_i hb1 (g 6 (by omega)) ?_
      rw [oRd_eq (build140 _ _ _ _ _ _ _ _ _)]
      refine asAg_i ?_
      iterate 8
        refine unc_i ?_
        refine asIn_i ?_
      refine nilL_i ?_
      refine st_v hb1 (Loose.zero _) rfl (by simp [Wd8]) ?_
      iterate 7 refine st_v (Hp.set_same _ _ _) (Loose.zero _) rfl (by simp [Wd8]) ?_
      rw [Hp.set_set, Hp.set_set, Hp.set_set, Hp.set_set, Hp.set_set, Hp.set_set, Hp.set_set]
      have key : ∀ C : Array Value, C = Wd8 (roundF z (c.cons i) (ws.getD i 0)) → ∃ m, m < 64 - i ∧ TkI o h c x s ws [m] ⟨x, 0, none⟩ ⟨r, 0, none⟩ (.agg (ws.map u32).toArray) (IntKind.i64.wrap ((i : Int) + 1)) (hh.set r (.cells C 140)) := fun C e => e ▸ step
      refine key _ ?_
      simp [Wd8, roundF, tF, uF]
    · obtain rfl : i = 64 := by omega
      rw [hv] at hb1
      refine ⟨8, 0, o', r, cs, rfl, by omega, rfl, rfl, rfl, hr, hne, hb1, ?_, ?_, rfl, ?_, fun _ _ => rfl, st0.no⟩
      · exact (st0.at hb (by simp)).1
      · exact (st0.at hb (by simp)).2
      · intro j hj
        rw [if_neg (by omega)]; exact hs j hj
  · rintro n y0 y4 y96 hh ⟨i, o', r, cs', hns, hi, rfl, rfl, rfl, hr, hne, hb1, hb2, ho2, hsz', hj1, hj2, st0⟩
    obtain rfl : n = 8 - i := by simpa using hns
    unfold V85_30
    refine bIf_dec (fun hlt => ?_) (fun hge => ?_)
    · have hlt' : i < 8 := by omega
      refine ix_arr arr140 (by omega) (by omega) ?_
      simp only [Int.toNat_natCast, Nat.mul_one, Nat.zero_add]
      refine ld_i hb2 (hj1 i hlt') ?_
      refine ix_arr arr140 (by omega) (by omega) ?_
      simp only [Int.toNat_natCast, Nat.mul_one, Nat.zero_add]
      refine ld_i hb1 (Wd8_get _ hlt') ?_
      refine ix_arr arr140 (by omega) (by omega) ?_
      simp only [Int.toNat_natCast, Nat.mul_one, Nat.zero_add]
      refine st_v hb2 (Loose.zero _) rfl (by omega) ?_
      refine ⟨8 - (i + 1), by omega, i + 1, o', r, _, rfl, by omega, rfl, rfl, ?_, hr, hne, ?_, Hp.set_same _ _ _, ho2, ?_, ?_, ?_, st0.trans (Step.put _ ho2)⟩
      · rw [wrap_i64] <;> omega
      · rw [Hp.set_ne _ _ (Ne.symm hne)]; exact hb1
      · simp [hsz']
      · intro j hj
        rw [Array.getElem?_setIfInBounds]
        by_cases hij : i = j
        · subst hij
          rw [if_pos rfl, if_pos (by omega)]
          simp
        · rw [if_neg hij, hj1 j hj]
          by_cases h3 : j < i
          · rw [if_pos h3, if_pos (by omega)]
          · rw [if_neg h3, if_neg (by omega)]
      · intro j hj
        rw [Array.getElem?_setIfInBounds_ne (by omega)]
        exact hj2 j hj
    · obtain rfl : i = 8 := by omega
      refine H o' hh cs' hb2 ho2 hsz' (fun j hj => ?_) hj2 st0
      have := hj1 j hj
      rw [if_pos hj] at this
      exact this
  · unfold V85
    refine ld_i hb (hs 0 (by omega)) ?_
    have hs' : ∀ j, j < 8 → cs[0 + j]? = some (u32 (s j)) := fun j hj => by rw [Nat.zero_add]; exact hs j hj
    refine ld_i hb (hs' 1 (by omega)) ?_
    refine ld_i hb (hs' 2 (by omega)) ?_
    refine ld_i hb (hs' 3 (by omega)) ?_
    refine ld_i hb (hs' 4 (by omega)) ?_
    refine ld_i hb (hs' 5 (by omega)) ?_
    refine ld_i hb (hs' 6 (by omega)) ?_
    refine ld_i hb (hs' 7 (by omega)) ?_
    refine nw_to ?_
    intro r h1 hr hh1
    have hne : x ≠ r := by rintro rfl; rw [hb] at hr; cases hr
    subst hh1
    iterate 8 refine st_v (Hp.set_same _ _ _) (Loose.zero _) rfl (by simp) ?_
    rw [Hp.set_set, Hp.set_set, Hp.set_set, Hp.set_set, Hp.set_set, Hp.set_set, Hp.set_set, Hp.set_set]
    have s1 : Step (fun _ => False) o h (o.set r (1, 0)) (h.set r (.cells (Wd8 s) 140)) := Step.new _ _ hr
    have key : ∀ (C : Array Value) (Q : Value → Hp → Prop), C = Wd8 s → Spec P 90 #[.slice a 64 cc] (h.set r (.cells (Wd8 s) 140)) Q → Spec P 90 #[.slice a 64 cc] (h.set r (.cells C 140)) Q := fun C Q e g => e ▸ g
    refine key _ _ (by simp [Wd8]) ?_
    refine spread_ok (hx.step s1 (by simp)) ?_
    intro o2 h2 s2
    rw [hws]
    refine ⟨64, 0, o2, r, rfl, by omega, rfl, rfl, rfl, rfl, hr, hne, ?_, s1.trans s2⟩
    exact (s2.at (Hp.set_same _ _ _) (by simp)).1
end Go.Proofs.YtcolhmddhaabnaaDoor
set_option linter.unusedVariables false
set_option maxRecDepth 100000
namespace Go.Proofs.YtcolhmddhaabnaaDoor
open Go.H
theorem Oc_drop {o : Own} {h : Hp} {t : Tag} {a : Option Addr} {n c l : Nat} {xs : List Value} (H : Oc o h t 1 a n c xs) (hl : l ≤ n) : Oc o h t 1 (cutA a l 1 c) (n - l) (c - l) (xs.drop l) := by
  obtain ⟨h1, h2, h3⟩ := H
  refine ⟨by simp; omega, by omega, ?_⟩
  by_cases hc : c = l
  · exact .inl (by omega)
  · rcases h3 with h3 | ⟨b, off, cs, E, fr, e1, e2, e3, e4, e5, e6⟩
    · exact .inl (by omega)
    · refine .inr ⟨b, off + l, cs, E, fr, ?_, e2, e3, ?_, by omega, e6⟩
      · unfold cutA
        rw [if_neg hc, e1]
        simp [add_at]
      · intro i x hi
        rw [List.getElem?_drop] at hi
        have := e4 _ _ hi
        rw [← this]; congr 1; omega
/-- A hash in memory. -/
structure HsC (o : Own) (h : Hp) (τ : Nat) (cs : Array Value) (s : Nat → Int) (rest : Bytes) (n : Int) : Prop where
  size : cs.size = 10
  words : ∀ j, j < 8 → cs[j]? = some (u32 (s j))
  rest : ∃ a m c, cs[8]? = some (.slice a m c) ∧ Oc o h (τ, 1) 1 a m c (rest.map bc)
  count : cs[9]? = some (.int .i64 n)
def HsAt (o : Own) (h : Hp) (τ x : Nat) (s : Nat → Int) (rest : Bytes) (n : Int) : Prop := ∃ cs E, h x = some (.cells cs E) ∧ o x = (τ, 0) ∧ HsC o h τ cs s rest n
theorem HsAt.step {S : Tag → Prop} {o o' : Own} {h h' : Hp} {τ x : Nat} {s : Nat → Int} {rest : Bytes} {n : Int} (H : HsAt o h τ x s rest n) (st : Step S o h o' h') (hτ : ∀ k, ¬ S (τ, k)) : HsAt o' h' τ x s rest n := by
  obtain ⟨cs, E, h1, h2, h3⟩ := H
  obtain ⟨a, m, c, h4, h5⟩ := h3.rest
  obtain ⟨f1, f2⟩ := st.at h1 (by rw [h2]; exact hτ 0)
  exact ⟨cs, E, f1, f2.trans h2, h3.size, h3.words, ⟨a, m, c, h4, h5.step st (hτ 1)⟩, h3.count⟩
theorem new_hash {o : Own} {h : Hp} {τ : Nat} {c : ShaC} {K : Value → Hp → Prop} (hc : ShaAt o h c)
    (H : ∀ o' h' x, HsAt o' h' τ x c.first [] 0 → h x = none → Step (fun _ => False) o h o' h' → K (.pointer (some ⟨x, 0, none⟩)) h') : Spec P 81 #[] h K := by
  refine S81 ?_
  unfold V81
  obtain ⟨cs, E, fr, f1, f2⟩ := hc.f1
  refine ld_i f1 (f2 0 (by omega)) ?_
  refine ld_i f1 (f2 1 (by omega)) ?_
  refine ld_i f1 (f2 2 (by omega)) ?_
  refine ld_i f1 (f2 3 (by omega)) ?_
  refine ld_i f1 (f2 4 (by omega)) ?_
  refine ld_i f1 (f2 5 (by omega)) ?_
  refine ld_i f1 (f2 6 (by omega)) ?_
  refine ld_i f1 (f2 7 (by omega)) ?_
  refine nw_to ?_
  intro r h1 hr hh1
  subst hh1
  refine H (o.set r (τ, 0)) _ r ⟨_, _, Hp.set_same _ _ _, Own.set_same _ _ _, rfl, ?_, ⟨none, 0, 0, rfl, Oc.nil _⟩, rfl⟩ hr (Step.new _ _ hr)
  intro j hj
  match j, hj with
  | 0, _ => rfl
  | 1, _ => rfl
  | 2, _ => rfl
  | 3, _ => rfl
  | 4, _ => rfl
  | 5, _ => rfl
  | 6, _ => rfl
  | 7, _ => rfl
/-- Whole blocks are taken. -/
def writeL (c : ShaC) (s : Nat → Int) (rest : Bytes) : (Nat → Int) × Bytes :=
  if h : 64 ≤ rest.length then writeL c (takeF c s (rest.take 64) 64) (rest.drop 64) else (s, rest)
termination_by rest.length
decreasing_by simp; omega
theorem wl_ge {c : ShaC} {s : Nat → Int} {rest : Bytes} (h : 64 ≤ rest.length) : writeL c s rest = writeL c (takeF c s (rest.take 64) 64) (rest.drop 64) := by
  rw [writeL, dif_pos h]
theorem wl_lt {c : ShaC} {s : Nat → Int} {rest : Bytes} (h : ¬ 64 ≤ rest.length) : writeL c s rest = (s, rest) := by
  rw [writeL, dif_neg h]
def WrI (o : Own) (h : Hp) (τ x : Nat) (c : ShaC) (R : (Nat → Int) × Bytes) (n : Int) (ns : List Nat) (y0 : Addr) (hh : Hp) : Prop :=
  ∃ (o' : Own) (s : Nat → Int) (rest : Bytes), ns = [rest.length] ∧ y0 = ⟨x, 0, none⟩ ∧ HsAt o' hh τ x s rest n ∧ writeL c s rest = R ∧ Step (Of τ) o h o' hh
theorem hwrite_ok {o : Own} {h : Hp} {τ x : Nat} {c : ShaC} {s : Nat → Int} {rest : Bytes} {n : Int} {t : Tag} {a : Option Addr} {m cp : Nat} {l : Bytes} {K : Value → Hp → Prop} (hc : ShaAt o h c) (hτ : 2 ≤ τ) (hx : HsAt o h τ x s rest n)
    (hl : Rc o h t 1 a m cp (l.map bc)) (ht : t.1 ≠ τ) (hlen : rest.length + l.length ≤ 1099511627776)
    (H : ∀ o' h', HsAt o' h' τ x (writeL c s (rest ++ l)).1 (writeL c s (rest ++ l)).2 (IntKind.i64.wrap (n + l.length)) → Step (Of τ) o h o' h' → K (.tuple #[]) h') :
    Spec P 82 #[.pointer (some ⟨x, 0, none⟩), .slice a m cp] h K := by
  have hm : m = l.length := len_rc hl
  refine S82 (WrI o h τ x c (writeL c s (rest ++ l)) (IntKind.i64.wrap (n + l.length))) ?_ ?_
  · rintro k y0 hh ⟨o', s', rest', hns, rfl, hh1, hR, st0⟩
    obtain rfl : k = rest'.length := by simpa using hns
    obtain ⟨cs, E, b1, b2, b3⟩ := id hh1
    obtain ⟨a1, m1, c1, g1, g2⟩ := b3.rest
    have hm1 := len_of g2
    have hc' := hc.step st0 (by unfold Of; simp; omega)
    unfold V82_14
    refine ld_l b1 g1 ?_
    refine bIf_dec (fun hge => ?_) (fun hlt => ?_)
    · refine ld_l b1 g1 ?_
      refine sl_hi elem24 (by omega) (by have := g2.2.1; omega) ?_
      have g3 : Rc o' hh (τ, 1) 1 a1 64 c1 ((rest'.take 64).map bc) := by
        have := g2.read.take (m := 64) (by omega)
        simpa [List.map_take] using this
      refine take_ok (s := s') hc' g3 b1 (by rw [b3.size]; omega) b3.words ?_
      intro o2 h2 cs2 k1 k2 k3 k4 k5 st2
      rw [b2] at st2
      refine ld_l k1 ((k5 8 (by omega)).trans g1) ?_
      refine sl_lo elem24 (by omega) (by omega) ?_
      refine st_v k1 (Loose.zero _) rfl (by rw [k3, b3.size]; show 0 + 8 < 10; omega) ?_
      have st3 : Step (Of τ) o h o2 h2 := st0.trans (st2.mono (by rintro _ rfl; rfl))
      have g4 := Oc_drop (l := 64) (g2.step st2 (by simp)) (by omega)
      have sp : Step (Of τ) o2 h2 o2 _ := Step.put (.cells (cs2.setIfInBounds (0 + 8) (.slice (cutA a1 (Int.toNat 64) 1 c1) (m1 - Int.toNat 64) (c1 - Int.toNat 64))) E) (r := x) (S := Of τ) (by rw [k2, b2]; rfl)
      have sp' : Step (fun t => t = (τ, 0)) o2 h2 o2 _ := Step.put (.cells (cs2.setIfInBounds (0 + 8) (.slice (cutA a1 (Int.toNat 64) 1 c1) (m1 - Int.toNat 64) (c1 - Int.toNat 64))) E) (r := x) (by rw [k2, b2])
      refine ⟨(rest'.drop 64).length, by simp; omega, o2, takeF c s' (rest'.take 64) 64, rest'.drop 64, rfl, rfl, ?_, ?_, st3.trans sp⟩
      · refine ⟨_, _, Hp.set_same _ _ _, k2.trans b2, ?_, ?_, ?_, ?_⟩
        · simp [k3, b3.size]
        · intro j hj
          rw [Array.getElem?_setIfInBounds_ne (by show 0 + 8 ≠ j; omega)]
          exact k4 j hj
        · refine ⟨cutA a1 64 1 c1, m1 - 64, c1 - 64, ?_, ?_⟩
          · rw [Array.getElem?_setIfInBounds, if_pos (by rfl), if_pos (by rw [k3, b3.size]; show 0 + 8 < 10; omega)]
            rfl
          · have := g4.step sp' (by simp)
            simpa [List.map_drop] using this
        · rw [Array.getElem?_setIfInBounds_ne (by show 0 + 8 ≠ 9; omega)]
          exact (k5 9 (by omega)).trans b3.count
      · rw [← hR]; exact (wl_ge (by omega)).symm
    · rw [wl_lt (by omega)] at hR
      rw [← hR] at H
      exact H o' hh hh1 st0
  · obtain ⟨cs, E, b1, b2, b3⟩ := id hx
    obtain ⟨a1, m1, c1, g1, g2⟩ := b3.rest
    have hm1 := len_of g2
    unfold V82
    refine ld_i b1 (by rw [Nat.zero_add]; exact b3.count) ?_
    refine st_v b1 (Loose.zero _) rfl (by rw [b3.size]; show 0 + 9 < 10; omega) ?_
    have sp : Step (fun t => t = (τ, 0)) o h o (h.set x (.cells (cs.setIfInBounds (0 + 9) (.int .i64 (IntKind.i64.wrap (n + (m : Int))))) E)) := Step.put _ b2
    refine ld_l (Hp.set_same _ _ _) (by rw [Array.getElem?_setIfInBounds_ne (by show 0 + 9 ≠ 0 + 8; omega)]; rw [Nat.zero_add]; exact g1) ?_
    have hh2 : (h.set x (.cells (cs.setIfInBounds (0 + 9) (.int .i64 (IntKind.i64.wrap (n + (m : Int))))) E)) x = some (.cells (cs.setIfInBounds (0 + 9) (.int .i64 (IntKind.i64.wrap (n + (m : Int))))) E) := Hp.set_same _ _ _
    have g3 := g2.step sp (by simp)
    have hl2 := hl.step sp (by rintro e; exact ht (by rw [e]))
    have ob : o x = (τ, 0) := b2
    generalize hg : h.set x (.cells (cs.setIfInBounds (0 + 9) (.int .i64 (IntKind.i64.wrap (n + (m : Int))))) E) = h2 at *
    refine append_own (o := o) (t := (τ, 1)) elem24 g3 hl2.src plain_bc (by omega) (by omega) ?_
    intro a' c' o3 h3 k1 st3 _
    obtain ⟨q1, q2⟩ := st3.at hh2 (by rw [ob]; unfold Only; simp)
    refine asSl_i ?_
    refine st_v q1 (Loose.zero _) rfl (by simp; rw [b3.size]; show 0 + 8 < 10; omega) ?_
    have ox : o3 x = (τ, 0) := q2.trans ob
    have sp2 : Step (fun t => t = (τ, 0)) o3 h3 o3 (h3.set x (.cells ((cs.setIfInBounds (0 + 9) (.int .i64 (IntKind.i64.wrap (n + (m : Int))))).setIfInBounds (0 + 8) (.slice a' (m1 + m) c')) E)) := Step.put _ ox
    refine ⟨(rest ++ l).length, o3, s, rest ++ l, rfl, rfl, ?_, rfl, ?_⟩
    · refine ⟨_, _, Hp.set_same _ _ _, ox, ?_, ?_, ?_, ?_⟩
      · simp [b3.size]
      · intro j hj
        rw [Array.getElem?_setIfInBounds_ne (by show 0 + 8 ≠ j; omega), Array.getElem?_setIfInBounds_ne (by omega)]
        exact b3.words j hj
      · refine ⟨a', m1 + m, c', ?_, ?_⟩
        · rw [Array.getElem?_setIfInBounds, if_pos (by rfl), if_pos (by simp; rw [b3.size]; omega)]
        · have := k1.step sp2 (by simp)
          simpa using this
      · rw [Array.getElem?_setIfInBounds_ne (by show 0 + 8 ≠ 9; omega), Array.getElem?_setIfInBounds, if_pos (by omega), if_pos (by rw [b3.size]; omega), hm]
    · exact ((sp.mono (by rintro _ rfl; rfl)).trans (st3.mono (by rintro _ rfl; rfl))).trans (sp2.mono (by rintro _ rfl; rfl))
end Go.Proofs.YtcolhmddhaabnaaDoor
set_option linter.unusedVariables false
set_option maxRecDepth 100000
namespace Go.Proofs.YtcolhmddhaabnaaDoor
open Go.H
theorem leaf3 : leafOk P 3 = true := by kernel_rfl
theorem agg140 : aggOk P 140 8 = true := by kernel_rfl
def HsR (o : Own) (h : Hp) (x : Nat) (s : Nat → Int) (rest : Bytes) (n : Int) : Prop := ∃ cs E t, h x = some (.cells cs E) ∧ cs.size = 10 ∧ (∀ j, j < 8 → cs[j]? = some (u32 (s j))) ∧ (∃ a m c, cs[8]? = some (.slice a m c) ∧ Rc o h t 1 a m c (rest.map bc)) ∧ cs[9]? = some (.int .i64 n)
theorem HsAt.read {o : Own} {h : Hp} {τ x : Nat} {s : Nat → Int} {rest : Bytes} {n : Int} (H : HsAt o h τ x s rest n) : HsR ownZ h x s rest n := by
  obtain ⟨cs, E, b1, b2, b3⟩ := H
  obtain ⟨a, m, c, g1, g2⟩ := b3.rest
  exact ⟨cs, E, (0, 0), b1, b3.size, b3.words, ⟨a, m, c, g1, g2.read.own0⟩, b3.count⟩
theorem HsR.step {S : Tag → Prop} {o' : Own} {h h' : Hp} {x : Nat} {s : Nat → Int} {rest : Bytes} {n : Int} (H : HsR ownZ h x s rest n) (st : Step S ownZ h o' h') (h0 : ¬ S (0, 0)) : HsR o' h' x s rest n := by
  obtain ⟨cs, E, t, b1, b2, b3, ⟨a, m, c, g1, g2⟩, b5⟩ := H
  obtain ⟨f1, f2⟩ := st.at b1 h0
  exact ⟨cs, E, (0, 0), f1, b2, b3, ⟨a, m, c, g1, g2.own0.step st h0⟩, b5⟩
theorem copy_hash {o : Own} {h : Hp} {τ' x : Nat} {s : Nat → Int} {rest : Bytes} {n : Int} {K : Value → Hp → Prop} (hx : HsR o h x s rest n) (hlen : rest.length ≤ 1099511627776)
    (H : ∀ o' h' y, HsAt o' h' τ' y s rest n → h y = none → Step (fun _ => False) o h o' h' → K (.pointer (some ⟨y, 0, none⟩)) h') : Spec P 86 #[.pointer (some ⟨x, 0, none⟩)] h K := by
  obtain ⟨cs, E, t, b1, bsz, bw, ⟨a, m, c, g1, g2⟩, bct⟩ := id hx
  have w0 := bw 0 (by omega)
  have w : ∀ j, j < 8 → cs[0 + j]? = some (u32 (s j)) := fun j hj => by rw [Nat.zero_add]; exact bw j hj
  refine S86 ?_
  unfold V86
  refine ld_i b1 w0 ?_
  refine ld_i b1 (w 1 (by omega)) ?_
  refine ld_i b1 (w 2 (by omega)) ?_
  refine ld_i b1 (w 3 (by omega)) ?_
  refine ld_i b1 (w 4 (by omega)) ?_
  refine ld_i b1 (w 5 (by omega)) ?_
  refine ld_i b1 (w 6 (by omega)) ?_
  refine ld_i b1 (w 7 (by omega)) ?_
  refine ld_l b1 (by rw [Nat.zero_add]; exact g1) ?_
  refine ld_i b1 (by rw [Nat.zero_add]; exact bct) ?_
  refine clone_ok (t := (τ', 1)) g2 hlen ?_
  intro o2 h2 a2 c2 k1 st2
  refine asSl_i ?_
  obtain ⟨q1, q2⟩ := st2.at b1 (by simp)
  have hc8 : CellsAt cs 0 [u32 (s 0), u32 (s 1), u32 (s 2), u32 (s 3), u32 (s 4), u32 (s 5), u32 (s 6), u32 (s 7)] := by
    intro i v hi
    match i, hi with
    | 0, hi => cases hi; exact w 0 (by omega)
    | 1, hi => cases hi; exact w 1 (by omega)
    | 2, hi => cases hi; exact w 2 (by omega)
    | 3, hi => cases hi; exact w 3 (by omega)
    | 4, hi => cases hi; exact w 4 (by omega)
    | 5, hi => cases hi; exact w 5 (by omega)
    | 6, hi => cases hi; exact w 6 (by omega)
    | 7, hi => cases hi; exact w 7 (by omega)
    | i + 8, hi => cases hi
  refine ⟨⟨?_, ?_⟩, ?_⟩
  · exact rd_same leaf3 b1 (by rw [bsz]; show 0 + 9 < 10; omega) q1
  · rw [rd_ldAgg agg140 b1 hc8 rfl, rd_ldAgg agg140 q1 hc8 rfl]
  · refine nw_to ?_
    intro r h3 hr hh3
    subst hh3
    have hr0 : h r = none := by
      cases hq : h r with
      | none => rfl
      | some v => exact absurd hr (st2.stays r (by simp [hq]))
    have s3 : Step (fun _ => False) o2 h2 (o2.set r (τ', 0)) _ := Step.new (.cells #[.int .u32 (s 0), .int .u32 (s 1), .int .u32 (s 2), .int .u32 (s 3), .int .u32 (s 4), .int .u32 (s 5), .int .u32 (s 6), .int .u32 (s 7), .slice a2 m c2, .int .i64 n] 142) (τ', 0) hr
    refine H (o2.set r (τ', 0)) _ r ⟨_, _, Hp.set_same _ _ _, Own.set_same _ _ _, rfl, ?_, ⟨a2, m, c2, rfl, k1.step s3 (by simp)⟩, rfl⟩ hr0 (st2.trans s3)
    intro j hj
    match j, hj with
    | 0, _ => rfl
    | 1, _ => rfl
    | 2, _ => rfl
    | 3, _ => rfl
    | 4, _ => rfl
    | 5, _ => rfl
    | 6, _ => rfl
    | 7, _ => rfl
/-! ### The digest -/
theorem wrap_u8 (v : Int) : 0 ≤ IntKind.u8.wrap v ∧ IntKind.u8.wrap v < 256 := by
  unfold IntKind.wrap
  simp [IntKind.bits, IntKind.signed]
  omega
theorem byte_wrap (v : Int) : Value.int .u8 (IntKind.u8.wrap v) = bc (UInt8.ofNat (IntKind.u8.wrap v).toNat) := by
  have := wrap_u8 v
  unfold bc by8
  congr 1
  rw [UInt8.toNat_ofNat']
  omega
def padN (r : Nat) : Nat := (64 - (r + 9) % 64) % 64
def lenByte (n : Int) (i : Nat) : UInt8 := UInt8.ofNat (IntKind.u8.wrap (sShr .u64 (IntKind.u64.wrap ((IntKind.u64.wrap n) * 8)) (IntKind.i64.wrap (8 * (IntKind.i64.wrap (7 - (i : Int))))))).toNat
def lenBytes (n : Int) (k : Nat) : Bytes := (List.range k).map (lenByte n)
def endB (r : Nat) (n : Int) : Bytes := (128 :: List.replicate (padN r) 0) ++ lenBytes n 8
def outB (s : Nat → Int) (j : Nat) : UInt8 := UInt8.ofNat (IntKind.u8.wrap (if j % 4 = 0 then sShr .u32 (s (j / 4)) 24 else if j % 4 = 1 then sShr .u32 (s (j / 4)) 16 else if j % 4 = 2 then sShr .u32 (s (j / 4)) 8 else s (j / 4))).toNat
def L32 (D : Nat → UInt8) : List Value := [bc (D 0), bc (D 1), bc (D 2), bc (D 3), bc (D 4), bc (D 5), bc (D 6), bc (D 7), bc (D 8), bc (D 9), bc (D 10), bc (D 11), bc (D 12), bc (D 13), bc (D 14), bc (D 15),
  bc (D 16), bc (D 17), bc (D 18), bc (D 19), bc (D 20), bc (D 21), bc (D 22), bc (D 23), bc (D 24), bc (D 25), bc (D 26), bc (D 27), bc (D 28), bc (D 29), bc (D 30), bc (D 31)]
def digest (c : ShaC) (s : Nat → Int) (rest : Bytes) (n : Int) : Nat → UInt8 := outB (writeL c s (rest ++ endB rest.length n)).1
theorem arr122 : ArrT P 122 5 32 1 := arr_of (by kernel_rfl)
theorem leaf138' : leafOk P 138 = true := by kernel_rfl
def HI60 (o : Own) (h : Hp) (x : Nat) (s : Nat → Int) (rest : Bytes) (n : Int) (ns : List Nat) (y2 : Addr) (y3 y4 : Option Addr) (y4n y4c : Nat) (hh : Hp) : Prop :=
  ∃ (o' : Own) (r j : Nat), ns = [padN rest.length - j] ∧ j ≤ padN rest.length ∧ y2 = ⟨r, 0, none⟩ ∧ y3 = some ⟨x, 0, none⟩ ∧ o' r = (1, 0) ∧ hh r = some (.cells (L32 fun _ => 0).toArray 122) ∧
    HsAt o' hh 2 x s rest n ∧ Oc o' hh (1, 1) 1 y4 y4n y4c ((128 :: List.replicate j 0 : Bytes).map bc) ∧ Step Mut o h o' hh
def HI506 (o : Own) (h : Hp) (x : Nat) (s : Nat → Int) (rest : Bytes) (n : Int) (ns : List Nat) (y2 : Addr) (y3 y4 : Option Addr) (y4n y4c : Nat) (y5 y33 : Int) (hh : Hp) : Prop :=
  ∃ (o' : Own) (r i : Nat), ns = [8 - i] ∧ i ≤ 8 ∧ y2 = ⟨r, 0, none⟩ ∧ y3 = some ⟨x, 0, none⟩ ∧ o' r = (1, 0) ∧ hh r = some (.cells (L32 fun _ => 0).toArray 122) ∧ y5 = IntKind.u64.wrap ((IntKind.u64.wrap n) * 8) ∧ y33 = i ∧
    HsAt o' hh 2 x s rest n ∧ Oc o' hh (1, 1) 1 y4 y4n y4c (((128 :: List.replicate (padN rest.length) 0) ++ lenBytes n i : Bytes).map bc) ∧ Step Mut o h o' hh
def HI4090 (o : Own) (h : Hp) (z : Nat → Int) (ns : List Nat) (y2 y7 : Addr) (y52 : Value) (y53 : Int) (hh : Hp) : Prop :=
  ∃ (o' : Own) (r r2 i : Nat) (cs : Array Value), ns = [8 - i] ∧ i ≤ 8 ∧ y2 = ⟨r, 0, none⟩ ∧ y7 = ⟨r2, 0, none⟩ ∧ o' r = (1, 0) ∧ o' r2 = (1, 0) ∧ r ≠ r2 ∧ hh r = some (.cells (L32 fun _ => 0).toArray 122) ∧ hh r2 = some (.cells cs 122) ∧ cs.size = 32 ∧
    (∀ j, j < 4 * i → cs[j]? = some (bc (outB z j))) ∧ y52 = .agg [u32 (z 0), u32 (z 1), u32 (z 2), u32 (z 3), u32 (z 4), u32 (z 5), u32 (z 6), u32 (z 7)].toArray ∧ y53 = i ∧ Step Mut o h o' hh
theorem L32_get (D : Nat → UInt8) : ∀ j, j < 32 → (L32 D)[j]? = some (bc (D j)) := by
  have : ∀ j : Fin 32, (L32 D)[j.val]? = some (bc (D j.val)) := by
    intro j
    match j with
    | ⟨0, _⟩ | ⟨1, _⟩ | ⟨2, _⟩ | ⟨3, _⟩ | ⟨4, _⟩ | ⟨5, _⟩ | ⟨6, _⟩ | ⟨7, _⟩ | ⟨8, _⟩ | ⟨9, _⟩ | ⟨10, _⟩ | ⟨11, _⟩ | ⟨12, _⟩ | ⟨13, _⟩ | ⟨14, _⟩ | ⟨15, _⟩ | ⟨16, _⟩ | ⟨17, _⟩ | ⟨18, _⟩ | ⟨19, _⟩ | ⟨20, _⟩ | ⟨21, _⟩ | ⟨22, _⟩ | ⟨23, _⟩ | ⟨24, _⟩ | ⟨25, _⟩ | ⟨26, _⟩ | ⟨27, _⟩ | ⟨28, _⟩ | ⟨29, _⟩ | ⟨30, _⟩ | ⟨31, _⟩ => rfl
    | ⟨n + 32, hn⟩ => exact absurd hn (by omega)
  exact fun j hj => this ⟨j, hj⟩
theorem hash_sum {o : Own} {h : Hp} {x : Nat} {c : ShaC} {s : Nat → Int} {rest : Bytes} {n : Int} {K : Value → Hp → Prop} (hc : ShaAt o h c) (hx : HsR ownZ h x s rest n) (hlen : rest.length ≤ 1073741824)
    (H : ∀ o' h', Step (fun _ => False) o h o' h' → K (.agg (L32 (digest c s rest n)).toArray) h') : Spec P 83 #[.pointer (some ⟨x, 0, none⟩)] h K := by
  have hc0 := hc.own0
  -- which hash is the copy?
  refine S83 (fun ns y2 y3 y4 y4n y4c hh => ∃ x', HI60 ownZ h x' s rest n ns y2 y3 y4 y4n y4c hh) (fun ns y2 y3 y4 y4n y4c y5 y33 hh => ∃ x', HI506 ownZ h x' s rest n ns y2 y3 y4 y4n y4c y5 y33 hh)
    (HI4090 ownZ h (writeL c s (rest ++ endB rest.length n)).1) ?_ ?_ ?_ ?_
  · rintro k y2 y3 y4 y4n y4c hh ⟨x', o', r, j, hns, hj, rfl, rfl, ho, hb, hh1, hoc, st0⟩
    obtain rfl : k = padN rest.length - j := by simpa using hns
    obtain ⟨cs, E, b1, b2, b3⟩ := id hh1
    obtain ⟨a1, m1, c1, g1, g2⟩ := b3.rest
    have hm1 : m1 = rest.length := len_of g2
    have hn4 : y4n = 1 + j := by have := len_of hoc; simp at this; omega
    subst hm1
    have hp : padN rest.length < 64 := by unfold padN; omega
    unfold V83_60
    refine nz_i ?_
    refine ld_l b1 (by rw [Nat.zero_add]; exact g1) ?_
    have w1 : IntKind.i64.wrap (IntKind.i64.wrap (((rest.length : Nat) : Int) + ((y4n : Nat) : Int)) + 8) = ((rest.length + 9 + j : Nat) : Int) := by
      rw [wrap_i64 (n := ((rest.length : Nat) : Int) + ((y4n : Nat) : Int)) (by omega) (by omega), wrap_i64 (by omega) (by omega)]
      omega
    rw [w1]
    have w2 : Int.tmod ((rest.length + 9 + j : Nat) : Int) 64 = (((rest.length + 9 + j) % 64 : Nat) : Int) := by
      rw [Int.tmod_eq_emod_of_nonneg (by omega)]
      omega
    rw [w2]
    refine bIf_ite (fun hne => ?_) (fun heq => ?_)
    · have hne' : (rest.length + 9 + j) % 64 ≠ 0 := by have := bne_iff_ne.1 hne; omega
      have hlt : j < padN rest.length := by unfold padN at *; omega
      refine nw_to ?_
      intro r6 h7 hr6 hh7
      have s7 : Step (fun _ => False) o' hh (o'.set r6 (1, 2)) h7 := by rw [hh7]; exact Step.new _ _ hr6
      have hb7 : h7 r6 = some (.cells #[.int .u8 0] 5) := by rw [hh7]; exact Hp.set_same _ _ _
      have hsrc : Rc (o'.set r6 (1, 2)) h7 (1, 2) 1 (some ⟨r6, 0, none⟩) 1 1 (([0] : Bytes).map bc) := by
        refine ⟨rfl, Nat.le_refl _, .inr ⟨r6, 0, _, _, _, rfl, Own.set_same _ _ _, hb7, ?_⟩⟩
        intro i v hi
        match i, hi with
        | 0, hi => cases hi; rfl
        | i + 1, hi => simp at hi
      refine append_own (t := (1, 1)) elem24 (hoc.step s7 (by simp)) hsrc.src plain_bc (by omega) (by omega) ?_
      intro a' c' o3 h3 k1 st3 _
      refine asSl_i ?_
      have st4 : Step Mut ownZ h o3 h3 := st0.trans (s7.no.trans (st3.mono (by rintro _ rfl; unfold Mut; simp)))
      refine ⟨padN rest.length - (j + 1), by omega, x', o3, r, j + 1, rfl, hlt, rfl, rfl, ?_, ?_, ?_, ?_, st4⟩
      · obtain ⟨f1, f2⟩ := s7.at hb (by simp)
        exact ((st3.at f1 (by rw [f2, ho]; unfold Only; simp)).2.trans f2).trans ho
      · obtain ⟨f1, f2⟩ := s7.at hb (by simp)
        exact (st3.at f1 (by rw [f2, ho]; unfold Only; simp)).1
      · exact (hh1.step s7 (by simp)).step st3 (by unfold Only; simp)
      · have e : (128 :: List.replicate (j + 1) 0 : Bytes) = (128 :: List.replicate j 0) ++ [0] := by rw [List.replicate_succ']; rfl
        rw [e, List.map_append]
        exact k1
    · have heq' : (rest.length + 9 + j) % 64 = 0 := by have h0 := heq; simp only [bne_eq_false_iff_eq] at h0; omega
      have hj' : j = padN rest.length := by unfold padN at *; omega
      subst hj'
      refine nz_i ?_
      refine ld_i b1 (by rw [Nat.zero_add]; exact b3.count) ?_
      refine ⟨8, x', o', r, 0, rfl, by omega, rfl, rfl, ho, hb, rfl, rfl, hh1, ?_, st0⟩
      simpa [lenBytes] using hoc
  · rintro k y2 y3 y4 y4n y4c y5 y33 hh ⟨x', o', r, i, hns, hi, rfl, rfl, ho, hb, rfl, rfl, hh1, hoc, st0⟩
    obtain rfl : k = 8 - i := by simpa using hns
    have hn4 : y4n = 1 + padN rest.length + i := by have := len_of hoc; simp [lenBytes] at this; omega
    have hp : padN rest.length < 64 := by unfold padN; omega
    unfold V83_506
    refine bIf_dec (fun hlt => ?_) (fun hge => ?_)
    · have hlt' : i < 8 := by omega
      have wsh : IntKind.i64.wrap (8 * IntKind.i64.wrap (7 - (i : Int))) = 8 * (7 - (i : Int)) := by rw [wrap_i64 (n := 7 - (i : Int)) (by omega) (by omega), wrap_i64 (by omega) (by omega)]
      refine shr_i (by rw [wsh]; omega) ?_
      refine asIn_i ?_
      refine nw_to ?_
      intro r6 h7 hr6 hh7
      have s7 : Step (fun _ => False) o' hh (o'.set r6 (1, 2)) h7 := by rw [hh7]; exact Step.new _ _ hr6
      rw [byte_wrap] at hh7
      have hb7 : h7 r6 = some (.cells #[bc (lenByte n i)] 5) := by rw [hh7]; exact Hp.set_same _ _ _
      have hsrc : Rc (o'.set r6 (1, 2)) h7 (1, 2) 1 (some ⟨r6, 0, none⟩) 1 1 (([lenByte n i] : Bytes).map bc) := by
        refine ⟨rfl, Nat.le_refl _, .inr ⟨r6, 0, _, _, _, rfl, Own.set_same _ _ _, hb7, ?_⟩⟩
        intro i v hi
        match i, hi with
        | 0, hi => cases hi; rfl
        | i + 1, hi => simp at hi
      refine append_own (t := (1, 1)) elem24 (hoc.step s7 (by simp)) hsrc.src plain_bc (by omega) (by omega) ?_
      intro a' c' o3 h3 k1 st3 _
      refine asSl_i ?_
      have st4 : Step Mut ownZ h o3 h3 := st0.trans (s7.no.trans (st3.mono (by rintro _ rfl; unfold Mut; simp)))
      refine ⟨8 - (i + 1), by omega, x', o3, r, i + 1, rfl, by omega, rfl, rfl, ?_, ?_, rfl, ?_, ?_, ?_, st4⟩
      · obtain ⟨f1, f2⟩ := s7.at hb (by simp)
        exact ((st3.at f1 (by rw [f2, ho]; unfold Only; simp)).2.trans f2).trans ho
      · obtain ⟨f1, f2⟩ := s7.at hb (by simp)
        exact (st3.at f1 (by rw [f2, ho]; unfold Only; simp)).1
      · rw [wrap_i64] <;> omega
      · exact (hh1.step s7 (by simp)).step st3 (by unfold Only; simp)
      · have e : lenBytes n (i + 1) = lenBytes n i ++ [lenByte n i] := by unfold lenBytes; rw [List.range_succ, List.map_append]; rfl
        rw [e, ← List.append_assoc, List.map_append]
        exact k1
    · obtain rfl : i = 8 := by omega
      have hel : (endB rest.length n).length ≤ 200 := by unfold endB lenBytes; simp; omega
      refine hwrite_ok (c := c) (τ := 2) (hc0.step st0 (by unfold Mut; simp)) (by omega) hh1 (l := endB rest.length n) (hoc.read) (by simp) (by omega) ?_
      intro o2 h2 hh2 st2
      refine nw_to ?_
      intro r27 h28 hr27 hh28
      have s28 : Step (fun _ => False) o2 h2 (o2.set r27 (1, 0)) h28 := by rw [hh28]; exact Step.new _ _ hr27
      have hb28 : h28 r27 = some (.cells (L32 fun _ => 0).toArray 122) := by rw [hh28]; exact Hp.set_same _ _ _
      obtain ⟨cs, E, b1, b2, b3⟩ := hh2.step s28 (by simp)
      obtain ⟨f1, f2⟩ := st2.at hb (by rw [ho]; unfold Of; simp)
      obtain ⟨f3, f4⟩ := s28.at f1 (by simp)
      have hne : r ≠ r27 := by rintro rfl; rw [f1] at hr27; cases hr27
      refine nz_i ?_
      have w : ∀ j, j < 8 → cs[0 + j]? = some (u32 ((writeL c s (rest ++ endB rest.length n)).1 j)) := fun j hj => by rw [Nat.zero_add]; exact b3.words j hj
      refine ld_i b1 (b3.words 0 (by omega)) ?_
      refine ld_i b1 (w 1 (by omega)) ?_
      refine ld_i b1 (w 2 (by omega)) ?_
      refine ld_i b1 (w 3 (by omega)) ?_
      refine ld_i b1 (w 4 (by omega)) ?_
      refine ld_i b1 (w 5 (by omega)) ?_
      refine ld_i b1 (w 6 (by omega)) ?_
      refine ld_i b1 (w 7 (by omega)) ?_
      refine ⟨8, o2.set r27 (1, 0), r, r27, 0, _, rfl, by omega, rfl, rfl, (f4.trans f2).trans ho, Own.set_same _ _ _, hne, f3, hb28, rfl, fun j hj => by omega, rfl, rfl, ?_⟩
      exact (st0.trans (st2.ofMut (by omega))).trans s28.no
  · rintro k y2 y7 y52 y53 hh ⟨o', r, r2, i, cs, hns, hi, rfl, rfl, ho1, ho2, hne, hb1, hb2, hsz, hcs, rfl, rfl, st0⟩
    obtain rfl : k = 8 - i := by simpa using hns
    unfold digest at H
    generalize (writeL c s (rest ++ endB rest.length n)).1 = z at *
    unfold V83_4090
    refine bIf_dec (fun hlt => ?_) (fun hge => ?_)
    · have hlt' : i < 8 := by omega
      have hv : [u32 (z 0), u32 (z 1), u32 (z 2), u32 (z 3), u32 (z 4), u32 (z 5), u32 (z 6), u32 (z 7)][(i : Int).toNat]? = some (u32 (z i)) := by
        rw [Int.toNat_natCast]
        match i, hlt' with
        | 0, _ | 1, _ | 2, _ | 3, _ | 4, _ | 5, _ | 6, _ | 7, _ => rfl
      refine ixAgg arr140 leaf138 hv rfl (by omega) ?_
      refine asIn_i ?_
      have w4 : IntKind.i64.wrap (4 * (i : Int)) = ((4 * i : Nat) : Int) := by rw [wrap_i64] <;> omega
      rw [w4]
      have w1 : ∀ k : Nat, k < 4 → IntKind.i64.wrap (((4 * i : Nat) : Int) + k) = ((4 * i + k : Nat) : Int) := by intro k hk; rw [wrap_i64] <;> omega
      have e1 := w1 1 (by omega)
      have e2 := w1 2 (by omega)
      have e3 := w1 3 (by omega)
      simp only [Int.natCast_one, Int.cast_ofNat_Int] at e1 e2 e3
      rw [e1, e2, e3]
      rw [byte_wrap, byte_wrap, byte_wrap, byte_wrap]
      refine ix_arr arr122 (by omega) (by omega) ?_
      simp only [Int.toNat_natCast, Nat.mul_one, Nat.zero_add]
      refine st_v hb2 (Loose.zero _) rfl (by omega) ?_
      refine ix_arr arr122 (by omega) (by omega) ?_
      simp only [Int.toNat_natCast, Nat.mul_one, Nat.zero_add]
      refine st_v (Hp.set_same _ _ _) (Loose.zero _) rfl (by simp; omega) ?_
      refine ix_arr arr122 (by omega) (by omega) ?_
      simp only [Int.toNat_natCast, Nat.mul_one, Nat.zero_add]
      refine st_v (Hp.set_same _ _ _) (Loose.zero _) rfl (by simp; omega) ?_
      refine ix_arr arr122 (by omega) (by omega) ?_
      simp only [Int.toNat_natCast, Nat.mul_one, Nat.zero_add]
      refine st_v (Hp.set_same _ _ _) (Loose.zero _) rfl (by simp; omega) ?_
      rw [Hp.set_set, Hp.set_set, Hp.set_set]
      refine ⟨8 - (i + 1), by omega, o', r, r2, i + 1, _, rfl, by omega, rfl, rfl, ho1, ho2, hne, ?_, Hp.set_same _ _ _, ?_, ?_, rfl, ?_, ?_⟩
      · rw [Hp.set_ne _ _ hne]; exact hb1
      · simp [hsz]
      · intro j hj
        simp only [Array.getElem?_setIfInBounds, Array.size_setIfInBounds, hsz]
        by_cases h0 : j = 4 * i
        · subst h0
          rw [if_neg (by omega), if_neg (by omega), if_neg (by omega), if_pos rfl, if_pos (by omega)]
          unfold outB
          rw [if_pos (by omega), show 4 * i / 4 = i from by omega]
        by_cases h1 : j = 4 * i + 1
        · subst h1
          rw [if_neg (by omega), if_neg (by omega), if_pos rfl, if_pos (by omega)]
          unfold outB
          rw [if_neg (by omega), if_pos (by omega), show (4 * i + 1) / 4 = i from by omega]
        by_cases h2 : j = 4 * i + 2
        · subst h2
          rw [if_neg (by omega), if_pos rfl, if_pos (by omega)]
          unfold outB
          rw [if_neg (by omega), if_neg (by omega), if_pos (by omega), show (4 * i + 2) / 4 = i from by omega]
        by_cases h3 : j = 4 * i + 3
        · subst h3
          rw [if_pos rfl, if_pos (by omega)]
          unfold outB
          rw [if_neg (by omega), if_neg (by omega), if_neg (by omega), show (4 * i + 3) / 4 = i from by omega]
        rw [if_neg (by omega), if_neg (by omega), if_neg (by omega), if_neg (by omega)]
        exact hcs j (by omega)
      · rw [wrap_i64] <;> omega
      · exact st0.trans (Step.put _ (by rw [ho2]; unfold Mut; simp))
    · obtain rfl : i = 8 := by omega
      have g : ∀ k, k < 32 → cs[0 + k]? = some (.int .u8 ((outB z k).toNat : Int)) := fun k hk => by rw [Nat.zero_add]; exact hcs k (by omega)
      have g0 : cs[0]? = some (.int .u8 ((outB z 0).toNat : Int)) := hcs 0 (by omega)
      refine ld_i hb2 g0 ?_
      iterate 31 refine ld_i hb2 (g _ (by omega)) ?_
      refine st_v hb1 (Loose.zero _) rfl (by decide) ?_
      iterate 31 refine st_v (Hp.set_same _ _ _) (Loose.zero _) rfl (by simp [L32]) ?_
      simp only [Hp.set_set]
      generalize hg : Hp.set hh r _ = h2
      have hg2 : h2 = hh.set r (.cells (L32 (outB z)).toArray 122) := hg.symm.trans (congrArg (fun C => hh.set r (.cells C 122)) (by kernel_rfl))
      have hb3 : h2 r = some (.cells (L32 (outB z)).toArray 122) := by rw [hg2]; exact Hp.set_same _ _ _
      have st5 : Step Mut ownZ h o' h2 := by rw [hg2]; exact st0.trans (Step.put _ (by rw [ho1]; unfold Mut; simp))
      have l0 : (L32 (outB z)).toArray[0]? = some (.int .u8 ((outB z 0).toNat : Int)) := rfl
      have l : ∀ k, k < 32 → (L32 (outB z)).toArray[0 + k]? = some (.int .u8 ((outB z k).toNat : Int)) := fun k hk => by rw [Nat.zero_add, List.getElem?_toArray]; exact L32_get _ _ hk
      refine ld_i hb3 l0 ?_
      iterate 31 refine ld_i hb3 (l _ (by omega)) ?_
      exact H _ _ (st5.join (o := o) (fun t => t))
  · unfold V83
    refine nw_to ?_
    intro r1 h1 hr1 hh1
    have s1 : Step (fun _ => False) ownZ h (ownZ.set r1 (1, 0)) h1 := by rw [hh1]; exact Step.new _ _ hr1
    have hb1 : h1 r1 = some (.cells (L32 fun _ => 0).toArray 122) := by rw [hh1]; exact Hp.set_same _ _ _
    refine copy_hash (τ' := 2) (hx.step s1 (by simp)) (by omega) ?_
    intro o2 h2 y hy hy0 s2
    refine asPt_i ?_
    refine nw_to ?_
    intro r3 h3 hr3 hh3
    have s3 : Step (fun _ => False) o2 h2 (o2.set r3 (1, 1)) h3 := by rw [hh3]; exact Step.new _ _ hr3
    have hb3 : h3 r3 = some (.cells #[bc 128] 5) := by rw [hh3]; exact Hp.set_same _ _ _
    obtain ⟨f1, f2⟩ := (s2.trans s3).at hb1 (by simp)
    refine ⟨padN rest.length, y, o2.set r3 (1, 1), r1, 0, rfl, by omega, rfl, rfl, f2.trans (Own.set_same _ _ _), f1, hy.step s3 (by simp), ?_, (s1.trans (s2.trans s3)).no⟩
    refine ⟨rfl, Nat.le_refl _, .inr ⟨r3, 0, _, _, _, rfl, Own.set_same _ _ _, hb3, ?_, by simp, Loose.zero _⟩⟩
    intro i v hi
    match i, hi with
    | 0, hi => cases hi; rfl
    | i + 1, hi => simp at hi
end Go.Proofs.YtcolhmddhaabnaaDoor
set_option linter.unusedVariables false
set_option maxRecDepth 100000
namespace Go.Proofs.YtcolhmddhaabnaaDoor
open Go.H
theorem sl_arr {P : Program} {T e len sz : Nat} {b off : Nat} {k : IntKind} {x : Int} {h : Hp} {K : Option Addr → Nat → Nat → Prop} (hE : ArrT P T e len sz) (hz : 0 < len)
    (h0 : 0 ≤ x) (h1 : x ≤ len) (H : K (some ⟨b, off, none⟩) x.toNat len) :
    oRd P (Instr.sliceAt T (.pointer (some ⟨b, off, none⟩)) none (some (.int k x)) none) h fun v => asSl v K := by
  obtain ⟨hu, inf, hi, his⟩ := hE
  refine oRd_i (v := .slice (some ⟨b, off, none⟩) x.toNat len) ?_ H
  unfold Instr.sliceAt
  refine rd_b (rd_und.trans hu) ?_
  dsimp only
  refine rd_b (a := (⟨b, off, none⟩ : Addr)) rfl ?_
  refine rd_b (a := (0, x.toNat, len)) ?_ ?_
  · unfold Instr.sliceBounds
    refine rd_b (a := len) rfl ?_
    refine rd_b (rd_bound h0 h1) ?_
    rfl
  · refine rd_b (rd_size hi) ?_
    have e : (if len = 0 then (⟨b, off, none⟩ : Addr) else (⟨b, off, none⟩ : Addr).add (0 * sizeB P e)) = ⟨b, off, none⟩ := by
      rw [if_neg (by omega), add_at]; simp
    simp only [rd_p, Nat.sub_zero, e]
/-! ### Lists of bytes -/
def PartAt (o : Own) (h : Hp) (p : Bytes) (cl : List Value) : Prop := ∃ a m c, cl = [.slice a m c] ∧ Rc o h (0, 0) 1 a m c (p.map bc)
def PartsAt (o : Own) (h : Hp) (t : Tag) (a : Option Addr) (n c : Nat) (l : List Bytes) : Prop := ∃ xs, Rc o h t 1 a n c xs ∧ RowsOf 1 (PartAt o h) l xs
theorem PartsAt.step {S : Tag → Prop} {o o' : Own} {h h' : Hp} {t : Tag} {a : Option Addr} {n c : Nat} {l : List Bytes} (H : PartsAt o h t a n c l) (s : Step S o h o' h') (h0 : ¬ S (0, 0)) (ht : ¬ S t) : PartsAt o' h' t a n c l := by
  obtain ⟨xs, h1, h2⟩ := H
  refine ⟨xs, h1.step s ht, h2.mono fun x cl _ hx => ?_⟩
  obtain ⟨a, m, c, e, g⟩ := hx
  exact ⟨a, m, c, e, g.step s h0⟩
theorem PartsAt.own0 {o : Own} {h : Hp} {t : Tag} {a : Option Addr} {n c : Nat} {l : List Bytes} (H : PartsAt o h t a n c l) : PartsAt ownZ h (0, 0) a n c l := by
  obtain ⟨xs, h1, h2⟩ := H
  refine ⟨xs, h1.own0, h2.mono fun x cl _ hx => ?_⟩
  obtain ⟨a, m, c, e, g⟩ := hx
  exact ⟨a, m, c, e, g.own0⟩
theorem PartsAt.count {o : Own} {h : Hp} {t : Tag} {a : Option Addr} {n c : Nat} {l : List Bytes} (H : PartsAt o h t a n c l) : n = l.length := by
  obtain ⟨xs, h1, h2⟩ := H
  exact h2.count h1 (by omega)
theorem elem44 : Elem P 44 24 1 24 := elem_of (by kernel_rfl)
theorem PartsAt.row {o : Own} {h : Hp} {t : Tag} {a : Option Addr} {n c i : Nat} {l : List Bytes} {p : Bytes} (H : PartsAt o h t a n c l) (hi : l[i]? = some p) :
    ∃ a' m' c', Rc o h (0, 0) 1 a' m' c' (p.map bc) ∧ ∀ Q : Option Addr → Nat → Nat → Prop, Q a' m' c' → ixA P 44 (.slice a n c) (.int .i64 (i : Int)) h fun d => ld h d fun v => asSl v Q := by
  have hn := H.count
  obtain ⟨xs, h1, h2⟩ := H
  have hlt := (List.getElem?_eq_some_iff.1 hi).1
  obtain ⟨b, off, cs, E, fr, cl, e1, e2, e3, e4, ⟨a', m', c', rfl, e6⟩, e5⟩ := h1.row h2 hi (by omega)
  refine ⟨a', m', c', e6, ?_⟩
  intro Q hQ
  rw [e1]
  refine ix_slice elem44 (by omega) (by omega) ?_
  simp only [Int.toNat_natCast]
  exact ld_l e3 (e5 0 _ rfl) hQ
/-! ### sha.Sum -/
abbrev ShSt := ((Nat → Int) × Bytes) × Int
def shaStep (c : ShaC) (S : ShSt) (p : Bytes) : ShSt := (writeL c S.1.1 (S.1.2 ++ p), IntKind.i64.wrap (S.2 + p.length))
def shaSt (c : ShaC) (l : List Bytes) : ShSt := l.foldl (shaStep c) ((c.first, []), 0)
def shaD (c : ShaC) (l : List Bytes) : Nat → UInt8 := digest c (shaSt c l).1.1 (shaSt c l).1.2 (shaSt c l).2
theorem wl_len (c : ShaC) : ∀ (s : Nat → Int) (rest : Bytes), (writeL c s rest).2.length < 64 := by
  intro s rest
  induction s, rest using writeL.induct c with
  | case1 s rest h ih => rw [wl_ge h]; exact ih
  | case2 s rest h => rw [wl_lt h]; simpa using h
theorem shaSt_len (c : ShaC) (l : List Bytes) : (shaSt c l).1.2.length < 64 := by
  unfold shaSt
  rw [← List.foldr_reverse]
  cases l.reverse with
  | nil => simp
  | cons p r => simp only [List.foldr_cons]; exact wl_len _ _ _
theorem shaSt_snoc (c : ShaC) (l : List Bytes) (p : Bytes) : shaSt c (l ++ [p]) = shaStep c (shaSt c l) p := by unfold shaSt; rw [List.foldl_append]; rfl
def SmI (h : Hp) (c : ShaC) (a : Option Addr) (cp : Nat) (l : List Bytes) (ns : List Nat) (y2 : Addr) (y3 y7 : Option Addr) (y7n y7c : Nat) (y8 y9 : Int) (hh : Hp) : Prop :=
  ∃ (o' : Own) (r x i : Nat), ns = [l.length - i] ∧ i ≤ l.length ∧ y2 = ⟨r, 0, none⟩ ∧ y3 = some ⟨x, 0, none⟩ ∧ y7 = a ∧ y7n = l.length ∧ y7c = cp ∧ y8 = (l.length : Int) ∧ y9 = i ∧ o' r = (1, 0) ∧ hh r = some (.cells (L32 fun _ => 0).toArray 122) ∧
    HsAt o' hh 2 x (shaSt c (l.take i)).1.1 (shaSt c (l.take i)).1.2 (shaSt c (l.take i)).2 ∧ Step Mut ownZ h o' hh
theorem sum_ok {o : Own} {h : Hp} {c : ShaC} {t : Tag} {a : Option Addr} {n cp : Nat} {l : List Bytes} {K : Value → Hp → Prop} (hc : ShaAt o h c) (hl : PartsAt o h t a n cp l) (hb : ∀ p ∈ l, p.length ≤ 1073741824) (hb2 : l.length ≤ 1073741824)
    (H : ∀ o' h', Step (fun _ => False) o h o' h' → K (.agg (L32 (shaD c l)).toArray) h') : Spec P 78 #[.slice a n cp] h K := by
  have hc0 := hc.own0
  have hl0 := hl.own0
  obtain rfl : n = l.length := hl.count
  refine S78 (SmI h c a cp l) ?_ ?_
  · rintro k y2 y3 y7 y7n y7c y8 y9 hh ⟨o', r, x, i, hns, hi, rfl, rfl, rfl, rfl, rfl, rfl, rfl, ho, hb1, hx, st0⟩
    obtain rfl : k = l.length - i := by simpa using hns
    have hc' := hc0.step st0 (by unfold Mut; simp)
    have hl' := hl0.step st0 (by unfold Mut; simp) (by unfold Mut; simp)
    have hrl := shaSt_len c (l.take i)
    unfold V78_58
    refine bIf_dec (fun hlt => ?_) (fun hge => ?_)
    · obtain ⟨p, hp⟩ : ∃ p, l[i]? = some p := ⟨l[i]'(by omega), by simp⟩
      have hpl := hb p (List.mem_of_getElem? hp)
      obtain ⟨a', m', c', g1, g2⟩ := hl'.row hp
      refine g2 _ ?_
      refine hwrite_ok hc' (by omega) hx g1 (by simp) (by omega) ?_
      intro o2 h2 hx2 st2
      obtain ⟨f1, f2⟩ := st2.at hb1 (by rw [ho]; unfold Of; simp)
      have e : l.take (i + 1) = l.take i ++ [p] := by rw [List.take_add_one, hp]; rfl
      refine ⟨l.length - (i + 1), by omega, o2, r, x, i + 1, rfl, by omega, rfl, rfl, rfl, rfl, rfl, rfl, ?_, f2.trans ho, f1, ?_, st0.trans (st2.ofMut (by omega))⟩
      · rw [wrap_i64] <;> omega
      · rw [e, shaSt_snoc]; exact hx2
    · obtain rfl : i = l.length := by omega
      rw [List.take_length] at hx hrl
      unfold shaD at H
      generalize shaSt c l = S at *
      refine hash_sum hc' hx.read (by omega) ?_
      generalize digest c S.1.1 S.1.2 S.2 = D at *
      intro o2 h2 st2
      obtain ⟨f1, f2⟩ := st2.at hb1 (by simp)
      refine asAg_i ?_
      iterate 32
        refine unc_i ?_
        refine asIn_i ?_
      refine nilL_i ?_
      refine st_v f1 (Loose.zero _) rfl (by decide) ?_
      iterate 31 refine st_v (Hp.set_same _ _ _) (Loose.zero _) rfl (by simp [L32]) ?_
      simp only [Hp.set_set]
      generalize hg : Hp.set h2 r _ = h3
      have hg2 : h3 = h2.set r (.cells (L32 D).toArray 122) := hg.symm.trans (congrArg (fun C => h2.set r (.cells C 122)) (by kernel_rfl))
      have hb3 : h3 r = some (.cells (L32 D).toArray 122) := by rw [hg2]; exact Hp.set_same _ _ _
      have st5 : Step Mut ownZ h o2 h3 := by rw [hg2]; exact (st0.trans st2.no).trans (Step.put _ (by rw [f2, ho]; unfold Mut; simp))
      have l0 : (L32 D).toArray[0]? = some (.int .u8 ((D 0).toNat : Int)) := rfl
      have l1 : ∀ k, k < 32 → (L32 D).toArray[0 + k]? = some (.int .u8 ((D k).toNat : Int)) := fun k hk => by rw [Nat.zero_add, List.getElem?_toArray]; exact L32_get _ _ hk
      refine ld_i hb3 l0 ?_
      iterate 31 refine ld_i hb3 (l1 _ (by omega)) ?_
      exact H _ _ (st5.join (o := o) (fun t => t))
  · unfold V78
    refine nw_to ?_
    intro r1 h1 hr1 hh1
    have s1 : Step (fun _ => False) ownZ h (ownZ.set r1 (1, 0)) h1 := by rw [hh1]; exact Step.new _ _ hr1
    have hb1 : h1 r1 = some (.cells (L32 fun _ => 0).toArray 122) := by rw [hh1]; exact Hp.set_same _ _ _
    refine new_hash (τ := 2) (hc0.step s1 (by simp)) ?_
    intro o2 h2 x hx _ s2
    obtain ⟨f1, f2⟩ := s2.at hb1 (by simp)
    refine asPt_i ?_
    exact ⟨l.length, o2, r1, x, 0, rfl, by omega, rfl, rfl, rfl, rfl, rfl, rfl, rfl, f2.trans (Own.set_same _ _ _), f1, hx, (s1.trans s2).no⟩
end Go.Proofs.YtcolhmddhaabnaaDoor
