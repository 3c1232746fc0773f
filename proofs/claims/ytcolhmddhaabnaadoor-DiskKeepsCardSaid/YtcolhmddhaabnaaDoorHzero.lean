import Derived.Test.YtcolhmddhaabnaaDoorHops
namespace Go.H
theorem zeroCells_one (z0 : Value) (k : Nat) : Builtin.zeroCells #[z0] k = (List.replicate k z0).toArray := by
  apply Array.ext'
  simp only [Builtin.zeroCells, List.size_toArray, List.length_cons, List.length_nil, Nat.zero_add, Nat.mul_one, Array.toList_map, Array.toList_range]
  apply List.ext_getElem
  · simp
  · intro i h1 h2
    simp [Nat.mod_one]
/-- append of zeros (append(xs, make([]T, k)...)), the elements of one cell. -/
theorem append_zeros {P : Program} {T U e by_ : Nat} {fl : Array Bool} {o : Own} {h : Hp} {t : Tag} {a : Option Addr} {n c : Nat} {x : Int} {z0 : Value} {xs : List Value} {K : Value → Hp → Prop}
    (hE : Elem P T e 1 by_) (hU : ∃ k, P.underlying U = some (.int k)) (hz : (P.info? e).bind (·.zero) = some z0) (hpz : flatV z0 = true) (hx : Oc o h t 1 a n c xs)
    (hx0 : 0 ≤ x) (hbound : (2 * (n + x.toNat) + 512) * by_ ≤ 281474976710656) (hlen : n + x.toNat ≤ 9223372036854775807) (hxb : x * by_ ≤ 281474976710656)
    (H : ∀ a' c' o' h', Oc o' h' t 1 a' (n + x.toNat) c' (xs ++ List.replicate x.toNat z0) → Step (Only t) o h o' h' → K (.slice a' (n + x.toNat) c') h') :
    oNx P (builtin .append #[T, U] T fl #[.slice a n c, .int .i64 x]) h K := by
  obtain ⟨hu, i, z, hi, his, hib, hiz, hzs⟩ := hE
  obtain ⟨k, hk⟩ := hU
  obtain ⟨hx1, hx2, hx3⟩ := id hx
  have hzz : z = z0 := by rw [hi] at hz; simp only [Option.bind_some, hiz, Option.some.injEq] at hz; exact hz
  subst hzz
  have hzc : z.cells = #[z] := cells_plain hpz
  have hw : IntKind.i64.wrap x = x := wrap_i64 (by omega) (by omega)
  refine aw_vs ?_
  unfold Builtin.append_
  simp only [List.getElem?_toArray, List.getElem?_cons_zero, List.getElem?_cons_succ]
  refine aw_bind' (aw_und hu ?_)
  dsimp only
  refine aw_bind' (aw_size hi ?_)
  rw [sizeB_eq hi, his]
  refine aw_bind' (aw_und hk ?_)
  refine aw_bind' (aw_pure ?_)
  dsimp only
  rw [if_pos rfl]
  unfold asInt
  refine aw_bind' (aw_bind' ?_)
  simp only [asIntOf]
  refine aw_pure (aw_pure ?_)
  dsimp only
  rw [hw, if_neg (by omega)]
  refine aw_bind' (aw_info hi ?_)
  rw [hib, if_neg (by have e : ((2 : Int) ^ 48) = 281474976710656 := by decide
                      rw [e]; omega)]
  refine aw_bind' (aw_pure ?_)
  generalize hm : x.toNat = m at *
  have hfirst : ∀ (K' : Array Value → Hp → Prop), K' (List.replicate m z).toArray h → aw P (if (!true) = true then Builtin.firstCells 1 m (.int .i64 x) else if m * 1 = 0 then Pure.pure #[] else do
      let __do_lift ← zeroValue e
      Pure.pure (Builtin.zeroCells __do_lift.cells m)) K' h := by
    intro K' H'
    rw [if_neg (by simp)]
    split
    · rename_i h0
      have : m = 0 := by omega
      subst this
      exact H'
    · refine aw_bind' ?_
      unfold zeroValue
      refine aw_bind' (aw_info hi ?_)
      simp only [hiz]
      refine aw_pure (aw_pure ?_)
      rw [hzc, zeroCells_one]
      exact H'
  have hys1 : (List.replicate m z).length = m := List.length_replicate ..
  by_cases hcap : n + m ≤ c
  · rw [if_pos hcap]
    refine aw_bind' (hfirst _ ?_)
    rcases hx3 with hc0 | ⟨bk, off, cs, E, fr, rfl, hob, hhb, hca, hsz, hloose⟩
    · have hm : m = 0 := by omega
      have hn : n = 0 := by omega
      subst hm hn hc0
      have hxs : xs = [] := by simpa using hx1
      subst hxs
      have fin : K (.slice a (0 + 0) 0) h := H a 0 o h (Oc.nil a) (.refl _ _ _)
      cases a with
      | none => exact fin
      | some ad =>
        refine aw_bind' ?_
        simp only [List.replicate_zero, storeCells, aw, Pure.pure]
        exact fin
    · refine aw_bind' ?_
      have hle : off + n * 1 + (List.replicate m z).length ≤ cs.size := by rw [hys1]; omega
      rw [add_at]
      refine aw_storeCells (List.replicate m z) h cs (off + n * 1) 0 hhb hloose (fun y hy => by rw [(List.mem_replicate.1 hy).2]; exact hpz) (by omega) ?_
      intro h' h1 h2
      simp only [Nat.add_zero] at h2
      refine aw_pure ?_
      have hO : Oc o h' t 1 (some ⟨bk, off, none⟩) (n + m) c (xs ++ List.replicate m z) := by
        refine ⟨by rw [List.length_append, hx1, hys1]; omega, hcap, .inr ⟨bk, off, _, E, fr, rfl, hob, h2, ?_, by rw [laid_size]; exact hsz, hloose.laid⟩⟩
        intro k x hk
        rw [laid_get _ _ _ _ hle]
        by_cases hkn : k < xs.length
        · rw [List.getElem?_append_left hkn] at hk
          rw [if_neg (by omega)]
          exact hca k x hk
        · rw [List.getElem?_append_right (by omega)] at hk
          have hlt : k - xs.length < (List.replicate m z).length := (List.getElem?_eq_some_iff.1 hk).1
          rw [if_pos (by omega), ← hk]
          congr 1
          omega
      refine H _ c o h' hO ?_
      have heq : h' = h.set bk (.cells (laid cs (off + n * 1) (List.replicate m z)) E fr) := by
        funext k
        by_cases hk : k = bk
        · subst hk; rw [h2]; simp
        · rw [h1 k hk, Hp.set_ne h _ hk]
      rw [heq]; exact Step.put _ hob
  · rw [if_neg hcap]
    have hg : ∀ (r q : Nat), Builtin.growBy (n + m) r q ≤ max q (2 * (n + m) + 512) := by
      intro r
      induction r with
      | zero => intro q; simp only [Builtin.growBy]; omega
      | succ r ih =>
        intro q
        simp only [Builtin.growBy]
        split
        · omega
        · refine Nat.le_trans (ih _) ?_
          omega
    have hcapB : Builtin.nextslicecap (n + m) c ≤ 2 * (n + m) + 512 := by
      unfold Builtin.nextslicecap
      split
      · omega
      · split
        · omega
        · have := hg 4 c; omega
    refine aw_bind' (aw_info hi ?_)
    have hM : IntKind.i64.max = 9223372036854775807 := rfl
    rw [if_neg (by rw [hM]; intro hh; have := hh.1; omega)]
    refine aw_bind' (aw_info hi ?_)
    have hfit : Builtin.nextslicecap (n + m) c * i.bytes ≤ 281474976710656 := by
      rw [hib]; exact Nat.le_trans (Nat.mul_le_mul_right _ hcapB) hbound
    rw [if_neg (by have e : (2 ^ 48 : Nat) = 281474976710656 := by decide
                   rw [e]; omega)]
    refine aw_bind' ?_
    intro tape
    refine aw_pure ?_
    generalize hcut : (Question.appendCap (n + m) c e).cut tape = newCap
    have hge : n + m ≤ newCap := by rw [← hcut]; simp only [Question.cut]; omega
    refine aw_bind' (aw_info hi ?_)
    refine aw_bind' (aw_room ?_)
    refine aw_bind' (aw_first hx.read.src ?_)
    refine aw_bind' (hfirst _ ?_)
    refine aw_bind' ?_
    unfold zeroValue
    refine aw_bind' (aw_info hi ?_)
    simp only [hiz]
    refine aw_pure ?_
    refine aw_bind' ?_
    intro r hr
    refine aw_pure (aw_pure ?_)
    refine H _ newCap (o.set r t) _ ⟨by rw [List.length_append, hx1, hys1]; omega, hge, .inr ⟨r, 0, _, e, (0, 0), rfl, Own.set_same _ _ _, Hp.set_same _ _ _, ?_, ?_, Loose.zero _⟩⟩ (Step.new _ _ hr)
    · intro k x hk
      have hlt := (List.getElem?_eq_some_iff.1 hk).1
      rw [Nat.zero_add, Array.getElem?_append_left (by simpa using hlt)]
      rw [List.append_toArray, List.getElem?_toArray]; exact hk
    · simp only [Array.size_append, List.size_toArray, Builtin.zeroCells, Array.size_map, Array.size_range, hzs, hx1, List.length_replicate]
      omega
end Go.H
