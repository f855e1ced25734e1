/- CONTRACTS ON THE PRINTED FUNCTIONS. -/
import Derived.Test.YtakplbkhbalfoaaIa238C1
set_option linter.all false
section
namespace Go.AM
open Go.Sort
section
variable {E : Sy} {H H' : AH} {Q : Value → AH → Prop} {b c n : Nat} {d : Array (List UInt8)} {tail : List Value} {f : Option Nat}
theorem enc_string_plain : ∀ x : List UInt8, plain1 (str x) = true := fun _ => rfl
theorem S.f1 (hE : Fold E) (x y : List UInt8) (hQ : Q (vb (Op.bytesLess x y)) H) : E.call (E.fid i.f1) [str x, str y] H Q := by
  apply hE.f1
  simp only [F.f1]
  apply hE.f3
  simp [F.f3]
  exact hQ
theorem S.f64 (hE : Fold E) (hg : H.get b = arrO str d tail f) (hn : d.size = n) (hsz : n < 2 ^ 60) (a e : Nat) (hae : a ≤ e) (he : e ≤ n)
    (hQ : ∀ H', SortTo H b str tail f (insertionSort Op.bytesLess d a e) H' → Q (.tuple #[]) H') : E.call (E.fid i.f64) [slc b 0 n c, vi a, vi e] H Q := by
  apply hE.f64
  simp only [F.f64, tk_eq]
  rw [i64_succ a (by omega), opt_some]
  unfold insertionSort at hQ
  obtain ⟨R, hR⟩ : ∃ R, R = insOuter Op.bytesLess a e (a + 1) d := ⟨_, rfl⟩
  rw [← hR] at hQ
  refine LoopL.ind (fun m l H' => ∃ (j : Nat) (d' : Array (List UInt8)), l = [slc b 0 n c, vi a, vi e, vi j] ∧ SortTo H b str tail f d' H' ∧ d'.size = n ∧ R = insOuter Op.bytesLess a e j d' ∧ a < j ∧ m = e - j) ?_ (e - (a + 1)) ⟨a + 1, d, rfl, .refl hg, hn, hR, by omega, rfl⟩
  rintro m _ H1 X hX ⟨j, d1, rfl, s1, n1, r1, haj, rfl⟩
  unfold insOuter at r1
  by_cases hj : j < e
  · rw [if_pos hj] at r1
    have hj' : (j : Int) < e := by omega
    simp [F.f64_l1, hj']
    refine LoopL.ind (fun m l H2 => ∃ (k : Nat) (d2 : Array (List UInt8)), l = [slc b 0 n c, vi a, vi e, vi j, vi k] ∧ SortTo H b str tail f d2 H2 ∧ d2.size = n ∧ insInner Op.bytesLess a j d1 = insInner Op.bytesLess a k d2 ∧ k ≤ j ∧ m = k) ?_ j ⟨j, d1, rfl, s1, n1, rfl, Nat.le_refl _, rfl⟩
    rintro m _ H2 X1 hX1 ⟨k, d2, rfl, s2, n2, r2, hkj, rfl⟩
    have done : insInner Op.bytesLess a m d2 = d2 → ∀ l, l = [slc b 0 n c, vi a, vi e, vi ((j + 1 : Nat) : Int)] → X l H2 := by
      rintro e2 l rfl
      rw [e2] at r2
      rw [r2] at r1
      exact hX (e - (j + 1)) (by omega) _ _ ⟨j + 1, d2, rfl, s2, n2, r1, by omega, rfl⟩
    by_cases hka : a < m
    · obtain ⟨k, rfl⟩ : ∃ k, m = k + 1 := ⟨m - 1, by omega⟩
      have hka' : (a : Int) < ((k + 1 : Nat) : Int) := by omega
      have f1 := arr_ix (b := b) (c := c) (n := n) (i := k + 1) (by omega)
      have f2 := arr_ix (b := b) (c := c) (n := n) (i := k) (by omega)
      have g1 := arr_load s2.get (i := k + 1) (by omega)
      have g2 := arr_load s2.get (i := k) (by omega)
      have hd : binInt .sub (vi ((k + 1 : Nat) : Int)) (.int .i64 1) = some (vi (k : Int)) := i64_dec (k + 1) (by omega) (by omega)
      obtain ⟨w1, w2⟩ := arr_swap enc_string_plain s2.get (i := k + 1) (j := k) (by omega) (by omega)
      have hjj := i64_succ j (by omega)
      simp only [insInner, hka, decide_true, Bool.true_and] at r2 done
      generalize hk1 : k + 1 = k1 at *
      simp [-store1_ptr, -load1_ptr, F.f64_l2, hka', f1, f2, g1, g2, hd]
      refine S.f1 hE _ _ ?_
      by_cases hl : Op.bytesLess d2[k1]! d2[k]! = true
      · simp only [hl, if_true] at r2
        simp [-store1_ptr, -load1_ptr, hl, f1, f2, g1, g2, hd, w1, w2]
        exact hX1 k (by omega) _ _ ⟨k, _, rfl, s2.put _, by rw [size_swp]; exact n2, r2, by omega, rfl⟩
      · simp only [hl, if_false] at done
        simp [-store1_ptr, -load1_ptr, hl, hjj]
        exact done rfl _ rfl
    · have hka' : ¬ (a : Int) < (m : Int) := by omega
      have hjj := i64_succ j (by omega)
      simp [-store1_ptr, -load1_ptr, F.f64_l2, hka', hjj]
      refine done ?_ _ rfl
      cases m with
      | zero => rfl
      | succ k => simp [insInner, hka]
  · rw [if_neg hj] at r1
    subst r1
    have hj' : ¬ (j : Int) < e := by omega
    simp [F.f64_l1, hj']
    exact hQ _ s1
theorem S.f83 (hE : Fold E) (hg : H.get b = arrO str d tail f) (hn : d.size = n) (hsz : n < 2 ^ 60) (lo hi first : Nat) (hlo : lo ≤ n) (hf : first + hi ≤ n)
    (hQ : ∀ H', SortTo H b str tail f (siftDown Op.bytesLess hi first lo d) H' → Q (.tuple #[]) H') : E.call (E.fid i.f83) [slc b 0 n c, vi lo, vi hi, vi first] H Q := by
  apply hE.f83
  simp only [F.f83, tk_eq]
  obtain ⟨R, hR⟩ : ∃ R, R = siftDown Op.bytesLess hi first lo d := ⟨_, rfl⟩
  rw [← hR] at hQ
  refine LoopL.ind (fun m l H' => ∃ (r : Nat) (d' : Array (List UInt8)), l = [slc b 0 n c, vi hi, vi first, vi r] ∧ SortTo H b str tail f d' H' ∧ d'.size = n ∧ R = siftDown Op.bytesLess hi first r d' ∧ r ≤ n ∧ m = hi - r) ?_ (hi - lo) ⟨lo, d, rfl, .refl hg, hn, hR, hlo, rfl⟩
  rintro m _ H1 X hX ⟨r, d1, rfl, s1, n1, r1, hr, rfl⟩
  have a1 := i64_dbl r (by omega)
  have a2 := i64_succ (2 * r) (by omega)
  have a3 := i64_succ (2 * r + 1) (by omega)
  have step : ∀ ch : Nat, r < ch → ch < hi → R = (if !Op.bytesLess d1[first + r]! d1[first + ch]! then d1 else siftDown Op.bytesLess hi first ch (swp d1 (first + r) (first + ch))) → F.f83_j1 E Q X (slc b 0 n c) (vi hi) (vi first) (vi r) (vi ch) H1 := by
    intro ch h1 h2 hR'
    have b1 := i64_add_nat first r (by omega)
    have b2 := i64_add_nat first ch (by omega)
    have f1 := arr_ix (b := b) (c := c) (n := n) (i := first + r) (by omega)
    have f2 := arr_ix (b := b) (c := c) (n := n) (i := first + ch) (by omega)
    have g1 := arr_load s1.get (i := first + r) (by omega)
    have g2 := arr_load s1.get (i := first + ch) (by omega)
    obtain ⟨w1, w2⟩ := arr_swap enc_string_plain s1.get (i := first + r) (j := first + ch) (by omega) (by omega)
    generalize hp : first + r = p at *
    generalize hq : first + ch = q at *
    simp [-store1_ptr, -load1_ptr, F.f83_j1, b1, b2, f1, f2, g1, g2]
    refine S.f1 hE _ _ ?_
    by_cases hl : Op.bytesLess d1[p]! d1[q]! = true
    · simp only [hl, Bool.not_true, Bool.false_eq_true, if_false] at hR'
      simp [-store1_ptr, -load1_ptr, hl, b1, b2, f1, f2, g1, g2, w1, w2]
      exact hX (hi - ch) (by omega) _ _ ⟨ch, _, rfl, s1.put _, by rw [size_swp]; exact n1, hR', by omega, rfl⟩
    · have hl : Op.bytesLess d1[p]! d1[q]! = false := by simpa using hl
      simp only [hl, Bool.not_false, if_true] at hR'
      subst hR'
      simp [-store1_ptr, -load1_ptr, hl]
      exact hQ _ s1
  rw [siftDown] at r1
  by_cases c1 : 2 * r + 1 ≥ hi
  · rw [dif_pos c1] at r1
    subst r1
    have c1' : (hi : Int) ≤ ((2 * r + 1 : Nat) : Int) := by omega
    generalize 2 * r + 1 = ch at *
    generalize 2 * r = rr at *
    simp [F.f83_l1, a1, a2, c1']
    exact hQ _ s1
  rw [dif_neg c1] at r1
  have c1' : ¬ (hi : Int) ≤ ((2 * r + 1 : Nat) : Int) := by omega
  have b1 := i64_add_nat first (2 * r + 1) (by omega)
  have b2 := i64_succ (first + (2 * r + 1)) (by omega)
  by_cases c2 : 2 * r + 1 + 1 < hi
  · have c2' : ((2 * r + 1 + 1 : Nat) : Int) < hi := by omega
    have f1 := arr_ix (b := b) (c := c) (n := n) (i := first + (2 * r + 1)) (by omega)
    have f2 := arr_ix (b := b) (c := c) (n := n) (i := first + (2 * r + 1) + 1) (by omega)
    have g1 := arr_load s1.get (i := first + (2 * r + 1)) (by omega)
    have g2 := arr_load s1.get (i := first + (2 * r + 1) + 1) (by omega)
    have st1 := step (2 * r + 1) (by omega) (by omega)
    have st2 := step (2 * r + 1 + 1) (by omega) c2
    rw [dif_pos (by omega : 2 * r + 2 < hi)] at r1
    simp only [c2, decide_true, Bool.true_and] at r1
    rw [show 2 * r + 2 = 2 * r + 1 + 1 by omega] at r1
    generalize hq2 : first + (2 * r + 1) + 1 = q2 at *
    generalize hq : first + (2 * r + 1) = q at *
    generalize hc2 : 2 * r + 1 + 1 = ch2 at *
    generalize hc1 : 2 * r + 1 = ch at *
    generalize 2 * r = rr at *
    simp [-store1_ptr, -load1_ptr, F.f83_l1, a1, a2, a3, c1', c2', b1, b2, f1, f2, g1, g2]
    refine S.f1 hE _ _ ?_
    by_cases hl : Op.bytesLess d1[q]! d1[q2]! = true
    · simp only [hl, if_true] at r1
      simp [hl, a3]
      exact st2 r1
    · simp only [hl, if_false] at r1
      simp [hl]
      exact st1 r1
  · have c2' : ¬ ((2 * r + 1 + 1 : Nat) : Int) < hi := by omega
    have st1 := step (2 * r + 1) (by omega) (by omega)
    simp only [c2, decide_false, Bool.false_and, Bool.false_eq_true, if_false] at r1
    generalize hc2 : 2 * r + 1 + 1 = ch2 at *
    generalize hc1 : 2 * r + 1 = ch at *
    generalize 2 * r = rr at *
    simp [-store1_ptr, -load1_ptr, F.f83_l1, a1, a2, a3, c1', c2']
    exact st1 r1
theorem size_siftDown_string (hi first r : Nat) (d : Array (List UInt8)) : (siftDown Op.bytesLess hi first r d).size = d.size := by
  obtain ⟨m, hm⟩ : ∃ m, hi - r ≤ m := ⟨_, Nat.le_refl _⟩
  induction m generalizing r d with
  | zero =>
    rw [siftDown, dif_pos (by omega)]
  | succ m ih =>
    rw [siftDown]
    split
    · rfl
    · split
      · split
        · rfl
        · split
          · rw [ih _ _ (by omega), size_swp]
          · rfl
      · split
        · rfl
        · rw [ih _ _ (by omega), size_swp]
theorem S.f62 (hE : Fold E) (hg : H.get b = arrO str d tail f) (hn : d.size = n) (hsz : n < 2 ^ 60) (a e : Nat) (hae : a < e) (he : e ≤ n)
    (hQ : ∀ H', SortTo H b str tail f (heapSort Op.bytesLess d a e) H' → Q (.tuple #[]) H') : E.call (E.fid i.f62) [slc b 0 n c, vi a, vi e] H Q := by
  apply hE.f62
  have a1 := i64_sub_nat e a (by omega) (by omega)
  have a2 := i64_dec (e - a) (by omega) (by omega)
  have a3 := i64_quo_num (e - a - 1) 2 (by decide) (by omega)
  unfold heapSort at hQ
  have a1' : binInt .sub (vi e) (vi a) = some (vi ((e - a : Nat) : Int)) := a1
  generalize hw : e - a = w at *
  have a3' : binInt .quo (vi ((w - 1 : Nat) : Int)) (.int .i64 2) = some (vi (((w - 1) / 2 : Nat) : Int)) := a3
  generalize hw1 : w - 1 = w1 at *
  generalize hh : w1 / 2 = h2 at *
  have hh2 : h2 ≤ w1 := by rw [← hh]; exact Nat.div_le_self _ _
  simp only [F.f62, a1', a2, a3', tk_eq, opt_some]
  obtain ⟨R, hR⟩ : ∃ R, R = heapPop Op.bytesLess a w (heapBuild Op.bytesLess w a (h2 + 1) d) := ⟨_, rfl⟩
  rw [← hR] at hQ
  refine LoopL.ind (fun m l H' => ∃ (k : Nat) (d' : Array (List UInt8)), l = [slc b 0 n c, vi a, vi 0, vi w, vi ((k : Int) - 1)] ∧ SortTo H b str tail f d' H' ∧ d'.size = n ∧ R = heapPop Op.bytesLess a w (heapBuild Op.bytesLess w a k d') ∧ k ≤ w ∧ m = k) ?_ (h2 + 1) ⟨h2 + 1, d, by simp, .refl hg, hn, hR, by omega, rfl⟩
  rintro m _ H1 X hX ⟨k, d1, rfl, s1, n1, r1, hk, rfl⟩
  cases m with
  | succ k =>
    have e1 : ((k + 1 : Nat) : Int) - 1 = (k : Int) := by omega
    have hd : binInt .sub (vi k) (.int .i64 1) = some (vi ((k : Int) - 1)) := i64_sub (by omega) (by omega)
    rw [e1]
    simp [F.f62_l1]
    refine S.f83 hE s1.get n1 hsz k w a (by omega) (by omega) fun H2 s2 => ?_
    simp only [hd, tk_eq, opt_some]
    exact hX k (by omega) _ _ ⟨k, _, rfl, s1.trans s2, by rw [size_siftDown_string]; exact n1, by rw [r1]; rfl, by omega, rfl⟩
  | zero =>
    have hd : binInt .sub (vi w) (.int .i64 1) = some (vi ((w : Int) - 1)) := i64_sub (by omega) (by omega)
    simp [F.f62_l1, hd]
    clear hX
    refine LoopL.ind (fun m l H' => ∃ (k : Nat) (d' : Array (List UInt8)), l = [slc b 0 n c, vi a, vi 0, vi ((k : Int) - 1)] ∧ SortTo H b str tail f d' H' ∧ d'.size = n ∧ R = heapPop Op.bytesLess a k d' ∧ k ≤ w ∧ m = k) ?_ w ⟨w, d1, rfl, s1, n1, r1, Nat.le_refl _, rfl⟩
    rintro m _ H2 X hX ⟨k, d2, rfl, s2, n2, r2, hk, rfl⟩
    cases m with
    | succ k =>
      have e1 : ((k + 1 : Nat) : Int) - 1 = (k : Int) := by omega
      have hd : binInt .sub (vi k) (.int .i64 1) = some (vi ((k : Int) - 1)) := i64_sub (by omega) (by omega)
      have b1 := i64_add_nat a k (by omega)
      have f1 := arr_ix (b := b) (c := c) (n := n) (i := a) (by omega)
      have f2 := arr_ix (b := b) (c := c) (n := n) (i := a + k) (by omega)
      have g1 := arr_load s2.get (i := a) (by omega)
      have g2 := arr_load s2.get (i := a + k) (by omega)
      obtain ⟨w1, w2⟩ := arr_swap enc_string_plain s2.get (i := a) (j := a + k) (by omega) (by omega)
      rw [e1]
      rw [heapPop] at r2
      generalize hq : a + k = q at *
      simp [-store1_ptr, -load1_ptr, F.f62_l2, b1, f1, f2, g1, g2, w1, w2]
      have s3 := s2.put (swp d2 a q)
      refine S.f83 hE s3.get (by rw [size_swp]; exact n2) hsz 0 k a (by omega) (by omega) fun H3 s4 => ?_
      simp only [hd, tk_eq, opt_some]
      exact hX k (by omega) _ _ ⟨k, _, rfl, s3.trans s4, by rw [size_siftDown_string, size_swp]; exact n2, r2, by omega, rfl⟩
    | zero =>
      simp [F.f62_l2]
      rw [heapPop] at r2
      subst r2
      exact hQ _ s2
theorem S.f81 (hE : Fold E) (hg : H.get b = arrO str d tail f) (hn : d.size = n) (hsz : n < 2 ^ 60) (a e : Nat) (hae : a < e) (he : e ≤ n)
    (hQ : ∀ H', SortTo H b str tail f (reverseRange d a e) H' → Q (.tuple #[]) H') : E.call (E.fid i.f81) [slc b 0 n c, vi a, vi e] H Q := by
  apply hE.f81
  have a1 := i64_dec e (by omega) (by omega)
  unfold reverseRange at hQ
  simp only [F.f81, a1, tk_eq, opt_some]
  obtain ⟨R, hR⟩ : ∃ R, R = reverseLoop a (e - 1) d := ⟨_, rfl⟩
  rw [← hR] at hQ
  refine LoopL.ind (fun m l H' => ∃ (p q : Nat) (d' : Array (List UInt8)), l = [slc b 0 n c, vi p, vi q] ∧ SortTo H b str tail f d' H' ∧ d'.size = n ∧ R = reverseLoop p q d' ∧ p ≤ n ∧ q < n ∧ m = q - p) ?_ (e - 1 - a) ⟨a, e - 1, d, rfl, .refl hg, hn, hR, by omega, by omega, rfl⟩
  rintro m _ H1 X hX ⟨p, q, d1, rfl, s1, n1, r1, hp, hq, rfl⟩
  rw [reverseLoop] at r1
  by_cases h : p < q
  · rw [if_pos h] at r1
    have h' : (p : Int) < q := by omega
    have f1 := arr_ix (b := b) (c := c) (n := n) (i := p) (by omega)
    have f2 := arr_ix (b := b) (c := c) (n := n) (i := q) (by omega)
    have g1 := arr_load s1.get (i := p) (by omega)
    have g2 := arr_load s1.get (i := q) (by omega)
    obtain ⟨w1, w2⟩ := arr_swap enc_string_plain s1.get (i := p) (j := q) (by omega) (by omega)
    have b1 := i64_succ p (by omega)
    have b2 := i64_dec q (by omega) (by omega)
    simp [-store1_ptr, -load1_ptr, F.f81_l1, h', f1, f2, g1, g2, w1, w2, b1, b2]
    exact hX (q - 1 - (p + 1)) (by omega) _ _ ⟨p + 1, q - 1, _, rfl, s1.put _, by rw [size_swp]; exact n1, r1, by omega, by omega, rfl⟩
  · rw [if_neg h] at r1
    subst r1
    have h' : ¬ (p : Int) < q := by omega
    simp [F.f81_l1, h']
    exact hQ _ s1
theorem S.f77 (hE : Fold E) (hg : H.get b = arrO str d tail f) (hn : d.size = n) (hsz : n < 2 ^ 60) (a e pivot : Nat) (h1 : a ≤ pivot) (h2 : pivot < e) (he : e ≤ n)
    (hQ : ∀ H', SortTo H b str tail f (partition Op.bytesLess d a e pivot).2.2 H' → Q (.tuple #[vi (partition Op.bytesLess d a e pivot).1, vb (partition Op.bytesLess d a e pivot).2.1]) H') : E.call (E.fid i.f77) [slc b 0 n c, vi a, vi e, vi pivot] H Q := by
  apply hE.f77
  have f1 := arr_ix (b := b) (c := c) (n := n) (i := a) (by omega)
  have f2 := arr_ix (b := b) (c := c) (n := n) (i := pivot) (by omega)
  have g1 := arr_load hg (i := a) (by omega)
  have g2 := arr_load hg (i := pivot) (by omega)
  obtain ⟨w1, w2⟩ := arr_swap enc_string_plain hg (i := a) (j := pivot) (by omega) (by omega)
  have b1 := i64_succ a (by omega)
  have b2 := i64_dec e (by omega) (by omega)
  simp only [F.f77, f1, f2, g1, g2, w1, w2, b1, b2, tk_eq, opt_some]
  have s0 := (SortTo.refl hg).put (swp d a pivot)
  have n0 : (swp d a pivot).size = n := by rw [size_swp]; exact hn
  unfold partition at hQ
  generalize hd0 : swp d a pivot = d0 at *
  generalize hH0 : H.put b (arrO str d0 tail f) = H0 at *
  simp only at hQ
  obtain ⟨I, hI⟩ : ∃ I, I = scanUp (fun x => Op.bytesLess x d0[a]!) d0 (e - 1) (a + 1) := ⟨_, rfl⟩
  rw [← hI] at hQ
  obtain ⟨J, hJ⟩ : ∃ J, J = scanDown (fun x => !Op.bytesLess x d0[a]!) d0 I (e - 1) := ⟨_, rfl⟩
  rw [← hJ] at hQ
  have hIl := sUp_le (fun x => Op.bytesLess x d0[a]!) d0 (e - 1) _ (a + 1) (Nat.le_refl _)
  rw [← hI] at hIl
  have hJl := sDown_le (fun x => !Op.bytesLess x d0[a]!) d0 I (e - 1)
  rw [← hJ] at hJl
  refine LoopL.ind (fun m l H' => H0 = H' ∧ ∃ p : Nat, l = [slc b 0 n c, vi a, vi p, vi ((e - 1 : Nat) : Int)] ∧ I = scanUp (fun x => Op.bytesLess x d0[a]!) d0 (e - 1) p ∧ a + 1 ≤ p ∧ p ≤ e ∧ m = e - p) ?_ (e - (a + 1)) ⟨rfl, a + 1, rfl, hI, Nat.le_refl _, by omega, rfl⟩
  rintro m _ _ X hX ⟨rfl, p, rfl, r1, hp1, hp2, rfl⟩
  rw [scanUp] at r1
  have exit1 : I = p → LoopL (fun l H X0 => F.f77_l2 E Q (nth l 0) (nth l 1) (nth l 2) (nth l 3) H X0) [slc b 0 n c, vi a, vi p, vi ((e - 1 : Nat) : Int)] H0 := by
    rintro rfl
    clear hX r1
    refine LoopL.ind (fun m l H' => H0 = H' ∧ ∃ q : Nat, l = [slc b 0 n c, vi a, vi I, vi q] ∧ J = scanDown (fun x => !Op.bytesLess x d0[a]!) d0 I q ∧ q ≤ e - 1 ∧ I ≤ q + 1 ∧ m = q) ?_ (e - 1) ⟨rfl, e - 1, rfl, hJ, Nat.le_refl _, by omega, rfl⟩
    rintro m _ _ X hX ⟨rfl, q, rfl, r1, hq1, hq2, rfl⟩
    have exit2 : J = m → F.f77_l2 E Q (slc b 0 n c) (vi a) (vi I) (vi m) H0 X := by
      rintro rfl
      clear hX
      have f1 := arr_ix (b := b) (c := c) (n := n) (i := a) (by omega)
      have f2 := arr_ix (b := b) (c := c) (n := n) (i := J) (by omega)
      have g1 := arr_load s0.get (i := a) (by omega)
      have g2 := arr_load s0.get (i := J) (by omega)
      obtain ⟨w1, w2⟩ := arr_swap enc_string_plain s0.get (i := J) (j := a) (by omega) (by omega)
      by_cases hij : I ≤ J
      · have hij' : (I : Int) ≤ J := by omega
        have hij'' : ¬ (J : Int) < I := by omega
        have hnl : Op.bytesLess d0[J]! d0[a]! = true := by
          cases J with
          | zero => omega
          | succ q =>
            rw [scanDown] at r1
            split at r1
            · have := sDown_le (fun x => !Op.bytesLess x d0[a]!) d0 I q
              omega
            · rename_i hc
              simp at hc
              exact hc (by omega)
        have f3 := arr_ix (b := b) (c := c) (n := n) (i := I) (by omega)
        have g3 := arr_load s0.get (i := I) (by omega)
        obtain ⟨w3, w4⟩ := arr_swap enc_string_plain s0.get (i := I) (j := J) (by omega) (by omega)
        have b3 := i64_succ I (by omega)
        have b4 := i64_dec J (by omega) (by omega)
        simp [-store1_ptr, -load1_ptr, F.f77_l2, hij', f1, f2, g1, g2]
        refine S.f1 hE _ _ ?_
        simp [-store1_ptr, -load1_ptr, hnl, hij'', f1, f2, f3, g1, g2, g3, w3, w4, b3, b4]
        rw [if_neg (by omega)] at hQ
        have s1 := s0.put (swp d0 I J)
        have n1 : (swp d0 I J).size = n := by rw [size_swp]; exact n0
        generalize hd1 : swp d0 I J = d1 at *
        simp only at hQ
        obtain ⟨R, hR⟩ : ∃ R, R = partLoop Op.bytesLess a (I + 1) (J - 1) d1 := ⟨_, rfl⟩
        rw [← hR] at hQ
        refine LoopL.ind (fun m l H' => ∃ (p q : Nat) (d2 : Array (List UInt8)), l = [slc b 0 n c, vi a, vi p, vi q] ∧ SortTo H b str tail f d2 H' ∧ d2.size = n ∧ R = partLoop Op.bytesLess a p q d2 ∧ a + 1 ≤ p ∧ p ≤ q + 1 + 1 ∧ p ≤ e ∧ q ≤ e - 1 ∧ a ≤ q ∧ m = q + 1 - p) ?_ (J - 1 + 1 - (I + 1)) ⟨I + 1, J - 1, d1, rfl, s1, n1, hR, by omega, by omega, by omega, by omega, by omega, rfl⟩
        clear hR s1 n1 hd1 w1 w2 w3 w4
        rintro m _ H2 X3 hX3 ⟨p, q, d2, rfl, s2, n2, r2, hp1, hp2, hpe, hq1, hqa, rfl⟩
        rw [partLoop] at r2
        simp only [F.f77_l3, nth_0, nth_1, nth_2, nth_3]
        obtain ⟨I2, hI2⟩ : ∃ I, I = scanUp (fun x => Op.bytesLess x d2[a]!) d2 q p := ⟨_, rfl⟩
        obtain ⟨J2, hJ2⟩ : ∃ J, J = scanDown (fun x => !Op.bytesLess x d2[a]!) d2 I2 q := ⟨_, rfl⟩
        rw [← hI2] at r2
        try simp only at r2
        rw [← hJ2] at r2
        have hIl2 := sUp_le (fun x => Op.bytesLess x d2[a]!) d2 q _ p (Nat.le_refl _)
        rw [← hI2] at hIl2
        have hJl2 := sDown_le (fun x => !Op.bytesLess x d2[a]!) d2 I2 q
        rw [← hJ2] at hJl2
        have hI2e : I2 ≤ q + 1 ∨ (I2 = p ∧ q + 1 < p) := by
          by_cases h : p ≤ q + 1
          · exact .inl (hIl2.2 h)
          · refine .inr ⟨?_, by omega⟩
            rw [hI2, scanUp, if_neg (by simp; omega)]
        have hJ2e : I2 ≤ q + 1 ∨ J2 = q := by
          rcases hI2e with h | ⟨h, h'⟩
          · exact .inl h
          · right
            rw [hJ2]
            cases q with
            | zero => rfl
            | succ q => rw [scanDown, if_neg (by simp; omega)]
        refine LoopL.ind (fun m l H' => H2 = H' ∧ ∃ p' : Nat, l = [slc b 0 n c, vi a, vi p', vi q] ∧ I2 = scanUp (fun x => Op.bytesLess x d2[a]!) d2 q p' ∧ p ≤ p' ∧ p' ≤ e ∧ m = q + 1 - p') ?_ (q + 1 - p) ⟨rfl, p, rfl, hI2, Nat.le_refl _, by omega, rfl⟩
        rintro m _ _ X4 hX4 ⟨rfl, p', rfl, r4, hp3, hp4, rfl⟩
        rw [scanUp] at r4
        have exit4 : I2 = p' → LoopL (fun l H X1 => F.f77_l5 E Q X3 (nth l 0) (nth l 1) (nth l 2) (nth l 3) H X1) [slc b 0 n c, vi a, vi p', vi q] H2 := by
          rintro rfl
          clear hX4 r4
          refine LoopL.ind (fun m l H' => H2 = H' ∧ ∃ q' : Nat, l = [slc b 0 n c, vi a, vi I2, vi q'] ∧ J2 = scanDown (fun x => !Op.bytesLess x d2[a]!) d2 I2 q' ∧ q' ≤ q ∧ m = q') ?_ q ⟨rfl, q, rfl, hJ2, Nat.le_refl _, rfl⟩
          rintro m _ _ X5 hX5 ⟨rfl, q', rfl, r5, hq3, rfl⟩
          have exit5 : J2 = m → F.f77_l5 E Q X3 (slc b 0 n c) (vi a) (vi I2) (vi m) H2 X5 := by
            rintro rfl
            clear hX5
            have f2 := arr_ix (b := b) (c := c) (n := n) (i := J2) (by omega)
            have g1 := arr_load s2.get (i := a) (by omega)
            have g2 := arr_load s2.get (i := J2) (by omega)
            by_cases hij : I2 ≤ J2
            · have hij' : (I2 : Int) ≤ J2 := by omega
              have hij'' : ¬ (J2 : Int) < I2 := by omega
              have hnl : Op.bytesLess d2[J2]! d2[a]! = true := by
                cases J2 with
                | zero => omega
                | succ q' =>
                  rw [scanDown] at r5
                  split at r5
                  · have := sDown_le (fun x => !Op.bytesLess x d2[a]!) d2 I2 q'
                    omega
                  · rename_i hc
                    simp at hc
                    exact hc (by omega)
              have f3 := arr_ix (b := b) (c := c) (n := n) (i := I2) (by omega)
              have g3 := arr_load s2.get (i := I2) (by omega)
              obtain ⟨w3, w4⟩ := arr_swap enc_string_plain s2.get (i := I2) (j := J2) (by omega) (by omega)
              have b3 := i64_succ I2 (by omega)
              have b4 := i64_dec J2 (by omega) (by omega)
              simp [-store1_ptr, -load1_ptr, F.f77_l5, hij', f1, f2, g1, g2]
              refine S.f1 hE _ _ ?_
              simp [-store1_ptr, -load1_ptr, hnl, hij'', f1, f2, f3, g1, g2, g3, w3, w4, b3, b4]
              rw [if_neg (by omega), dif_pos (by omega)] at r2
              exact hX3 (J2 - 1 + 1 - (I2 + 1)) (by omega) _ _ ⟨I2 + 1, J2 - 1, _, rfl, s2.put _, by rw [size_swp]; exact n2, r2, by omega, by omega, by omega, by omega, by omega, rfl⟩
            · have hij' : ¬ (I2 : Int) ≤ J2 := by omega
              have hij'' : (J2 : Int) < I2 := by omega
              rw [if_pos (by omega)] at r2
              subst r2
              obtain ⟨w1, w2⟩ := arr_swap enc_string_plain s2.get (i := J2) (j := a) (by omega) (by omega)
              simp [-store1_ptr, -load1_ptr, F.f77_l5, hij', hij'', f1, f2, g1, g2, w1, w2]
              exact hQ _ (s2.put _)
          cases m with
          | zero => exact exit5 r5
          | succ q' =>
            by_cases hc : I2 ≤ q' + 1 ∧ Op.bytesLess d2[q' + 1]! d2[a]! = false
            · rw [scanDown, if_pos (by simp [hc.1, hc.2])] at r5
              have hc' : (I2 : Int) ≤ ((q' + 1 : Nat) : Int) := by omega
              have f2 := arr_ix (b := b) (c := c) (n := n) (i := q' + 1) (by omega)
              have g1 := arr_load s2.get (i := a) (by omega)
              have g2 := arr_load s2.get (i := q' + 1) (by omega)
              have b4 : binInt .sub (vi ((q' + 1 : Nat) : Int)) (.int .i64 1) = some (vi (q' : Int)) := i64_dec (q' + 1) (by omega) (by omega)
              have hlt := hc.2
              generalize hqq : q' + 1 = qq at *
              simp [-store1_ptr, -load1_ptr, F.f77_l5, hc', f1, f2, g1, g2]
              refine S.f1 hE _ _ ?_
              simp [-store1_ptr, -load1_ptr, hlt, b4]
              exact hX5 q' (by omega) _ _ ⟨rfl, q', rfl, r5, by omega, rfl⟩
            · rw [scanDown, if_neg (by simpa using hc)] at r5
              exact exit5 r5
        by_cases hc : p' ≤ q ∧ Op.bytesLess d2[p']! d2[a]! = true
        · rw [if_pos (by simp [hc.1, hc.2])] at r4
          have hc' : (p' : Int) ≤ q := by omega
          have f2 := arr_ix (b := b) (c := c) (n := n) (i := p') (by omega)
          have g1 := arr_load s2.get (i := a) (by omega)
          have g2 := arr_load s2.get (i := p') (by omega)
          have b3 := i64_succ p' (by omega)
          simp [-store1_ptr, -load1_ptr, F.f77_l4, hc', f1, f2, g1, g2]
          refine S.f1 hE _ _ ?_
          simp [-store1_ptr, -load1_ptr, hc.2, b3]
          exact hX4 (q + 1 - (p' + 1)) (by omega) _ _ ⟨rfl, p' + 1, rfl, r4, by omega, by omega, rfl⟩
        · rw [if_neg (by simpa using hc)] at r4
          by_cases hpq : p' ≤ q
          · have hc' : (p' : Int) ≤ q := by omega
            have hlt : Op.bytesLess d2[p']! d2[a]! = false := by simpa using fun h => hc ⟨hpq, h⟩
            have f2 := arr_ix (b := b) (c := c) (n := n) (i := p') (by omega)
            have g1 := arr_load s2.get (i := a) (by omega)
            have g2 := arr_load s2.get (i := p') (by omega)
            simp [-store1_ptr, -load1_ptr, F.f77_l4, hc', f1, f2, g1, g2]
            refine S.f1 hE _ _ ?_
            simp [-store1_ptr, -load1_ptr, hlt]
            exact exit4 r4
          · have hc' : ¬ (p' : Int) ≤ q := by omega
            simp [-store1_ptr, -load1_ptr, F.f77_l4, hc']
            exact exit4 r4
      · have hij' : ¬ (I : Int) ≤ J := by omega
        have hij'' : (J : Int) < I := by omega
        simp [-store1_ptr, -load1_ptr, F.f77_l2, hij', hij'', f1, f2, g1, g2, w1, w2]
        rw [if_pos (by omega)] at hQ
        exact hQ _ (s0.put _)
    cases m with
    | zero => exact exit2 r1
    | succ q =>
      by_cases hc : I ≤ q + 1 ∧ Op.bytesLess d0[q + 1]! d0[a]! = false
      · rw [scanDown, if_pos (by simp [hc.1, hc.2])] at r1
        have hc' : (I : Int) ≤ ((q + 1 : Nat) : Int) := by omega
        have f2 := arr_ix (b := b) (c := c) (n := n) (i := q + 1) (by omega)
        have g1 := arr_load s0.get (i := a) (by omega)
        have g2 := arr_load s0.get (i := q + 1) (by omega)
        have b4 : binInt .sub (vi ((q + 1 : Nat) : Int)) (.int .i64 1) = some (vi (q : Int)) := i64_dec (q + 1) (by omega) (by omega)
        have hlt := hc.2
        generalize hqq : q + 1 = qq at *
        simp [-store1_ptr, -load1_ptr, F.f77_l2, hc', f1, f2, g1, g2]
        refine S.f1 hE _ _ ?_
        simp [-store1_ptr, -load1_ptr, hlt, b4]
        exact hX q (by omega) _ _ ⟨rfl, q, rfl, r1, by omega, by omega, rfl⟩
      · rw [scanDown, if_neg (by simpa using hc)] at r1
        exact exit2 r1
  by_cases hc : p ≤ e - 1 ∧ Op.bytesLess d0[p]! d0[a]! = true
  · rw [if_pos (by simp [hc.1, hc.2])] at r1
    have hc' : (p : Int) ≤ ((e - 1 : Nat) : Int) := by omega
    have f2 := arr_ix (b := b) (c := c) (n := n) (i := p) (by omega)
    have g1 := arr_load s0.get (i := a) (by omega)
    have g2 := arr_load s0.get (i := p) (by omega)
    have b3 := i64_succ p (by omega)
    generalize he1 : e - 1 = e1 at *
    simp [-store1_ptr, -load1_ptr, F.f77_l1, hc', f1, f2, g1, g2]
    refine S.f1 hE _ _ ?_
    simp [-store1_ptr, -load1_ptr, hc.2, b3]
    exact hX (e - (p + 1)) (by omega) _ _ ⟨rfl, p + 1, rfl, r1, by omega, by omega, rfl⟩
  · rw [if_neg (by simpa using hc)] at r1
    have exit1 := exit1 r1
    by_cases hpq : p ≤ e - 1
    · have hc' : (p : Int) ≤ ((e - 1 : Nat) : Int) := by omega
      have hlt : Op.bytesLess d0[p]! d0[a]! = false := by simpa using fun h => hc ⟨hpq, h⟩
      have f2 := arr_ix (b := b) (c := c) (n := n) (i := p) (by omega)
      have g1 := arr_load s0.get (i := a) (by omega)
      have g2 := arr_load s0.get (i := p) (by omega)
      generalize he1 : e - 1 = e1 at *
      simp [-store1_ptr, -load1_ptr, F.f77_l1, hc', f1, f2, g1, g2]
      refine S.f1 hE _ _ ?_
      simp [-store1_ptr, -load1_ptr, hlt]
      exact exit1
    · have hc' : ¬ (p : Int) ≤ ((e - 1 : Nat) : Int) := by omega
      generalize he1 : e - 1 = e1 at *
      simp [-store1_ptr, -load1_ptr, F.f77_l1, hc']
      exact exit1
theorem S.f75 (hE : Fold E) (hg : H.get b = arrO str d tail f) (hn : d.size = n) (hsz : n < 2 ^ 60) (a e pivot : Nat) (h1 : a ≤ pivot) (h2 : pivot < e) (he : e ≤ n)
    (hQ : ∀ H', SortTo H b str tail f (partitionEqual Op.bytesLess d a e pivot).2 H' → Q (vi (partitionEqual Op.bytesLess d a e pivot).1) H') : E.call (E.fid i.f75) [slc b 0 n c, vi a, vi e, vi pivot] H Q := by
  apply hE.f75
  have f1 := arr_ix (b := b) (c := c) (n := n) (i := a) (by omega)
  have f2 := arr_ix (b := b) (c := c) (n := n) (i := pivot) (by omega)
  have g1 := arr_load hg (i := a) (by omega)
  have g2 := arr_load hg (i := pivot) (by omega)
  obtain ⟨w1, w2⟩ := arr_swap enc_string_plain hg (i := a) (j := pivot) (by omega) (by omega)
  have b1 := i64_succ a (by omega)
  have b2 := i64_dec e (by omega) (by omega)
  simp only [F.f75, f1, f2, g1, g2, w1, w2, b1, b2, tk_eq, opt_some]
  have s0 := (SortTo.refl hg).put (swp d a pivot)
  have n0 : (swp d a pivot).size = n := by rw [size_swp]; exact hn
  unfold partitionEqual at hQ
  generalize hd0 : swp d a pivot = d0 at *
  generalize hH0 : H.put b (arrO str d0 tail f) = H0 at *
  clear w1 w2 f2 g1 g2
  obtain ⟨R, hR⟩ : ∃ R, R = partEqLoop Op.bytesLess a (a + 1) (e - 1) d0 := ⟨_, rfl⟩
  rw [← hR] at hQ
  refine LoopL.ind (fun m l H' => ∃ (p q : Nat) (d2 : Array (List UInt8)), l = [slc b 0 n c, vi a, vi p, vi q] ∧ SortTo H b str tail f d2 H' ∧ d2.size = n ∧ R = partEqLoop Op.bytesLess a p q d2 ∧ a + 1 ≤ p ∧ p ≤ q + 1 + 1 ∧ p ≤ e ∧ q ≤ e - 1 ∧ a ≤ q ∧ m = q + 1 - p) ?_ (e - 1 + 1 - (a + 1)) ⟨a + 1, e - 1, d0, rfl, s0, n0, hR, by omega, by omega, by omega, by omega, by omega, rfl⟩
  clear hR s0 n0 hd0
  rintro m _ H2 X3 hX3 ⟨p, q, d2, rfl, s2, n2, r2, hp1, hp2, hpe, hq1, hqa, rfl⟩
  rw [partEqLoop] at r2
  simp only [F.f75_l1, nth_0, nth_1, nth_2, nth_3]
  obtain ⟨I2, hI2⟩ : ∃ I, I = scanUp (fun x => !Op.bytesLess d2[a]! x) d2 q p := ⟨_, rfl⟩
  obtain ⟨J2, hJ2⟩ : ∃ J, J = scanDown (fun x => Op.bytesLess d2[a]! x) d2 I2 q := ⟨_, rfl⟩
  rw [← hI2] at r2
  try simp only at r2
  rw [← hJ2] at r2
  have hIl2 := sUp_le (fun x => !Op.bytesLess d2[a]! x) d2 q _ p (Nat.le_refl _)
  rw [← hI2] at hIl2
  have hJl2 := sDown_le (fun x => Op.bytesLess d2[a]! x) d2 I2 q
  rw [← hJ2] at hJl2
  have hI2e : I2 ≤ q + 1 ∨ (I2 = p ∧ q + 1 < p) := by
    by_cases h : p ≤ q + 1
    · exact .inl (hIl2.2 h)
    · refine .inr ⟨?_, by omega⟩
      rw [hI2, scanUp, if_neg (by simp; omega)]
  have hJ2e : I2 ≤ q + 1 ∨ J2 = q := by
    rcases hI2e with h | ⟨h, h'⟩
    · exact .inl h
    · right
      rw [hJ2]
      cases q with
      | zero => rfl
      | succ q => rw [scanDown, if_neg (by simp; omega)]
  refine LoopL.ind (fun m l H' => H2 = H' ∧ ∃ p' : Nat, l = [slc b 0 n c, vi a, vi p', vi q] ∧ I2 = scanUp (fun x => !Op.bytesLess d2[a]! x) d2 q p' ∧ p ≤ p' ∧ p' ≤ e ∧ m = q + 1 - p') ?_ (q + 1 - p) ⟨rfl, p, rfl, hI2, Nat.le_refl _, by omega, rfl⟩
  rintro m _ _ X4 hX4 ⟨rfl, p', rfl, r4, hp3, hp4, rfl⟩
  rw [scanUp] at r4
  have exit4 : I2 = p' → LoopL (fun l H X1 => F.f75_l3 E Q X3 (nth l 0) (nth l 1) (nth l 2) (nth l 3) H X1) [slc b 0 n c, vi a, vi p', vi q] H2 := by
    rintro rfl
    clear hX4 r4
    refine LoopL.ind (fun m l H' => H2 = H' ∧ ∃ q' : Nat, l = [slc b 0 n c, vi a, vi I2, vi q'] ∧ J2 = scanDown (fun x => Op.bytesLess d2[a]! x) d2 I2 q' ∧ q' ≤ q ∧ m = q') ?_ q ⟨rfl, q, rfl, hJ2, Nat.le_refl _, rfl⟩
    rintro m _ _ X5 hX5 ⟨rfl, q', rfl, r5, hq3, rfl⟩
    have exit5 : J2 = m → F.f75_l3 E Q X3 (slc b 0 n c) (vi a) (vi I2) (vi m) H2 X5 := by
      rintro rfl
      clear hX5
      have f2 := arr_ix (b := b) (c := c) (n := n) (i := J2) (by omega)
      have g1 := arr_load s2.get (i := a) (by omega)
      have g2 := arr_load s2.get (i := J2) (by omega)
      by_cases hij : I2 ≤ J2
      · have hij' : (I2 : Int) ≤ J2 := by omega
        have hij'' : ¬ (J2 : Int) < I2 := by omega
        have hnl : Op.bytesLess d2[a]! d2[J2]! = false := by
          cases J2 with
          | zero => omega
          | succ q' =>
            rw [scanDown] at r5
            split at r5
            · have := sDown_le (fun x => Op.bytesLess d2[a]! x) d2 I2 q'
              omega
            · rename_i hc
              simp at hc
              exact hc (by omega)
        have f3 := arr_ix (b := b) (c := c) (n := n) (i := I2) (by omega)
        have g3 := arr_load s2.get (i := I2) (by omega)
        obtain ⟨w3, w4⟩ := arr_swap enc_string_plain s2.get (i := I2) (j := J2) (by omega) (by omega)
        have b3 := i64_succ I2 (by omega)
        have b4 := i64_dec J2 (by omega) (by omega)
        simp [-store1_ptr, -load1_ptr, F.f75_l3, hij', f1, f2, g1, g2]
        refine S.f1 hE _ _ ?_
        simp [-store1_ptr, -load1_ptr, hnl, hij'', f1, f2, f3, g1, g2, g3, w3, w4, b3, b4]
        rw [if_neg (by omega), dif_pos (by omega)] at r2
        exact hX3 (J2 - 1 + 1 - (I2 + 1)) (by omega) _ _ ⟨I2 + 1, J2 - 1, _, rfl, s2.put _, by rw [size_swp]; exact n2, r2, by omega, by omega, by omega, by omega, by omega, rfl⟩
      · have hij' : ¬ (I2 : Int) ≤ J2 := by omega
        have hij'' : (J2 : Int) < I2 := by omega
        rw [if_pos (by omega)] at r2
        subst r2
        simp [-store1_ptr, -load1_ptr, F.f75_l3, hij', hij'']
        exact hQ _ s2
    cases m with
    | zero => exact exit5 r5
    | succ q' =>
      by_cases hc : I2 ≤ q' + 1 ∧ Op.bytesLess d2[a]! d2[q' + 1]! = true
      · rw [scanDown, if_pos (by simp [hc.1, hc.2])] at r5
        have hc' : (I2 : Int) ≤ ((q' + 1 : Nat) : Int) := by omega
        have f2 := arr_ix (b := b) (c := c) (n := n) (i := q' + 1) (by omega)
        have g1 := arr_load s2.get (i := a) (by omega)
        have g2 := arr_load s2.get (i := q' + 1) (by omega)
        have b4 : binInt .sub (vi ((q' + 1 : Nat) : Int)) (.int .i64 1) = some (vi (q' : Int)) := i64_dec (q' + 1) (by omega) (by omega)
        have hlt := hc.2
        generalize hqq : q' + 1 = qq at *
        simp [-store1_ptr, -load1_ptr, F.f75_l3, hc', f1, f2, g1, g2]
        refine S.f1 hE _ _ ?_
        simp [-store1_ptr, -load1_ptr, hlt, b4]
        exact hX5 q' (by omega) _ _ ⟨rfl, q', rfl, r5, by omega, rfl⟩
      · rw [scanDown, if_neg (by simpa using hc)] at r5
        exact exit5 r5
  by_cases hc : p' ≤ q ∧ Op.bytesLess d2[a]! d2[p']! = false
  · rw [if_pos (by simp [hc.1, hc.2])] at r4
    have hc' : (p' : Int) ≤ q := by omega
    have f2 := arr_ix (b := b) (c := c) (n := n) (i := p') (by omega)
    have g1 := arr_load s2.get (i := a) (by omega)
    have g2 := arr_load s2.get (i := p') (by omega)
    have b3 := i64_succ p' (by omega)
    simp [-store1_ptr, -load1_ptr, F.f75_l2, hc', f1, f2, g1, g2]
    refine S.f1 hE _ _ ?_
    simp [-store1_ptr, -load1_ptr, hc.2, b3]
    exact hX4 (q + 1 - (p' + 1)) (by omega) _ _ ⟨rfl, p' + 1, rfl, r4, by omega, by omega, rfl⟩
  · rw [if_neg (by simpa using hc)] at r4
    by_cases hpq : p' ≤ q
    · have hc' : (p' : Int) ≤ q := by omega
      have hlt : Op.bytesLess d2[a]! d2[p']! = true := by simpa using fun h => hc ⟨hpq, h⟩
      have f2 := arr_ix (b := b) (c := c) (n := n) (i := p') (by omega)
      have g1 := arr_load s2.get (i := a) (by omega)
      have g2 := arr_load s2.get (i := p') (by omega)
      simp [-store1_ptr, -load1_ptr, F.f75_l2, hc', f1, f2, g1, g2]
      refine S.f1 hE _ _ ?_
      simp [-store1_ptr, -load1_ptr, hlt]
      exact exit4 r4
    · have hc' : ¬ (p' : Int) ≤ q := by omega
      simp [-store1_ptr, -load1_ptr, F.f75_l2, hc']
      exact exit4 r4
theorem S.f73 (hE : Fold E) (hg : H.get b = arrO str d tail f) (hn : d.size = n) (hsz : n < 2 ^ 60) (a e : Nat) (hae : a < e) (he : e ≤ n)
    (hQ : ∀ H', SortTo H b str tail f (partialInsertionSort Op.bytesLess d a e).1 H' → Q (vb (partialInsertionSort Op.bytesLess d a e).2) H') : E.call (E.fid i.f73) [slc b 0 n c, vi a, vi e] H Q := by
  apply hE.f73
  have b1 := i64_succ a (by omega)
  simp only [F.f73, b1, tk_eq, opt_some]
  unfold partialInsertionSort at hQ
  obtain ⟨R, hR⟩ : ∃ R, R = partialIns Op.bytesLess a e 5 (a + 1) d := ⟨_, rfl⟩
  rw [← hR] at hQ
  refine LoopL.ind (fun m l H' => ∃ (i : Nat) (d1 : Array (List UInt8)), l = [slc b 0 n c, vi a, vi e, vi i, vi ((5 - m : Nat) : Int)] ∧ SortTo H b str tail f d1 H' ∧ d1.size = n ∧ R = partialIns Op.bytesLess a e m i d1 ∧ a + 1 ≤ i ∧ i ≤ e ∧ m ≤ 5) ?_ 5 ⟨a + 1, d, rfl, .refl hg, hn, hR, Nat.le_refl _, by omega, Nat.le_refl _⟩
  rintro m _ H1 X hX ⟨i0, d1, rfl, s1, n1, r1, hi1, hi2, hm⟩
  cases m with
  | zero =>
    simp [F.f73_l1]
    rw [partialIns] at r1
    subst r1
    exact hQ _ s1
  | succ m =>
    have hms : ((5 - (m + 1) : Nat) : Int) < 5 := by omega
    have hmi : binInt .add (vi ((5 - (m + 1) : Nat) : Int)) (.int .i64 1) = some (vi ((5 - m : Nat) : Int)) := by
      rw [i64_succ _ (by omega)]; congr 3; omega
    have hX : ∀ (i : Nat) (d2 : Array (List UInt8)) H2, SortTo H b str tail f d2 H2 → d2.size = n → R = partialIns Op.bytesLess a e m i d2 → a + 1 ≤ i → i ≤ e → X [slc b 0 n c, vi a, vi e, vi i, vi ((5 - m : Nat) : Int)] H2 := fun i d2 H2 q1 q2 q3 q4 q5 => hX m (by omega) _ _ ⟨i, d2, rfl, q1, q2, q3, q4, q5, by omega⟩
    generalize hk : 5 - (m + 1) = k at *
    generalize hk' : 5 - m = k' at *
    simp [F.f73_l1, hms]
    rw [partialIns_succ] at r1
    obtain ⟨I, hI⟩ : ∃ I, I = scanSorted Op.bytesLess d1 e i0 := ⟨_, rfl⟩
    rw [← hI] at r1
    refine LoopL.ind (fun m l H' => H1 = H' ∧ ∃ i' : Nat, l = [slc b 0 n c, vi a, vi e, vi i', vi k] ∧ I = scanSorted Op.bytesLess d1 e i' ∧ a + 1 ≤ i' ∧ i' ≤ e ∧ m = e - i') ?_ (e - i0) ⟨rfl, i0, rfl, hI, hi1, hi2, rfl⟩
    rintro mm _ _ X1 hX1 ⟨rfl, i', rfl, r2, hi3, hi4, rfl⟩
    rw [scanSorted] at r2
    have b2 := i64_sub_nat e a (by omega) (by omega)
    have b2' : binInt .sub (vi e) (vi a) = some (vi ((e - a : Nat) : Int)) := b2
    have exit : I = i' →
        (opt (binInt .eql (vi i') (vi e)) fun v15 =>
         ifB v15 (Q (.bool true) H1) (
         opt (binInt .sub (vi e) (vi a)) fun v16 =>
         opt (binInt .lss v16 (.int .i64 50)) fun v17 =>
         ifB v17 (Q (.bool false) H1) (
         opt (binInt .sub (vi i') (.int .i64 1)) fun v18 =>
         opt (binInt .sub (vi i') (.int .i64 1)) fun v19 =>
         opt (ixSlc 1 (slc b 0 n c) v19) fun v20 =>
         opt (load1 v20 H1) fun v21 =>
         opt (ixSlc 1 (slc b 0 n c) (vi i')) fun v22 =>
         opt (load1 v22 H1) fun v23 =>
         opt (ixSlc 1 (slc b 0 n c) (vi i')) fun v24 =>
         opt (store1 v24 v21 H1) fun H12 =>
         opt (ixSlc 1 (slc b 0 n c) v18) fun v25 =>
         opt (store1 v25 v23 H12) fun H13 =>
         opt (binInt .sub (vi i') (vi a)) fun v26 =>
         opt (binInt .geq v26 (.int .i64 2)) fun v27 =>
         ifB v27 (
         opt (binInt .sub (vi i') (.int .i64 1)) fun v28 =>
         LoopL (fun l H X1 => F.f73_l4 E Q X (nth l 0) (nth l 1) (nth l 2) (nth l 3) (nth l 4) (nth l 5) H X1) [slc b 0 n c, vi a, vi e, vi i', vi k, v28] H13) (
         F.f73_j1 E Q X (slc b 0 n c) (vi a) (vi e) (vi i') (vi k) H13)))) := by
      rintro rfl
      clear hX1
      by_cases c1 : I = e
      · rw [if_pos c1] at r1
        subst r1
        simp [c1]
        exact hQ _ s1
      rw [if_neg c1] at r1
      have c1' : ¬ (I : Int) = e := by omega
      by_cases c2 : e - a < 50
      · rw [if_pos c2] at r1
        subst r1
        have c2' : ((e - a : Nat) : Int) < 50 := by omega
        generalize e - a = w at *
        simp [c1', b2', c2']
        exact hQ _ s1
      rw [if_neg c2] at r1
      have c2' : ¬ ((e - a : Nat) : Int) < 50 := by omega
      have b3 := i64_dec I (by omega) (by omega)
      have b4 := i64_sub_nat I a (by omega) (by omega)
      have b4' : binInt .sub (vi I) (vi a) = some (vi ((I - a : Nat) : Int)) := b4
      have f1 := arr_ix (b := b) (c := c) (n := n) (i := I) (by omega)
      have f2 := arr_ix (b := b) (c := c) (n := n) (i := I - 1) (by omega)
      have g1 := arr_load s1.get (i := I) (by omega)
      have g2 := arr_load s1.get (i := I - 1) (by omega)
      obtain ⟨w1, w2⟩ := arr_swap enc_string_plain s1.get (i := I) (j := I - 1) (by omega) (by omega)
      have s2 := s1.put (swp d1 I (I - 1))
      have n2 : (swp d1 I (I - 1)).size = n := by rw [size_swp]; exact n1
      have hkk : binInt .add (vi k) (.int .i64 1) = some (vi k') := hmi
      have j1 : ∀ (d3 : Array (List UInt8)) H3, SortTo H b str tail f d3 H3 → d3.size = n → R = partialIns Op.bytesLess a e m I (fixUp Op.bytesLess e I d3) → F.f73_j1 E Q X (slc b 0 n c) (vi a) (vi e) (vi I) (vi k) H3 := by
        intro d3 H3 s3 n3 r3
        unfold fixUp at r3
        have b5 := i64_sub_nat e I (by omega) (by omega)
        have b5' : binInt .sub (vi e) (vi I) = some (vi ((e - I : Nat) : Int)) := b5
        by_cases c3 : e - I ≥ 2
        · rw [if_pos c3] at r3
          have c3' : (2 : Int) ≤ ((e - I : Nat) : Int) := by omega
          have b6 := i64_succ I (by omega)
          generalize hw : e - I = w at *
          simp [F.f73_j1, b5', c3', b6]
          obtain ⟨D, hD⟩ : ∃ D, D = shiftUp Op.bytesLess e (I + 1) d3 := ⟨_, rfl⟩
          rw [← hD] at r3
          refine LoopL.ind (fun mm l H' => ∃ (q : Nat) (d4 : Array (List UInt8)), l = [slc b 0 n c, vi a, vi e, vi I, vi k, vi q] ∧ SortTo H b str tail f d4 H' ∧ d4.size = n ∧ D = shiftUp Op.bytesLess e q d4 ∧ 1 ≤ q ∧ q ≤ e ∧ mm = e - q) ?_ (e - (I + 1)) ⟨I + 1, d3, by simp, s3, n3, hD, by omega, by omega, rfl⟩
          rintro mm _ H4 X5 hX5 ⟨q, d4, rfl, s4, n4, r4, hq1, hq2, rfl⟩
          rw [shiftUp] at r4
          have done : D = d4 → X [slc b 0 n c, vi a, vi e, vi I, vi k'] H4 := by
            rintro rfl
            exact hX I D H4 s4 n4 r3 hi3 (by omega)
          by_cases c4 : q < e
          · have c4' : (q : Int) < e := by omega
            rw [if_pos c4] at r4
            have b7 := i64_dec q (by omega) (by omega)
            have b8 := i64_succ q (by omega)
            have f1 := arr_ix (b := b) (c := c) (n := n) (i := q) (by omega)
            have f2 := arr_ix (b := b) (c := c) (n := n) (i := q - 1) (by omega)
            have g1 := arr_load s4.get (i := q) (by omega)
            have g2 := arr_load s4.get (i := q - 1) (by omega)
            obtain ⟨w1, w2⟩ := arr_swap enc_string_plain s4.get (i := q) (j := q - 1) (by omega) (by omega)
            have hY := fun (d5 : Array (List UInt8)) H5 q1 q2 q3 => hX5 (e - (q + 1)) (by omega) [slc b 0 n c, vi a, vi e, vi I, vi k, vi ((q + 1 : Nat) : Int)] H5 ⟨q + 1, d5, rfl, q1, q2, q3, by omega, by omega, rfl⟩
            generalize hq' : q - 1 = q' at *
            generalize hq'' : q + 1 = q'' at *
            simp [-store1_ptr, -load1_ptr, F.f73_l3, c4', b7, f1, f2, g1, g2]
            refine S.f1 hE _ _ ?_
            by_cases hl : Op.bytesLess d4[q]! d4[q']! = true
            · simp only [hl, Bool.not_true, Bool.false_eq_true, if_false] at r4
              simp [-store1_ptr, -load1_ptr, hl, b7, b8, f1, f2, g1, g2, w1, w2]
              exact hY _ _ (s4.put _) (by rw [size_swp]; exact n4) r4
            · have hl : Op.bytesLess d4[q]! d4[q']! = false := by simpa using hl
              simp only [hl, Bool.not_false, if_true] at r4
              simp [hl, hkk]
              exact done r4
          · have c4' : ¬ (q : Int) < e := by omega
            rw [if_neg c4] at r4
            simp [F.f73_l3, c4', hkk]
            exact done r4
        · rw [if_neg c3] at r3
          have c3' : ¬ (2 : Int) ≤ ((e - I : Nat) : Int) := by omega
          generalize hw : e - I = w at *
          simp [F.f73_j1, b5', c3', hkk]
          exact hX I d3 H3 s3 n3 r3 hi3 hi4
      unfold fixDown at r1
      by_cases c3 : I - a ≥ 2
      · rw [if_pos c3] at r1
        have c3' : (2 : Int) ≤ ((I - a : Nat) : Int) := by omega
        obtain ⟨D, hD⟩ : ∃ D, D = shiftDown Op.bytesLess (I - 1) (swp d1 I (I - 1)) := ⟨_, rfl⟩
        rw [← hD] at r1
        have goal4 : LoopL (fun l H X1 => F.f73_l4 E Q X (nth l 0) (nth l 1) (nth l 2) (nth l 3) (nth l 4) (nth l 5) H X1) [slc b 0 n c, vi a, vi e, vi I, vi k, vi ((I - 1 : Nat) : Int)] (H1.put b (arrO str (swp d1 I (I - 1)) tail f)) := by
          refine LoopL.ind (fun mm l H' => ∃ (q : Nat) (d4 : Array (List UInt8)), l = [slc b 0 n c, vi a, vi e, vi I, vi k, vi q] ∧ SortTo H b str tail f d4 H' ∧ d4.size = n ∧ D = shiftDown Op.bytesLess q d4 ∧ q < n ∧ mm = q) ?_ (I - 1) ⟨I - 1, _, rfl, s2, n2, hD, by omega, rfl⟩
          rintro mm _ H4 X5 hX5 ⟨q, d4, rfl, s4, n4, r4, hq1, rfl⟩
          cases mm with
          | zero =>
            simp [F.f73_l4]
            rw [shiftDown] at r4
            subst r4
            exact j1 _ _ s4 n4 r1
          | succ q =>
            have c4' : (1 : Int) ≤ ((q + 1 : Nat) : Int) := by omega
            rw [shiftDown] at r4
            have b7 : binInt .sub (vi ((q + 1 : Nat) : Int)) (.int .i64 1) = some (vi (q : Int)) := i64_dec (q + 1) (by omega) (by omega)
            have f1 := arr_ix (b := b) (c := c) (n := n) (i := q + 1) (by omega)
            have f2 := arr_ix (b := b) (c := c) (n := n) (i := q) (by omega)
            have g1 := arr_load s4.get (i := q + 1) (by omega)
            have g2 := arr_load s4.get (i := q) (by omega)
            obtain ⟨w1, w2⟩ := arr_swap enc_string_plain s4.get (i := q + 1) (j := q) (by omega) (by omega)
            have hY := fun (d5 : Array (List UInt8)) H5 q1 q2 q3 => hX5 q (by omega) [slc b 0 n c, vi a, vi e, vi I, vi k, vi (q : Int)] H5 ⟨q, d5, rfl, q1, q2, q3, by omega, rfl⟩
            generalize hq' : q + 1 = q' at *
            simp [-store1_ptr, -load1_ptr, F.f73_l4, c4', b7, f1, f2, g1, g2]
            refine S.f1 hE _ _ ?_
            by_cases hl : Op.bytesLess d4[q']! d4[q]! = true
            · simp only [hl, Bool.not_true, Bool.false_eq_true, if_false] at r4
              simp [-store1_ptr, -load1_ptr, hl, b7, f1, f2, g1, g2, w1, w2]
              exact hY _ _ (s4.put _) (by rw [size_swp]; exact n4) r4
            · have hl : Op.bytesLess d4[q']! d4[q]! = false := by simpa using hl
              simp only [hl, Bool.not_false, if_true] at r4
              simp [hl]
              subst r4
              exact j1 _ _ s4 n4 r1
        generalize hI' : I - 1 = I' at *
        generalize hw : e - a = w at *
        generalize hw2 : I - a = w2' at *
        simp [-store1_ptr, -load1_ptr, c1', b2', c2', b3, b4', f1, f2, g1, g2, w1, w2, c3']
        exact goal4
      · rw [if_neg c3] at r1
        have c3' : ¬ (2 : Int) ≤ ((I - a : Nat) : Int) := by omega
        have := j1 _ _ s2 n2 r1
        generalize hI' : I - 1 = I' at *
        generalize hw : e - a = w at *
        generalize hw2 : I - a = w2' at *
        simp [-store1_ptr, -load1_ptr, c1', b2', c2', b3, b4', f1, f2, g1, g2, w1, w2, c3']
        exact this
    have b7 := i64_succ i' (by omega)
    by_cases c4 : i' < e
    · have c4' : (i' : Int) < e := by omega
      have b6 := i64_dec i' (by omega) (by omega)
      have f1 := arr_ix (b := b) (c := c) (n := n) (i := i') (by omega)
      have f2 := arr_ix (b := b) (c := c) (n := n) (i := i' - 1) (by omega)
      have g1 := arr_load s1.get (i := i') (by omega)
      have g2 := arr_load s1.get (i := i' - 1) (by omega)
      by_cases hl : Op.bytesLess d1[i']! d1[i' - 1]! = true
      · rw [if_neg (by simp [hl])] at r2
        have := exit r2
        clear exit hX1
        generalize hI' : i' - 1 = I' at *
        simp [-store1_ptr, -load1_ptr, F.f73_l2, c4', b6, f1, f2, g1, g2]
        refine S.f1 hE _ _ ?_
        simp only [hl]
        simp only [un_not_z, Bool.not_true, tk_eq, opt_some, gd_tt, pick_true_z, ifB_false]
        exact this
      · have hl : Op.bytesLess d1[i']! d1[i' - 1]! = false := by simpa using hl
        rw [if_pos (by simp [hl, c4])] at r2
        clear exit
        have hX1 := hX1 (e - (i' + 1)) (by omega) [slc b 0 n c, vi a, vi e, vi ((i' + 1 : Nat) : Int), vi k] H1 ⟨rfl, i' + 1, rfl, r2, by omega, by omega, rfl⟩
        generalize hI' : i' - 1 = I' at *
        generalize hI'' : i' + 1 = I'' at *
        simp [-store1_ptr, -load1_ptr, F.f73_l2, c4', b6, f1, f2, g1, g2]
        refine S.f1 hE _ _ ?_
        simp [hl, b7]
        exact hX1
    · have c4' : ¬ (i' : Int) < e := by omega
      rw [if_neg (by simp [c4])] at r2
      have := exit r2
      clear exit hX1
      simp only [F.f73_l2, nth_0, nth_1, nth_2, nth_3, nth_4, i64_lss, c4', decide_false, tk_eq, opt_some, gd_ft, pick_false_z, ifB_false]
      exact this
theorem S.f71 (hE : Fold E) (hg : H.get b = arrO str d tail f) (hn : d.size = n) (p q : Nat) (hp : p < n) (hq : q < n) (s k : Nat) (hs : H.get s = .cells [vi k] none) (hk : k < 1000) (hsb : s ≠ b)
    (hQ : ∀ r1 r2 k' H', ((r1 = p ∧ r2 = q) ∨ (r1 = q ∧ r2 = p)) → Only [s] H H' → H'.get s = .cells [vi (k' : Nat)] none → k' ≤ k + 1 → Q (.tuple #[vi (r1 : Nat), vi (r2 : Nat)]) H') :
    E.call (E.fid i.f71) [slc b 0 n c, vi p, vi q, ptr s 0] H Q := by
  apply hE.f71
  have f1 := arr_ix (b := b) (c := c) (n := n) (i := p) hp
  have f2 := arr_ix (b := b) (c := c) (n := n) (i := q) hq
  have g1 := arr_load hg (i := p) (by omega)
  have g2 := arr_load hg (i := q) (by omega)
  have hlt := AH.lt_cells hs
  have b1 := i64_succ k (by omega)
  simp [-load1_ptr, F.f71, f1, f2, g1, g2]
  refine S.f1 hE _ _ ?_
  by_cases hl : Op.bytesLess d[q]! d[p]! = true
  · simp only [hl, ifB_true, nilCk_p, load1_ptr, hs, cell_cells_z, List.getElem?_cons_zero, tk_eq, opt_some, b1, store1_ptr, plain1_int, if_true, List.length_cons, List.length_nil, List.set_cons_zero]
    rw [if_pos (by omega), opt_some]
    exact hQ q p (k + 1) _ (.inr ⟨rfl, rfl⟩) ((Only.refl _ _).put (.inl (by simp)) _) (AH.get_put_self _ _ hlt) (Nat.le_refl _)
  · simp [hl]
    exact hQ p q k _ (.inl ⟨rfl, rfl⟩) (Only.refl _ _) hs (by omega)
theorem S.f68 (hE : Fold E) (hg : H.get b = arrO str d tail f) (hn : d.size = n) (p q r : Nat) (hp : p < n) (hq : q < n) (hr : r < n) (s k : Nat) (hs : H.get s = .cells [vi k] none) (hk : k < 900) (hsb : s ≠ b)
    (hQ : ∀ m k' H', (m = p ∨ m = q ∨ m = r) → Only [s] H H' → H'.get s = .cells [vi (k' : Nat)] none → k' ≤ k + 3 → Q (vi (m : Nat)) H') :
    E.call (E.fid i.f68) [slc b 0 n c, vi p, vi q, vi r, ptr s 0] H Q := by
  apply hE.f68
  have keep : ∀ {H'}, Only [s] H H' → H'.get b = arrO str d tail f := fun o => by rw [o.get (arr_lt hg) (by simpa using Ne.symm hsb)]; exact hg
  simp only [F.f68]
  refine S.f71 hE hg hn p q hp hq s k hs (by omega) hsb fun a1 a2 k1 H1 e1 o1 s1 l1 => ?_
  simp
  refine S.f71 hE (keep o1) hn a2 r (by omega) hr s k1 s1 (by omega) hsb fun a3 a4 k2 H2 e2 o2 s2 l2 => ?_
  have o12 := o1.trans' o2
  simp
  refine S.f71 hE (keep o12) hn a1 a3 (by omega) (by omega) s k2 s2 (by omega) hsb fun a5 a6 k3 H3 e3 o3 s3 l3 => ?_
  simp
  exact hQ a6 k3 H3 (by omega) (o12.trans' o3) s3 (by omega)
theorem S.f66 (hE : Fold E) (hg : H.get b = arrO str d tail f) (hn : d.size = n) (hsz : n < 2 ^ 60) (p : Nat) (hp0 : 1 ≤ p) (hp : p + 1 < n) (s k : Nat) (hs : H.get s = .cells [vi k] none) (hk : k < 900) (hsb : s ≠ b)
    (hQ : ∀ m k' H', (p - 1 ≤ m ∧ m ≤ p + 1) → Only [s] H H' → H'.get s = .cells [vi (k' : Nat)] none → k' ≤ k + 3 → Q (vi (m : Nat)) H') :
    E.call (E.fid i.f66) [slc b 0 n c, vi p, ptr s 0] H Q := by
  apply hE.f66
  have b1 := i64_dec p hp0 (by omega)
  have b2 := i64_succ p (by omega)
  simp only [F.f66, b1, b2, tk_eq, opt_some]
  refine S.f68 hE hg hn (p - 1) p (p + 1) (by omega) (by omega) hp s k hs hk hsb fun m k' H' e1 o1 s1 l1 => hQ m k' H' (by omega) o1 s1 l1
theorem S.f60 (hE : Fold E) (hg : H.get b = arrO str d tail f) (hn : d.size = n) (hsz : n < 2 ^ 60) (a e : Nat) (hae : a + 8 ≤ e) (he : e ≤ n)
    (hQ : ∀ (m : Nat) (h : Int) H', a ≤ m → m < e → Ext H H' → Q (.tuple #[vi m, vi h]) H') : E.call (E.fid i.f60) [slc b 0 n c, vi a, vi e] H Q := by
  apply hE.f60
  have a1 : binInt .sub (vi e) (vi a) = some (vi ((e - a : Nat) : Int)) := i64_sub_nat e a (by omega) (by omega)
  have hbl := arr_lt hg
  generalize hw : e - a = w at *
  have a2 : binInt .quo (vi (w : Int)) (.int .i64 4) = some (vi ((w / 4 : Nat) : Int)) := i64_quo_num w 4 (by decide) (by omega)
  have hq4 : w / 4 * 4 ≤ w := Nat.div_mul_le_self _ _
  have hq4' : 1 ≤ w / 4 := by omega
  have hq50 : 50 ≤ w → 12 ≤ w / 4 := fun h => by omega
  generalize hq : w / 4 = q at *
  have m1 : binInt .mul (vi (q : Int)) (.int .i64 1) = some (vi ((q * 1 : Nat) : Int)) := by rw [i64_mul (by omega) (by omega)]; congr 2
  have m2 : binInt .mul (vi (q : Int)) (.int .i64 2) = some (vi ((q * 2 : Nat) : Int)) := by rw [i64_mul (by omega) (by omega)]; congr 2
  have m3 : binInt .mul (vi (q : Int)) (.int .i64 3) = some (vi ((q * 3 : Nat) : Int)) := by rw [i64_mul (by omega) (by omega)]; congr 2
  have p1 := i64_add_nat a (q * 1) (by omega)
  have p2 := i64_add_nat a (q * 2) (by omega)
  have p3 := i64_add_nat a (q * 3) (by omega)
  have c8 : (8 : Int) ≤ w := by omega
  have hg1 : (H.new (.cells [vi 0] none)).get b = arrO str d tail f := by rw [AH.get_new_lt _ _ hbl]; exact hg
  have hs1 : (H.new (.cells [vi 0] none)).get H.next = .cells [vi ((0 : Nat) : Int)] none := AH.get_new_self _ _
  have hsb : H.next ≠ b := by omega
  have x1 : Ext H (H.new (.cells [vi 0] none)) := (Ext.refl H).new _
  have ext_of : ∀ {H'}, Only [H.next] (H.new (.cells [vi 0] none)) H' → Ext H H' := fun o => o.ext x1 (by simp)
  have keep : ∀ {H'}, Only [H.next] (H.new (.cells [vi 0] none)) H' → H'.get b = arrO str d tail f := fun o => by rw [o.get (arr_lt hg1) (by simpa using Ne.symm hsb)]; exact hg1
  have last : ∀ (m k : Nat) H', a ≤ m → m < e → Ext H H' → H'.get H.next = .cells [vi (k : Nat)] none → F.f60_j1 E Q (ptr H.next 0) (vi m) H' := by
    intro m k H' h1 h2 e1 s1
    by_cases k0 : (k : Int) = 0
    · simp [F.f60_j1, s1, k0]
      exact hQ m _ H' h1 h2 e1
    · by_cases k12 : (k : Int) = 12
      · simp [F.f60_j1, s1, k12]
        exact hQ m _ H' h1 h2 e1
      · have k0' : ¬ k = 0 := by omega
        simp [F.f60_j1, s1, k0', k12]
        exact hQ m _ H' h1 h2 e1
  have last2 : ∀ (x y z k : Nat) H', a ≤ x → x < e → a ≤ y → y < e → a ≤ z → z < e → Only [H.next] (H.new (.cells [vi 0] none)) H' → H'.get H.next = .cells [vi (k : Nat)] none → k < 900 → F.f60_j2 E Q (slc b 0 n c) (ptr H.next 0) (vi x) (vi y) (vi z) H' := by
    intro x y z k H' h1 h2 h3 h4 h5 h6 o1 s1 hk
    simp only [F.f60_j2]
    refine S.f68 hE (keep o1) hn x y z (by omega) (by omega) (by omega) H.next k s1 hk hsb fun m k' H2 hm o2 s2 _ => ?_
    exact last m k' H2 (by omega) (by omega) (ext_of (o1.trans' o2)) s2
  by_cases c50 : 50 ≤ w
  · have c50' : (50 : Int) ≤ w := by omega
    have hq50 := hq50 c50
    have g1 : a + 1 ≤ a + q * 1 ∧ a + q * 1 + 1 < e := by omega
    have g2 : a + 1 ≤ a + q * 2 ∧ a + q * 2 + 1 < e := by omega
    have g3 : a + 1 ≤ a + q * 3 ∧ a + q * 3 + 1 < e := by omega
    generalize hx : a + q * 1 = x at *
    generalize hy : a + q * 2 = y at *
    generalize hz : a + q * 3 = z at *
    generalize q * 1 = q1 at *
    generalize q * 2 = q2 at *
    generalize q * 3 = q3 at *
    simp [F.f60, a1, a2, m1, m2, m3, p1, p2, p3, c8, c50']
    refine S.f66 hE hg1 hn hsz x (by omega) (by omega) H.next 0 hs1 (by omega) hsb fun r1 k1 H1 e1 o1 s1 l1 => ?_
    refine S.f66 hE (keep o1) hn hsz y (by omega) (by omega) H.next k1 s1 (by omega) hsb fun r2 k2 H2 e2 o2 s2 l2 => ?_
    refine S.f66 hE (keep (o1.trans' o2)) hn hsz z (by omega) (by omega) H.next k2 s2 (by omega) hsb fun r3 k3 H3 e3 o3 s3 l3 => ?_
    exact last2 r1 r2 r3 k3 H3 (by omega) (by omega) (by omega) (by omega) (by omega) (by omega) ((o1.trans' o2).trans' o3) s3 (by omega)
  · have c50' : ¬ (50 : Int) ≤ w := by omega
    have g1 : a + q * 1 < e := by omega
    have g2 : a + q * 2 < e := by omega
    have g3 : a + q * 3 < e := by omega
    have g0 : a ≤ a + q * 1 ∧ a ≤ a + q * 2 ∧ a ≤ a + q * 3 := by omega
    generalize hx : a + q * 1 = x at *
    generalize hy : a + q * 2 = y at *
    generalize hz : a + q * 3 = z at *
    generalize q * 1 = q1 at *
    generalize q * 2 = q2 at *
    generalize q * 3 = q3 at *
    simp [F.f60, a1, a2, m1, m2, m3, p1, p2, p3, c8, c50']
    exact last2 x y z 0 _ g0.1 g1 g0.2.1 g2 g0.2.2 g3 (Only.refl _ _) hs1 (by omega)
theorem S.f58 (hE : Fold E) (hg : H.get b = arrO str d tail f) (hn : d.size = n) (hsz : n < 2 ^ 31) (a e : Nat) (hae : a + 8 ≤ e) (he : e ≤ n)
    (hQ : ∀ d' H', PermIn a e d d' → SortTo H b str tail f d' H' → Q (.tuple #[]) H') : E.call (E.fid i.f58) [slc b 0 n c, vi a, vi e] H Q := by
  apply hE.f58
  have a1 : binInt .sub (vi e) (vi a) = some (vi ((e - a : Nat) : Int)) := i64_sub_nat e a (by omega) (by omega)
  have hbl := arr_lt hg
  generalize hw : e - a = w at *
  have a2 : binInt .quo (vi (w : Int)) (.int .i64 4) = some (vi ((w / 4 : Nat) : Int)) := i64_quo_num w 4 (by decide) (by omega)
  have hq4 : w / 4 * 4 ≤ w := Nat.div_mul_le_self _ _
  have hq4' : 2 ≤ w / 4 := by omega
  generalize hq : w / 4 = q at *
  have m2 : binInt .mul (vi (q : Int)) (.int .i64 2) = some (vi ((q * 2 : Nat) : Int)) := by rw [i64_mul (by omega) (by omega)]; congr 2
  have p2 := i64_add_nat a (q * 2) (by omega)
  have p3 := i64_dec (a + q * 2) (by omega) (by omega)
  have p4 := i64_succ (a + q * 2) (by omega)
  have c8 : (8 : Int) ≤ w := by omega
  have hc : convInt .u64 (vi (w : Int)) = some (u64 (BitVec.ofNat 64 w)) := by rw [i64_to_u64, BitVec.ofInt_natCast]
  have hm2 : 2 ^ bitsLen w ≤ 2 * w := two_pow_bitsLen_le (by omega)
  have hm1 := Nat.two_pow_pos (bitsLen w)
  generalize hM : 2 ^ bitsLen w = M at *
  have gx : a + 1 ≤ a + q * 2 ∧ a + q * 2 + 1 < e := by omega
  generalize hx : a + q * 2 = x at *
  generalize q * 2 = q2 at *
  have x1 : Ext H (H.new (.cells [u64 (BitVec.ofNat 64 w)] none)) := (Ext.refl H).new _
  simp [F.f58, a1, a2, m2, p2, p3, c8, hc]
  refine S.f69 hE w (by omega) ?_
  rw [hM]
  simp [a2, m2, p2, p3]
  refine LoopL.ind (fun m l H' => ∃ (j : Nat) (d1 : Array (List UInt8)) (y : BitVec 64), l = [slc b 0 n c, vi a, vi w, ptr H.next 0, u64 (BitVec.ofNat 64 M), vi j] ∧ SortTo H b str tail f d1 H' ∧ d1.size = n ∧ PermIn a e d d1 ∧ H'.get H.next = .cells [u64 y] none ∧ a ≤ j ∧ j ≤ x + 2 ∧ m = x + 2 - j) ?_ (x + 2 - (x - 1))
    ⟨x - 1, d, _, by simp, ⟨x1.only, by rw [AH.get_new_lt _ _ hbl]; exact hg⟩, hn, permIn_refl _ _ _, AH.get_new_self _ _, by omega, by omega, rfl⟩
  rintro m _ H1 X hX ⟨j, d1, y, rfl, s1, n1, pp, hb1, hj1, hj2, rfl⟩
  by_cases cj : j ≤ x + 1
  · have cj' : (j : Int) ≤ ((x + 1 : Nat) : Int) := by omega
    have pj := i64_succ j (by omega)
    have fin : ∀ (o : Nat) (y' : BitVec 64), o < w → F.f58_j1 E Q X (slc b 0 n c) (vi a) (vi w) (ptr H.next 0) (u64 (BitVec.ofNat 64 M)) (vi j) (vi o) (H1.put H.next (.cells [u64 y'] none)) := by
      intro o y' ho
      have hnb : b ≠ H.next := by omega
      have s2 : SortTo H b str tail f d1 (H1.put H.next (.cells [u64 y'] none)) := ⟨s1.only.put (.inr (Nat.le_refl _)) _, by rw [AH.get_put_ne _ _ hnb]; exact s1.get⟩
      have pa := i64_add_nat a o (by omega)
      have f1 := arr_ix (b := b) (c := c) (n := n) (i := j) (by omega)
      have f2 := arr_ix (b := b) (c := c) (n := n) (i := a + o) (by omega)
      have g1 := arr_load s2.get (i := j) (by omega)
      have g2 := arr_load s2.get (i := a + o) (by omega)
      obtain ⟨w1, w2⟩ := arr_swap enc_string_plain s2.get (i := j) (j := a + o) (by omega) (by omega)
      have hpp := swp_permIn d1 a e j (a + o) hj1 (by omega) (by omega) (by omega) (by omega)
      have hX := hX (x + 2 - (j + 1)) (by omega) [slc b 0 n c, vi a, vi w, ptr H.next 0, u64 (BitVec.ofNat 64 M), vi ((j + 1 : Nat) : Int)] _ ⟨j + 1, _, y', rfl, s2.put (swp d1 j (a + o)), by rw [size_swp]; exact n1, permIn_trans _ _ _ _ _ pp hpp, by rw [AH.get_put_ne _ _ (Ne.symm hnb), AH.get_put_self _ _ (AH.lt_cells hb1)], by omega, by omega, rfl⟩
      generalize a + o = ao at *
      generalize hj'' : j + 1 = j' at *
      simp [-store1_ptr, -load1_ptr, F.f58_j1, pa, f1, f2, g1, g2, w1, w2, pj]
      exact hX
    generalize hx1 : x + 1 = x' at *
    simp [F.f58_l1, a2, m2, p2, p4, cj']
    refine S.f84 hE H.next y hb1 fun y' => ?_
    have l1 : (.int .u64 1 : Value) = u64 1#64 := rfl
    have hsub : BitVec.ofNat 64 M - 1#64 = BitVec.ofNat 64 (M - 1) := by
      apply BitVec.eq_of_toNat_eq
      rw [BitVec.toNat_sub, BitVec.toNat_ofNat, BitVec.toNat_ofNat, BitVec.toNat_ofNat]
      omega
    have hand : (y' &&& BitVec.ofNat 64 (M - 1)).toNat ≤ M - 1 := by
      rw [BitVec.toNat_and]
      refine Nat.le_trans Nat.and_le_right ?_
      rw [BitVec.toNat_ofNat]
      exact Nat.mod_le _ _
    have hcv : ∀ z : BitVec 64, z.toNat < 2 ^ 62 → convInt .i64 (u64 z) = some (vi (z.toNat : Int)) := by
      intro z hz
      rw [u64_def, convInt_int, wrap_i64 (by omega) (by omega)]
    have hcv' := hcv _ (by omega : (y' &&& BitVec.ofNat 64 (M - 1)).toNat < 2 ^ 62)
    simp only [l1, u64_sub, hsub, u64_and, hcv', tk_eq, opt_some, i64_geq, nth_0, nth_1, nth_2, nth_3, nth_4, nth_5]
    generalize (y' &&& BitVec.ofNat 64 (M - 1)).toNat = o at *
    by_cases co : w ≤ o
    · have co' : (w : Int) ≤ o := by omega
      have hs : binInt .sub (vi (o : Int)) (vi (w : Int)) = some (vi ((o - w : Nat) : Int)) := i64_sub_nat o w co (by omega)
      simp only [co', decide_true, ifB_true, hs, tk_eq, opt_some, nth_0, nth_1, nth_2, nth_3, nth_4, nth_5]
      exact fin (o - w) y' (by omega)
    · have co' : ¬ (w : Int) ≤ o := by omega
      simp only [co', decide_false, ifB_false, nth_0, nth_1, nth_2, nth_3, nth_4, nth_5]
      exact fin o y' (by omega)
  · have cj' : ¬ (j : Int) ≤ ((x + 1 : Nat) : Int) := by omega
    generalize hx1 : x + 1 = x' at *
    simp [F.f58_l1, a2, m2, p2, p4, cj']
    exact hQ d1 H1 pp s1
theorem S.f79 (hE : Fold E) (hS : SWO Op.bytesLess) : ∀ (w : Nat) {H : AH} {Q : Value → AH → Prop} {d : Array (List UInt8)} (_ : H.get b = arrO str d tail f) (_ : d.size = n) (_ : n < 2 ^ 31) (a e : Nat) (_ : a ≤ e) (_ : e ≤ n) (limit : Nat) (_ : limit < 2 ^ 60) (_ : Go.Sort.Below Op.bytesLess a e d) (_ : e - a ≤ w)
    (_ : ∀ d' H', PermIn a e d d' → SortedIn Op.bytesLess a e d' → SortTo H b str tail f d' H' → Q (.tuple #[]) H'), E.call (E.fid i.f79) [slc b 0 n c, vi a, vi e, vi limit] H Q := by
  intro w
  induction w using Nat.strongRecOn with
  | _ w ih =>
  intro H Q d hg hn hsz a0 e0 hae0 he0 limit0 hlim0 hB0 hw hQ
  apply hE.f79
  simp only [F.f79]
  refine LoopL.ind (fun m l H' => ∃ (a e limit : Nat) (wb wp : Bool) (d1 : Array (List UInt8)), l = [slc b 0 n c, vi a, vi e, vi limit, vb wb, vb wp] ∧ SortTo H b str tail f d1 H' ∧ d1.size = n ∧ a ≤ e ∧ e ≤ n ∧ limit < 2 ^ 60 ∧ e - a ≤ w ∧ Go.Sort.Below Op.bytesLess a e d1 ∧
      (∀ R, PermIn a e d1 R → SortedIn Op.bytesLess a e R → PermIn a0 e0 d R ∧ SortedIn Op.bytesLess a0 e0 R) ∧ m = e - a) ?_ (e0 - a0) ⟨a0, e0, limit0, true, true, d, rfl, .refl hg, hn, hae0, he0, hlim0, hw, hB0, fun R h1 h2 => ⟨h1, h2⟩, rfl⟩
  rintro m _ H1 X hX ⟨a, e, limit, wb, wp, d1, rfl, s1, n1, hae, hen, hlim, hwe, hB, fin, rfl⟩
  have a1 : binInt .sub (vi e) (vi a) = some (vi ((e - a : Nat) : Int)) := i64_sub_nat e a (by omega) (by omega)
  by_cases c12 : e - a ≤ 12
  · have c12' : ((e - a : Nat) : Int) ≤ 12 := by omega
    generalize hW : e - a = W at *
    simp [F.f79_l1, a1, c12']
    refine S.f64 hE s1.get n1 (by omega) a e hae hen fun H2 s2 => ?_
    obtain ⟨h1, h2⟩ := insertionSort_holds hS d1 a e hae (by omega)
    obtain ⟨h3, h4⟩ := fin _ h1 h2
    exact hQ _ _ h3 h4 (s1.trans s2)
  have c12' : ¬ ((e - a : Nat) : Int) ≤ 12 := by omega
  by_cases c0 : limit = 0
  · subst c0
    generalize hW : e - a = W at *
    simp [F.f79_l1, a1, c12']
    refine S.f62 hE s1.get n1 (by omega) a e (by omega) hen fun H2 s2 => ?_
    obtain ⟨h1, h2⟩ := heapSort_holds hS d1 a e hae (by omega)
    obtain ⟨h3, h4⟩ := fin _ h1 h2
    exact hQ _ _ h3 h4 (s1.trans s2)
  have c0' : ¬ (limit : Int) = 0 := by omega
  have w8 : binInt .quo (vi ((e - a : Nat) : Int)) (.int .i64 8) = some (vi (((e - a) / 8 : Nat) : Int)) := i64_quo_num (e - a) 8 (by decide) (by omega)
  have j3 : ∀ (d3 : Array (List UInt8)) H3 (lim : Nat) (wb wp : Bool) (pv : Nat), SortTo H b str tail f d3 H3 → d3.size = n → PermIn a e d1 d3 → lim < 2 ^ 60 → a ≤ pv → pv < e → F.f79_j3 E Q X (slc b 0 n c) (vi a) (vi e) (vi lim) (vb wb) (vb wp) (vi ((e - a : Nat) : Int)) (vi pv) H3 := by
    intro d3 H3 lim wb wp pv s3 n3 p3 hlim hp1 hp2
    have B3 : Go.Sort.Below Op.bytesLess a e d3 := hB.permA permIn_all (by omega) p3
    have fin3 : ∀ R, PermIn a e d3 R → SortedIn Op.bytesLess a e R → PermIn a0 e0 d R ∧ SortedIn Op.bytesLess a0 e0 R := fun R h1 h2 => fin R (permIn_trans _ _ _ _ _ p3 h1) h2
    have part : ∀ (K : Value → AH → Prop), (K = fun v15 H13 =>
         opt (ext v15 0) fun v16 =>
         opt (ext v15 1) fun v17 =>
         opt (binInt .sub v16 (vi a)) fun v18 =>
         opt (binInt .sub (vi e) v16) fun v19 =>
         opt (binInt .quo (vi ((e - a : Nat) : Int)) (.int .i64 8)) fun v20 =>
         opt (binInt .lss v18 v19) fun v21 =>
         ifB v21 (
         opt (binInt .geq v18 v20) fun v22 =>
         E.call (E.fid i.f79) [slc b 0 n c, vi a, v16, vi lim] H13 fun v23 H14 =>
         opt (binInt .add v16 (.int .i64 1)) fun v24 =>
         X [slc b 0 n c, v24, vi e, vi lim, v22, v17] H14) (
         opt (binInt .geq v19 v20) fun v25 =>
         opt (binInt .add v16 (.int .i64 1)) fun v26 =>
         E.call (E.fid i.f79) [slc b 0 n c, v26, vi e, vi lim] H13 fun v27 H15 =>
         X [slc b 0 n c, vi a, v16, vi lim, v25, v17] H15)) → E.call (E.fid i.f77) [slc b 0 n c, vi a, vi e, vi pv] H3 K := by
      rintro K rfl
      refine S.f77 hE s3.get n3 (by omega) a e pv hp1 hp2 hen fun H4 s4 => ?_
      rcases hx : partition Op.bytesLess d3 a e pv with ⟨mid, ap, d4⟩
      rw [hx] at s4
      obtain ⟨g1, g2, hs4, hBa, hBr, hl, hr⟩ := round_part hS (partition_holds Op.bytesLess) hp1 hp2 (by omega) B3 hx
      have n4 : d4.size = n := by omega
      have s4' := s3.trans s4
      have b1 : binInt .sub (vi mid) (vi a) = some (vi ((mid - a : Nat) : Int)) := i64_sub_nat mid a g1 (by omega)
      have b2 : binInt .sub (vi e) (vi mid) = some (vi ((e - mid : Nat) : Int)) := i64_sub_nat e mid (by omega) (by omega)
      have b3 := i64_succ mid (by omega)
      simp only [tk_eq, ext_tuple, List.getElem?_cons_zero, List.getElem?_cons_succ, opt_some, b1, b2, b3, w8, i64_lss, i64_geq]
      by_cases cl : mid - a < e - mid
      · have cl' : ((mid - a : Nat) : Int) < ((e - mid : Nat) : Int) := by omega
        simp only [cl', decide_true, tk_eq, ifB_true, i64_geq, opt_some]
        refine ih (mid - a) (by omega) s4'.get n4 hsz a mid g1 (by omega) lim hlim hBa (Nat.le_refl _) fun d5 H5 p5 q5 s5 => ?_
        obtain ⟨hBL, hfin⟩ := hl d5 p5 q5
        have n5 : d5.size = n := by rw [p5.1]; exact n4
        simp only [b3, tk_eq, opt_some]
        exact hX (e - (mid + 1)) (by omega) _ _ ⟨mid + 1, e, lim, _, ap, d5, rfl, s4'.trans s5, n5, by omega, hen, hlim, by omega, hBL, fun R h1 h2 => by
          obtain ⟨h3, h4⟩ := hfin R h1 h2
          exact fin3 R h3 h4, rfl⟩
      · have cl' : ¬ ((mid - a : Nat) : Int) < ((e - mid : Nat) : Int) := by omega
        simp only [cl', decide_false, tk_eq, ifB_false, i64_geq, opt_some, b3]
        refine ih (e - (mid + 1)) (by omega) s4'.get n4 hsz (mid + 1) e (by omega) hen lim hlim hBr (Nat.le_refl _) fun d5 H5 p5 q5 s5 => ?_
        obtain ⟨hBL, hfin⟩ := hr d5 p5 q5
        have n5 : d5.size = n := by rw [p5.1]; exact n4
        exact hX (mid - a) (by omega) _ _ ⟨a, mid, lim, _, ap, d5, rfl, s4'.trans s5, n5, g1, by omega, hlim, by omega, hBL, fun R h1 h2 => by
          obtain ⟨h3, h4⟩ := hfin R h1 h2
          exact fin3 R h3 h4, rfl⟩
    by_cases ca : 0 < a
    · have ca' : (0 : Int) < a := by omega
      have b1 := i64_dec a (by omega) (by omega)
      have f1 := arr_ix (b := b) (c := c) (n := n) (i := a - 1) (by omega)
      have f2 := arr_ix (b := b) (c := c) (n := n) (i := pv) (by omega)
      have g1 := arr_load s3.get (i := a - 1) (by omega)
      have g2 := arr_load s3.get (i := pv) (by omega)
      have part := part _ rfl
      by_cases hl : Op.bytesLess d3[a - 1]! d3[pv]! = true
      · generalize hW : e - a = W at *
        generalize hA : a - 1 = a1 at *
        simp [-store1_ptr, -load1_ptr, F.f79_j3, ca', ca, b1, f1, f2, g1, g2]
        refine S.f1 hE _ _ ?_
        simp only [hl]
        simp only [un_not_z, Bool.not_true, tk_eq, opt_some, gd_tt, pick_true_z, ifB_false]
        exact part
      · have hl : Op.bytesLess d3[a - 1]! d3[pv]! = false := by simpa using hl
        clear part
        rcases hx : partitionEqual Op.bytesLess d3 a e pv with ⟨mid, d4⟩
        obtain ⟨g3, g4, hs4, hB4, hfin⟩ := round_eq hS (partitionEqual_holds Op.bytesLess) ca hp1 hp2 (by omega) B3 hl hx
        have hY := fun H4 s4 => hX (e - mid) (by omega) [slc b 0 n c, vi mid, vi e, vi lim, vb wb, vb wp] H4 ⟨mid, e, lim, wb, wp, d4, rfl, s4, by omega, g4, hen, hlim, by omega, hB4, fun R h1 h2 => by
            obtain ⟨h3, h4⟩ := hfin R h1 h2
            exact fin3 R h3 h4, rfl⟩
        generalize hW : e - a = W at *
        generalize hA : a - 1 = a1 at *
        simp [-store1_ptr, -load1_ptr, F.f79_j3, ca', ca, b1, f1, f2, g1, g2]
        refine S.f1 hE _ _ ?_
        simp [hl]
        refine S.f75 hE s3.get n3 (by omega) a e pv hp1 hp2 hen fun H4 s4 => ?_
        rw [hx] at s4 ⊢
        exact hY H4 (s3.trans s4)
    · have ca' : ¬ (0 : Int) < a := by omega
      have part := part _ rfl
      generalize hW : e - a = W at *
      simp only [F.f79_j3, i64_gtr, ca', decide_false, tk_eq, opt_some, gd_ft, pick_false_z, ifB_false]
      exact part
  have j2 : ∀ (d3 : Array (List UInt8)) H3 (lim : Nat) (wb wp : Bool) (pv : Nat) (hint : Int), SortTo H b str tail f d3 H3 → d3.size = n → PermIn a e d1 d3 → lim < 2 ^ 60 → a ≤ pv → pv < e → F.f79_j2 E Q X (slc b 0 n c) (vi a) (vi e) (vi lim) (vb wb) (vb wp) (vi ((e - a : Nat) : Int)) (vi pv) (vi hint) H3 := by
    intro d3 H3 lim wb wp pv hint s3 n3 p3 hlim hp1 hp2
    have B3 : Go.Sort.Below Op.bytesLess a e d3 := hB.permA permIn_all (by omega) p3
    have h3 := j3 d3 H3 lim wb wp pv s3 n3 p3 hlim hp1 hp2
    have try_ : E.call (E.fid i.f73) [slc b 0 n c, vi a, vi e] H3 fun v6 H4 => ifB v6 (Q (.tuple #[]) H4) (F.f79_j3 E Q X (slc b 0 n c) (vi a) (vi e) (vi lim) (vb wb) (vb wp) (vi ((e - a : Nat) : Int)) (vi pv) H4) := by
      refine S.f73 hE s3.get n3 (by omega) a e (by omega) hen fun H4 s4 => ?_
      obtain ⟨q1, q2⟩ := partialInsertionSort_holds hS d3 a e (by omega) (by omega) B3
      cases hb : (partialInsertionSort Op.bytesLess d3 a e).2 with
      | true =>
        obtain ⟨h5, h6⟩ := fin _ (permIn_trans _ _ _ _ _ p3 q1) (q2 hb)
        simp only [ifB_true]
        exact hQ _ _ h5 h6 (s3.trans s4)
      | false =>
        simp only [ifB_false]
        exact j3 _ H4 lim wb wp pv (s3.trans s4) (by rw [q1.1]; exact n3) (permIn_trans _ _ _ _ _ p3 q1) hlim hp1 hp2
    cases wb with
    | false =>
      simp only [F.f79_j2, gd_ft, pick_false_z, tk_eq, opt_some, ifB_false]
      exact h3
    | true =>
      cases wp with
      | false =>
        simp only [F.f79_j2, gd_tt, gd_ft, pick_true_z, pick_false_z, tk_eq, opt_some, ifB_false]
        exact h3
      | true =>
        by_cases ch : hint = 1
        · simp only [F.f79_j2, gd_tt, pick_true_z, tk_eq, opt_some, i64_eql, ch, decide_true, ifB_true]
          exact try_
        · simp only [F.f79_j2, gd_tt, pick_true_z, tk_eq, opt_some, i64_eql, ch, decide_false, ifB_false]
          exact h3
  have j1 : ∀ (d3 : Array (List UInt8)) H3 (lim : Nat) (wb wp : Bool), SortTo H b str tail f d3 H3 → d3.size = n → PermIn a e d1 d3 → lim < 2 ^ 60 → F.f79_j1 E Q X (slc b 0 n c) (vi a) (vi e) (vi lim) (vb wb) (vb wp) (vi ((e - a : Nat) : Int)) H3 := by
    intro d3 H3 lim wb wp s3 n3 p3 hlim
    simp only [F.f79_j1]
    refine S.f60 hE s3.get n3 (by omega) a e (by omega) hen fun pv hint H4 hp1 hp2 e4 => ?_
    have s4 := s3.ext e4
    simp only [tk_eq, ext_tuple, List.getElem?_cons_zero, List.getElem?_cons_succ, opt_some, i64_eql]
    by_cases ch : hint = 2
    · simp only [ch, decide_true, ifB_true]
      refine S.f81 hE s4.get n3 (by omega) a e (by omega) hen fun H5 s5 => ?_
      have q1 := reverseRange_holds d3 a e hae (by omega)
      have b1 := i64_dec e (by omega) (by omega)
      have b2 : binInt .sub (vi pv) (vi a) = some (vi ((pv - a : Nat) : Int)) := i64_sub_nat pv a hp1 (by omega)
      have b3 : binInt .sub (vi ((e - 1 : Nat) : Int)) (vi ((pv - a : Nat) : Int)) = some (vi ((e - 1 - (pv - a) : Nat) : Int)) := i64_sub_nat (e - 1) (pv - a) (by omega) (by omega)
      simp only [b1, b2, b3, tk_eq, opt_some]
      exact j2 _ H5 lim wb wp _ 1 (s4.trans s5) (by rw [q1.1]; exact n3) (permIn_trans _ _ _ _ _ p3 q1) hlim (by omega) (by omega)
    · simp only [ch, decide_false, ifB_false]
      exact j2 d3 H4 lim wb wp pv hint s4 n3 p3 hlim hp1 hp2
  cases wb with
  | true =>
    have := j1 d1 H1 limit true wp s1 n1 (permIn_refl _ _ _) hlim
    generalize hW : e - a = W at *
    simp only [F.f79_l1, nth_0, nth_1, nth_2, nth_3, nth_4, nth_5, a1, c12', c0', i64_leq, i64_eql, decide_false, un_not_z, Bool.not_true, tk_eq, opt_some, ifB_false]
    exact this
  | false =>
    have b1 := i64_dec limit (by omega) (by omega)
    have go := fun d' H' p' s' => j1 d' H' (limit - 1) false wp s' (by rw [(p' : PermIn a e d1 d').1]; exact n1) p' (by omega)
    generalize hW : e - a = W at *
    simp only [F.f79_l1, nth_0, nth_1, nth_2, nth_3, nth_4, nth_5, a1, c12', c0', i64_leq, i64_eql, decide_false, un_not_z, Bool.not_false, tk_eq, opt_some, ifB_false, ifB_true]
    refine S.f58 hE s1.get n1 hsz a e (by omega) hen fun d' H' p' s' => ?_
    simp only [b1, tk_eq, opt_some]
    exact go d' H' p' (s1.trans s')
theorem S.f56 (hE : Fold E) (hS : SWO Op.bytesLess) (hg : H.get b = arrO str d tail f) (hn : d.size = n) (hsz : n < 2 ^ 31)
    (hQ : ∀ d' H', PermIn 0 n d d' → SortedIn Op.bytesLess 0 n d' → SortTo H b str tail f d' H' → Q (.tuple #[]) H') : E.call (E.fid i.f56) [slc b 0 n c] H Q := by
  apply hE.f56
  have e1 : (BitVec.ofNat 64 n).toNat = n := by rw [BitVec.toNat_ofNat, Nat.mod_eq_of_lt (by omega)]
  have hc : convInt .u64 (vi (n : Int)) = some (u64 (BitVec.ofNat 64 n)) := by rw [i64_to_u64, BitVec.ofInt_natCast]
  simp only [F.f56, lenSlc_slc_z, hc, tk_eq, opt_some]
  refine S.f26 hE _ (by rw [e1]; omega) ?_
  rw [e1]
  have hl : bitsLen n ≤ 31 := by rw [bitsLen_le_iff]; exact hsz
  exact S.f79 hE hS n hg hn hsz 0 n (Nat.zero_le _) (Nat.le_refl _) _ (by omega) (.inl rfl) (by omega) hQ
theorem S.slices_Sort_string_nil (hE : Fold E) (a : Option Addr) (hQ : Q (.tuple #[]) H) : E.call (E.fid i.f56) [.slice a 0 0] H Q := by
  apply hE.f56
  have hc : convInt .u64 (vi 0) = some (u64 0#64) := by rw [i64_to_u64]; rfl
  have hd : binInt .sub (vi 0) (vi 0) = some (vi 0) := i64_sub (by decide) (by decide)
  simp [F.f56, hc]
  refine S.f26 hE _ (by decide) ?_
  apply hE.f79
  simp only [F.f79]
  refine LoopL.step fun X _ => ?_
  simp [F.f79_l1, hd]
  apply hE.f64
  have ha : binInt .add (vi 0) (vi 1) = some (vi 1) := i64_add (by decide) (by decide)
  simp [F.f64, ha]
  refine LoopL.step fun X _ => ?_
  simp [F.f64_l1]
  exact hQ
end
end Go.AM
end
section
namespace Go.AM
open Go.Sort (SWO PermIn SortedIn)
theorem sort_unique {α : Type} [Inhabited α] {lt : α → α → Bool} (hS : SWO lt) (htri : ∀ a b, lt a b = false → lt b a = false → a = b) {n : Nat} {d d' : Array α} (hn : d.size = n) (hp : PermIn 0 n d d') (hs : SortedIn lt 0 n d') {L : List α} (hL : d.toList.Perm L)
    (hR : L.Pairwise fun a b => lt a b = true) : d'.toList = L := by
  have hsz : d'.size = n := hp.1.trans hn
  have e1 : (d'.extract 0 n).toList = d'.toList := by rw [← hsz]; simp
  have e2 : (d.extract 0 n).toList = d.toList := by rw [← hn]; simp
  have hpp := hp.2.2
  rw [e1, e2] at hpp
  refine List.Perm.eq_of_pairwise (le := fun a b => lt b a = false) (fun a b _ _ h1 h2 => htri a b h2 h1) ?_ ?_ (hpp.trans hL)
  · rw [List.pairwise_iff_getElem]
    intro i j hi hj hij
    have := hs i j (Nat.zero_le _) hij (by rw [← hsz]; simpa using hj)
    have hi' : i < d'.size := by simpa using hi
    have hj' : j < d'.size := by simpa using hj
    simpa [hi', hj'] using this
  · refine hR.imp fun {a b} hab => ?_
    cases hba : lt b a with
    | false => rfl
    | true =>
      have := hS.trans a b a hab hba
      rw [hS.irrefl] at this
      simp at this
theorem Grow.arr {α : Type} [Inhabited α] {enc : α → Value} (hp : ∀ x, plain1 (enc x) = true) {H : AH} {v : Value} {xs : List α} (g : Grow zH H 1 v (xs.map fun x => [enc x])) (hne : xs ≠ []) :
    ∃ b f c tail, v = slc b 0 xs.length c ∧ H.get b = arrO enc xs.toArray tail f ∧ ∀ (ys : List α) (H' : AH), ys.length = xs.length → H'.get b = arrO enc ys.toArray tail f → Grow zH H' 1 v (ys.map fun x => [enc x]) := by
  have fl : ∀ l : List α, (l.map fun x => [enc x]).flatten = l.map enc := by
    intro l
    induction l with
    | nil => rfl
    | cons a l ih => simp [ih]
  rcases g.2 with ⟨h, _⟩ | ⟨b, f, c, cs, g1, rfl, g3, g4, g5, g6, g7⟩
  · exact (hne (by simpa using h)).elim
  · rw [fl, Nat.mul_one] at g6
    simp only [List.length_map] at g4 g6 ⊢
    have hcs : cs = xs.map enc ++ cs.drop xs.length := by rw [← g6, List.take_append_drop]
    refine ⟨b, f, c, cs.drop xs.length, rfl, ?_, fun ys H' hl hg => ?_⟩
    · rw [g3, arrO]; congr 1
    · refine ⟨fun r hr => ?_, .inr ⟨b, f, c, ys.map enc ++ cs.drop xs.length, g1, by simp [hl], hg, by simpa [hl] using g4, ?_, ?_, g7⟩⟩
      · obtain ⟨x, _, rfl⟩ := List.mem_map.1 hr
        exact ⟨rfl, by simp [hp]⟩
      · have : cs.length = (xs.map enc ++ cs.drop xs.length).length := congrArg List.length hcs
        simp at this
        simp [hl]; omega
      · rw [fl]
        simp [hl]
theorem name_htri (a b : NameL) (h : Op.bytesLess a b = false) (h' : Op.bytesLess b a = false) : a = b := by
  rw [bytesLess_dec] at h h'
  exact name_tri (by simpa using h) (by simpa using h')
theorem lt16_htri (a b : BitVec 16) (h : lt16 a b = false) (h' : lt16 b a = false) : a = b := by
  simp only [lt16, decide_eq_false_iff_not] at h h'
  exact BitVec.eq_of_toNat_eq (by omega)
def strR (l : List NameL) : List (List Value) := l.map fun s => [str s]
def u16R (l : List (BitVec 16)) : List (List Value) := l.map fun s => [u16 s]
theorem strR_length (l : List NameL) : (strR l).length = l.length := by simp [strR]
theorem u16R_length (l : List (BitVec 16)) : (u16R l).length = l.length := by simp [u16R]
def Tr.entries (T : Tr) (n : BitVec 16) : List NameL := if T.dir n = 0 then (T.node n).ents.map Prod.fst else []
section
variable {E : Sy} {H H' H'' : AH} {Q : Value → AH → Prop} {p m : Nat} {L L' L'' : LyL} {T T' T'' : Tr}
theorem S.f10 (hE : Fold E) (h : Ino H p m L T) (n : BitVec 16) (hr : Rising (T.node n).ents) (hsz : (T.node n).ents.length < 2 ^ 30)
    (hQ : ∀ v H', Ext H H' → Grow zH H' 1 v (strR (T.entries n)) → FreshV H.next v → Q (.tuple #[v, vi (T.dir n)]) H') : E.call (E.fid i.f10) [ptr p 0, u16 n] H Q := by
  apply hE.f10
  simp only [F.f10]
  refine S.f21 hE h n ?_
  by_cases hd : T.dir n = 0
  rotate_left
  · simp only [ext_tuple, List.getElem?_cons_zero, List.getElem?_cons_succ, i64_neq, hd, ne_eq, not_false_eq_true, decide_true, tk_eq, opt_some, ifB_true]
    refine hQ nilS H (Ext.refl H) ?_ fun b hb => by simp [blk] at hb
    rw [Tr.entries, if_neg hd]
    exact Grow.nil _ _ _
  rcases h.get n with ⟨q1, _⟩ | ⟨k, y, q1, q2, q3, q4, q5⟩
  · have := Tr.dir_zero.1 hd
    rw [q1] at this; simp at this
  obtain ⟨r, hnm⟩ := q5.dir (Tr.dir_zero.1 hd)
  have hm := nodeR.names (h.node q2) hnm
  obtain ⟨o, o1, o2⟩ := IterAt.start hm
  have x1 : Ext H (H.new o) := (Ext.refl H).new o
  simp only [ext_tuple, List.getElem?_cons_zero, List.getElem?_cons_succ, i64_neq, hd, ne_eq, not_true, decide_false, if_true, nodeP_some h.cov.nd q2, nilCk_p, addOff_ptr, load1_ptr, q4, inC, cell_cells_z, Nat.zero_add, hnm, o1, mk_some, mkPtr_eq, tk_eq, opt_some, ifB_false]
  have hlen : y.ord.length = (T.node n).ents.length := q5.perm.length_eq
  refine LoopL.ind (fun j l H' => Ext H H' ∧ ∃ done v, l = [v, ptr H.next 0] ∧ IterAt str u16 H' H.next r y.ord done ∧ Grow zH H' 1 v (strR (done.map Prod.fst)) ∧ FreshV (H.next + 1) v ∧ (done = [] → v = nilS) ∧ j + done.length = y.ord.length) ?_ y.ord.length ⟨x1, [], nilS, rfl, o2, Grow.nil _ _ _, fun b hb => by simp [blk] at hb, fun _ => rfl, by simp⟩
  rintro j _ H' X hX ⟨e1, done, v, rfl, it, g, fv, hnil, hj⟩
  simp only [F.f10_l1, nth_0, nth_1]
  refine IterAt.next it (fun e ob he hnd it' hen => ?_) fun hp => ?_
  · have hput : Ext H (H'.put H.next ob) := e1.put (Nat.le_refl _) ob
    have hd1 : done.length + 1 ≤ y.ord.length := by
      have := nodup_le (done ++ [e]) y.ord it'.nodup.1 it'.nodup.2
      simpa using this
    have g' : Grow zH (H'.put H.next ob) 1 v (strR (done.map Prod.fst)) := g.keep fun b hb _ => AH.get_put_ne _ _ (by have := fv b hb; omega)
    have hb1 : buildS 1 1 #[(.string ⟨#[]⟩)] [(0, str e.1)] = some (.cells [str e.1] none, mkSlc 1 1) := buildS_one 1 [str []] [str e.1] rfl rfl
    obtain ⟨v', H2, a1, a2, a3⟩ := g'.app1 (Nat.zero_le _) (bytes := 16) [str e.1] rfl rfl (by decide) (by decide) (by rw [strR_length, List.length_map]; omega)
    have hlt1 := it'.map.lt
    have hlt2 := it'.lt
    have hrb : H2.get r = (H'.put H.next ob).get r := a3.1.get hlt1 fun hb => by
      have := fv r (mem_blkL.1 hb)
      have := hm.lt
      omega
    have hib : H2.get H.next = (H'.put H.next ob).get H.next := a3.1.get hlt2 fun hb => by
      have := fv H.next (mem_blkL.1 hb)
      omega
    simp only [ext_tuple, List.getElem?_cons_zero, List.getElem?_cons_succ, hen, hb1, mk_some, mkSlc_eq, a1, opt2_some, tk_eq, opt_some, ifB_true]
    refine hX (j - 1) (by omega) _ _ ⟨?_, done ++ [e], v', rfl, it'.keep hrb hib, ?_, ?_, fun h => by simp at h, ?_⟩
    · refine a3.1.ext hput fun b hb => ?_
      have := fv b (mem_blkL.1 hb)
      omega
    · have : strR ((done ++ [e]).map Prod.fst) = strR (done.map Prod.fst) ++ [[str e.1]] := by simp [strR]
      rw [this]; exact a2
    · intro b hb
      have hp1 : (H'.put H.next ob).next = H'.next := rfl
      rcases a3.2 b hb with h1 | h1
      · exact fv b h1
      · have := it.lt
        omega
    · simp; omega
  · have hperm : (done.map Prod.fst).Perm ((T.node n).ents.map Prod.fst) := (hp.trans q5.perm).map _
    have hents : T.entries n = (T.node n).ents.map Prod.fst := by rw [Tr.entries, if_pos hd]
    have hrise : ((T.node n).ents.map Prod.fst).Pairwise fun a b => Op.bytesLess a b = true := by
      rw [List.pairwise_map]
      exact hr.imp fun {a b} hab => by rw [bytesLess_dec]; simpa using hab
    simp only [ext_tuple, List.getElem?_cons_zero, tk_eq, opt_some, ifB_false]
    by_cases hne : done.map Prod.fst = []
    · have hd0 : done = [] := by simpa using hne
      have he : (T.node n).ents = [] := by
        have := hperm.length_eq
        rw [hd0] at this
        exact List.eq_nil_of_length_eq_zero (by simpa using this.symm)
      rw [hnil hd0]
      refine S.slices_Sort_string_nil hE none ?_
      rw [hd] at hQ
      refine hQ nilS H' e1 ?_ fun b hb => by simp [blk] at hb
      rw [hents, he]
      exact Grow.nil _ _ _
    · obtain ⟨b, f, c, tail, rfl, ha, hb⟩ := Grow.arr (fun x => rfl) g hne
      refine S.f56 hE swo_bytes ha (by simp) (by have := hperm.length_eq; simp at this ⊢; omega) fun d' H2 hp2 hs2 st => ?_
      have hu := sort_unique swo_bytes name_htri (n := (done.map Prod.fst).length) (by simp) hp2 hs2 (L := (T.node n).ents.map Prod.fst) hperm hrise
      rw [hd] at hQ
      refine hQ _ H2 ?_ ?_ fun x hx => Nat.le_of_succ_le (fv x hx)
      · exact st.only.ext e1 fun x hx => by
          simp at hx; subst hx
          have := fv x (by simp [blk])
          omega
      · rw [hents, ← hu]
        refine hb d'.toList H2 ?_ st.get
        have := hp2.1
        simpa using this
def Tr.nums (T : Tr) : List (BitVec 16) := ((List.range T.N.length).map (BitVec.ofNat 16)).filter fun n => decide ((T.node n).kind ≠ 0#8)
theorem Tr.nums_mem (hl : T.N.length ≤ 65536) (n : BitVec 16) : n ∈ T.nums ↔ (T.node n).kind ≠ 0#8 := by
  unfold Tr.nums
  rw [List.mem_filter]
  simp only [decide_eq_true_eq, List.mem_map, List.mem_range]
  constructor
  · exact fun h => h.2
  · intro h
    exact ⟨⟨n.toNat, Tr.node_lt h, by simp⟩, h⟩
theorem Tr.nums_rise (hl : T.N.length ≤ 65536) : T.nums.Pairwise fun a b => lt16 a b = true := by
  unfold Tr.nums
  refine List.Pairwise.filter _ ?_
  rw [List.pairwise_map]
  refine List.pairwise_lt_range.imp_of_mem fun {a b} ha hb hab => ?_
  have h1 := List.mem_range.1 ha
  have h2 := List.mem_range.1 hb
  simp only [lt16, decide_eq_true_eq, BitVec.toNat_ofNat]
  rw [Nat.mod_eq_of_lt (by omega), Nat.mod_eq_of_lt (by omega)]
  exact hab
theorem Tr.nums_nodup (hl : T.N.length ≤ 65536) : T.nums.Nodup :=
  (Tr.nums_rise hl).imp fun {a b} h e => by subst e; simp [lt16] at h
theorem Cov.perm (h : Cov L T) (hl : T.N.length ≤ 65536) : (L.map Prod.fst).Perm T.nums :=
  List.perm_of_nodup_nodup_toFinset_eq' h.nd (Tr.nums_nodup hl) (fun x hx => (Tr.nums_mem hl x).2 ((h.mem x).1 hx)) fun x hx => (h.mem x).2 ((Tr.nums_mem hl x).1 hx)
theorem S.f16 (hE : Fold E) (h : Ino H p m L T) (hl : T.N.length ≤ 65536) (hQ : ∀ v H', Ext H H' → Rows H' 1 v (u16R T.nums) → Q v H') : E.call (E.fid i.f16) [ptr p 0] H Q := by
  apply hE.f16
  have hh := h.head
  have hm := h.map
  obtain ⟨o, o1, o2⟩ := IterAt.start hm
  have x1 : Ext H (H.new o) := (Ext.refl H).new o
  have hp := h.cov.perm hl
  have hlen : L.length = T.nums.length := by simpa using hp.length_eq
  have hnl : T.nums.length ≤ 65536 := by
    unfold Tr.nums
    refine Nat.le_trans (List.length_filter_le _ _) ?_
    simpa using hl
  simp only [F.f16, nilp_some_z, nilCk_p, addOff_ptr, load1_ptr, hh, cell_cells_z, Nat.add_zero, List.getElem?_cons_zero, o1, mk_some, mkPtr_eq, tk_eq, opt_some, ifB_false]
  generalize hl2 : (L.map fun e => (e.1, e.2.blk)) = l2 at *
  have hl2l : l2.length = L.length := by rw [← hl2]; simp
  have hl2f : l2.map Prod.fst = L.map Prod.fst := by rw [← hl2]; simp [Function.comp_def]
  refine LoopL.ind (fun j l H' => Ext H H' ∧ ∃ done v, l = [v, ptr H.next 0] ∧ IterAt u16 (fun b => ptr b 0) H' H.next m l2 done ∧ Grow zH H' 1 v (u16R (done.map Prod.fst)) ∧ FreshV (H.next + 1) v ∧ (done = [] → v = nilS) ∧ j + done.length = l2.length) ?_ l2.length ⟨x1, [], nilS, rfl, o2, Grow.nil _ _ _, fun b hb => by simp [blk] at hb, fun _ => rfl, by simp⟩
  rintro j _ H' X hX ⟨e1, done, v, rfl, it, g, fv, hnil, hj⟩
  simp only [F.f16_l1, nth_0, nth_1]
  refine IterAt.next it (fun e ob he hnd it' hen => ?_) fun hpd => ?_
  · have hput : Ext H (H'.put H.next ob) := e1.put (Nat.le_refl _) ob
    have hd1 : done.length + 1 ≤ l2.length := by
      have := nodup_le (done ++ [e]) l2 it'.nodup.1 it'.nodup.2
      simpa using this
    have g' : Grow zH (H'.put H.next ob) 1 v (u16R (done.map Prod.fst)) := g.keep fun b hb _ => AH.get_put_ne _ _ (by have := fv b hb; omega)
    have hb1 : buildS 1 1 #[(.int .u16 0)] [(0, u16 e.1)] = some (.cells [u16 e.1] none, mkSlc 1 1) := buildS_one 1 [u16 0#16] [u16 e.1] rfl rfl
    obtain ⟨v', H2, a1, a2, a3⟩ := g'.app1 (Nat.zero_le _) (bytes := 2) [u16 e.1] rfl rfl (by decide) (by decide) (by rw [u16R_length, List.length_map]; omega)
    have hlt1 := it'.map.lt
    have hlt2 := it'.lt
    have hrb : H2.get m = (H'.put H.next ob).get m := a3.1.get hlt1 fun hb => by
      have := fv m (mem_blkL.1 hb)
      have := hm.lt
      omega
    have hib : H2.get H.next = (H'.put H.next ob).get H.next := a3.1.get hlt2 fun hb => by
      have := fv H.next (mem_blkL.1 hb)
      omega
    simp only [ext_tuple, List.getElem?_cons_zero, List.getElem?_cons_succ, hen, hb1, mk_some, mkSlc_eq, a1, opt2_some, tk_eq, opt_some, ifB_true]
    refine hX (j - 1) (by omega) _ _ ⟨?_, done ++ [e], v', rfl, it'.keep hrb hib, ?_, ?_, fun h => by simp at h, ?_⟩
    · refine a3.1.ext hput fun b hb => ?_
      have := fv b (mem_blkL.1 hb)
      omega
    · have : u16R ((done ++ [e]).map Prod.fst) = u16R (done.map Prod.fst) ++ [[u16 e.1]] := by simp [u16R]
      rw [this]; exact a2
    · intro b hb
      have hp1 : (H'.put H.next ob).next = H'.next := rfl
      rcases a3.2 b hb with h1 | h1
      · exact fv b h1
      · have := it.lt
        omega
    · simp; omega
  · have hperm : (done.map Prod.fst).Perm T.nums := (hpd.map _).trans (by rw [hl2f]; exact hp)
    simp only [ext_tuple, List.getElem?_cons_zero, tk_eq, opt_some, ifB_false]
    by_cases hne : done.map Prod.fst = []
    · have hd0 : done = [] := by simpa using hne
      have he : T.nums = [] := by
        have := hperm.length_eq
        rw [hd0] at this
        exact List.eq_nil_of_length_eq_zero (by simpa using this.symm)
      rw [hnil hd0]
      refine S.slices_Sort_inode_Number_nil hE none ?_
      refine hQ nilS H' e1 ?_
      rw [he]
      exact Rows.nil _ _ none
    · obtain ⟨b, f, c, tail, rfl, ha, hb⟩ := Grow.arr (fun x => rfl) g hne
      refine S.f55 hE swo_lt16 ha (by simp) (by have := hperm.length_eq; simp at this ⊢; omega) fun d' H2 hp2 hs2 st => ?_
      have hu := sort_unique swo_lt16 lt16_htri (n := (done.map Prod.fst).length) (by simp) hp2 hs2 (L := T.nums) hperm (Tr.nums_rise hl)
      refine hQ _ H2 ?_ ?_
      · exact st.only.ext e1 fun x hx => by
          simp at hx; subst hx
          have := fv x (by simp [blk])
          omega
      · rw [← hu]
        refine (hb d'.toList H2 ?_ st.get).toRows
        have := hp2.1
        simpa using this
end
end Go.AM
end
section
namespace Go.AM
structure TwoX (X : List Res) (H0 H : AH) (p m : Nat) (L : LyL) (T : Tr) (t : Nat) (nv mv : Value) (nx : Int) (mr : List (List Value)) (Y : List RLy) (T2 : Tr) : Prop where
  ext : Ext H0 H
  ow : Ow (joinR (inoR p m L T :: refR t nv mv nx mr Y T2 :: X)) H
  own : ∀ b ∈ (joinR (inoR p m L T :: refR t nv mv nx mr Y T2 :: X)).fp, H0.next ≤ b
  cov : Cov L T
  len : Y.length = T2.N.length
  fit : T2.N.length ≤ 60000
abbrev Two := TwoX []
section
variable {X : List Res} {E : Sy} {H0 H H' H'' : AH} {Q : Value → AH → Prop} {p m : Nat} {L L' L'' : LyL} {T T' T'' T2 T2' : Tr} {t : Nat} {nv nv' mv : Value} {nx : Int} {mr : List (List Value)} {Y Y' : List RLy}
theorem TwoX.ino (h : TwoX X H0 H p m L T t nv mv nx mr Y T2) : Ino H p m L T := ⟨h.ow.part (k := 0) rfl, h.cov⟩
theorem TwoX.ref (h : TwoX X H0 H p m L T t nv mv nx mr Y T2) : RefT H t nv mv nx mr Y T2 := ⟨h.ow.part (k := 1) rfl, h.len, h.fit⟩
theorem TwoX.upd {r : Res} (h : TwoX X H0 H p m L T t nv mv nx mr Y T2) (u : Upd (joinR (inoR p m L T :: refR t nv mv nx mr Y T2 :: X)) r H H') : Ext H0 H' ∧ Ow r H' ∧ ∀ b ∈ r.fp, H0.next ≤ b :=
  ⟨u.only.ext h.ext h.own, h.ow.upd u, fun b hb => (u.fp b hb).1.elim (h.own b) fun k => Nat.le_trans h.ext.1 k⟩
theorem TwoX.step1 (h : TwoX X H0 H p m L T t nv mv nx mr Y T2) (u : UpdI p m L T L' T' H H') : TwoX X H0 H' p m L' T' t nv mv nx mr Y T2 := by
  obtain ⟨q1, q2, q3⟩ := h.upd (h.ow.set (k := 0) rfl u.upd)
  exact ⟨q1, q2, q3, u.cov, h.len, h.fit⟩
theorem TwoX.step2 (h : TwoX X H0 H p m L T t nv mv nx mr Y T2) (u : UpdR t nv mv nx mr Y T2 nv' Y' T2' H H') : TwoX X H0 H' p m L T t nv' mv nx mr Y' T2' := by
  obtain ⟨q1, q2, q3⟩ := h.upd (h.ow.set (k := 1) rfl u.upd)
  exact ⟨q1, q2, q3, h.cov, u.len, u.fit⟩
theorem TwoX.mono (h : TwoX X H0 H p m L T t nv mv nx mr Y T2) (e : Ext H H') : TwoX X H0 H' p m L T t nv mv nx mr Y T2 := h.step1 (h.ino.same e)
theorem TwoX.less {H1 : AH} (h : TwoX X H1 H p m L T t nv mv nx mr Y T2) (e : Ext H0 H1) : TwoX X H0 H p m L T t nv mv nx mr Y T2 := ⟨e.trans h.ext, h.ow, fun b hb => Nat.le_trans e.1 (h.own b hb), h.cov, h.len, h.fit⟩
theorem TwoX.box (h : TwoX X H0 H p m L T t nv mv nx mr Y T2) (c : List Value) : TwoX (X ++ [boxR H.next c]) H0 (H.new (.cells c none)) p m L T t nv mv nx mr Y T2 := by
  obtain ⟨q1, q2, q3⟩ := h.upd (h.ow.add (boxR H.next c) ((Ext.refl H).new _) (AH.get_new_self _ _) (fun b hb => by simp [boxR] at hb; subst hb; simp) (by simp [boxR]))
  exact ⟨q1, q2, q3, h.cov, h.len, h.fit⟩
theorem TwoX.held {k : Nat} {c : List Value} (h : TwoX (X ++ [boxR k c]) H0 H p m L T t nv mv nx mr Y T2) : H.get k = .cells c none := h.ow.holds (boxR k c) (by simp)
theorem TwoX.drop {r : Res} (h : TwoX (X ++ [r]) H0 H p m L T t nv mv nx mr Y T2) : TwoX X H0 H p m L T t nv mv nx mr Y T2 := by
  have u := h.ow.erase (X.length + 2)
  have e : (inoR p m L T :: refR t nv mv nx mr Y T2 :: (X ++ [r])).eraseIdx (X.length + 2) = inoR p m L T :: refR t nv mv nx mr Y T2 :: X := by simp [List.eraseIdx_append]
  rw [e] at u
  obtain ⟨q1, q2, q3⟩ := h.upd u
  exact ⟨q1, q2, q3, h.cov, h.len, h.fit⟩
theorem TwoX.start (hE : Fold E) (l1 l2 : Int) {Q : Value → Value → AH → Prop} (hQ : ∀ p m L t nv mv Y H', Two H H' p m L (Tr.new l1) t nv mv 1 mntTop Y (Tr.new l2) → Q (ptr p 0) (ptr t 0) H') :
    E.call (E.fid i.f6) [vi l1] H fun v1 H1 => E.call (E.fid i.f35) [vi l2] H1 fun v2 H2 => Q v1 v2 H2 := by
  refine S.f6' hE l1 fun p m L H1 h1 => ?_
  refine S.f35 hE l2 fun t nv mv Y H2 e2 h2 f2 => ?_
  have i2 := h1.mono e2
  refine hQ p m L t nv mv Y H2 ⟨i2.ext, ⟨?_, ?_, ?_⟩, ?_, i2.ino.cov, h2.len, h2.fit⟩
  · intro r hr
    simp only [List.mem_cons, List.not_mem_nil, or_false] at hr
    rcases hr with rfl | rfl
    · exact i2.ino.ow.holds
    · exact h2.ow.holds
  · intro b hb
    simp only [joinR, List.flatMap_cons, List.flatMap_nil, List.append_nil, List.mem_append] at hb
    rcases hb with hb | hb
    · exact i2.ino.ow.lt b hb
    · exact h2.ow.lt b hb
  · simp only [joinR, List.flatMap_cons, List.flatMap_nil, List.append_nil]
    rw [List.nodup_append]
    refine ⟨i2.ino.ow.nd, h2.ow.nd, fun a ha b hb => ?_⟩
    have := h1.ino.ow.lt a ha
    have := f2 b hb
    omega
  · intro b hb
    simp only [joinR, List.flatMap_cons, List.flatMap_nil, List.append_nil, List.mem_append] at hb
    rcases hb with hb | hb
    · exact i2.own b hb
    · exact Nat.le_trans h1.ext.1 (f2 b hb)
theorem Tr.WF.small (h : T.WF) : T.small := fun n => by have := h.size n; omega
theorem TwoX.cMake (hE : Fold E) (h : TwoX X H0 H p m L T t nv mv nx mr Y T2) (w : T.WF) (n : BitVec 16) (s : NameL) (hs : s.length < 2 ^ 63) (k : BitVec 8) (text : List UInt8) (ht : text.length < 2 ^ 63) (hc : -9223372036854775808 ≤ T.change ∧ T.change < 9223372036854775807)
    (hQ : ∀ L' H', TwoX X H0 H' p m L' (T.make n s k text).1 t nv mv nx mr Y T2 → Q (.tuple #[u16 (T.make n s k text).2.1, vi (T.make n s k text).2.2]) H') : E.call (E.fid i.f14) [ptr p 0, u16 n, str s, u8 k, str text] H Q := by
  have hlen := w.len16
  have hl2 := w.len.1
  exact S.f14 hE h.ino n s hs k text ht hc ⟨by omega, by omega⟩ (fun _ r => w.chain ⟨(Tr.room_ok r).1, (Tr.room_ok r).2.2.1⟩ 17) fun L1 H1 _ u1 => hQ _ _ (h.step1 u1)
theorem TwoX.rMake (hE : Fold E) (h : TwoX X H0 H p m L T t nv mv nx mr Y T2) (w : T2.WF) (n : BitVec 16) (s : NameL) (hs : s.length < 2 ^ 63) (k : BitVec 8) (text : List UInt8) (hc : -9223372036854775808 ≤ T2.change ∧ T2.change < 9223372036854775807)
    (hQ : ∀ nv' Y' H', TwoX X H0 H' p m L T t nv' mv nx mr Y' (T2.make n s k text).1 → Q (.tuple #[vi ((T2.make n s k text).2.1.toNat : Int), vi (T2.make n s k text).2.2]) H') : E.call (E.fid i.f42) [ptr t 0, vi (n.toNat : Int), str s, vi (k.toNat : Int), str text] H Q := by
  have hlen := w.len16
  have hl2 := w.len.1
  exact S.f42 hE h.ref w.small n s hs k text hc ⟨by omega, by omega⟩ (fun _ r => w.deep20 ⟨(Tr.room_ok r).1, (Tr.room_ok r).2.2.1⟩) fun nv2 Y2 H2 u2 => hQ _ _ _ (h.step2 u2)
theorem Tr.WF.look_bd (w : T.WF) (n : BitVec 16) (s : NameL) (h : (T.look n s).2 = 0) : (T.node (T.look n s).1).kind ≠ 0#8 ∧ 0 ≤ (T.node (T.look n s).1).links ∧ (T.node (T.look n s).1).links ≤ 8224 :=
  ⟨(w.pos (Tr.look_ok h).2).2.2.2.1, (w.links_bd _).1, (w.links_bd _).2⟩
theorem TwoX.cAdd (hE : Fold E) (h : TwoX X H0 H p m L T t nv mv nx mr Y T2) (w : T.WF) (n : BitVec 16) (s : NameL) (hs : s.length < 2 ^ 63) (v : BitVec 16) (hc : -9223372036854775808 ≤ T.change ∧ T.change < 9223372036854775807)
    (hQ : ∀ L' H', TwoX X H0 H' p m L' (T.add n s v).1 t nv mv nx mr Y T2 → Q (vi (T.add n s v).2) H') : E.call (E.fid i.f7) [ptr p 0, u16 n, str s, u16 v] H Q :=
  S.f7 hE h.ino n s hs v hc (w.links_bd v).1 fun L1 H1 _ u1 => hQ _ _ (h.step1 u1)
theorem TwoX.rAdd (hE : Fold E) (h : TwoX X H0 H p m L T t nv mv nx mr Y T2) (w : T2.WF) (n : BitVec 16) (s : NameL) (hs : s.length < 2 ^ 63) (v : BitVec 16) (hc : -9223372036854775808 ≤ T2.change ∧ T2.change < 9223372036854775807)
    (hQ : ∀ Y' H', TwoX X H0 H' p m L T t nv mv nx mr Y' (T2.add n s v).1 → Q (vi (T2.add n s v).2) H') : E.call (E.fid i.f36) [ptr t 0, vi (n.toNat : Int), str s, vi (v.toNat : Int)] H Q :=
  S.f36 hE h.ref w.small n s hs v hc (w.links_bd v).1 fun Y2 H2 u2 => hQ _ _ (h.step2 u2)
theorem TwoX.cDrop (hE : Fold E) (h : TwoX X H0 H p m L T t nv mv nx mr Y T2) (w : T.WF) (n : BitVec 16) (s : NameL) (d : Bool) (hc : -9223372036854775808 ≤ T.change ∧ T.change < 9223372036854775807)
    (hQ : ∀ L' H', TwoX X H0 H' p m L' (T.drop n s d).1 t nv mv nx mr Y T2 → Q (vi (T.drop n s d).2) H') : E.call (E.fid i.f9) [ptr p 0, u16 n, str s, vb d] H Q :=
  S.f9 hE h.ino n s d hc (fun e => by have := w.look_bd n s e; exact ⟨this.1, by omega, by omega⟩) fun L1 H1 _ _ u1 => hQ _ _ (h.step1 u1)
theorem TwoX.rDrop (hE : Fold E) (h : TwoX X H0 H p m L T t nv mv nx mr Y T2) (w : T2.WF) (n : BitVec 16) (s : NameL) (d : Bool) (hc : -9223372036854775808 ≤ T2.change ∧ T2.change < 9223372036854775807)
    (hQ : ∀ Y' H', TwoX X H0 H' p m L T t nv mv nx mr Y' (T2.drop n s d).1 → Q (vi (T2.drop n s d).2) H') : E.call (E.fid i.f38) [ptr t 0, vi (n.toNat : Int), str s, vb d] H Q :=
  S.f38 hE h.ref w.small n s d hc (fun e => by have := w.look_bd n s e; exact ⟨this.1, by omega, by omega⟩) (by have := w.size n; omega) fun Y2 H2 u2 => hQ _ _ (h.step2 u2)
theorem TwoX.cHold (hE : Fold E) (h : TwoX X H0 H p m L T t nv mv nx mr Y T2) (w : T.WF) (n : BitVec 16) (more : Bool) (hb : (T.node n).held < 9223372036854775807)
    (hQ : ∀ L' H', TwoX X H0 H' p m L' (T.hold n more).1 t nv mv nx mr Y T2 → Q (vi (T.hold n more).2) H') : E.call (E.fid i.f12) [ptr p 0, u16 n, vb more] H Q := by
  refine S.f12 hE h.ino n more ⟨w.held n, hb⟩ ?_
  intros
  apply hQ
  rename_i u1
  exact h.step1 u1
theorem TwoX.rHold (hE : Fold E) (h : TwoX X H0 H p m L T t nv mv nx mr Y T2) (w : T2.WF) (n : BitVec 16) (more : Bool) (hb : (T2.node n).held < 9223372036854775807)
    (hQ : ∀ Y' H', TwoX X H0 H' p m L T t nv mv nx mr Y' (T2.hold n more).1 → Q (vi (T2.hold n more).2) H') : E.call (E.fid i.f39) [ptr t 0, vi (n.toNat : Int), vb more] H Q :=
  S.f39 hE h.ref n more ⟨w.held n, hb⟩ fun Y2 H2 u2 => hQ _ _ (h.step2 u2)
theorem TwoX.cMove (hE : Fold E) (h : TwoX X H0 H p m L T t nv mv nx mr Y T2) (w : T.WF) (fr to : BitVec 16) (s other : NameL) (hs : other.length < 2 ^ 63) (hc : -9223372036854775808 ≤ T.change ∧ T.change < 9223372036854775806)
    (hQ : ∀ L' H', TwoX X H0 H' p m L' (T.move fr s to other).1 t nv mv nx mr Y T2 → Q (vi (T.move fr s to other).2) H') : E.call (E.fid i.f15) [ptr p 0, u16 fr, str s, u16 to, str other] H Q := by
  exact S.f15 hE h.ino fr to s other hs hc (fun e => (w.look_bd fr s e).1) (fun _ hk h1 => w.chain ⟨hk, h1⟩ 17) (f := 17) (fun e hk => w.fits17 (w.look_live (Tr.look_ok e).2 hk)) (by omega)
    (fun y hk hy => ⟨(w.pos hy).2.2.2.1, (w.links_bd y).1, by have := (w.links_bd y).2; omega⟩) fun L1 H1 _ _ u1 => hQ _ _ (h.step1 u1)
theorem TwoX.rMove (hE : Fold E) (h : TwoX X H0 H p m L T t nv mv nx mr Y T2) (w : T2.WF) (fr to : BitVec 16) (s other : NameL) (hs : other.length < 2 ^ 63) (hc : -9223372036854775808 ≤ T2.change ∧ T2.change < 9223372036854775806)
    (hQ : ∀ Y' H', TwoX X H0 H' p m L T t nv mv nx mr Y' (T2.move fr s to other).1 → Q (vi (T2.move fr s to other).2) H') : E.call (E.fid i.f43) [ptr t 0, vi (fr.toNat : Int), str s, vi (to.toNat : Int), str other] H Q :=
  S.f43 hE h.ref w.small fr to s other hs hc (fun e => (w.look_bd fr s e).1) (fun _ h1 hk => ⟨w.deep20 ⟨hk, h1⟩, w.within20 ⟨hk, h1⟩ _⟩) (f := 17) (fun e hk => w.fits17 (w.look_live (Tr.look_ok e).2 hk)) (by omega)
    (fun y hk hy => ⟨(w.pos hy).2.2.2.1, (w.links_bd y).1, by have := (w.links_bd y).2; omega⟩) (fun _ => (w.rising to).nodup) ⟨by have := w.size fr; omega, by have := w.size to; omega⟩ fun Y2 H2 u2 => hQ _ _ (h.step2 u2)
theorem TwoX.cWrite (hE : Fold E) (h : TwoX X H0 H p m L T t nv mv nx mr Y T2) (w : T.WF) (n : BitVec 16) (at_ : Int) (v : Value) (b : List (BitVec 8)) (hv : Rows H 1 v (byteR b)) (hb : b.length < 2 ^ 63) (hat : -9223372036854775808 ≤ at_ ∧ at_ < 9223372036854775808) (hc : -9223372036854775808 ≤ T.change ∧ T.change < 9223372036854775807)
    (hQ : ∀ L' H', TwoX X H0 H' p m L' (T.write n at_ b).1 t nv mv nx mr Y T2 → Q (vi (T.write n at_ b).2) H') : E.call (E.fid i.f19) [ptr p 0, u16 n, vi at_, v] H Q :=
  S.f19 hE h.ino n at_ v b hv hb hc hat (by have := w.data n; omega) fun L1 H1 _ u1 => hQ _ _ (h.step1 u1)
theorem TwoX.rWrite (hE : Fold E) (h : TwoX X H0 H p m L T t nv mv nx mr Y T2) (w : T2.WF) (n : BitVec 16) (at_ : Int) (v : Value) (b : List (BitVec 8)) (hv : Rows H 1 v (byteR b)) (hb : b.length < 2 ^ 62) (hc : -9223372036854775808 ≤ T2.change ∧ T2.change < 9223372036854775807)
    (hQ : ∀ Y' H', TwoX X H0 H' p m L T t nv mv nx mr Y' (T2.write n at_ b).1 → Q (vi (T2.write n at_ b).2) H') : E.call (E.fid i.f46) [ptr t 0, vi (n.toNat : Int), vi at_, v] H Q :=
  S.f46 hE h.ref n at_ v b hv hb hc (by have := w.data n; omega) fun Y2 H2 u2 => hQ _ _ (h.step2 u2)
theorem TwoX.cCut (hE : Fold E) (h : TwoX X H0 H p m L T t nv mv nx mr Y T2) (w : T.WF) (n : BitVec 16) (size : Int) (hc : -9223372036854775808 ≤ T.change ∧ T.change < 9223372036854775807)
    (hQ : ∀ L' H', TwoX X H0 H' p m L' (T.cut n size).1 t nv mv nx mr Y T2 → Q (vi (T.cut n size).2) H') : E.call (E.fid i.f8) [ptr p 0, u16 n, vi size] H Q := by
  exact S.f8 hE h.ino n size hc fun L1 H1 _ u1 => hQ _ _ (h.step1 u1)
theorem TwoX.rCut (hE : Fold E) (h : TwoX X H0 H p m L T t nv mv nx mr Y T2) (w : T2.WF) (n : BitVec 16) (size : Int) (hc : -9223372036854775808 ≤ T2.change ∧ T2.change < 9223372036854775807)
    (hQ : ∀ Y' H', TwoX X H0 H' p m L T t nv mv nx mr Y' (T2.cut n size).1 → Q (vi (T2.cut n size).2) H') : E.call (E.fid i.f37) [ptr t 0, vi (n.toNat : Int), vi size] H Q :=
  S.f37 hE h.ref n size hc (by have := w.data n; omega) fun Y2 H2 u2 => hQ _ _ (h.step2 u2)
end
end Go.AM
end
section
namespace Go.AM
section
variable {X : List Res} {E : Sy} {H0 H H' H'' : AH} {Q : Value → AH → Prop} {p m : Nat} {L L' L'' : LyL} {T T' T'' T2 T2' : Tr} {t : Nat} {nv nv' mv : Value} {nx : Int} {mr : List (List Value)} {Y Y' : List RLy}
theorem ofInt_nat16 (j : Nat) : BitVec.ofInt 16 (j : Int) = BitVec.ofNat 16 j := by
  apply BitVec.eq_of_toNat_eq
  simp
theorem conv16 (a : Nat) : convInt .u16 (vi a) = some (u16 (BitVec.ofNat 16 a)) := by rw [i64_to_u16, ofInt_nat16]
theorem convN (a : BitVec 16) : convInt .u16 (vi (a.toNat : Int)) = some (u16 a) := by rw [conv16]; simp
theorem binNil_ptr (a : Addr) : binNil eqPtr .neq (.pointer (some a)) (.pointer none) = some (.bool true) ∧ binNil eqPtr .eql (.pointer (some a)) (.pointer none) = some (.bool false) := ⟨rfl, rfl⟩
end
end Go.AM
end
section
namespace Go.AM
def spotR (l : List (BitVec 16 × NameL)) : List (List Value) := l.map fun e => [u16 e.1, str e.2]
theorem spotR_length (l : List (BitVec 16 × NameL)) : (spotR l).length = l.length := by simp [spotR]
theorem spotR_append (a b : List (BitVec 16 × NameL)) : spotR (a ++ b) = spotR a ++ spotR b := by simp [spotR]
def spotsIn (n i : BitVec 16) (l : List (NameL × BitVec 16)) : List (BitVec 16 × NameL) := (l.filter fun e => decide (e.2 = n)).map fun e => (i, e.1)
def Tr.spots (T : Tr) (n : BitVec 16) : List (BitVec 16 × NameL) := T.nums.flatMap fun i => spotsIn n i (T.node i).ents
theorem spotsIn_le (n i : BitVec 16) (l : List (NameL × BitVec 16)) : (spotsIn n i l).length ≤ l.length := by
  unfold spotsIn
  rw [List.length_map]
  exact List.length_filter_le _ _
theorem spotsIn_step (n i : BitVec 16) {l : List (NameL × BitVec 16)} {k : Nat} (h : k < l.length) : spotsIn n i (l.take (k + 1)) = spotsIn n i (l.take k) ++ if l[k].2 = n then [(i, l[k].1)] else [] := by
  unfold spotsIn
  rw [List.take_succ_eq_append_getElem h, List.filter_append, List.map_append]
  congr 1
  by_cases e : l[k].2 = n <;> simp [e]
theorem flatMap_len {α β : Type} (f : α → List β) (c : Nat) : ∀ (l : List α), (∀ x ∈ l, (f x).length ≤ c) → (l.flatMap f).length ≤ l.length * c
  | [], _ => by simp
  | x :: l, h => by
    have h1 := h x (by simp)
    have h2 := flatMap_len f c l fun y hy => h y (by simp [hy])
    rw [List.flatMap_cons, List.length_append, List.length_cons, Nat.succ_mul]
    omega
section
variable {E : Sy} {H H' H'' : AH} {Q : Value → AH → Prop} {p m : Nat} {L L' L'' : LyL} {T T' T'' : Tr}
theorem S.f17 (hE : Fold E) (h : Ino H p m L T) (w : T.WF) (n : BitVec 16) (hQ : ∀ v H', Ext H H' → Rows H' 2 v (spotR (T.spots n)) → Q v H') : E.call (E.fid i.f17) [ptr p 0, u16 n] H Q := by
  apply hE.f17
  have hl16 := w.len16
  simp only [F.f17]
  refine S.f16 hE h (by omega) fun v1 H1 e1 r1 => ?_
  have hl1 := r1.lenSlc
  rw [u16R_length] at hl1
  have hnl : T.nums.length ≤ 257 := by
    unfold Tr.nums
    refine Nat.le_trans (List.length_filter_le _ _) ?_
    simpa using hl16
  rw [hl1, opt_some]
  refine LoopL.count T.nums.length (fun j ls H' => ∃ v, ls = [ptr p 0, u16 n, v, v1, vi T.nums.length, vi j] ∧ Ext H1 H' ∧ FreshV H1.next v ∧ Grow zH H' 2 v (spotR ((T.nums.take j).flatMap fun i => spotsIn n i (T.node i).ents))) ?_ ⟨nilS, rfl, Ext.refl _, fun b hb => by simp [blk] at hb, Grow.nil _ _ _⟩
  rintro j _ H2 X hj hX ⟨v, rfl, e2, f2, g2⟩
  have hi2 := h.mono (e1.trans e2)
  by_cases hjl : j < T.nums.length
  · have hjl' : (j : Int) < T.nums.length := by omega
    have hX := hX hjl
    have hjj := i64_inc (i := j) (by omega)
    obtain ⟨b1, o1, p1, p2⟩ := (r1.mono e2).ix (i := j) (by rw [u16R_length]; exact hjl)
    have hrow : (u16R T.nums)[j]'(by rw [u16R_length]; exact hjl) = [u16 T.nums[j]] := by simp [u16R]
    rw [hrow] at p2
    have p3 : (H2.get b1).cell o1 = some (u16 T.nums[j]) := by have := row_at p2 (j := 0) (by omega); simpa using this
    have hmem := (Tr.nums_mem (T := T) (by omega) T.nums[j]).1 (List.getElem_mem hjl)
    have hstep : (T.nums.take (j + 1)).flatMap (fun i => spotsIn n i (T.node i).ents) = (T.nums.take j).flatMap (fun i => spotsIn n i (T.node i).ents) ++ spotsIn n T.nums[j] (T.node T.nums[j]).ents := by
      rw [List.take_succ_eq_append_getElem hjl, List.flatMap_append]; simp
    have hbl : ((T.nums.take j).flatMap fun i => spotsIn n i (T.node i).ents).length ≤ 257 * 32 := by
      refine Nat.le_trans (flatMap_len _ 32 _ fun x _ => Nat.le_trans (spotsIn_le _ _ _) (w.size x)) ?_
      have : (T.nums.take j).length ≤ 257 := by simp; omega
      exact Nat.mul_le_mul_right _ this
    rw [hstep] at hX
    generalize (T.nums.take j).flatMap (fun i => spotsIn n i (T.node i).ents) = base at *
    generalize T.nums[j] = i at *
    generalize hj1 : j + 1 = j1 at *
    have hh := hi2.head
    rcases hi2.get i with ⟨k0, _⟩ | ⟨k, y, k0, k1, k2, k3, k4⟩
    · exact (hmem k0).elim
    by_cases hd : (T.node i).kind = 2#8
    rotate_left
    · have hemp : (T.node i).ents = [] := by
        cases he : (T.node i).ents with
        | nil => rfl
        | cons e l => exact (hd (w.ents i e.1 e.2 (by rw [he]; exact List.mem_cons_self)).1).elim
      have hne : binInt .neq (u8 (T.node i).kind) (.int .u8 2) = some (vb true) := by
        have : (.int .u8 2 : Value) = u8 2#8 := rfl
        rw [this]; simp [hd]
      rw [hemp] at hX
      simp only [F.f17_l1, nth_0, nth_1, nth_2, nth_3, nth_4, nth_5, i64_lss, hjl', decide_true, p1, load1_ptr, p3, nilCk_p, addOff_ptr, Nat.add_zero, Nat.zero_add, hh, cell_cells_z, List.getElem?_cons_zero, List.getElem?_cons_succ, k2, k3, inC, hne, hjj, tk_eq, opt_some, ifB_true]
      exact hX _ _ ⟨v, rfl, e2, f2, by simpa [spotsIn] using g2⟩
    have hne : binInt .neq (u8 (T.node i).kind) (.int .u8 2) = some (vb false) := by
      have : (.int .u8 2 : Value) = u8 2#8 := rfl
      rw [this]; simp [hd]
    simp only [F.f17_l1, nth_0, nth_1, nth_2, nth_3, nth_4, nth_5, i64_lss, hjl', decide_true, p1, load1_ptr, p3, nilCk_p, addOff_ptr, Nat.add_zero, Nat.zero_add, hh, cell_cells_z, List.getElem?_cons_zero, List.getElem?_cons_succ, k2, k3, inC, hne, tk_eq, opt_some, ifB_true, ifB_false]
    have hsz := w.size i
    refine S.f10 hE hi2 i (w.rising i) (by omega) fun v4 H4 e4 r4 f4 => ?_
    have hd0 : T.dir i = 0 := Tr.dir_zero.2 hd
    have hent : T.entries i = (T.node i).ents.map Prod.fst := by rw [Tr.entries, if_pos hd0]
    rw [hent] at r4
    have hl4 := r4.toRows.lenSlc
    rw [strR_length, List.length_map] at hl4
    have hv2 : ∀ b, blk v = some b → b < H2.next := fun b hb => g2.blk_lt hb
    simp only [ext_tuple, List.getElem?_cons_zero, List.getElem?_cons_succ, nth_0, nth_1, nth_2, nth_3, nth_4, nth_5, hl4, tk_eq, opt_some]
    refine LoopL.count (T.node i).ents.length (fun q ls H' => ∃ v', ls = [ptr p 0, u16 n, v', u16 i, ptr y.blk 0, v1, vi T.nums.length, vi j, v4, vi (T.node i).ents.length, vi q] ∧ Ext H1 H' ∧ (∀ b, H2.next ≤ b → b < H4.next → H'.get b = H4.get b) ∧ H4.next ≤ H'.next ∧ (∀ b, blk v' = some b → H1.next ≤ b ∧ (b < H2.next ∨ H4.next ≤ b)) ∧ Grow zH H' 2 v' (spotR (base ++ spotsIn n i ((T.node i).ents.take q)))) ?_ ⟨v, rfl, e2.trans e4, fun _ _ _ => rfl, Nat.le_refl _, fun b hb => ⟨f2 b hb, .inl (hv2 b hb)⟩, by simpa [spotsIn] using g2.ext e4⟩
    rintro q _ H5 X2 hq hX2 ⟨v', rfl, x5, kp, nx5, f5, g5⟩
    have hi5 := h.mono (e1.trans x5)
    have r5 : Grow zH H5 1 v4 (strR ((T.node i).ents.map Prod.fst)) := r4.keep fun b hb hlt => kp b (f4 b hb) hlt
    by_cases hql : q < (T.node i).ents.length
    · have hql' : (q : Int) < (T.node i).ents.length := by omega
      have hX2 := hX2 hql
      have hqq := i64_inc (i := q) (by omega)
      obtain ⟨b6, o6, w1, w2⟩ := r5.toRows.ix (i := q) (by rw [strR_length, List.length_map]; exact hql)
      have hrow6 : (strR ((T.node i).ents.map Prod.fst))[q]'(by rw [strR_length, List.length_map]; exact hql) = [str (T.node i).ents[q].1] := by simp [strR]
      rw [hrow6] at w2
      have w3 : (H5.get b6).cell o6 = some (str (T.node i).ents[q].1) := by have := row_at w2 (j := 0) (by omega); simpa using this
      have hal : alook (T.node i).ents[q].1 (T.node i).ents = some (T.node i).ents[q].2 := alook_of_mem (w.rising i).nodup (List.getElem_mem hql)
      have hst := spotsIn_step n i hql
      have hsl : (spotsIn n i ((T.node i).ents.take q)).length ≤ 32 := Nat.le_trans (spotsIn_le _ _ _) (by simp; omega)
      rw [hst] at hX2
      generalize spotsIn n i ((T.node i).ents.take q) = cur at *
      generalize (T.node i).ents[q] = en at *
      generalize hq1 : q + 1 = q1 at *
      obtain ⟨r, hr, _, hlk, _⟩ := hi5.name k1 hd en.1 (.int .u16 0) false
      rw [hal] at hlk
      simp only [Bool.false_eq_true, if_false] at hlk
      have k5 : H5.get y.blk = .cells (inC i (T.node i) y) none := nodeR.box (hi5.node k1)
      by_cases hen : en.2 = n
      · have heq : binInt .eql (u16 en.2) (u16 n) = some (vb true) := by simp [hen]
        have hbv : buildV [(0, 1), (1, 1)] #[(.int .u16 0), (.string ⟨#[]⟩)] [(0, u16 i), (1, str en.1)] = some (.agg [u16 i, str en.1].toArray) := by simp [splice]
        have hb1 : buildS 1 2 #[(.int .u16 0), (.string ⟨#[]⟩)] [(0, .agg [u16 i, str en.1].toArray)] = some (.cells [u16 i, str en.1] none, mkSlc 1 1) := buildS_one 2 [u16 0#16, str []] [u16 i, str en.1] rfl rfl
        obtain ⟨v6, H6, a1, a2, a3⟩ := g5.app1 (Nat.zero_le _) (bytes := 24) [u16 i, str en.1] rfl rfl (by decide) (by decide) (by rw [spotR_length, List.length_append]; omega)
        simp only [F.f17_l2, nth_0, nth_1, nth_2, nth_3, nth_4, nth_5, nth_6, nth_7, nth_8, nth_9, nth_10, i64_lss, hql', decide_true, w1, load1_ptr, w3, nilCk_p, addOff_ptr, Nat.zero_add, k5, inC, cell_cells_z, List.getElem?_cons_zero, List.getElem?_cons_succ, hr, hlk, heq, hbv, hb1, AM.mk_some, mkSlc_eq, a1, opt2_some, hqq, tk_eq, opt_some, ifB_true]
        refine hX2 _ _ ⟨v6, rfl, a3.1.ext x5 fun b hb => (f5 b (mem_blkL.1 hb)).1, fun b hb1 hb2 => ?_, Nat.le_trans nx5 a3.1.1, fun b hb => ?_, ?_⟩
        · rw [a3.1.get (by omega) fun hb => by have := f5 b (mem_blkL.1 hb); omega]
          exact kp b hb1 hb2
        · rcases a3.2 b hb with h1 | h1
          · exact f5 b h1
          · have := x5.1
            exact ⟨by omega, .inr (by omega)⟩
        · have : spotR (base ++ (cur ++ if en.2 = n then [(i, en.1)] else [])) = spotR (base ++ cur) ++ [[u16 i, str en.1]] := by
            rw [if_pos hen, ← List.append_assoc, spotR_append]; rfl
          rw [this]; exact a2
      · have heq : binInt .eql (u16 en.2) (u16 n) = some (vb false) := by simp [hen]
        simp only [F.f17_l2, nth_0, nth_1, nth_2, nth_3, nth_4, nth_5, nth_6, nth_7, nth_8, nth_9, nth_10, i64_lss, hql', decide_true, w1, load1_ptr, w3, nilCk_p, addOff_ptr, Nat.zero_add, k5, inC, cell_cells_z, List.getElem?_cons_zero, List.getElem?_cons_succ, hr, hlk, heq, hqq, tk_eq, opt_some, ifB_true, ifB_false]
        exact hX2 _ _ ⟨v', rfl, x5, kp, nx5, f5, by simpa [hen] using g5⟩
    · have hql' : ¬ (q : Int) < (T.node i).ents.length := by omega
      have hqe : (T.node i).ents.take q = (T.node i).ents := List.take_of_length_le (by omega)
      rw [hqe] at g5
      simp only [F.f17_l2, nth_0, nth_1, nth_2, nth_3, nth_4, nth_5, nth_6, nth_7, nth_8, nth_9, nth_10, i64_lss, hql', decide_false, hjj, tk_eq, opt_some, ifB_false]
      exact hX _ _ ⟨v', rfl, x5, fun b hb => (f5 b hb).1, g5⟩
  · have hjl' : ¬ (j : Int) < T.nums.length := by omega
    have hje : T.nums.take j = T.nums := List.take_of_length_le (by omega)
    rw [hje] at g2
    simp only [F.f17_l1, nth_0, nth_1, nth_2, nth_3, nth_4, nth_5, i64_lss, hjl', decide_false, tk_eq, opt_some, ifB_false]
    exact hQ v H2 (e1.trans e2) g2.toRows
end
end Go.AM
end
section
namespace Go.AM
structure ActD where
  kind : BitVec 8
  in_ : BitVec 8
  to : BitVec 8
  name : BitVec 8
  other : BitVec 8
  any : List UInt8
  n : Int
  bytes : Value
  bl : List (BitVec 8)
  flag : Bool
  raw : Bool
def ActD.cells (x : ActD) : List Value := [u8 x.kind, u8 x.in_, u8 x.to, u8 x.name, u8 x.other, str x.any, vi x.n, x.bytes, vb x.flag, vb x.raw]
abbrev actSh : Sh := .struct [.int .u8, .int .u8, .int .u8, .int .u8, .int .u8, .str, .int .i64, .slice 1 (.int .u8), .bool, .bool]
structure ActD.ok (H : AH) (x : ActD) : Prop where
  any : x.any.length ≤ 9223372036854775807
  n : -9223372036854775808 ≤ x.n ∧ x.n < 9223372036854775808
  bytes : Rows H 1 x.bytes (byteR x.bl)
  bl : x.bl.length ≤ 9223372036854775807
theorem ActD.ok.mono {H H' : AH} {x : ActD} (h : x.ok H) (e : Ext H H') : x.ok H' := ⟨h.any, h.n, h.bytes.mono e, h.bl⟩
theorem SV.act {H : AH} {cs : List Value} (h : SV H actSh cs) : ∃ x : ActD, cs = x.cells ∧ x.ok H := by
  obtain ⟨c0, e0, rfl, h0, c1, e1, rfl, h1, c2, e2, rfl, h2, c3, e3, rfl, h3, c4, e4, rfl, h4, c5, e5, rfl, h5, c6, e6, rfl, h6, c7, e7, rfl, h7, c8, e8, rfl, h8, c9, e9, rfl, h9, rfl⟩ := h
  obtain ⟨x0, rfl⟩ := h0.u8
  obtain ⟨x1, rfl⟩ := h1.u8
  obtain ⟨x2, rfl⟩ := h2.u8
  obtain ⟨x3, rfl⟩ := h3.u8
  obtain ⟨x4, rfl⟩ := h4.u8
  obtain ⟨x5, rfl, g5⟩ := h5
  obtain ⟨x6, rfl, g6⟩ := h6.i64
  obtain ⟨v7, x7, rfl, g7, l7⟩ := SV.vals (fun r hr => SV.u8 hr) h7
  obtain ⟨x8, rfl⟩ := h8
  obtain ⟨x9, rfl⟩ := h9
  refine ⟨⟨x0, x1, x2, x3, x4, x5, x6, v7, x7, x8, x9⟩, rfl, g5, g6, ?_, by simpa using l7⟩
  show Rows H 1 v7 (byteR x7)
  have : byteR x7 = (x7.map AM.u8).map fun v => [v] := by simp [byteR]
  rw [this]; exact g7
theorem ArgSV.acts {H : AH} {v : Value} (h : ArgSV H (.slice 10 actSh) v) : ∃ l : List ActD, Rows H 10 v (l.map ActD.cells) ∧ l.length ≤ 9223372036854775807 ∧ ∀ x ∈ l, x.ok H := ArgSV.rowsOf (fun _ h => SV.act h) h
section
variable {X : List Res} {E : Sy} {H0 H H' H'' : AH} {Q : Value → AH → Prop} {p m : Nat} {L L' L'' : LyL} {T T' T'' T2 T2' : Tr} {t : Nat} {nv nv' mv : Value} {nx : Int} {mr : List (List Value)} {Y Y' : List RLy}
def actNames : List NameL := [[97], [98], [99], [100, 46, 101], [102], [103], [], [46, 46], [97, 47, 98]]
theorem S.f33 (hE : Fold E) (hQ : ∀ v H', Ext H H' → Rows H' 1 v (strR actNames) → Q v H') : E.call (E.fid i.f33) [] H Q := by
  apply hE.f33
  have hb : buildS 9 1 #[(.string ⟨#[]⟩)] [(0, (.string ⟨#[97]⟩)), (1, (.string ⟨#[98]⟩)), (2, (.string ⟨#[99]⟩)), (3, (.string ⟨#[100, 46, 101]⟩)), (4, (.string ⟨#[102]⟩)), (5, (.string ⟨#[103]⟩)), (6, (.string ⟨#[]⟩)), (7, (.string ⟨#[46, 46]⟩)), (8, (.string ⟨#[97, 47, 98]⟩))] = some (.cells (actNames.map str) none, mkSlc 9 9) := by
    have := buildS_full 9 1 [str []] [(0, str [97]), (1, str [98]), (2, str [99]), (3, str [100, 46, 101]), (4, str [102]), (5, str [103]), (6, str []), (7, str [46, 46]), (8, str [97, 47, 98])] (actNames.map str) rfl rfl rfl rfl (by
      intro v hv
      obtain ⟨s, _, rfl⟩ := List.mem_map.1 hv
      rfl)
    simpa [actNames] using this
  simp only [F.f33, hb, AM.mk_some, mkSlc_eq, tk_eq]
  refine hQ _ _ ((Ext.refl H).new _) (Rows.made (f := none) (by rw [AH.get_new_self]; rfl) (.inl rfl) rfl ?_)
  intro r hr
  obtain ⟨s, _, rfl⟩ := List.mem_map.1 hr
  rfl
theorem actZero : ([(.int .u8 0), (.int .u8 0), (.int .u8 0), (.int .u8 0), (.int .u8 0), (.string ⟨#[]⟩), (.int .i64 0), (.slice none 0 0), (.bool false), (.bool false)] : List Value) = (ActD.mk 0#8 0#8 0#8 0#8 0#8 [] 0 nilS [] false false).cells := rfl
theorem ActD.all_plain (x : ActD) (h : plain1 x.bytes = true) : x.cells.all plain1 = true := by
  simp only [ActD.cells, List.all_cons, List.all_nil, h]; rfl
theorem act_store {x : ActD} (hp : plain1 x.bytes = true) (z : ActD) : storeN 10 (ptr H.next 0) (.agg x.cells.toArray) (H.new (.cells z.cells none)) = some (H.new (.cells x.cells none)) := by
  rw [storeN_ptr, AH.get_new_self]
  have hs : AM.splice z.cells 0 x.cells = x.cells := rfl
  have h1 : x.cells.length = 10 := rfl
  have h2 : z.cells.length = 10 := rfl
  simp only [List.size_toArray, List.toList_toArray, h1, h2, ActD.all_plain x hp, Nat.zero_add, Nat.le_refl, and_self, if_true, hs, AH.new_put]
theorem rows_plain {v : Value} {rows : List (List Value)} {sz : Nat} (h : Rows H sz v rows) : plain1 v = true := by
  rcases h.at_ with ⟨_, c, rfl⟩ | ⟨b, o, c, rfl, _⟩
  · cases c <;> rfl
  · rfl
theorem S.f32 (hE : Fold E) (v : Value) (l : List ActD) (hv : Rows H 10 v (l.map ActD.cells)) (hll : l.length ≤ 9223372036854775807) (hok : ∀ x ∈ l, x.ok H)
    (hQ : ∀ H' ok, Ext H H' → (ok = true → l.length ≤ 150 ∧ ∀ x ∈ l, x.any.length ≤ 200 ∧ x.bl.length ≤ 200) → Q (vb ok) H') : E.call (E.fid i.f32) [v] H Q := by
  apply hE.f32
  have hl := hv.lenSlc
  rw [List.length_map] at hl
  simp only [F.f32, hl, tk_eq, opt_some]
  refine LoopL.count l.length (fun j ls H' => ls = [v, v, vi l.length, vi j] ∧ Ext H H' ∧ ∀ i (hi : i < l.length), i < j → l[i].any.length ≤ 200 ∧ l[i].bl.length ≤ 200) ?_ ⟨rfl, Ext.refl H, fun i _ h => by omega⟩
  rintro j _ H1 X hj hX ⟨rfl, e1, hn⟩
  by_cases hjl : j < l.length
  · have hjl' : (j : Int) < l.length := by omega
    have hX := hX hjl
    have hjj := i64_inc (i := j) (by omega)
    obtain ⟨b, o, p1, p2⟩ := (hv.mono e1).ix (i := j) (by simpa using hjl)
    rw [List.getElem_map] at p2
    have hx := (hok l[j] (List.getElem_mem hjl)).mono e1
    have hlast : l[j].any.length ≤ 200 → l[j].bl.length ≤ 200 → ∀ i (hi : i < l.length), i < j + 1 → l[i].any.length ≤ 200 ∧ l[i].bl.length ≤ 200 := by
      intro h1 h2 i hi hij
      by_cases e : i = j
      · subst e; exact ⟨h1, h2⟩
      · exact hn i hi (by omega)
    have hno : ¬ (l[j].any.length ≤ 200 ∧ l[j].bl.length ≤ 200) → ∀ H', Ext H H' → Q (vb false) H' := fun h H' e => hQ H' false e (by simp)
    generalize l[j] = x at *
    generalize hj1 : j + 1 = j1 at *
    have hlo : loadN 10 (ptr b o) H1 = some (.agg x.cells.toArray) := by rw [loadN_ptr, p2]; rfl
    have hst := act_store (H := H1) (rows_plain hx.bytes) (ActD.mk 0#8 0#8 0#8 0#8 0#8 [] 0 nilS [] false false)
    have hx2 : Ext H1 (H1.new (.cells x.cells none)) := (Ext.refl H1).new _
    have hb2 := AH.get_new_self H1 (.cells x.cells none)
    have c5 : x.cells[5]? = some (str x.any) := rfl
    have c7 : x.cells[7]? = some x.bytes := rfl
    have hbl := hx.bytes.lenSlc
    rw [byteR_length] at hbl
    by_cases a1 : 200 < x.any.length
    · have a1' : (200 : Int) < x.any.length := by omega
      simp only [F.f32_l1, nth_0, nth_1, nth_2, nth_3, i64_lss, hjl', decide_true, p1, hlo, allocW_eq, actZero, hst, addOff_ptr, load1_ptr, Nat.zero_add, hb2, cell_cells_z, c5, lenStr_s, i64_gtr, gt_iff_lt, a1', gd_tf, pick_true_z, tk_eq, opt_some, ifB_true]
      exact hno (by omega) _ (e1.trans hx2)
    have a1' : ¬ (200 : Int) < x.any.length := by omega
    by_cases a2 : 200 < x.bl.length
    · have a2' : (200 : Int) < x.bl.length := by omega
      simp only [F.f32_l1, nth_0, nth_1, nth_2, nth_3, i64_lss, hjl', decide_true, p1, hlo, allocW_eq, actZero, hst, addOff_ptr, load1_ptr, Nat.zero_add, hb2, cell_cells_z, c5, c7, lenStr_s, i64_gtr, gt_iff_lt, a1', a2', decide_false, gd_ff, hbl, pick_false_z, tk_eq, opt_some, ifB_true]
      exact hno (by omega) _ (e1.trans hx2)
    have a2' : ¬ (200 : Int) < x.bl.length := by omega
    simp only [F.f32_l1, nth_0, nth_1, nth_2, nth_3, i64_lss, hjl', decide_true, p1, hlo, allocW_eq, actZero, hst, addOff_ptr, load1_ptr, Nat.zero_add, hb2, cell_cells_z, c5, c7, lenStr_s, i64_gtr, gt_iff_lt, a1', a2', decide_false, gd_ff, hbl, pick_false_z, hjj, tk_eq, opt_some, ifB_true, ifB_false]
    exact hX _ _ ⟨rfl, e1.trans hx2, hlast (by omega) (by omega)⟩
  · have hjl' : ¬ (j : Int) < l.length := by omega
    simp only [F.f32_l1, nth_0, nth_1, nth_2, nth_3, i64_lss, hjl', decide_false, hl, tk_eq, opt_some, ifB_false]
    have hleq : binInt .leq (vi l.length) (.int .i64 150) = some (vb (decide (l.length ≤ 150))) := by
      rw [i64_leq]
      congr 2
      rw [decide_eq_decide]
      omega
    rw [hleq, opt_some]
    refine hQ H1 _ e1 fun h => ⟨by simpa using h, fun x hx => ?_⟩
    obtain ⟨i, hi, rfl⟩ := List.getElem_of_mem hx
    exact hn i hi (by omega)
end
end Go.AM
end
section
namespace Go.AM
section
variable {T T' : Tr} {n k : BitVec 16} {B : Int}
def Tr.HB (T : Tr) (B : Int) : Prop := ∀ n, (T.node n).held ≤ B
theorem Tr.upd_or (T : Tr) (n k : BitVec 16) (f : Nd → Nd) : (T.upd n f).node k = T.node k ∨ (T.upd n f).node k = f (T.node k) := by
  unfold Tr.upd Tr.node
  simp only [List.getD_eq_getElem?_getD, List.getElem?_modify]
  cases h : T.N[k.toNat]? with
  | none => exact .inl rfl
  | some x =>
    by_cases e : n.toNat = k.toNat
    · right; simp [e]
    · left; simp [e]
theorem Tr.HB.upd (h : T.HB B) (f : Nd → Nd) (hf : ∀ x : Nd, x.held ≤ B → (f x).held ≤ B) : (T.upd n f).HB B := by
  intro k
  rcases T.upd_or n k f with e | e
  · rw [e]; exact h k
  · rw [e]; exact hf _ (h k)
theorem Tr.HB.bump (h : T.HB B) : T.bump.HB B := h
theorem Tr.HB.tidy (h : T.HB B) (hB : 0 ≤ B) : (T.tidy n).HB B := by
  unfold Tr.tidy
  split
  · exact h.upd _ fun _ _ => hB
  · exact h
theorem Tr.HB.put (h : T.HB B) (hB : 0 ≤ B) (a : Nat) (x : Nd) (hx : x.held ≤ B) : (T.put a x).HB B := by
  intro k
  unfold Tr.put Tr.node
  simp only [List.getD_eq_getElem?_getD]
  have hk := h k
  unfold Tr.node at hk
  simp only [List.getD_eq_getElem?_getD] at hk
  split
  · rw [List.getElem?_set]
    split
    · exact hx
    · exact hk
  · rw [List.getElem?_append]
    split
    · exact hk
    · cases hz : ([x][k.toNat - T.N.length]? : Option Nd) with
      | none => exact hB
      | some z =>
        have := List.mem_of_getElem? hz
        simp at this
        subst this
        exact hx
theorem Tr.HB.make (h : T.HB B) (hB : 0 ≤ B) (inn : BitVec 16) (s : NameL) (kd : BitVec 8) (text : List UInt8) : (T.make inn s kd text).1.HB B := by
  unfold Tr.make
  repeat' split
  all_goals try exact h
  exact ((h.put hB T.free (Nd.made inn kd text) (show (0 : Int) ≤ B from hB)).upd (Nd.addE s (BitVec.ofNat 16 T.free)) fun x hx => hx).bump
theorem Tr.HB.add (h : T.HB B) (inn : BitVec 16) (s : NameL) (v : BitVec 16) : (T.add inn s v).1.HB B := by
  unfold Tr.add
  repeat' split
  all_goals try exact h
  exact ((h.upd (Nd.addE s v) fun x hx => hx).upd (Nd.addL 1) fun x hx => hx).bump
theorem Tr.HB.drop (h : T.HB B) (hB : 0 ≤ B) (inn : BitVec 16) (s : NameL) (d : Bool) : (T.drop inn s d).1.HB B := by
  unfold Tr.drop
  repeat' split
  all_goals try exact h
  exact Tr.HB.tidy (((h.upd (Nd.delE s) fun x hx => hx).upd (Nd.addL (-1)) fun x hx => hx).bump) hB
theorem Tr.HB.mono {B' : Int} (h : T.HB B) (hb : B ≤ B') : T.HB B' := fun n => Int.le_trans (h n) hb
theorem Tr.HB.hold (h : T.HB B) (hB : 0 ≤ B) (n : BitVec 16) (more : Bool) : (T.hold n more).1.HB (B + 1) := by
  have h1 : T.HB (B + 1) := h.mono (by omega)
  unfold Tr.hold
  split
  · exact h1
  · split
    · intro k
      rcases T.upd_or n k (Nd.addH 1) with e | e
      · rw [e]; exact h1 k
      · rw [e]; have := h k; show (T.node k).held + 1 ≤ B + 1; omega
    · split
      · exact h1
      · exact Tr.HB.tidy (h1.upd (Nd.addH (-1)) fun x hx => by show x.held + -1 ≤ B + 1; omega) (by omega)
theorem Tr.HB.move (h : T.HB B) (hB : 0 ≤ B) (fr : BitVec 16) (s : NameL) (to : BitVec 16) (other : NameL) : (T.move fr s to other).1.HB B := by
  have key : ∀ (U : Tr) (n : BitVec 16), U.HB B → (Tr.moved U fr s to other n).HB B := by
    intro U n hU
    have h2 : ((U.upd fr (Nd.delE s)).upd to (Nd.addE other n)).HB B := (hU.upd (Nd.delE s) fun x hx => hx).upd (Nd.addE other n) fun x hx => hx
    unfold Tr.moved
    simp only
    split
    · exact (h2.upd (fun x => { x with parent := to }) fun x hx => hx).bump
    · exact h2.bump
  unfold Tr.move
  split
  · exact h
  split
  · exact h
  split
  · exact h
  split
  · exact h
  split
  · exact h
  refine key _ _ ?_
  split
  · exact h.drop hB _ _ _
  · exact h
theorem Tr.HB.write (h : T.HB B) (n : BitVec 16) (at_ : Int) (b : List (BitVec 8)) : (T.write n at_ b).1.HB B := by
  unfold Tr.write
  repeat' split
  all_goals try exact h
  exact (h.upd (fun x => { x with data := writeL x.data at_.toNat b }) fun x hx => hx).bump
theorem Tr.HB.cut (h : T.HB B) (n : BitVec 16) (size : Int) : (T.cut n size).1.HB B := by
  unfold Tr.cut
  repeat' split
  all_goals try exact h
  exact (h.upd (fun x => { x with data := cutL x.data size.toNat }) fun x hx => hx).bump
theorem Tr.HB.new (limit : Int) : (Tr.new limit).HB 0 := by
  intro n
  unfold Tr.new Tr.node
  simp only [List.getD_eq_getElem?_getD]
  by_cases h0 : n.toNat = 0
  · rw [h0]; decide
  · by_cases h1 : n.toNat = 1
    · rw [h1]; decide
    · rw [List.getElem?_eq_none (by simp; omega)]; decide
def Tr.CB (T T' : Tr) : Prop := T.change ≤ T'.change ∧ T'.change ≤ T.change + 2
theorem Tr.CB.refl : T.CB T := ⟨Int.le_refl _, by omega⟩
theorem Tr.CB.make (inn : BitVec 16) (s : NameL) (kd : BitVec 8) (text : List UInt8) : T.CB (T.make inn s kd text).1 := by
  unfold Tr.make
  repeat' split
  all_goals try exact .refl
  exact ⟨by show T.change ≤ T.change + 1; omega, by show T.change + 1 ≤ T.change + 2; omega⟩
theorem Tr.CB.add (inn : BitVec 16) (s : NameL) (v : BitVec 16) : T.CB (T.add inn s v).1 := by
  unfold Tr.add
  repeat' split
  all_goals try exact .refl
  exact ⟨by show T.change ≤ T.change + 1; omega, by show T.change + 1 ≤ T.change + 2; omega⟩
theorem Tr.CB.drop (inn : BitVec 16) (s : NameL) (d : Bool) : T.CB (T.drop inn s d).1 := by
  have := Tr.drop_change (T := T) inn s d
  exact ⟨this.1, by omega⟩
theorem Tr.CB.hold (n : BitVec 16) (more : Bool) : T.CB (T.hold n more).1 := by
  unfold Tr.hold
  repeat' split
  all_goals try exact .refl
  · have e : ((T.upd n (Nd.addH (-1))).tidy n).change = T.change := Tr.tidy_change
    exact ⟨by rw [e]; exact Int.le_refl _, by rw [e]; omega⟩
theorem Tr.CB.write (n : BitVec 16) (at_ : Int) (b : List (BitVec 8)) : T.CB (T.write n at_ b).1 := by
  unfold Tr.write
  repeat' split
  all_goals try exact .refl
  exact ⟨by show T.change ≤ T.change + 1; omega, by show T.change + 1 ≤ T.change + 2; omega⟩
theorem Tr.CB.cut (n : BitVec 16) (size : Int) : T.CB (T.cut n size).1 := by
  unfold Tr.cut
  repeat' split
  all_goals try exact .refl
  exact ⟨by show T.change ≤ T.change + 1; omega, by show T.change + 1 ≤ T.change + 2; omega⟩
theorem Tr.move_change {s : NameL} {fr to : BitVec 16} {other : NameL} : T.change ≤ (T.move fr s to other).1.change ∧ (T.move fr s to other).1.change ≤ T.change + 2 := by
  have key : ∀ (U : Tr) (n : BitVec 16), (Tr.moved U fr s to other n).change = U.change + 1 := by
    intro U n
    unfold Tr.moved
    simp only
    split <;> rfl
  have hd := Tr.drop_change (T := T) to other (decide ((T.node (T.look fr s).1).kind = 2#8))
  unfold Tr.move
  split
  · exact ⟨Int.le_refl _, by show T.change ≤ _; omega⟩
  split
  · exact ⟨Int.le_refl _, by show T.change ≤ _; omega⟩
  split
  · exact ⟨Int.le_refl _, by show T.change ≤ _; omega⟩
  split
  · exact ⟨Int.le_refl _, by show T.change ≤ _; omega⟩
  split
  · exact ⟨Int.le_refl _, by show T.change ≤ _; omega⟩
  simp only [key]
  split
  · omega
  · omega
theorem Tr.CB.move (fr : BitVec 16) (s : NameL) (to : BitVec 16) (other : NameL) : T.CB (T.move fr s to other).1 := Tr.move_change
end
end Go.AM
end
section
namespace Go.AM
section
variable {X : List Res} {E : Sy} {H0 H H' H'' : AH} {Q : Value → AH → Prop} {p m : Nat} {L L' L'' : LyL} {T T' T'' T2 T2' : Tr} {t : Nat} {nv nv' mv : Value} {nx : Int} {mr : List (List Value)} {Y Y' : List RLy}
structure ActTo (X : List Res) (H0 H' : AH) (p m t : Nat) (mv : Value) (nx : Int) (mr : List (List Value)) (T : Tr) (B : Int) (L' : LyL) (nv' : Value) (Y' : List RLy) (T' : Tr) : Prop where
  two : TwoX X H0 H' p m L' T' t nv' mv nx mr Y' T'
  wf : T'.WF
  cb : T.CB T'
  hb : T'.HB (B + 1)
theorem tab5 (o : BitVec 8) (k : BitVec 8) (hk : k < 5#8) : ∃ kd : BitVec 8, ([[u8 1#8], [u8 2#8], [u8 2#8], [u8 3#8], [u8 o]] : List (List Value))[k.toNat]? = some [u8 kd] := by
  have h : k.toNat < 5 := hk
  have : k.toNat = 0 ∨ k.toNat = 1 ∨ k.toNat = 2 ∨ k.toNat = 3 ∨ k.toNat = 4 := by omega
  rcases this with e | e | e | e | e <;> rw [e]
  · exact ⟨_, rfl⟩
  · exact ⟨_, rfl⟩
  · exact ⟨_, rfl⟩
  · exact ⟨_, rfl⟩
  · exact ⟨_, rfl⟩
theorem do_j1 (hE : Fold E) {bx : Nat} {x : ActD} (h : TwoX (X ++ [boxR bx x.cells]) H0 H p m L T t nv mv nx mr Y T) (w : T.WF) {B : Int} (hb : T.HB B) (hB : 0 ≤ B ∧ B < 1000000) (hc : 0 ≤ T.change ∧ T.change < 1000000) (hx : x.ok H0) (hl : x.any.length ≤ 200 ∧ x.bl.length ≤ 200)
    (a b : BitVec 16) (s o : NameL) (hs : s.length < 2 ^ 63) (ho : o.length < 2 ^ 63) (hQ : ∀ L' nv' Y' T' H', ActTo X H0 H' p m t mv nx mr T B L' nv' Y' T' → Q (vb true) H') :
    F.f30_j1 E Q (ptr p 0) (ptr t 0) (ptr bx 0) (vi (a.toNat : Int)) (vi (b.toNat : Int)) (str s) (str o) H := by
  have hbx := h.held
  have c0 : x.cells[0]? = some (u8 x.kind) := rfl
  have c4 : x.cells[4]? = some (u8 x.other) := rfl
  have c5 : x.cells[5]? = some (str x.any) := rfl
  have c6 : x.cells[6]? = some (vi x.n) := rfl
  have c7 : x.cells[7]? = some x.bytes := rfl
  have c8 : x.cells[8]? = some (vb x.flag) := rfl
  have hrem : binInt .rem (u8 x.kind) (.int .u8 15) = some (u8 (x.kind % 15#8)) := u8_rem x.kind 15#8 (by decide)
  have hlt : (x.kind % 15#8).toNat < 15 := by rw [BitVec.toNat_umod]; exact Nat.mod_lt _ (by decide)
  have n5 : (.int .u8 5 : Value) = u8 5#8 := rfl
  have n8 : (.int .u8 8 : Value) = u8 8#8 := rfl
  have n11 : (.int .u8 11 : Value) = u8 11#8 := rfl
  have n12 : (.int .u8 12 : Value) = u8 12#8 := rfl
  have n13 : (.int .u8 13 : Value) = u8 13#8 := rfl
  simp only [F.f30_j1, convN, addOff_ptr, load1_ptr, Nat.zero_add, hbx, cell_cells_z, c0, hrem, tk_eq, opt_some]
  generalize x.kind % 15#8 = k at *
  have lss : ∀ c : BitVec 8, binInt .lss (u8 k) (u8 c) = some (vb (decide (k < c))) := fun c => by rw [u8_lss]; rfl
  by_cases k5 : k < 5#8
  · have q1 : binInt .lss (u8 k) (.int .u8 5) = some (vb true) := by rw [n5, lss]; simp [k5]
    have k5n : k.toNat < 5 := k5
    obtain ⟨kd, hkd⟩ := tab5 x.other k k5
    have hbS : buildS 5 1 #[(.int .u8 0)] [(0, (.int .u8 1)), (1, (.int .u8 2)), (2, (.int .u8 2)), (3, (.int .u8 3)), (4, u8 x.other)] = some (.cells [u8 1#8, u8 2#8, u8 2#8, u8 3#8, u8 x.other] none, mkSlc 5 5) := by
      have := buildS_full 5 1 [u8 0#8] [(0, u8 1#8), (1, u8 2#8), (2, u8 2#8), (3, u8 3#8), (4, u8 x.other)] [u8 1#8, u8 2#8, u8 2#8, u8 3#8, u8 x.other] rfl rfl rfl rfl (by intro v hv; simp at hv; rcases hv with rfl | rfl | rfl | rfl <;> rfl)
      simpa using this
    have hx1 : Ext H (H.new (.cells [u8 1#8, u8 2#8, u8 2#8, u8 3#8, u8 x.other] none)) := (Ext.refl H).new _
    have hr : Rows (H.new (.cells [u8 1#8, u8 2#8, u8 2#8, u8 3#8, u8 x.other] none)) 1 (slc H.next 0 5 5) [[u8 1#8], [u8 2#8], [u8 2#8], [u8 3#8], [u8 x.other]] := Rows.made (f := none) (by rw [AH.get_new_self]; rfl) (.inl rfl) rfl (by intro r hr; simp at hr; rcases hr with rfl | rfl | rfl | rfl <;> rfl)
    obtain ⟨b1, o1, p1, p2⟩ := hr.ix (i := k.toNat) k5n
    rw [List.getElem?_eq_getElem (by simpa using k5n)] at hkd
    rw [Option.some.inj hkd] at p2
    have p3 : ((H.new (.cells [u8 1#8, u8 2#8, u8 2#8, u8 3#8, u8 x.other] none)).get b1).cell o1 = some (u8 kd) := by have := row_at p2 (j := 0) (by omega); simpa using this
    have h1 := h.mono hx1
    simp only [q1, addOff_ptr, load1_ptr, Nat.zero_add, hbx, cell_cells_z, c4, hbS, AM.mk_some, mkSlc_eq, ixSlc_u8, p1, p3, h1.held, c5, tk_eq, opt_some, ifB_true]
    refine TwoX.cMake hE h1 w a s hs kd x.any (by omega) ⟨by omega, by omega⟩ fun L2 H2 h2 => ?_
    simp only [ext_tuple, List.getElem?_cons_zero, List.getElem?_cons_succ, u8_to_i64, addOff_ptr, load1_ptr, Nat.zero_add, h2.held, cell_cells_z, c5, tk_eq, opt_some]
    refine TwoX.rMake hE h2 w a s hs kd x.any ⟨by omega, by omega⟩ fun nv3 Y3 H3 h3 => ?_
    simp only [ext_tuple, List.getElem?_cons_zero, List.getElem?_cons_succ, u16_to_i64, i64_eql, decide_true, gd_tt, pick_true_z, tk_eq, opt_some]
    exact hQ _ _ _ _ _ ⟨h3.drop, w.make a s kd x.any, .make a s kd x.any, (hb.make hB.1 a s kd x.any).mono (by omega)⟩
  by_cases e5 : k = 5#8
  · have q1 : binInt .lss (u8 k) (.int .u8 5) = some (vb false) := by rw [n5, lss]; simp [k5]
    have q2 : binInt .eql (u8 k) (.int .u8 5) = some (vb true) := by rw [n5]; simp [e5]
    simp only [q1, q2, tk_eq, opt_some, ifB_false, ifB_true]
    refine TwoX.cAdd hE h w a s hs b ⟨by omega, by omega⟩ fun L1 H1 h1 => ?_
    refine TwoX.rAdd hE h1 w a s hs b ⟨by omega, by omega⟩ fun Y2 H2 h2 => ?_
    simp only [i64_eql, decide_true, tk_eq, opt_some]
    exact hQ _ _ _ _ _ ⟨h2.drop, w.add a s b, .add a s b, (hb.add a s b).mono (by omega)⟩
  by_cases k8 : k < 8#8
  · have q1 : binInt .lss (u8 k) (.int .u8 5) = some (vb false) := by rw [n5, lss]; simp [k5]
    have q2 : binInt .eql (u8 k) (.int .u8 5) = some (vb false) := by rw [n5]; simp [e5]
    have q3 : binInt .lss (u8 k) (.int .u8 8) = some (vb true) := by rw [n8, lss]; simp [k8]
    simp only [q1, q2, q3, addOff_ptr, load1_ptr, Nat.zero_add, hbx, cell_cells_z, c8, tk_eq, opt_some, ifB_false, ifB_true]
    refine TwoX.cDrop hE h w a s x.flag ⟨by omega, by omega⟩ fun L1 H1 h1 => ?_
    refine ⟨by rw [load1_ptr, load1_ptr, h1.held, hbx], ?_⟩
    refine TwoX.rDrop hE h1 w a s x.flag ⟨by omega, by omega⟩ fun Y2 H2 h2 => ?_
    simp only [i64_eql, decide_true, tk_eq, opt_some]
    exact hQ _ _ _ _ _ ⟨h2.drop, w.drop a s x.flag, .drop a s x.flag, (hb.drop hB.1 a s x.flag).mono (by omega)⟩
  by_cases k11 : k < 11#8
  · have q1 : binInt .lss (u8 k) (.int .u8 5) = some (vb false) := by rw [n5, lss]; simp [k5]
    have q2 : binInt .eql (u8 k) (.int .u8 5) = some (vb false) := by rw [n5]; simp [e5]
    have q3 : binInt .lss (u8 k) (.int .u8 8) = some (vb false) := by rw [n8, lss]; simp [k8]
    have q4 : binInt .lss (u8 k) (.int .u8 11) = some (vb true) := by rw [n11, lss]; simp [k11]
    simp only [q1, q2, q3, q4, tk_eq, opt_some, ifB_false, ifB_true]
    refine TwoX.cMove hE h w a b s o ho ⟨by omega, by omega⟩ fun L1 H1 h1 => ?_
    refine TwoX.rMove hE h1 w a b s o ho ⟨by omega, by omega⟩ fun Y2 H2 h2 => ?_
    simp only [i64_eql, decide_true, tk_eq, opt_some]
    exact hQ _ _ _ _ _ ⟨h2.drop, w.move a s b o, .move a s b o, (hb.move hB.1 a s b o).mono (by omega)⟩
  have q1 : binInt .lss (u8 k) (.int .u8 5) = some (vb false) := by rw [n5, lss]; simp [k5]
  have q2 : binInt .eql (u8 k) (.int .u8 5) = some (vb false) := by rw [n5]; simp [e5]
  have q3 : binInt .lss (u8 k) (.int .u8 8) = some (vb false) := by rw [n8, lss]; simp [k8]
  have q4 : binInt .lss (u8 k) (.int .u8 11) = some (vb false) := by rw [n11, lss]; simp [k11]
  by_cases e11 : k = 11#8
  · have q5 : binInt .eql (u8 k) (.int .u8 11) = some (vb true) := by rw [n11]; simp [e11]
    simp only [q1, q2, q3, q4, q5, addOff_ptr, load1_ptr, Nat.zero_add, hbx, cell_cells_z, c8, tk_eq, opt_some, ifB_false, ifB_true]
    refine TwoX.cHold hE h w a x.flag (by have := hb a; omega) fun L1 H1 h1 => ?_
    refine ⟨by rw [load1_ptr, load1_ptr, h1.held, hbx], ?_⟩
    refine TwoX.rHold hE h1 w a x.flag (by have := hb a; omega) fun Y2 H2 h2 => ?_
    simp only [i64_eql, decide_true, tk_eq, opt_some]
    exact hQ _ _ _ _ _ ⟨h2.drop, w.hold a x.flag, .hold a x.flag, hb.hold hB.1 a x.flag⟩
  have q5 : binInt .eql (u8 k) (.int .u8 11) = some (vb false) := by rw [n11]; simp [e11]
  by_cases e12 : k = 12#8
  · have q6 : binInt .eql (u8 k) (.int .u8 12) = some (vb true) := by rw [n12]; simp [e12]
    simp only [q1, q2, q3, q4, q5, q6, addOff_ptr, load1_ptr, Nat.zero_add, hbx, cell_cells_z, c6, c7, tk_eq, opt_some, ifB_false, ifB_true]
    refine TwoX.cWrite hE h w a x.n x.bytes x.bl (hx.bytes.mono h.ext) (by omega) hx.n ⟨by omega, by omega⟩ fun L1 H1 h1 => ?_
    refine ⟨by rw [load1_ptr, load1_ptr, h1.held, hbx], by rw [load1_ptr, load1_ptr, h1.held, hbx], ?_⟩
    refine TwoX.rWrite hE h1 w a x.n x.bytes x.bl (hx.bytes.mono h1.ext) (by omega) ⟨by omega, by omega⟩ fun Y2 H2 h2 => ?_
    simp only [i64_eql, decide_true, tk_eq, opt_some]
    exact hQ _ _ _ _ _ ⟨h2.drop, w.write a x.n x.bl, .write a x.n x.bl, (hb.write a x.n x.bl).mono (by omega)⟩
  have q6 : binInt .eql (u8 k) (.int .u8 12) = some (vb false) := by rw [n12]; simp [e12]
  by_cases e13 : k = 13#8
  · have q7 : binInt .eql (u8 k) (.int .u8 13) = some (vb true) := by rw [n13]; simp [e13]
    simp only [q1, q2, q3, q4, q5, q6, q7, addOff_ptr, load1_ptr, Nat.zero_add, hbx, cell_cells_z, c6, tk_eq, opt_some, ifB_false, ifB_true]
    refine TwoX.cCut hE h w a x.n ⟨by omega, by omega⟩ fun L1 H1 h1 => ?_
    refine ⟨by rw [load1_ptr, load1_ptr, h1.held, hbx], ?_⟩
    refine TwoX.rCut hE h1 w a x.n ⟨by omega, by omega⟩ fun Y2 H2 h2 => ?_
    simp only [i64_eql, decide_true, tk_eq, opt_some]
    exact hQ _ _ _ _ _ ⟨h2.drop, w.cut a x.n, .cut a x.n, (hb.cut a x.n).mono (by omega)⟩
  have q7 : binInt .eql (u8 k) (.int .u8 13) = some (vb false) := by rw [n13]; simp [e13]
  simp only [q1, q2, q3, q4, q5, q6, q7, tk_eq, opt_some, ifB_false]
  refine S.f13 hE h.ino a s ?_
  simp only [ext_tuple, List.getElem?_cons_zero, List.getElem?_cons_succ, tk_eq, opt_some]
  refine S.f41 hE h.ref w.small a s fun H2 e2 => ?_
  simp only [ext_tuple, List.getElem?_cons_zero, List.getElem?_cons_succ, u16_to_i64, i64_eql, decide_true, gd_tt, pick_true_z, tk_eq, opt_some]
  exact hQ _ _ _ _ _ ⟨(h.mono e2).drop, w, .refl, hb.mono (by omega)⟩
theorem names_at {v : Value} (h : Rows H 1 v (strR actNames)) (k : Nat) : ∃ b o s, ixSlc 1 v (vi ((k % 9 : Nat) : Int)) = some (ptr b o) ∧ (∀ H', Ext H H' → (H'.get b).cell o = some (str s)) ∧ s.length < 2 ^ 63 := by
  have hk : k % 9 < 9 := Nat.mod_lt _ (by omega)
  have hlen : (strR actNames).length = 9 := rfl
  obtain ⟨b, o, p1, p2⟩ := h.ix (i := k % 9) (by rw [hlen]; exact hk)
  have hmem : (strR actNames)[k % 9]'(by rw [hlen]; exact hk) ∈ strR actNames := List.getElem_mem _
  obtain ⟨s, hs, he⟩ := List.mem_map.1 hmem
  rw [← he] at p2
  refine ⟨b, o, s, p1, fun H' e => ?_, ?_⟩
  · rw [e.get (AH.lt_of_get (row_notdead p2))]
    have := row_at p2 (j := 0) (by omega)
    simpa using this
  · have : ∀ s ∈ actNames, s.length < 2 ^ 63 := by decide
    exact this s hs
theorem S.f30 (hE : Fold E) {x : ActD} (h : TwoX X H0 H p m L T t nv mv nx mr Y T) (w : T.WF) {B : Int} (hb : T.HB B) (hB : 0 ≤ B ∧ B < 1000000) (hc : 0 ≤ T.change ∧ T.change < 1000000) (hx : x.ok H0) (hl : x.any.length ≤ 200 ∧ x.bl.length ≤ 200) (hraw : x.raw = false)
    (hQ : ∀ L' nv' Y' T' H', ActTo X H0 H' p m t mv nx mr T B L' nv' Y' T' → Q (vb true) H') : E.call (E.fid i.f30) [ptr p 0, ptr t 0, .agg x.cells.toArray] H Q := by
  apply hE.f30
  have hbo : boxO (.agg x.cells.toArray) = some (.cells x.cells none, fun b => ptr b 0) := by
    have : x.cells.all plain1 = true := x.all_plain (rows_plain hx.bytes)
    first
      | rfl
      | simp [boxO, this]
  have h1 := h.box x.cells
  have hb1 := h1.held
  have c1 : x.cells[1]? = some (u8 x.in_) := rfl
  have c2 : x.cells[2]? = some (u8 x.to) := rfl
  have c3 : x.cells[3]? = some (u8 x.name) := rfl
  have c4 : x.cells[4]? = some (u8 x.other) := rfl
  have c9 : x.cells[9]? = some (vb x.raw) := rfl
  have r1 : binInt .rem (u8 x.in_) (.int .u8 8) = some (u8 (x.in_ % 8#8)) := u8_rem _ 8#8 (by decide)
  have r2 : binInt .rem (u8 x.to) (.int .u8 8) = some (u8 (x.to % 8#8)) := u8_rem _ 8#8 (by decide)
  have n1 : (((x.in_ % 8#8).setWidth 16 : BitVec 16).toNat) = (x.in_ % 8#8).toNat := by simp; omega
  have n2 : (((x.to % 8#8).setWidth 16 : BitVec 16).toNat) = (x.to % 8#8).toNat := by simp; omega
  simp only [F.f30, hbo, AM.mk_some, addOff_ptr, load1_ptr, Nat.zero_add, hb1, cell_cells_z, c1, c2, c3, c4, r1, r2, u8_to_i64, tk_eq, opt_some]
  generalize hH1 : H.new (.cells x.cells none) = H1 at *
  have ld : ∀ {H'} (k : Nat), Ext H1 H' → load1 (ptr H.next k) H' = load1 (ptr H.next k) H1 := fun k e => by rw [load1_ptr, load1_ptr, (h1.mono e).held, hb1]
  refine S.f33 hE fun v2 H2 e2 s2 => ?_
  refine ⟨ld 4 e2, ld 3 e2, ?_⟩
  refine S.f33 hE fun v3 H3 e3 s3 => ?_
  have e13 := e2.trans e3
  refine ⟨ld 4 e13, ld 3 e13, ?_⟩
  have l3 : AM.lenSlc v3 = some (vi (9 : Nat)) := s3.lenSlc
  obtain ⟨b4, o4, sn, p4, q4, w4⟩ := names_at s2 x.name.toNat
  simp only [l3, i64_rem_nat x.name.toNat 9 (by omega), p4, load1_ptr, q4 H3 e3, tk_eq, opt_some]
  refine S.f33 hE fun v5 H5 e5 s5 => ?_
  have e15 := e13.trans e5
  refine ⟨by rw [load1_ptr, load1_ptr, q4 H5 (e3.trans e5), q4 H3 e3], ld 4 e15, ld 3 e15, ?_⟩
  refine S.f33 hE fun v6 H6 e6 s6 => ?_
  have e16 := e15.trans e6
  refine ⟨by rw [load1_ptr, load1_ptr, q4 H6 (e3.trans (e5.trans e6)), q4 H3 e3], ld 4 e16, ld 3 e16, ?_⟩
  have l6 : AM.lenSlc v6 = some (vi (9 : Nat)) := s6.lenSlc
  obtain ⟨b7, o7, so, p7, q7, w7⟩ := names_at s5 x.other.toNat
  have h6 := h1.mono e16
  have hj := do_j1 (Q := Q) hE h6 w hb hB hc hx hl ((x.in_ % 8#8).setWidth 16) ((x.to % 8#8).setWidth 16) sn so w4 w7 hQ
  rw [n1, n2] at hj
  simp only [l6, i64_rem_nat x.other.toNat 9 (by omega), p7, load1_ptr, q7 H6 e6, addOff_ptr, Nat.zero_add, h6.held, cell_cells_z, c9, hraw, tk_eq, opt_some, ifB_false]
  exact hj
end
end Go.AM
end
section
namespace Go.AM
section
variable {T : Tr} {n : BitVec 16}
def Tr.spotsAt (T : Tr) (n : BitVec 16) (i : Nat) : List (BitVec 16 × NameL) := spotsIn n (BitVec.ofNat 16 i) (T.node (BitVec.ofNat 16 i)).ents
theorem Tr.spots_eq (w : T.WF) (n : BitVec 16) : T.spots n = (List.range T.N.length).flatMap (T.spotsAt n) := by
  unfold Tr.spots Tr.nums
  have key : ∀ l : List Nat, (((l.map (BitVec.ofNat 16)).filter fun m => decide ((T.node m).kind ≠ 0#8)).flatMap fun i => spotsIn n i (T.node i).ents) = l.flatMap (T.spotsAt n) := by
    intro l
    induction l with
    | nil => rfl
    | cons a l ih =>
      rw [List.map_cons, List.filter_cons, List.flatMap_cons, ← ih]
      split
      · rw [List.flatMap_cons]; rfl
      · rename_i hk
        have hk : (T.node (BitVec.ofNat 16 a)).kind = 0#8 := by simpa using hk
        have : T.spotsAt n a = [] := by
          unfold Tr.spotsAt
          rw [w.zero _ hk]; rfl
        rw [this, List.nil_append]
  exact key _
theorem spotsIn_len (n i : BitVec 16) (l : List (NameL × BitVec 16)) : (spotsIn n i l).length = cntE n l := by
  unfold spotsIn cntE
  rw [List.length_map, List.countP_eq_length_filter]
theorem Tr.spots_len (w : T.WF) (n : BitVec 16) : (T.spots n).length = T.refs n := by
  rw [Tr.spots_eq w, List.length_flatMap]
  unfold Tr.refs
  congr 1
  apply List.ext_getElem?
  intro i
  rw [List.getElem?_map, List.getElem?_map]
  by_cases hi : i < T.N.length
  · have hl := w.len16
    have e : (BitVec.ofNat 16 i).toNat = i := by rw [BitVec.toNat_ofNat, Nat.mod_eq_of_lt (by omega)]
    have h1 := Tr.node_get' (T := T) (n := BitVec.ofNat 16 i) (by rw [e]; exact hi)
    rw [e] at h1
    rw [List.getElem?_range hi, h1]
    simp only [Option.map_some, Tr.spotsAt, spotsIn_len]
  · rw [List.getElem?_eq_none (by simpa using hi), List.getElem?_eq_none (by omega)]
    rfl
theorem Tr.refs_root (w : T.WF) : T.refs 1#16 = 0 := by
  refine Classical.byContradiction fun hc => ?_
  obtain ⟨p, s, hs⟩ := Tr.refs_pos (T := T) (k := 1#16) (by have := w.len16; omega) (by omega)
  exact (w.ents p s _ hs).2.2.2.2.1 rfl
end
section
variable {X : List Res} {E : Sy} {H0 H H' H'' : AH} {Q : Value → AH → Prop} {p m : Nat} {L L' L'' : LyL} {T T' T'' T2 T2' : Tr} {t : Nat} {nv nv' mv : Value} {nx : Int} {mr : List (List Value)} {Y Y' : List RLy}
theorem spots_check (hE : Fold E) (h : TwoX X H0 H p m L T t nv mv nx mr Y T) (w : T.WF) (hQ : ∀ H', Q (vb true) H') :
    LoopL (fun l H X0 => F.f31_l2 E Q (nth l 0) (nth l 1) (nth l 2) H X0) [ptr p 0, ptr t 0, (.int .i64 0)] H := by
  have hl16 := w.len16
  refine LoopL.count 30 (fun a ls H' => ls = [ptr p 0, ptr t 0, vi a] ∧ Ext H H') ?_ ⟨rfl, Ext.refl H⟩
  rintro a _ H1 X1 ha hX1 ⟨rfl, e1⟩
  have h1 := h.mono e1
  by_cases ha3 : a < 30
  rotate_left
  · have ha' : ¬ (a : Int) < 30 := by omega
    simp only [F.f31_l2, nth_0, nth_1, nth_2, i64_lss, ha', decide_false, tk_eq, opt_some, ifB_false]
    exact hQ _
  have ha' : (a : Int) < 30 := by omega
  have hX1 := hX1 ha3
  have haa := i64_inc (i := a) (by omega)
  generalize ha1 : a + 1 = a1 at *
  simp only [F.f31_l2, nth_0, nth_1, nth_2, i64_lss, ha', decide_true, conv16, tk_eq, opt_some, ifB_true]
  obtain ⟨N, hN⟩ : ∃ N, N = BitVec.ofNat 16 a := ⟨_, rfl⟩
  have hNa : N.toNat = a := by rw [hN, BitVec.toNat_ofNat, Nat.mod_eq_of_lt (by omega)]
  rw [← hN]
  refine S.f17 hE h1.ino w N fun v H2 e2 r2 => ?_
  have h2 := h1.mono e2
  have hh2 := h2.ref.head
  have hls2 := h2.ref.lenSlc
  have hsl := r2.lenSlc
  rw [spotR_length] at hsl
  have hsp := Tr.spots_eq w N
  have hslen := Tr.spots_len w N
  have hrle := Tr.refs_le (T := T) (k := N) w.size hl16
  simp only [nth_0, nth_1, nth_2, nilCk_p, addOff_ptr, load1_ptr, Nat.zero_add, hh2, cell_cells_z, TreeI.at0, hls2, tk_eq, opt_some]
  refine LoopL.count T.N.length (fun j ls H' => ls = [ptr p 0, ptr t 0, vi a, v, vi (((List.range j).flatMap (T.spotsAt N)).length : Nat), vi a, vi T.N.length, vi j] ∧ Ext H2 H') ?_ ⟨rfl, Ext.refl _⟩
  rintro j _ H3 X2 hj hX2 ⟨rfl, e3⟩
  have h3 := h2.mono e3
  have hh3 := h3.ref.head
  by_cases hjl : j < T.N.length
  · have hjl' : (j : Int) < T.N.length := by omega
    have hX2 := hX2 hjl
    have hjj := i64_inc (i := j) (by omega)
    have hr1 : (List.range (j + 1)).flatMap (T.spotsAt N) = (List.range j).flatMap (T.spotsAt N) ++ T.spotsAt N j := by rw [List.range_succ, List.flatMap_append]; simp
    have hpre : ∃ rest, T.spots N = (List.range j).flatMap (T.spotsAt N) ++ T.spotsAt N j ++ rest := by
      refine ⟨((List.range' (j + 1) (T.N.length - (j + 1)))).flatMap (T.spotsAt N), ?_⟩
      have hrg : List.range T.N.length = List.range (j + 1) ++ List.range' (j + 1) (T.N.length - (j + 1)) := by
        apply List.ext_getElem
        · simp; omega
        · intro i h1 h2
          rw [List.getElem_append]
          split
          · simp
          · rename_i hh
            simp at hh ⊢
            omega
      rw [hsp, ← hr1, ← List.flatMap_append, ← hrg]
    obtain ⟨rest, hrest⟩ := hpre
    rw [hr1] at hX2
    generalize (List.range j).flatMap (T.spotsAt N) = base at *
    generalize hj1 : j + 1 = j1 at *
    obtain ⟨I, hI⟩ : ∃ I, I = BitVec.ofNat 16 j := ⟨_, rfl⟩
    have hIj : I.toNat = j := by rw [hI, BitVec.toNat_ofNat, Nat.mod_eq_of_lt (by omega)]
    obtain ⟨y, b, o, y1, y2, y3⟩ := h3.ref.at_ (n := I) (by rw [hIj]; exact hjl)
    rw [hIj] at y2
    obtain ⟨_, _, g2, _⟩ := y3.cell
    have gl := y3.lenL
    have hsat : T.spotsAt N j = spotsIn N I (T.node I).ents := by rw [hI]; rfl
    rw [hsat] at hX2 hrest
    have hsz := w.size I
    simp only [F.f31_l3, nth_0, nth_1, nth_2, nth_3, nth_4, nth_5, nth_6, nth_7, i64_lss, hjl', decide_true, nilCk_p, addOff_ptr, load1_ptr, Nat.zero_add, hh3, cell_cells_z, TreeI.at0, y2, g2, gl, tk_eq, opt_some, ifB_true]
    refine LoopL.count (T.node I).ents.length (fun q ls H' => ls = [ptr p 0, ptr t 0, vi a, v, vi ((base ++ spotsIn N I ((T.node I).ents.take q)).length : Nat), vi j, vi a, vi T.N.length, vi j, y.l, vi (T.node I).ents.length, vi q] ∧ Ext H3 H') ?_ ⟨by simp [spotsIn], Ext.refl _⟩
    rintro q _ H4 X3 hq hX3 ⟨rfl, e4⟩
    have y4 := y3.mono e4
    by_cases hql : q < (T.node I).ents.length
    · have hql' : (q : Int) < (T.node I).ents.length := by omega
      have hX3 := hX3 hql
      have hqq := i64_inc (i := q) (by omega)
      obtain ⟨b', o', f1, f2⟩ := y4.2.2.ix (i := q) (by rw [entR_length]; exact hql)
      have hrow : (entR (T.node I).ents)[q]'(by rw [entR_length]; exact hql) = EntryI.cells ⟨(T.node I).ents[q].1, ((T.node I).ents[q].2.toNat : Int)⟩ := by simp [entR, EntryI.cells]
      rw [hrow] at f2
      have hst := spotsIn_step N I hql
      have hmore : ∃ r2, spotsIn N I (T.node I).ents = spotsIn N I ((T.node I).ents.take (q + 1)) ++ r2 := by
        refine ⟨spotsIn N I ((T.node I).ents.drop (q + 1)), ?_⟩
        unfold spotsIn
        rw [← List.map_append, ← List.filter_append, List.take_append_drop]
      obtain ⟨r2', hmore⟩ := hmore
      have hcl : (spotsIn N I ((T.node I).ents.take q)).length ≤ 32 := Nat.le_trans (spotsIn_le _ _ _) (by simp; omega)
      have hbl : base.length ≤ (T.spots N).length := by rw [hrest]; simp
      rw [hst] at hX3 hmore
      generalize spotsIn N I ((T.node I).ents.take q) = cur at *
      generalize (T.node I).ents[q] = en at *
      generalize hq1 : q + 1 = q1 at *
      have hlo4 : loadN 2 (ptr b' o') H4 = some (.agg (EntryI.cells ⟨en.1, (en.2.toNat : Int)⟩).toArray) := by rw [loadN_ptr, f2]; rfl
      have hz : ([(.string ⟨#[]⟩), (.int .i64 0)] : List Value) = EntryI.zero.cells := rfl
      have hst4 : storeN 2 (ptr H4.next 0) (.agg (EntryI.cells ⟨en.1, (en.2.toNat : Int)⟩).toArray) (H4.new (.cells EntryI.zero.cells none)) = some (H4.new (.cells (EntryI.cells ⟨en.1, (en.2.toNat : Int)⟩) none)) := by
        rw [storeN_ptr, AH.get_new_self]
        have hp : (EntryI.cells ⟨en.1, (en.2.toNat : Int)⟩).all plain1 = true := rfl
        simp only [List.size_toArray, List.toList_toArray, EntryI.cells_length, hp, Nat.zero_add, Nat.le_refl, and_self, if_true, EntryI.splice_cells, AH.new_put]
      have hx5 : Ext H4 (H4.new (.cells (EntryI.cells ⟨en.1, (en.2.toNat : Int)⟩) none)) := (Ext.refl H4).new _
      have hb5 := AH.get_new_self H4 (.cells (EntryI.cells ⟨en.1, (en.2.toNat : Int)⟩) none)
      by_cases hen : en.2 = N
      · have hne : ((en.2.toNat : Int) = (a : Int)) = True := by rw [hen, hNa]; simp
        have r5 := r2.mono (e3.trans (e4.trans hx5))
        rw [if_pos hen] at hmore hX3
        have hspk : (T.spots N)[(base ++ cur).length]? = some (I, en.1) := by
          rw [hrest, hmore]
          simp
        obtain ⟨hkl, hkv⟩ := List.getElem?_eq_some_iff.1 hspk
        obtain ⟨b6, o6, w1, w2⟩ := r5.ix (i := (base ++ cur).length) (by rw [spotR_length]; exact hkl)
        have hrow6 : (spotR (T.spots N))[(base ++ cur).length]'(by rw [spotR_length]; exact hkl) = [u16 I, str en.1] := by simp only [spotR, List.getElem_map, hkv]
        rw [hrow6] at w2
        have w3 : ((H4.new (.cells (EntryI.cells ⟨en.1, (en.2.toNat : Int)⟩) none)).get b6).cell o6 = some (u16 I) := by have := row_at w2 (j := 0) (by omega); simpa using this
        have w4 : ((H4.new (.cells (EntryI.cells ⟨en.1, (en.2.toNat : Int)⟩) none)).get b6).cell (o6 + 1) = some (str en.1) := by have := row_at w2 (j := 1) (by omega); simpa using this
        have hx3' : ((base ++ (cur ++ [(I, en.1)])).length) = (base ++ cur).length + 1 := by simp; omega
        rw [hx3'] at hX3
        have hkk := i64_inc (i := (base ++ cur).length) (by omega)
        generalize (base ++ cur).length = kk at *
        generalize hkk1 : kk + 1 = kk1 at *
        have hge : ¬ ((T.spots N).length : Int) ≤ (kk : Int) := by omega
        simp only [F.f31_l4, nth_0, nth_1, nth_2, nth_3, nth_4, nth_5, nth_6, nth_7, nth_8, nth_9, nth_10, nth_11, i64_lss, hql', decide_true, f1, hlo4, allocW_eq, hz, hst4, addOff_ptr, load1_ptr, Nat.zero_add, hb5, cell_cells_z, EntryI.at0, EntryI.at1, i64_neq, ne_eq, hne, not_true, decide_false, hsl, i64_geq, ge_iff_le, hge, gd_ff, w1, w3, w4, Nat.add_zero, u16_to_i64, hIj, pick_false_z, binStr_neq, hkk, hqq, tk_eq, opt_some, ifB_true, ifB_false]
        exact hX3 _ _ ⟨rfl, e4.trans hx5⟩
      · have hne : ((en.2.toNat : Int) = (a : Int)) = False := by
          refine eq_false fun e => hen (BitVec.eq_of_toNat_eq ?_)
          rw [hNa]; omega
        simp only [F.f31_l4, nth_0, nth_1, nth_2, nth_3, nth_4, nth_5, nth_6, nth_7, nth_8, nth_9, nth_10, nth_11, i64_lss, hql', decide_true, f1, hlo4, allocW_eq, hz, hst4, addOff_ptr, load1_ptr, Nat.zero_add, hb5, cell_cells_z, EntryI.at1, i64_neq, ne_eq, hne, not_false_eq_true, hqq, tk_eq, opt_some, ifB_true]
        exact hX3 _ _ ⟨by simp [hen], e4.trans hx5⟩
    · have hql' : ¬ (q : Int) < (T.node I).ents.length := by omega
      have hqe : (T.node I).ents.take q = (T.node I).ents := List.take_of_length_le (by omega)
      rw [hqe]
      simp only [F.f31_l4, nth_0, nth_1, nth_2, nth_3, nth_4, nth_5, nth_6, nth_7, nth_8, nth_9, nth_10, nth_11, i64_lss, hql', decide_false, hjj, tk_eq, opt_some, ifB_false]
      exact hX2 _ _ ⟨rfl, e3.trans e4⟩
  · have hjl' : ¬ (j : Int) < T.N.length := by omega
    have hje : j = T.N.length := by omega
    have hnn : N = BitVec.ofNat 16 a := hN
    rw [hje, ← hsp, hslen]
    simp only [F.f31_l3, nth_0, nth_1, nth_2, nth_3, nth_4, nth_5, nth_6, nth_7, i64_lss, Int.lt_irrefl, decide_false, conv16, ← hnn, tk_eq, opt_some, ifB_false]
    refine S.f11 hE h3.ino N ?_
    have hsl' : AM.lenSlc v = some (vi ((T.refs N : Nat) : Int)) := by rw [hsl, hslen]
    have nn0 : binNil eqPtr .neq (.pointer none) (.pointer none) = some (.bool false) := rfl
    by_cases ha1' : a = 1
    · have hN1 : N = 1#16 := by rw [hN, ha1']
      have hr0 : T.refs N = 0 := by rw [hN1]; exact Tr.refs_root w
      have hai : ((a : Int) = 1) = True := by simp [ha1']
      rcases h3.ino.get N with ⟨k0, _⟩ | ⟨kk, yy, k0, k1, k2, k3, k4⟩
      · rw [hN1, w.root.1] at k0; simp at k0
      have hnp := nodeP_some h3.cov.nd k1
      have nn1 : binNil eqPtr .neq (ptr yy.blk 0) (.pointer none) = some (.bool true) := (binNil_ptr ⟨yy.blk, 0, none⟩).1
      simp only [nth_0, nth_1, nth_2, nth_3, nth_4, nth_5, nth_6, nth_7, hsl', i64_neq, i64_eql, ne_eq, not_true, decide_false, gd_ff, gd_tt, gd_ft, hnp, nn1, hai, pick_true_z, pick_false_z, decide_true, hr0, haa, show (((0 : Nat) : Int) = 0) = True from by simp, tk_eq, opt_some, ifB_false]
      exact hX1 _ _ ⟨rfl, e1.trans (e2.trans e3)⟩
    · have hai : ((a : Int) = 1) = False := by simp; omega
      have hN1 : N ≠ 1#16 := by
        intro e
        rw [e] at hNa
        exact ha1' hNa.symm
      rcases h3.ino.get N with ⟨k0, _⟩ | ⟨kk, yy, k0, k1, k2, k3, k4⟩
      · have hnp := nodeP_none h3.cov k0
        simp only [nth_0, nth_1, nth_2, nth_3, nth_4, nth_5, nth_6, nth_7, hsl', i64_neq, i64_eql, ne_eq, not_true, decide_false, gd_ff, gd_tt, gd_ft, hnp, nn0, hai, pick_true_z, pick_false_z, haa, tk_eq, opt_some, ifB_false]
        exact hX1 _ _ ⟨rfl, e1.trans (e2.trans e3)⟩
      · have hnp := nodeP_some h3.cov.nd k1
        have nn1 : binNil eqPtr .neq (ptr yy.blk 0) (.pointer none) = some (.bool true) := (binNil_ptr ⟨yy.blk, 0, none⟩).1
        have hlk := w.links N hN1 k0
        simp only [nth_0, nth_1, nth_2, nth_3, nth_4, nth_5, nth_6, nth_7, hsl', i64_neq, i64_eql, ne_eq, not_true, not_false_eq_true, decide_true, decide_false, gd_ff, gd_tt, gd_ft, hnp, nn1, hai, pick_true_z, pick_false_z, nilCk_p, addOff_ptr, load1_ptr, Nat.zero_add, k3, inC, cell_cells_z, List.getElem?_cons_zero, List.getElem?_cons_succ, hlk, haa, tk_eq, opt_some, ifB_false]
        exact hX1 _ _ ⟨rfl, e1.trans (e2.trans e3)⟩
theorem S.f31 (hE : Fold E) (xv : Value) (l : List ActD) (hv : Rows H 10 xv (l.map ActD.cells)) (hll : l.length ≤ 9223372036854775807) (hok : ∀ x ∈ l, x.ok H) (hQ : ∀ H', Q (vb true) H') : E.call (E.fid i.f31) [xv] H Q := by
  apply hE.f31
  simp only [F.f31]
  refine S.f29 hE fun H1 e1 => ?_
  simp only [un_not_z, Bool.not_true, tk_eq, opt_some, ifB_false]
  refine S.f32 hE xv l (hv.mono e1) hll (fun x hx => (hok x hx).mono e1) fun H2 ok e2 hlt => ?_
  cases ok with
  | false =>
    simp only [un_not_z, Bool.not_false, tk_eq, opt_some, ifB_true]
    exact hQ _
  | true =>
    obtain ⟨h150, hlight⟩ := hlt rfl
    simp only [un_not_z, Bool.not_true, tk_eq, opt_some, ifB_false]
    refine TwoX.start hE 60 60 fun p m L t nv mv Y H3 h3 => ?_
    have e12 := e1.trans e2
    have hlx := (hv.mono (e12.trans h3.ext)).lenSlc
    rw [List.length_map] at hlx
    rw [hlx, opt_some]
    refine LoopL.count l.length (fun j ls H' => ls = [ptr p 0, ptr t 0, xv, vi l.length, vi j] ∧ ∃ L T nv Y, Two H2 H' p m L T t nv mv 1 mntTop Y T ∧ T.WF ∧ T.HB j ∧ 0 ≤ T.change ∧ T.change ≤ 2 * j) ?_ ⟨rfl, L, _, nv, Y, h3, Tr.new_wf 60, .new 60, by decide, by decide⟩
    rintro j _ H4 X hj hX ⟨rfl, L, T, nv, Y, h4, w, hb, hc1, hc2⟩
    by_cases hjl : j < l.length
    · have hjl' : (j : Int) < l.length := by omega
      have hX := hX hjl
      have hjj := i64_inc (i := j) (by omega)
      obtain ⟨b, o, p1, p2⟩ := ((hv.mono e12).mono h4.ext).ix (i := j) (by simpa using hjl)
      rw [List.getElem_map] at p2
      have hx := (hok l[j] (List.getElem_mem hjl)).mono e12
      have hxl := hlight l[j] (List.getElem_mem hjl)
      generalize l[j] = x at *
      generalize hj1 : j + 1 = j1 at *
      have hlo : loadN 10 (ptr b o) H4 = some (.agg x.cells.toArray) := by rw [loadN_ptr, p2]; rfl
      have hst := act_store (H := H4) (rows_plain hx.bytes) (ActD.mk 0#8 0#8 0#8 0#8 0#8 [] 0 nilS [] false false)
      have hx5 : Ext H4 (H4.new (.cells x.cells none)) := (Ext.refl H4).new _
      by_cases h80 : j < 80
      · have h80' : (j : Int) < 80 := by omega
        have hs1 : store1 (ptr H4.next 9) (.bool false) (H4.new (.cells x.cells none)) = some (H4.new (.cells ({ x with raw := false } : ActD).cells none)) := by
          rw [store1_ptr, if_pos (show plain1 (.bool false) = true from rfl), AH.get_new_self]
          have h1 : x.cells.length = 10 := rfl
          have h2 : x.cells.set 9 (.bool false) = ({ x with raw := false } : ActD).cells := rfl
          simp only [h1, h2, show (9 < 10) = True from by simp, if_true, AH.new_put]
        have hlo2 : loadN 10 (ptr H4.next 0) (H4.new (.cells ({ x with raw := false } : ActD).cells none)) = some (.agg ({ x with raw := false } : ActD).cells.toArray) := by
          rw [loadN_ptr, AH.get_new_self, row_all _ _ 10 rfl]; rfl
        have h5 := h4.mono ((Ext.refl H4).new (.cells ({ x with raw := false } : ActD).cells none))
        simp only [F.f31_l1, nth_0, nth_1, nth_2, nth_3, nth_4, i64_lss, hjl', decide_true, p1, hlo, allocW_eq, actZero, hst, h80', addOff_ptr, Nat.zero_add, hs1, hlo2, tk_eq, opt_some, ifB_true]
        refine S.f30 hE (x := { x with raw := false }) h5 w hb ⟨by omega, by omega⟩ ⟨hc1, by omega⟩ ⟨hx.any, hx.n, hx.bytes, hx.bl⟩ hxl rfl fun L' nv' Y' T' H' ha => ?_
        have hcb := ha.cb
        have hhb := ha.hb
        simp only [nth_0, nth_1, nth_2, nth_3, nth_4, hjj, tk_eq, opt_some]
        exact hX _ _ ⟨rfl, L', T', nv', Y', ha.two, ha.wf, hhb.mono (by omega), by have := hcb.1; omega, by have := hcb.2; omega⟩
      · have h80' : ¬ (j : Int) < 80 := by omega
        simp only [F.f31_l1, nth_0, nth_1, nth_2, nth_3, nth_4, i64_lss, hjl', decide_true, p1, hlo, allocW_eq, actZero, hst, h80', decide_false, hjj, tk_eq, opt_some, ifB_true, ifB_false]
        exact hX _ _ ⟨rfl, L, T, nv, Y, h4.mono hx5, w, hb.mono (by omega), hc1, by omega⟩
    · have hjl' : ¬ (j : Int) < l.length := by omega
      have := spots_check hE h4 w hQ
      simp only [F.f31_l1, nth_0, nth_1, nth_2, nth_3, nth_4, i64_lss, hjl', decide_false, tk_eq, opt_some, ifB_false]
      exact this
theorem S.law_InodeSpots (hE : Fold E) (args : List Value) (ha : ArgsSV H [.slice 10 actSh] args) (hQ : ∀ H', Q (vb true) H') : E.call (E.fid i.f31) args H Q := by
  obtain ⟨v1, _, rfl, h1, ha⟩ := ha.cons_inv
  obtain rfl := ha.nil_inv
  obtain ⟨l, q1, q2, q3⟩ := ArgSV.acts h1
  exact S.f31 hE v1 l q1 q2 q3 hQ
end
end Go.AM
end
