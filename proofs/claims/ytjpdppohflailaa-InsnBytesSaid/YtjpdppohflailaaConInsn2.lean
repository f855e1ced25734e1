/- CONTRACTS ON THE PRINTED FUNCTIONS: Insn2. -/
import Derived.Test.YtjpdppohflailaaF
import Derived.Test.YtjpdppohflailaaAmStr
import Derived.Test.YtjpdppohflailaaAmTyped
import Derived.Test.YtjpdppohflailaaConInsn
set_option linter.all false
namespace Go.AM
variable {E : Sy} {H : AH} {Q : Value → AH → Prop}
def rn1 : List Int := [32, 0, 96, 128, 1, 97, 129, 2, 3, 6, 22, 7, 135, 5, 132]
def rn2 : List Int := [0, 16, 32, 48, 64, 80, 96, 112, 160]
def rknown3 (n : Int) : Bool := [16, 32, 48, 64].any fun j => decide (n = j + 5) || decide (n = j + 13)
def rknown2 (n : Int) : Bool := (rn2.any fun j => decide (n = j + 4) || decide (n = j + 12)) || rknown3 n
def rknown (n : Int) : Bool := rn1.any (fun j => decide (j = n)) || rknown2 n

theorem S.ref03_Known_l3 (n : Int) (hQ : Q (vb (rknown3 n)) H) :
    LoopL (fun l H X0 => F.pinfoldref03_Known_l3 E Q (nth l 0) (nth l 1) H X0) [vi n, vi 16] H := by
  unfold rknown3 at hQ
  iterate 4
    apply LoopL.step; intro X hX
    simp [F.pinfoldref03_Known_l3, i64_add]
    refine ifB_split (fun h => by simpa [h] using hQ) (fun h => ?_)
    simp [h, i64_add]
    refine ifB_split (fun h => by simpa [h] using hQ) (fun h => ?_)
    apply hX
  apply LoopL.step; intro X hX
  simp [F.pinfoldref03_Known_l3, i64_add]
  simpa [*] using hQ
theorem S.ref03_Known_l2 (n : Int) (v : Value) (hV : Vals H v (rn2.map vi)) (hQ : Q (vb (rknown2 n)) H) :
    LoopL (fun l H X0 => F.pinfoldref03_Known_l2 E Q (nth l 0) (nth l 1) (nth l 2) H X0) [vi n, v, vi 0] H := by
  refine LoopL.count 9 (fun i l H' => H' = H ∧ l = [vi n, v, vi i] ∧ Q (vb (((rn2.drop i).any fun j => decide (n = j + 4) || decide (n = j + 12)) || rknown3 n)) H) ?_ ⟨rfl, rfl, hQ⟩
  rintro i l _ X hi hX ⟨rfl, rfl, hQ⟩
  have hl := hV.lenSlc
  simp [F.pinfoldref03_Known_l2, hl, rn2]
  refine ifB_split (fun h => ?_) (fun h => ?_)
  · have hi9 : i < 9 := by omega
    obtain ⟨b, o, e1, e2⟩ := hV.elem (i := i) (by simpa [rn2] using hi9)
    rw [List.drop_eq_getElem_cons (by simpa [rn2] using hi9)] at hQ
    obtain ⟨y, hy⟩ : ∃ y, rn2[i]'(by simpa [rn2] using hi9) = y := ⟨_, rfl⟩
    have hr : 0 ≤ y ∧ y ≤ 160 := by
      have : ∀ x ∈ rn2, 0 ≤ x ∧ x ≤ 160 := by decide
      rw [← hy]; exact this _ (List.getElem_mem _)
    simp only [List.any_cons, hy] at hQ
    simp [e1, e2, hy]
    rw [i64_add (by omega) (by omega)]
    simp
    by_cases h1 : n = y + 4
    · simpa [h1] using hQ
    simp [h1, e1, e2, hy]
    rw [i64_add (by omega) (by omega)]
    simp
    refine ifB_split (fun h2 => by simpa [h2] using hQ) (fun h2 => ?_)
    rw [i64_inc (by omega)]
    exact hX hi9 _ _ ⟨rfl, rfl, by simpa [h1, h2] using hQ⟩
  · have : i = 9 := by omega
    subst this
    exact S.ref03_Known_l3 n (by simpa [rn2] using hQ)
theorem S.pinfoldref03_Known (hE : Fold E) (n : Int) (hQ : ∀ H', Ext H H' → Q (vb (rknown n)) H') : E.call (E.fid i.pinfoldref03_Known) [vi n] H Q := by
  apply hE.pinfoldref03_Known
  simp [F.pinfoldref03_Known, splice]
  generalize hH1 : H.new _ = H1
  have hx : Ext H H1 := by subst hH1; exact (Ext.refl H).new _
  have hV : Vals H1 (slc H.next 0 15 15) (rn1.map vi) := Vals.made (f := none) (by subst hH1; simp [rn1]) (.inl rfl) rfl
  generalize slc H.next 0 15 15 = v at *
  refine LoopL.count 15 (fun i l H' => H' = H1 ∧ l = [vi n, v, vi i] ∧ ∀ H', Ext H H' → Q (vb (((rn1.drop i).any fun j => decide (j = n)) || rknown2 n)) H') ?_ ⟨rfl, rfl, hQ⟩
  clear hH1
  rintro i l _ X hi hX ⟨rfl, rfl, hQ⟩
  have hl := hV.lenSlc
  simp [F.pinfoldref03_Known_l1, hl, rn1]
  refine ifB_split (fun h => ?_) (fun h => ?_)
  · have hi9 : i < 15 := by omega
    obtain ⟨b, o, e1, e2⟩ := hV.elem (i := i) (by simpa [rn1] using hi9)
    rw [List.drop_eq_getElem_cons (by simpa [rn1] using hi9)] at hQ
    simp only [List.any_cons] at hQ
    simp [e1, e2]
    refine ifB_split (fun h2 => by simpa [h2] using hQ _ hx) (fun h2 => ?_)
    rw [i64_inc (by omega)]
    exact hX hi9 _ _ ⟨rfl, rfl, by simpa [h2] using hQ⟩
  · have : i = 15 := by omega
    subst this
    simp [splice]
    refine S.ref03_Known_l2 n _ (Vals.made (f := none) (by simp [rn2]) (.inl rfl) rfl) (by simpa [rn1] using hQ _ (hx.new _))
end Go.AM
