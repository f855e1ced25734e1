/- CONTRACTS ON THE PRINTED FUNCTIONS: LawInsnBytes. -/
import Derived.Test.YtjpdppohflailaaF
import Derived.Test.YtjpdppohflailaaAmStr
import Derived.Test.YtjpdppohflailaaAmTyped
import Derived.Test.YtjpdppohflailaaConInsnBytes
set_option linter.all false
namespace Go.AM
variable {E : Sy} {H : AH} {Q : Value → AH → Prop}
/-- Bytes cut into instructions. -/
def chunks8 (l : List (BitVec 8)) : List InsnD := (List.range (l.length / 8)).map fun i => insnOf ((l.drop (8 * i)).take 8)
theorem chunks8_len (l : List (BitVec 8)) : (chunks8 l).length = l.length / 8 := by simp [chunks8]
theorem chunks8_bytes (l : List (BitVec 8)) (h : l.length % 8 = 0) : (chunks8 l).flatMap InsnD.bytes = l := by
  have hc := chunk_flatten (n := l.length / 8) (s := 8) l (by omega)
  conv => rhs; rw [hc]
  rw [chunks8, List.flatMap_map, List.flatMap_def]
  congr 1
  apply List.map_congr_left
  intro i hi
  have hi : i < l.length / 8 := List.mem_range.1 hi
  rw [bytes_insnOf _ (by simp; omega), Nat.mul_comm]
theorem bytes_flat_len (m : List InsnD) : (m.flatMap InsnD.bytes).length = 8 * m.length := by
  induction m with
  | nil => rfl
  | cons y m ih => simp only [List.flatMap_cons, List.length_append, ih, InsnD.bytes_len, List.length_cons]; omega
theorem chunks8_of (m : List InsnD) : chunks8 (m.flatMap InsnD.bytes) = m := by
  have hl := bytes_flat_len m
  apply List.ext_getElem
  · rw [chunks8_len, hl]; omega
  intro i h1 h2
  simp only [chunks8, List.getElem_map, List.getElem_range]
  have := flatten_part (sz := 8) (m.map InsnD.bytes) (by intro r hr; obtain ⟨y, _, rfl⟩ := List.mem_map.1 hr; rfl) i (by simpa using h2)
  rw [← List.flatMap_def, List.getElem_map, Nat.mul_comm] at this
  rw [this, insnOf_bytes]
theorem S.insn_Decode_bad (hE : Fold E) (v : Value) (l : List (BitVec 8)) (hb : l.length < 2 ^ 62) (hV : Vals H v (l.map u8)) (h8 : l.length % 8 ≠ 0 ∨ 4096 < l.length / 8)
    (hQ : Q (.tuple #[nilS, vi (if l.length % 8 ≠ 0 then 203 else 205)]) H) : E.call (E.fid i.insn_Decode) [v] H Q := by
  apply hE.insn_Decode
  have hlen := hV.lenSlc
  simp only [List.length_map] at hlen
  have r1 : binInt .rem (vi (l.length : Int)) (vi 8) = some (vi ((l.length % 8 : Nat) : Int)) := i64_rem_n l.length 8 (by omega)
  have r2 : binInt .quo (vi (l.length : Int)) (vi 8) = some (vi ((l.length / 8 : Nat) : Int)) := i64_quo_n l.length 8 (by omega) (by omega)
  simp only [F.insn_Decode, hlen, r1, opt_some, i64_neq, r2, i64_gtr]
  by_cases h : l.length % 8 = 0
  · have h2 : 4096 < l.length / 8 := by omega
    rw [show decide (((l.length % 8 : Nat) : Int) ≠ 0) = false by simp; omega, ifB_false, show decide ((4096 : Int) < ((l.length / 8 : Nat) : Int)) = true by simp; omega, ifB_true]
    simpa [h] using hQ
  · rw [show decide (((l.length % 8 : Nat) : Int) ≠ 0) = true by simp; omega, ifB_true]
    simpa [h] using hQ
theorem arrPtr_slc (n b o len c : Nat) (h : 0 < n) (h2 : n ≤ len) : arrPtr n (slc b o len c) = some (ptr b o) := by
  simp only [arrPtr]; rw [if_pos ⟨h, h2⟩]
theorem S.insn_Decode_ok (hE : Fold E) (v : Value) (l : List (BitVec 8)) (hV : Vals H v (l.map u8)) (h8 : l.length % 8 = 0) (h9 : l.length / 8 ≤ 4096)
    (hQ : ∀ v' H', Ext H H' → Rows H' 4 v' ((chunks8 l).map InsnD.cells) → Q (.tuple #[v', vi 0]) H') : E.call (E.fid i.insn_Decode) [v] H Q := by
  apply hE.insn_Decode
  have hlen := hV.lenSlc
  simp only [List.length_map] at hlen
  have r1 : binInt .rem (vi (l.length : Int)) (vi 8) = some (vi ((l.length % 8 : Nat) : Int)) := i64_rem_n l.length 8 (by omega)
  have r2 : binInt .quo (vi (l.length : Int)) (vi 8) = some (vi ((l.length / 8 : Nat) : Int)) := i64_quo_n l.length 8 (by omega) (by omega)
  simp only [F.insn_Decode, hlen, r1, opt_some, i64_neq, r2, i64_gtr]
  rw [show decide (((l.length % 8 : Nat) : Int) ≠ 0) = false by simp; omega, ifB_false, show decide ((4096 : Int) < ((l.length / 8 : Nat) : Int)) = false by simp; omega, ifB_false]
  refine LoopL.count (l.length / 8) (fun i s H' => ∃ v1 v2, s = [v1, v2] ∧ Ext H H' ∧ Vals H v1 ((l.drop (8 * i)).map u8) ∧ Own H H' 4 v2 (((chunks8 l).take i).map InsnD.cells)) ?_ ⟨v, nilS, rfl, Ext.refl _, by simpa using hV, by simpa using Own.nil H H 4⟩
  rintro i _ H' X hi hX ⟨v1, v2, rfl, hx, hv, ho⟩
  have hl1 := hv.lenSlc
  simp only [List.length_map, List.length_drop] at hl1
  simp only [F.insn_Decode_l1, nth_0, nth_1, hl1, opt_some, i64_gtr]
  refine ifB_split (fun h => ?_) (fun h => ?_)
  · have hil : i < l.length / 8 := by omega
    obtain ⟨v3, q1, q2⟩ := Vals.slice (hv.mono hx) (lo := none) (hi := some (vi 8)) (i := 0) (j := 8) (.inr ⟨rfl, rfl⟩) (.inl rfl) (by omega) (by simp; omega)
    have e3 : (((l.drop (8 * i)).map u8).take 8).drop 0 = ((l.drop (8 * i)).take 8).map u8 := by simp
    rw [e3] at q2
    have hl8 : ((l.drop (8 * i)).take 8).length = 8 := by simp; omega
    rw [show (some (Value.int .i64 8)) = some (vi 8) from rfl, q1, opt_some]
    generalize hm : (l.drop (8 * i)).take 8 = m at *
    rcases q2.at_ with ⟨hn, a, rfl⟩ | ⟨b, o, c, rfl, g2, g3, g4⟩
    · have := congrArg List.length hn; simp [hl8] at this
    simp only [flatten_single, List.length_map, hl8, Nat.mul_one] at g4
    rw [show (List.map (fun x => [x]) (List.map u8 m)).length = 8 by simp [hl8], arrPtr_slc 8 b o 8 c (by omega) (by omega), opt_some, loadN_ptr, g4, Option.map_some, opt_some]
    refine S.insn_Of hE m hl8 fun H1 h1 => ?_
    have hbs : AM.buildS 1 4 #[(.int .u16 0), (.int .u8 0), (.int .u8 0), (.int .u32 0)] [(0, (insnOf m).v)] = some (.cells (insnOf m).cells none, fun b => slc b 0 1 1) := by
      simp [InsnD.cells, splice]
    rw [hbs, mk_some]
    generalize hH2 : H1.new _ = H2
    have x2 : Ext H1 H2 := by subst hH2; exact (Ext.refl _).new _
    have hr1 : Rows H2 4 (slc H1.next 0 1 1) [(insnOf m).cells] := Rows.made (f := none) (by subst hH2; simp) (.inl rfl) rfl (by simp [InsnD.cells])
    have x02 : Ext H' H2 := h1.trans x2
    have hcl := chunks8_len l
    obtain ⟨v4, H3, a1, a2, a3⟩ := (ho.mono x02).app (hx.trans x02) (bytes := 8) hr1 (by simp [InsnD.cells]) (by omega) (by omega) (by simp; omega) (by simp; omega)
    rw [a1, opt2_some]
    have p1 := (Vals.slice' (hv.mono a3.1) (lo := some (vi 8)) (hi := none) (i := 8) (j := (l.drop (8 * i)).length) (.inl rfl) (.inr ⟨rfl, by simp⟩) (by simp; omega) (by simp)).1
    have p2 := (Vals.slice' hv (lo := some (vi 8)) (hi := none) (i := 8) (j := (l.drop (8 * i)).length) (.inl rfl) (.inr ⟨rfl, by simp⟩) (by simp; omega) (by simp)).2
    rw [show (some (Value.int .i64 8)) = some (vi 8) from rfl, p1, opt_some]
    refine hX hil _ _ ⟨_, v4, rfl, a3.1, ?_, ?_⟩
    · have e5 : (((l.drop (8 * i)).map u8).take (l.drop (8 * i)).length).drop 8 = (l.drop (8 * (i + 1))).map u8 := by
        rw [List.take_of_length_le (by simp), ← List.map_drop, List.drop_drop]; congr 2
      rwa [e5] at p2
    · rw [List.take_succ_eq_append_getElem (by omega : i < (chunks8 l).length), List.map_append]
      have : (chunks8 l)[i]'(by omega) = insnOf m := by simp [chunks8, hm]
      rw [this]; simpa using a2
  · have : i = l.length / 8 := by omega
    subst this
    rw [List.take_of_length_le (by rw [chunks8_len]; omega)] at ho
    exact hQ _ _ hx ho.toRows
end Go.AM
