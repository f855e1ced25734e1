/- CONTRACTS ON THE PRINTED FUNCTIONS: LawInsnBytes2. -/
import Derived.Test.YtjpdppohflailaaF
import Derived.Test.YtjpdppohflailaaAmStr
import Derived.Test.YtjpdppohflailaaAmTyped
import Derived.Test.YtjpdppohflailaaConLawInsnBytes
set_option linter.all false
namespace Go.AM
variable {E : Sy} {H : AH} {Q : Value → AH → Prop}
theorem same_insn (d : InsnD) : binAgg [0, 0, 0, 0] .neq d.v d.v = some (.bool false) := by simp [InsnD.cells]
theorem S.pinfoldlaw03_same (hE : Fold E) (v1 v2 : Value) (l : List InsnD) (hl : l.length < 2 ^ 62) (h1 : Rows H 4 v1 (l.map InsnD.cells)) (h2 : Rows H 4 v2 (l.map InsnD.cells)) (hQ : Q (vb true) H) : E.call (E.fid i.pinfoldlaw03_same) [v1, v2] H Q := by
  apply hE.pinfoldlaw03_same
  have e1 := h1.lenSlc
  have e2 := h2.lenSlc
  simp only [List.length_map] at e1 e2
  simp [F.pinfoldlaw03_same, e1, e2]
  refine LoopL.count l.length (fun i s H' => H' = H ∧ s = [v1, v2, vi l.length, vi i]) ?_ ⟨rfl, rfl⟩
  rintro i _ _ X hi hX ⟨rfl, rfl⟩
  simp only [F.pinfoldlaw03_same_l1, nth_0, nth_1, nth_2, nth_3, i64_lss, opt_some]
  refine ifB_split (fun h => ?_) (fun h => hQ)
  have hil : i < l.length := by omega
  obtain ⟨b, o, f1, f2⟩ := h1.ix (i := i) (by simpa using hil)
  obtain ⟨b', o', g1, g2⟩ := h2.ix (i := i) (by simpa using hil)
  simp only [List.getElem_map] at f2 g2
  simp only [f1, g1, opt_some, loadN_ptr, f2, g2, Option.map_some]
  rw [same_insn, opt_some, ifB_false, i64_inc (by omega), opt_some]
  exact hX hil _ _ ⟨rfl, rfl⟩
theorem makeS_full (size bytes n : Nat) (z : List Value) (hz : z.length = size) (h1 : n * bytes ≤ 2 ^ 47) (h2 : n < 2 ^ 62) : makeS size bytes z.toArray (vi n) (vi n) = some (.cells (List.replicate n z).flatten none, fun b => slc b 0 n n) := by
  simp only [makeS]
  rw [if_pos ⟨by omega, by omega, by exact_mod_cast h1, by exact_mod_cast h2⟩]
  simp only [Int.toNat_natCast]
  rw [repl_eq n size _ (by simpa using hz)]
  rfl
def mapB (l : List (BitVec 8)) : List UInt8 := l.map UInt8.ofBitVec
theorem S.InsnBytes_tail (hE : Fold E) (more : BitVec 8) (hQ : ∀ H', Q (vb true) H') :
  opt (binInt .rem (u8 more) (.int .u8 12)) fun v72 =>
  opt (convInt .i64 v72) fun v73 =>
  opt (binInt .add (.int .i64 4090) v73) fun v74 =>
  opt (binInt .mul (.int .i64 8) v74) fun v75 =>
  AM.mk (makeS 1 1 #[(.int .u8 0)] v75 v75) H fun v76 H50 =>
  E.call (E.fid i.insn_Decode) [v76] H50 fun v77 H51 =>
  opt (ext v77 0) fun v78 =>
  opt (ext v77 1) fun v79 =>
  opt (binInt .eql v79 (.int .i64 0)) fun v80 =>
  opt (binInt .rem (u8 more) (.int .u8 12)) fun v81 =>
  opt (binInt .leq v81 (.int .u8 6)) fun v82 =>
  opt (binBool .eql v80 v82) fun v83 =>
  gd v83 true (fun k => k v79 H51) H51 fun v84 H52 =>
  gd v83 true (fun k => opt (binInt .eql v84 (.int .i64 0)) fun v => k v H52) H52 fun v85 H53 =>
  gd v83 true (fun k => k v85 H53) H53 fun v86 H54 =>
  gd v86 false (fun k => k v79 H54) H54 fun v87 H55 =>
  gd v86 false (fun k => opt (binInt .eql v87 (.int .i64 205)) fun v => k v H55) H55 fun v88 H56 =>
  gd v83 true (fun k => opt (pick v86 (.bool true) v88) fun v => k v H56) H56 fun v89 H57 =>
  opt (pick v83 v89 (.bool false)) fun v90 =>
  Q v90 H57 := by
  obtain ⟨r, hm⟩ : ∃ r, more.toNat % 12 = r := ⟨_, rfl⟩
  have hr : r < 12 := by omega
  have hi : (more.toNat : Int) % 12 = (r : Int) := by omega
  simp
  rw [hi, i64_add (by omega) (by omega), opt_some, i64_mul (by omega) (by omega), opt_some]
  have e8 : (8 : Int) * (4090 + (r : Int)) = ((8 * (4090 + r) : Nat) : Int) := by omega
  have hmk := makeS_full 1 1 (8 * (4090 + r)) [u8 0#8] rfl (by omega) (by omega)
  rw [e8, hmk, mk_some]
  have hfl : (List.replicate (8 * (4090 + r)) [u8 0#8]).flatten = (List.replicate (8 * (4090 + r)) 0#8).map u8 := by simp
  generalize hH1 : H.new _ = H1
  have hV : Vals H1 (slc H.next 0 (8 * (4090 + r)) (8 * (4090 + r))) ((List.replicate (8 * (4090 + r)) 0#8).map u8) := Vals.made (f := none) (by subst hH1; rw [AH.get_new_self, hfl]) (.inl rfl) (by simp)
  generalize hls : List.replicate (8 * (4090 + r)) 0#8 = ls at hV
  have hll : ls.length = 8 * (4090 + r) := by rw [← hls]; simp
  by_cases h6 : r ≤ 6
  · refine S.insn_Decode_ok hE _ ls hV (by omega) (by omega) fun v' H' hx hR => ?_
    simp [hm, h6]
    exact hQ _
  · refine S.insn_Decode_bad hE _ ls (by omega) hV (.inr (by omega)) ?_
    have : ls.length % 8 = 0 := by omega
    simp [this, hm, h6]
    exact hQ _
theorem S.InsnBytes_end (hE : Fold E) (v1 v2 t7 : Value) (l : List InsnD) (b : List (BitVec 8)) (more : BitVec 8) (hl : l.length ≤ 200) (hb : b.length ≤ 400)
    (h1 : Rows H 4 v1 (l.map InsnD.cells)) (h2 : Vals H v2 (b.map u8)) (h7 : Vals H t7 ((l.flatMap InsnD.bytes).map u8)) (hQ : ∀ H', Q (vb true) H') (X : List Value → AH → Prop) :
    F.pinfoldlaw03_InsnBytes_l1 E Q v1 v2 (u8 more) t7 v1 (vi l.length) (vi l.length) H X := by
  have hbl := bytes_flat_len l
  simp only [F.pinfoldlaw03_InsnBytes_l1, i64_lss, opt_some]
  rw [show decide ((l.length : Int) < (l.length : Int)) = false by simp, ifB_false]
  refine S.insn_Encode hE v1 l (by omega) h1 fun e H1 x1 he => ?_
  refine S.insn_Decode_ok hE e _ he (by omega) (by omega) fun bk H2 x2 hbk => ?_
  rw [chunks8_of] at hbk
  have e0 : ext (.tuple #[bk, vi 0]) 0 = some bk := by rw [ext_tuple]; rfl
  have e1 : ext (.tuple #[bk, vi 0]) 1 = some (vi 0) := by rw [ext_tuple]; rfl
  simp only [e0, e1, opt_some]
  have se : ∀ {H' : AH}, Ext H1 H' → strOf e H' = some (str (mapB (l.flatMap InsnD.bytes))) := fun x => strOf_vals (he.mono x)
  have st : ∀ {H' : AH}, Ext H H' → strOf t7 H' = some (str (mapB (l.flatMap InsnD.bytes))) := fun x => strOf_vals (h7.mono x)
  have sb : ∀ {H' : AH}, Ext H H' → strOf v2 H' = some (str (mapB b)) := fun x => strOf_vals (h2.mono x)
  have hlb := h2.lenSlc
  simp only [List.length_map] at hlb
  have r8 : binInt .rem (vi (b.length : Int)) (vi 8) = some (vi ((b.length % 8 : Nat) : Int)) := i64_rem_n b.length 8 (by omega)
  by_cases h8 : b.length % 8 = 0
  · refine S.insn_Decode_ok hE v2 b (h2.mono (x1.trans x2)) h8 (by omega) fun got H3 x3 hg => ?_
    have x03 := (x1.trans x2).trans x3
    have g0 : ext (.tuple #[got, vi 0]) 0 = some got := by rw [ext_tuple]; rfl
    have g1 : ext (.tuple #[got, vi 0]) 1 = some (vi 0) := by rw [ext_tuple]; rfl
    simp only [g0, g1, opt_some, se (x2.trans x3), st x03]
    simp
    refine S.pinfoldlaw03_same hE bk v1 l (by omega) (hbk.mono x3) (h1.mono x03) ?_
    simp [hlb]
    rw [r8, h8]
    simp [sb x03]
    refine S.insn_Encode hE got (chunks8 b) (by rw [chunks8_len]; omega) hg fun e2 H4 x4 he2 => ⟨by rw [sb (x03.trans x4)], ?_⟩
    rw [chunks8_bytes b h8] at he2
    rw [strOf_vals he2]
    simp [mapB]
    simpa using S.InsnBytes_tail hE more hQ
  · refine S.insn_Decode_bad hE v2 b (by omega) (h2.mono (x1.trans x2)) (.inl h8) ?_
    have x02 := x1.trans x2
    have g0 : ext (.tuple #[nilS, vi (if b.length % 8 ≠ 0 then 203 else 205)]) 0 = some nilS := by rw [ext_tuple]; rfl
    have g1 : ext (.tuple #[nilS, vi (if b.length % 8 ≠ 0 then 203 else 205)]) 1 = some (vi 203) := by simp [h8]
    simp only [g0, g1, opt_some, se x2, st x02]
    simp
    refine S.pinfoldlaw03_same hE bk v1 l (by omega) hbk (h1.mono x02) ?_
    have h8' : ¬ (b.length : Int) % 8 = 0 := by omega
    simp [hlb]
    rw [r8]
    simp [h8']
    simpa using S.InsnBytes_tail hE more hQ
theorem S.InsnBytes_ (hE : Fold E) (v1 v2 : Value) (l : List InsnD) (b : List (BitVec 8)) (more : BitVec 8) (h1 : Rows H 4 v1 (l.map InsnD.cells)) (h2 : Vals H v2 (b.map u8)) (hQ : ∀ H', Q (vb true) H') :
    E.call (E.fid i.pinfoldlaw03_InsnBytes) [v1, v2, u8 more] H Q := by
  apply hE.pinfoldlaw03_InsnBytes
  unfold F.pinfoldlaw03_InsnBytes
  apply S.pinfoldlaw03_Awake hE
  intro H1 x1
  have hl1 := h1.lenSlc
  have hl2 := h2.lenSlc
  simp only [List.length_map] at hl1 hl2
  simp [hl1, hl2]
  by_cases ha : 200 < l.length
  · have : (200 : Int) < (l.length : Int) := by omega
    simp [this]; exact hQ _
  have ha' : ¬ (200 : Int) < (l.length : Int) := by omega
  simp [ha', hl2]
  by_cases hb : 400 < b.length
  · have : (400 : Int) < (b.length : Int) := by omega
    simp [this]; exact hQ _
  have hb' : ¬ (400 : Int) < (b.length : Int) := by omega
  simp [hb', hl1]
  have r1 := h1.mono x1
  have r2 := h2.mono x1
  clear h1 h2 x1
  refine LoopL.count l.length (fun i s H' => ∃ w, s = [v1, v2, u8 more, w, v1, vi l.length, vi i] ∧ Ext H1 H' ∧ Own H1 H' 1 w ((((l.take i).flatMap InsnD.bytes).map u8).map fun x => [x])) ?_ ⟨nilS, rfl, Ext.refl _, by simpa using Own.nil H1 H1 1⟩
  rintro i _ H' X hi hX ⟨w, rfl, hx, ho⟩
  by_cases hil' : i = l.length
  · subst hil'
    rw [List.take_length] at ho
    exact S.InsnBytes_end hE v1 v2 w l b more (by omega) (by omega) (r1.mono hx) (r2.mono hx) ho.toRows hQ X
  have hil : i < l.length := by omega
  obtain ⟨b1, o1, f1, f2⟩ := Rows.ix (r1.mono hx) (i := i) (by simpa using hil)
  simp only [List.getElem_map] at f2
  simp only [F.pinfoldlaw03_InsnBytes_l1, nth_0, nth_1, nth_2, nth_3, nth_4, nth_5, nth_6, i64_lss, opt_some]
  rw [show decide ((i : Int) < (l.length : Int)) = true by simp; omega, ifB_true]
  simp only [f1, opt_some, loadN_ptr, f2, Option.map_some]
  have hd : l[i] = l[i] := rfl
  generalize hdd : l[i] = d at *
  simp [InsnD.cells, splice]
  generalize hH2 : H'.new _ = H2
  have x2 : Ext H' H2 := by subst hH2; exact (Ext.refl _).new _
  have k2 : H2.get H'.next = .cells d.cells none := by subst hH2; simp [InsnD.cells]
  clear hH2
  have ld : ∀ {H'' : AH}, Ext H2 H'' → (H''.get H'.next).row 0 4 = some d.cells := fun x => by
    rw [x.cells k2, row_cells, if_pos (by simp [InsnD.cells])]; rfl
  refine S.insn_Insn_Bytes hE _ _ _ _ fun H3 x3 => ?_
  have hs : storeN 8 (ptr H3.next 0) (bytesV (ibytes d.code d.jt d.jf d.k)) (H3.new (.cells (zs 8 (u8 0#8)) none)) = some (H3.new (.cells (d.bytes.map u8) none)) := by
    rw [storeN_ptr, AH.get_new_self]
    simp [splice, InsnD.bytes, ibytes]
  rw [hs, opt_some, slArr_all 8 _ _ (by omega), opt_some]
  generalize hH5 : H3.new _ = H5
  have x5 : Ext H3 H5 := by subst hH5; exact (Ext.refl _).new _
  have k5 : H5.get H3.next = .cells (d.bytes.map u8) none := by subst hH5; simp
  clear hH5
  have hbv : Vals H5 (slc H3.next 0 8 8) (d.bytes.map u8) := Vals.made k5 (.inl rfl) (by simp [InsnD.bytes_len])
  have x25 : Ext H2 H5 := x3.trans x5
  rw [strOf_vals hbv, opt_some, ld x25, Option.map_some, opt_some]
  refine S.pinfoldlaw03_Ref hE d fun H6 x6 => ⟨by rw [strOf_vals (hbv.mono x6)], ?_⟩
  refine S.pinfoldref03_Bytes hE d fun w2 H7 x7 hw2 => ⟨by rw [strOf_vals (hbv.mono (x6.trans x7))], ?_⟩
  rw [strOf_vals hw2]
  have k7 : H7.get H3.next = .cells (d.bytes.map u8) none := (x6.trans x7).cells k5
  have ld8 : (H7.get H3.next).row 0 8 = some (d.bytes.map u8) := by
    rw [k7, row_cells, if_pos (by simp [InsnD.bytes_len])]
    simp [List.take_of_length_le (by simp [InsnD.bytes_len] : (d.bytes.map u8).length ≤ 8)]
  have x27 : Ext H2 H7 := x25.trans (x6.trans x7)
  simp [ld8, ld x27]
  refine S.insn_Of hE d.bytes (InsnD.bytes_len d) fun H8 x8 => ⟨ld (x27.trans x8), ?_⟩
  rw [insnOf_bytes, same_insn]
  simp [slArr_all]
  have x08 : Ext H' H8 := x2.trans (x27.trans x8)
  have hlm : (((l.take i).flatMap InsnD.bytes).map u8).length = 8 * i := by
    rw [List.length_map, bytes_flat_len, List.length_take, Nat.min_eq_left hi]
  obtain ⟨w3, H9, a1, a2, a3⟩ := (ho.mono x08).app (hx.trans x08) (bytes := 1) (hbv.mono ((x6.trans x7).trans x8)) (by simp) (by omega) (by omega) (by simp [InsnD.bytes_len] at *; omega) (by simp [InsnD.bytes_len] at *; omega)
  rw [a1, opt2_some, i64_inc (by omega), opt_some]
  refine hX hil _ _ ⟨w3, rfl, a3.1, ?_⟩
  rw [List.take_succ_eq_append_getElem hil, List.flatMap_append, List.map_append, List.map_append]
  simpa [hdd] using a2
theorem SV.insn {cs : List Value} (h : SV H (.struct [.int .u16, .int .u8, .int .u8, .int .u32]) cs) : ∃ d : InsnD, cs = d.cells := by
  obtain ⟨c1, c2, rfl, h1, c3, c4, rfl, h2, c5, c6, rfl, h3, c7, c8, rfl, h4, rfl⟩ := h
  obtain ⟨x1, rfl⟩ := h1.u16
  obtain ⟨x2, rfl⟩ := h2.u8
  obtain ⟨x3, rfl⟩ := h3.u8
  obtain ⟨x4, rfl⟩ := h4.u32
  exact ⟨⟨x1, x2, x3, x4⟩, rfl⟩
theorem rows_fn {α : Type} {f : α → List Value} : ∀ {rows : List (List Value)}, (∀ r ∈ rows, ∃ x, r = f x) → ∃ l : List α, rows = l.map f
  | [], _ => ⟨[], rfl⟩
  | r :: rows, h => by
    obtain ⟨x, rfl⟩ := h r (by simp)
    obtain ⟨l, rfl⟩ := rows_fn (rows := rows) (fun r hr => h r (by simp [hr]))
    exact ⟨x :: l, rfl⟩
theorem S.law_InsnBytes (hE : Fold E) (args : List Value) (ha : ArgsSV H [.slice 4 (.struct [.int .u16, .int .u8, .int .u8, .int .u32]), .slice 1 (.int .u8), .int .u8] args) (hQ : ∀ H', Q (vb true) H') : E.call (E.fid i.pinfoldlaw03_InsnBytes) args H Q := by
  obtain ⟨v1, _, rfl, h1, ha⟩ := ha.cons_inv
  obtain ⟨v2, _, rfl, h2, ha⟩ := ha.cons_inv
  obtain ⟨v3, _, rfl, h3, ha⟩ := ha.cons_inv
  obtain rfl := ha.nil_inv
  obtain ⟨w, rows, e, q1, _, q3⟩ := (show SV H (.slice 4 _) [v1] from h1)
  obtain rfl : v1 = w := by simpa using e
  obtain ⟨b, hb⟩ := h2.u8s
  obtain ⟨m, rfl⟩ := h3.u8
  have : ∃ l : List InsnD, rows = l.map InsnD.cells := rows_fn fun r hr => SV.insn (q3 r hr)
  obtain ⟨l, rfl⟩ := this
  exact S.InsnBytes_ hE v1 v2 l b m q1 hb hQ
end Go.AM
