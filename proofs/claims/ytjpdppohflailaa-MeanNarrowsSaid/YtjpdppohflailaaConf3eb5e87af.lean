/- CONTRACTS ON THE PRINTED FUNCTIONS: Base, RecordPure, Record, Insn, Insn2, Insn3, RecordBytes, RecordOf, RecordRound, RecordWord, Mean, Mean2, Mean3, LawRecordOrder, LawRecordActions, Mean4, Mean5, Mean6, Law11Awake, Law11Ref, Law09Few, Law09Ref, SmallCond, Calls, Records, Res, Law09RefAll, SmallPol, SmallPol2, MeanSpk, Speaks, LawRecordHalves, LawArgs. -/
import Derived.Test.YtjpdppohflailaaF
import Derived.Test.YtjpdppohflailaaAmD
set_option linter.all false
section
/- words for heaps that change: what stays, what is frozen, slices that grow, maps -/
namespace Go.AM
/-! ### what else stays -/
def Only (F : List Nat) (H H' : AH) : Prop := H.next ≤ H'.next ∧ ∀ b, b < H.next → b ∉ F → H'.get b = H.get b
theorem Only.refl (F : List Nat) (H : AH) : Only F H H := ⟨Nat.le_refl _, fun _ _ _ => rfl⟩
theorem Only.trans {F F' : List Nat} {H H' H'' : AH} (h : Only F H H') (h' : Only F' H' H'') (hs : ∀ b ∈ F', b ∈ F ∨ H.next ≤ b) : Only F H H'' :=
  ⟨Nat.le_trans h.1 h'.1, fun b hb hf => by
    rw [h'.2 b (Nat.lt_of_lt_of_le hb h.1) (fun k => (hs b k).elim hf (fun k => by omega)), h.2 b hb hf]⟩
theorem Only.trans' {F : List Nat} {H H' H'' : AH} (h : Only F H H') (h' : Only F H' H'') : Only F H H'' := h.trans h' fun _ k => .inl k
theorem Only.new {F : List Nat} {H H' : AH} (h : Only F H H') (o : AObj) : Only F H (H'.new o) :=
  ⟨Nat.le_succ_of_le h.1, fun b hb hf => by rw [AH.get_new_lt _ _ (Nat.lt_of_lt_of_le hb h.1)]; exact h.2 b hb hf⟩
theorem Only.put {F : List Nat} {H H' : AH} (h : Only F H H') {b : Nat} (hb : b ∈ F ∨ H.next ≤ b) (o : AObj) : Only F H (H'.put b o) :=
  ⟨h.1, fun x hx hf => by rw [AH.get_put_ne _ _ (by rintro rfl; exact hb.elim hf (fun k => by omega))]; exact h.2 x hx hf⟩
theorem Ext.only {F : List Nat} {H H' : AH} (h : Ext H H') : Only F H H' := ⟨h.1, fun b hb _ => h.2 b hb⟩
theorem Only.get {F : List Nat} {H H' : AH} (h : Only F H H') {b : Nat} (hb : b < H.next) (hf : b ∉ F) : H'.get b = H.get b := h.2 b hb hf
theorem Only.obj {F : List Nat} {H H' : AH} (h : Only F H H') {b : Nat} {o : AObj} (ho : o ≠ .dead) (hg : H.get b = o) (hf : b ∉ F) : H'.get b = o := by
  rw [h.2 b (AH.lt_of_get (by rw [hg]; exact ho)) hf, hg]
theorem Only.cells {F : List Nat} {H H' : AH} (h : Only F H H') {b : Nat} {c : List Value} {f : Option Nat} (hg : H.get b = .cells c f) (hf : b ∉ F) : H'.get b = .cells c f := h.obj (by simp) hg hf
theorem Only.mono {F F' : List Nat} {H H' : AH} (h : Only F H H') (hs : ∀ b ∈ F, b ∈ F' ∨ H.next ≤ b) : Only F' H H' :=
  ⟨h.1, fun b hb hf => h.2 b hb fun k => (hs b k).elim hf (fun k => by omega)⟩
theorem Only.ext {F : List Nat} {H0 H H' : AH} (h : Only F H H') (e : Ext H0 H) (hs : ∀ b ∈ F, H0.next ≤ b) : Ext H0 H' :=
  ⟨Nat.le_trans e.1 h.1, fun b hb => by rw [h.2 b (Nat.lt_of_lt_of_le hb e.1) (fun k => by have := hs b k; omega)]; exact e.2 b hb⟩
/-! ### what is frozen -/
def Sub (Z H : AH) : Prop := Z.next ≤ H.next ∧ ∀ b, Z.get b ≠ .dead → H.get b = Z.get b
theorem Sub.refl (H : AH) : Sub H H := ⟨Nat.le_refl _, fun _ _ => rfl⟩
theorem Ext.sub {H H' : AH} (e : Ext H H') : Sub H H' := ⟨e.1, fun _ hb => e.get (AH.lt_of_get hb)⟩
theorem Sub.trans {A B C : AH} (h : Sub A B) (h' : Sub B C) : Sub A C := ⟨Nat.le_trans h.1 h'.1, fun b hb => by rw [h'.2 b (by rw [h.2 b hb]; exact hb), h.2 b hb]⟩
theorem Sub.ext {Z H H' : AH} (h : Sub Z H) (e : Ext H H') : Sub Z H' := h.trans e.sub
theorem Sub.new {Z H : AH} (h : Sub Z H) (o : AObj) : Sub Z (H.new o) := h.ext ((Ext.refl H).new o)
theorem Sub.put {Z H : AH} (h : Sub Z H) {b : Nat} (hb : Z.get b = .dead) (o : AObj) : Sub Z (H.put b o) :=
  ⟨h.1, fun x hx => by rw [AH.get_put_ne _ _ (by rintro rfl; exact hx hb)]; exact h.2 x hx⟩
theorem Sub.only {Z H H' : AH} {F : List Nat} (h : Sub Z H) (o : Only F H H') (hF : ∀ b ∈ F, Z.get b = .dead) : Sub Z H' :=
  ⟨Nat.le_trans h.1 o.1, fun b hb => by
    have h1 := h.2 b hb
    rw [o.2 b (AH.lt_of_get (by rw [h1]; exact hb)) (fun k => hb (hF b k)), h1]⟩
theorem Sub.cells {Z H : AH} (h : Sub Z H) {b : Nat} {c : List Value} {f : Option Nat} (hb : Z.get b = .cells c f) : H.get b = .cells c f := by
  rw [h.2 b (by rw [hb]; simp), hb]
theorem AH.get_ge (H : AH) {b : Nat} (h : H.next ≤ b) : H.get b = .dead := by simp [AH.get, Nat.not_lt.2 h]
theorem Rows.sub {Z H : AH} {sz : Nat} {v : Value} {rows : List (List Value)} (h : Rows Z sz v rows) (e : Sub Z H) : Rows H sz v rows := by
  refine ⟨h.len, ?_⟩
  rcases h.at_ with h | ⟨b, o, c, h1, h2, h3, h4⟩
  · exact .inl h
  · have := e.2 b (row_notdead h4)
    exact .inr ⟨b, o, c, h1, h2, by rw [this]; exact h3, by rw [this]; exact h4⟩
/-- One block more is frozen. -/
def AH.freeze (Z : AH) (n b : Nat) (o : AObj) : AH := { next := n, raw := fun x => if x = b then o else Z.get x }
theorem AH.get_freeze (Z : AH) (n b : Nat) (o : AObj) (x : Nat) (hn : Z.next ≤ n) (hb : b < n) : (Z.freeze n b o).get x = if x = b then o else Z.get x := by
  by_cases h : x = b
  · subst h; simp [AH.get, AH.freeze, hb]
  · by_cases k : x < n
    · simp [AH.get, AH.freeze, h, k]
    · have : ¬ x < Z.next := by omega
      simp [AH.get, AH.freeze, h, k, this]
theorem Sub.freeze {Z H : AH} (h : Sub Z H) {b : Nat} (hb : b < H.next) : Sub (Z.freeze H.next b (H.get b)) H :=
  ⟨Nat.le_refl _, fun x hx => by
    rw [AH.get_freeze _ _ _ _ _ h.1 hb] at hx ⊢
    split
    · rename_i e; rw [e]
    · rename_i e; rw [if_neg e] at hx; exact h.2 x hx⟩
theorem Sub.to_freeze {Z H : AH} (h : Sub Z H) {b : Nat} (hb : b < H.next) : Sub Z (Z.freeze H.next b (H.get b)) :=
  ⟨h.1, fun x hx => by
    rw [AH.get_freeze _ _ _ _ _ h.1 hb]
    split
    · rename_i e; rw [← h.2 x hx, e]
    · rfl⟩
/-! ### slices that grow -/
def Grow (Z H : AH) (sz : Nat) (v : Value) (rows : List (List Value)) : Prop :=
  (∀ r ∈ rows, r.length = sz ∧ r.all plain1 = true) ∧ ((rows = [] ∧ v = nilS) ∨ ∃ b f c cs, Z.get b = .dead ∧ v = slc b 0 rows.length c ∧ H.get b = .cells cs f ∧ rows.length ≤ c ∧ cs.length = c * sz ∧ cs.take (rows.length * sz) = rows.flatten ∧
    (f = none ∨ f = some sz ∧ c = rows.length))
section
variable {Z H H' : AH} {sz : Nat} {v : Value} {rows : List (List Value)}
theorem Grow.nil (Z H : AH) (sz : Nat) : Grow Z H sz nilS [] := ⟨by simp, .inl ⟨rfl, rfl⟩⟩
theorem Grow.made {b n : Nat} {f : Option Nat} (hb : Z.get b = .dead) (hg : H.get b = .cells rows.flatten f) (hf : f = none ∨ f = some sz) (hn : rows.length = n) (hr : ∀ r ∈ rows, r.length = sz ∧ r.all plain1 = true) : Grow Z H sz (slc b 0 n n) rows := by
  subst hn
  have hfl := flatten_length rows fun r h => (hr r h).1
  exact ⟨hr, .inr ⟨b, f, rows.length, rows.flatten, hb, rfl, hg, Nat.le_refl _, hfl, by rw [← hfl, List.take_length], hf.imp id fun h => ⟨h, rfl⟩⟩⟩
theorem Grow.room {b c : Nat} {cs : List Value} (hb : Z.get b = .dead) (hg : H.get b = .cells cs none) (hc : cs.length = c * sz) : Grow Z H sz (slc b 0 0 c) [] :=
  ⟨by simp, .inr ⟨b, none, c, cs, hb, rfl, hg, Nat.zero_le _, hc, by simp, .inl rfl⟩⟩
theorem Grow.toRows (h : Grow Z H sz v rows) : Rows H sz v rows := by
  rcases h.2 with ⟨rfl, rfl⟩ | ⟨b, f, c, cs, h1, rfl, h3, h4, h5, h6, h7⟩
  · exact Rows.nil _ _ none
  · refine ⟨fun r hr => (h.1 r hr).1, .inr ⟨b, 0, c, rfl, h4, ?_, ?_⟩⟩
    · rw [h3]; rcases h7 with rfl | ⟨rfl, _⟩ <;> simp [fits]
    · have : rows.length * sz ≤ c * sz := Nat.mul_le_mul_right _ h4
      rw [h3, row_cells, if_pos (by omega), List.drop_zero, h6]
theorem Grow.plain (h : Grow Z H sz v rows) : plain1 v = true := by
  rcases h.2 with ⟨_, rfl⟩ | ⟨b, f, c, cs, h1, rfl, _⟩ <;> rfl
theorem Grow.keep (h : Grow Z H sz v rows) (e : ∀ b, blk v = some b → b < H.next → H'.get b = H.get b) : Grow Z H' sz v rows := by
  refine ⟨h.1, ?_⟩
  rcases h.2 with h | ⟨b, f, c, cs, h1, rfl, h3, h4⟩
  · exact .inl h
  · exact .inr ⟨b, f, c, cs, h1, rfl, by rw [e b rfl (AH.lt_cells h3)]; exact h3, h4⟩
theorem Grow.ext (h : Grow Z H sz v rows) (e : Ext H H') : Grow Z H' sz v rows := h.keep fun b _ hb => e.get hb
theorem Grow.only {F : List Nat} (h : Grow Z H sz v rows) (e : Only F H H') (hf : ∀ b, blk v = some b → b ∉ F) : Grow Z H' sz v rows := h.keep fun b k hb => e.get hb (hf b k)
theorem Grow.blk_dead (h : Grow Z H sz v rows) {b : Nat} (hb : blk v = some b) : Z.get b = .dead := by
  rcases h.2 with ⟨_, rfl⟩ | ⟨b', f, c, cs, h1, rfl, _⟩
  · simp [blk] at hb
  · simp [blk] at hb; subst hb; exact h1
theorem Grow.blk_lt (h : Grow Z H sz v rows) {b : Nat} (hb : blk v = some b) : b < H.next := by
  rcases h.2 with ⟨_, rfl⟩ | ⟨b', f, c, cs, h1, rfl, h3, _⟩
  · simp [blk] at hb
  · simp [blk] at hb; subst hb; exact AH.lt_cells h3
theorem Grow.refreeze {Z' : AH} (h : Grow Z H sz v rows) (hz : ∀ b, blk v = some b → Z'.get b = .dead) : Grow Z' H sz v rows := by
  refine ⟨h.1, ?_⟩
  rcases h.2 with h | ⟨b, f, c, cs, h1, rfl, h3⟩
  · exact .inl h
  · exact .inr ⟨b, f, c, cs, hz b rfl, rfl, h3⟩
def blkL (v : Value) : List Nat := match blk v with | some b => [b] | none => []
theorem mem_blkL {v : Value} {b : Nat} : b ∈ blkL v ↔ blk v = some b := by
  unfold blkL
  cases blk v <;> simp [eq_comm]
/-- A slice that grew is frozen. -/
theorem Grow.freeze (h : Grow Z H sz v rows) (hz : Sub Z H) : ∃ Z', Sub Z Z' ∧ Sub Z' H ∧ Rows Z' sz v rows ∧ ∀ b, blk v ≠ some b → Z'.get b = Z.get b := by
  have hr := h.toRows
  rcases h.2 with ⟨rfl, rfl⟩ | ⟨b, f, c, cs, h1, rfl, h3, h4, h5, h6, h7⟩
  · exact ⟨Z, Sub.refl _, hz, Rows.nil _ _ none, fun _ _ => rfl⟩
  · have hlt := AH.lt_cells h3
    have hg : ∀ x, (Z.freeze H.next b (H.get b)).get x = if x = b then H.get b else Z.get x := fun x => AH.get_freeze _ _ _ _ _ hz.1 hlt
    refine ⟨Z.freeze H.next b (H.get b), hz.to_freeze hlt, hz.freeze hlt, ?_, fun x hx => ?_⟩
    · refine ⟨hr.len, ?_⟩
      rcases hr.at_ with ⟨g1, a, g2⟩ | ⟨b', o, c', g1, g2, g3, g4⟩
      · exact .inl ⟨g1, a, g2⟩
      · simp only [Value.slice.injEq, Option.some.injEq, Addr.mk.injEq] at g1
        obtain ⟨⟨rfl, rfl, _⟩, _, rfl⟩ := g1
        exact .inr ⟨b, 0, c, rfl, g2, by rw [hg, if_pos rfl]; exact g3, by rw [hg, if_pos rfl]; exact g4⟩
    · rw [hg, if_neg (by rintro rfl; exact hx rfl)]
def Grew' (H H' : AH) (v v' : Value) : Prop := Only (blkL v) H H' ∧ ∀ b, blk v' = some b → blk v = some b ∨ H.next ≤ b
theorem Grow.app (h : Grow Z H sz v rows) (hZ : Z.next ≤ H.next) {bytes : Nat} {x : Value} {new : List (List Value)} (hx : Rows H sz x new) (hp : ∀ r ∈ new, r.all plain1 = true)
    (hs : sz ≠ 0) (hb : bytes ≠ 0) (h1 : (rows.length + new.length) * bytes ≤ 2 ^ 46) (h2 : rows.length + new.length < 2 ^ 62) :
    ∃ v' H', AM.app sz bytes v x H = some (v', H') ∧ Grow Z H' sz v' (rows ++ new) ∧ Grew' H H' v v' := by
  have hrows := h.toRows
  have hall : ∀ r ∈ rows ++ new, r.length = sz ∧ r.all plain1 = true := by
    intro r hr
    rcases List.mem_append.1 hr with hr | hr
    · exact h.1 r hr
    · exact ⟨hx.len r hr, hp r hr⟩
  have hpn : new.flatten.all plain1 = true := all_flatten hp
  have hpo : rows.flatten.all plain1 = true := all_flatten fun r hr => (h.1 r hr).2
  have hfn := flatten_length new hx.len
  have hfo := flatten_length rows fun r hr => (h.1 r hr).1
  have hnew : srcRow sz new.length x H = some new.flatten := firstRow_rows hx
  rcases h.2 with ⟨rfl, rfl⟩ | ⟨b, f, c, cs, g1, rfl, g3, g4, g5, g6, g7⟩
  · by_cases hn : new = []
    · subst hn
      refine ⟨nilS, H, ?_, ⟨by simp, .inl ⟨rfl, rfl⟩⟩, Only.refl _ _, fun b hb => .inl hb⟩
      have e := lenO_rows hx
      simp at e hnew
      simp [AM.app, e, hnew]
    · have hpos : 0 < new.length := List.length_pos_iff.2 hn
      refine ⟨slc H.next 0 new.length new.length, H.new (.cells new.flatten (some sz)), ?_, Grow.made (AH.get_ge _ hZ) (AH.get_new_self _ _) (.inr rfl) (by simp) (by simpa using hall), (Only.refl _ _).new _, fun b hb => .inr (by simp [blk] at hb; omega)⟩
      simp only [AM.app, lenO_rows hx, hnew, Option.bind_some, hpn, Bool.not_true, Bool.false_eq_true, if_false]
      simp at h1 h2
      rw [if_neg (by omega), if_neg (by simp; omega)]
      simp [firstRow]
  · have hlt := AH.lt_cells g3
    have hbl : blkL (slc b 0 rows.length c) = [b] := rfl
    have hmul : (rows.length + new.length) * sz = rows.length * sz + new.length * sz := Nat.add_mul _ _ _
    by_cases hcap : rows.length + new.length ≤ c
    · have hle : (rows.length + new.length) * sz ≤ c * sz := Nat.mul_le_mul_right _ hcap
      refine ⟨slc b 0 (rows.length + new.length) c, H.put b (.cells (splice cs (rows.length * sz) new.flatten) f), ?_, ⟨hall, .inr ⟨b, f, c, _, g1, by simp, AH.get_put_self _ _ hlt, by simpa using hcap, ?_, ?_, ?_⟩⟩, (Only.refl _ _).put (.inl (by simp [hbl])) _, fun b' hb' => .inl (by simpa [blk] using hb')⟩
      · simp only [AM.app, lenO_rows hx, hnew, Option.bind_some, hpn, Bool.not_true, Bool.false_eq_true, if_false]
        rw [if_pos hcap]
        simp only [Option.isSome_none, Bool.false_eq_true, if_false, g3]
        rw [if_pos (by omega), Nat.zero_add]
      · rw [splice_length (by omega)]; exact g5
      · simp only [List.length_append, List.flatten_append, hmul, splice]
        rw [List.take_append_of_le_length (by rw [List.length_append, List.length_take, hfn]; omega), List.take_of_length_le (by rw [List.length_append, List.length_take, hfn]; omega), g6]
      · rcases g7 with rfl | ⟨rfl, rfl⟩
        · exact .inl rfl
        · have : new.length = 0 := by omega
          exact .inr ⟨rfl, by rw [List.length_append]; omega⟩
    · have hold : firstRow sz rows.length (slc b 0 rows.length c) H = some rows.flatten := by
        have : rows.length * sz ≤ c * sz := Nat.mul_le_mul_right _ g4
        simp only [firstRow, Option.isSome_none, Bool.false_eq_true, if_false, g3, row_cells]
        rw [if_pos (by omega), List.drop_zero, g6]
      have hfin : ∀ H1 : AH, H1.next = H.next → AM.app sz bytes (slc b 0 rows.length c) x H = some (mkSlc (rows.length + new.length) (rows.length + new.length) H.next, H1.new (.cells (rows.flatten ++ new.flatten) (some sz))) →
          Only [b] H H1 →
          ∃ v' H', AM.app sz bytes (slc b 0 rows.length c) x H = some (v', H') ∧ Grow Z H' sz v' (rows ++ new) ∧ Grew' H H' (slc b 0 rows.length c) v' := by
        intro H1 e1 e2 e3
        exact ⟨_, _, e2, Grow.made (AH.get_ge _ hZ) (by rw [← e1, AH.get_new_self, List.flatten_append]) (.inr rfl) (by simp) hall, by rw [hbl]; exact e3.new _, fun b' hb' => .inr (by simp [blk] at hb'; omega)⟩
      have pre : AM.app sz bytes (slc b 0 rows.length c) x H = (match f with
          | none => some (mkSlc (rows.length + new.length) (rows.length + new.length) H.next, H.new (.cells (rows.flatten ++ new.flatten) (some sz)))
          | some e => if e = sz then some (mkSlc (rows.length + new.length) (rows.length + new.length) H.next, (H.put b .dead).new (.cells (rows.flatten ++ new.flatten) (some sz))) else none) := by
        simp only [AM.app, lenO_rows hx, hnew, Option.bind_some, hpn, Bool.not_true, Bool.false_eq_true, if_false]
        rw [if_neg hcap, if_neg (by omega), hold]
        simp only [Option.bind_some, hpo, Bool.not_true, Bool.false_eq_true, if_false, g3]
        cases f <;> rfl
      rcases g7 with rfl | ⟨rfl, _⟩
      · exact hfin H rfl pre (Only.refl _ _)
      · exact hfin (H.put b .dead) rfl (by rw [pre]; simp) ((Only.refl _ _).put (.inl (by simp)) _)
/-- One element more, as the code makes it: a slice of one, appended. -/
theorem Grow.app1 (h : Grow Z H sz v rows) (hZ : Z.next ≤ H.next) {bytes : Nat} (new : List Value) (hl : new.length = sz) (hp : new.all plain1 = true) (hs : sz ≠ 0) (hb : bytes ≠ 0) (h1 : (rows.length + 1) * bytes ≤ 2 ^ 46) :
    ∃ v' H', AM.app sz bytes v (slc H.next 0 1 1) (H.new (.cells new none)) = some (v', H') ∧ Grow Z H' sz v' (rows ++ [new]) ∧ Grew' H H' v v' := by
  have hb1 : 1 ≤ bytes := by omega
  have h2 : (rows.length + 1) * 1 ≤ (rows.length + 1) * bytes := Nat.mul_le_mul_left _ hb1
  obtain ⟨v', H', a1, a2, a3, a4⟩ := (h.ext ((Ext.refl H).new (.cells new none))).app (Nat.le_succ_of_le hZ) (bytes := bytes) (x := slc H.next 0 1 1) (new := [new]) (Rows.made (f := none) (by rw [AH.get_new_self]; simp) (.inl rfl) rfl (by simpa using hl)) (by simpa using hp) hs hb h1 (by simp at *; omega)
  refine ⟨v', H', a1, a2, ⟨by have := a3.1; simp at this; omega, fun b hb hf => ?_⟩, fun b hb => (a4 b hb).imp id fun k => by simp at k; omega⟩
  rw [a3.2 b (by simp; omega) hf, AH.get_new_lt _ _ hb]
end
/-! ### tables -/
theorem splice_mid (a b c v : List Value) (h : b.length = v.length) : splice (a ++ b ++ c) a.length v = a ++ v ++ c := by
  have h1 : (a ++ b ++ c).take a.length = a := by rw [List.append_assoc, List.take_left' rfl]
  have h2 : (a ++ b ++ c).drop (a.length + v.length) = c := by rw [← h, ← List.length_append, List.drop_left' rfl]
  simp only [splice, h1, h2]
theorem fillL_full (size : Nat) : ∀ (vs : List Value) (k : Nat) (pre post : List Value), pre.length = k * size → post.length = vs.length * size → (∀ v ∈ vs, (vcells v).length = size) →
    fillL (fun i => some (i * size, size)) (pre ++ post) ((List.range' k vs.length).zip vs) = some (pre ++ vs.flatMap vcells)
  | [], k, pre, post, _, h2, _ => by
    simp at h2
    simp [h2]
  | v :: vs, k, pre, post, h1, h2, h3 => by
    have hv := h3 v (by simp)
    have e : post = post.take size ++ post.drop size := (List.take_append_drop _ _).symm
    have hl : (post.take size).length = size := by rw [List.length_take, h2, List.length_cons, Nat.succ_mul]; omega
    have hs : splice (pre ++ post) (k * size) (vcells v) = (pre ++ vcells v) ++ post.drop size := by
      conv => lhs; rw [e]
      rw [← h1, ← List.append_assoc, splice_mid _ _ _ _ (by omega)]
    simp only [List.length_cons, List.range'_succ, List.zip_cons_cons, fillL_cons]
    rw [hv, hs]
    have ih := fillL_full size vs (k + 1) (pre ++ vcells v) (post.drop size) (by rw [List.length_append, h1, hv, Nat.succ_mul]) (by rw [List.length_drop, h2, List.length_cons, Nat.succ_mul]; omega) (fun x hx => h3 x (by simp [hx]))
    rw [ih]
    have hle : k * size + size ≤ pre.length + post.length := by rw [h1, h2, List.length_cons, Nat.succ_mul]; omega
    simp [hle]
/-- A slice made of as many parts as it has elements. -/
theorem buildS_full (len size : Nat) (zero : List Value) (parts : List (Nat × Value)) (vs : List Value) (hz : zero.length = size) (hp : parts = (List.range' 0 vs.length).zip vs) (hn : vs.length = len) (hd : vs.all defd = true) (hl : ∀ v ∈ vs, (vcells v).length = size) :
    buildS len size zero.toArray parts = some (.cells (vs.flatMap vcells) none, mkSlc len len) := by
  subst hp hn
  rw [buildS_eq _ _ _ _ hz]
  have h1 : ((List.range' 0 vs.length).zip vs).all (fun p => defd p.2) = true := by
    rw [List.all_eq_true] at hd ⊢
    intro p hp
    exact hd _ (List.of_mem_zip hp).2
  have := fillL_full size vs 0 [] (List.replicate vs.length zero).flatten (by simp) (by simp [hz]) hl
  simp only [List.nil_append] at this
  simp [h1, this]
  rfl
theorem buildS_one (size : Nat) (zero cs : List Value) (hz : zero.length = size) (h : cs.length = size) : buildS 1 size zero.toArray [(0, .agg cs.toArray)] = some (.cells cs none, mkSlc 1 1) := by
  have := buildS_full 1 size zero [(0, .agg cs.toArray)] [.agg cs.toArray] hz rfl rfl rfl (by simpa using h)
  simpa using this
theorem buildS_val (zero x : Value) (h : vcells x = [x]) (hd : defd x = true) : buildS 1 1 #[zero] [(0, x)] = some (.cells [x] none, mkSlc 1 1) := by
  have := buildS_full 1 1 [zero] [(0, x)] [x] rfl rfl rfl (by simp [hd]) (by simp [h])
  simpa [h] using this
@[simp] theorem callV_func (c : CallT) (g : FuncId) (a b : Array Value) (args : List Value) (H : AH) (K : Value → AH → Prop) : callV c (.func (.func g) a b) args H K = c g (a.toList ++ args ++ b.toList) H K := nrfl rfl
theorem nodup_le {α : Type} [DecidableEq α] : ∀ (l m : List α), l.Nodup → (∀ x ∈ l, x ∈ m) → l.length ≤ m.length
  | [], m, _, _ => Nat.zero_le _
  | x :: l, m, hn, hs => by
    have hx := hs x (by simp)
    rw [List.nodup_cons] at hn
    have := nodup_le l (m.erase x) hn.2 fun y hy => (List.mem_erase_of_ne (by rintro rfl; exact hn.1 hy)).2 (hs y (by simp [hy]))
    rw [List.length_erase_of_mem hx] at this
    have := List.length_pos_of_mem hx
    simp only [List.length_cons]
    omega
theorem lookup_set {K : Type} [DecidableEq K] {V : Type} (k : K) : ∀ l : List (K × V), (l.map fun p => (p.1, true)).lookup k = if k ∈ l.map Prod.fst then some true else none
  | [] => rfl
  | p :: l => by
    have ih := lookup_set k l
    by_cases e : k = p.1
    · simp [e, List.lookup]
    · have e' : (k == p.1) = false := by simpa using e
      simp only [List.map_cons, List.lookup, e', ih, List.mem_cons, e, false_or]
/-! ### numbers -/
theorem i64_rem_nat (a b : Nat) (hb : b ≠ 0) : binInt .rem (vi a) (vi b) = some (vi ((a % b : Nat) : Int)) := by
  rw [binInt_rem _ _ _ (by omega)]
  simp [Int.tmod]
theorem i64_quo_nat (a b : Nat) (hb : b ≠ 0) (ha : a < 2 ^ 63) : binInt .quo (vi a) (vi b) = some (vi ((a / b : Nat) : Int)) := by
  have h1 : a / b ≤ a := Nat.div_le_self _ _
  rw [binInt_quo _ _ _ (by omega)]
  have e : (a : Int).tdiv b = ((a / b : Nat) : Int) := by simp [Int.tdiv]
  rw [e]
  generalize a / b = q at *
  rw [wrap_i64 (by omega) (by omega)]
theorem i64_add_nat (a b : Nat) (h : a + b < 2 ^ 63) : binInt .add (vi a) (vi b) = some (vi ((a + b : Nat) : Int)) := by
  rw [i64_add (by omega) (by omega)]; simp
theorem i64_rem_num (a n : Nat) (hn : n ≠ 0) : binInt .rem (vi a) (vi (no_index (OfNat.ofNat n))) = some (vi ((a % n : Nat) : Int)) := i64_rem_nat a n hn
theorem i64_quo_num (a n : Nat) (hn : n ≠ 0) (ha : a < 2 ^ 63) : binInt .quo (vi a) (vi (no_index (OfNat.ofNat n))) = some (vi ((a / n : Nat) : Int)) := i64_quo_nat a n hn ha
/-! ### maps -/
/-- A map's entries, in the order in which they came. -/
def MapAt {K V : Type} (fk : K → Value) (fv : V → Value) (H : AH) (r : Nat) (l : List (K × V)) : Prop :=
  ∃ es clock, H.get r = .map es clock true ∧ es.map (fun e => (e.key, e.val)) = l.map fun p => (fk p.1, fv p.2)
def aset {K V : Type} [DecidableEq K] (k : K) (v : V) : List (K × V) → List (K × V)
  | [] => [(k, v)]
  | p :: l => if p.1 = k then (k, v) :: l else p :: aset k v l
section
variable {K V : Type} [DecidableEq K] {fk : K → Value} {fv : V → Value} {H : AH} {r kd : Nat}
theorem MapAt.lt {l : List (K × V)} (h : MapAt fk fv H r l) : r < H.next := by
  obtain ⟨es, clock, h1, _⟩ := h
  exact AH.lt_of_get (by rw [h1]; simp)
theorem MapAt.keep {H' : AH} {l : List (K × V)} (h : MapAt fk fv H r l) (e : H'.get r = H.get r) : MapAt fk fv H' r l := by
  obtain ⟨es, clock, h1, h2⟩ := h
  exact ⟨es, clock, by rw [e]; exact h1, h2⟩
theorem MapAt.new (H : AH) : MapAt fk fv (H.new (.map [] 0 true)) H.next ([] : List (K × V)) := ⟨[], 0, AH.get_new_self _ _, rfl⟩
theorem findE_told (hk : ∀ a b, sameCell kd (fk a) (fk b) = some (decide (a = b))) (k : K) : ∀ (es : List MapEntry) (l : List (K × V)), es.map (fun e => (e.key, e.val)) = l.map (fun p => (fk p.1, fv p.2)) →
    findE kd (fk k) es = some ((l.findIdx? fun p => decide (k = p.1)).bind fun i => (l[i]?).map fun p => (i, fv p.2))
  | [], [], _ => rfl
  | [], _ :: _, h => by simp at h
  | _ :: _, [], h => by simp at h
  | e :: es, p :: l, h => by
    simp only [List.map_cons, List.cons.injEq, Prod.mk.injEq] at h
    obtain ⟨⟨h1, h2⟩, h3⟩ := h
    have ih := findE_told hk k es l h3
    simp only [findE, h1, hk, Option.bind_some]
    by_cases e : k = p.1
    · simp [e, h2, List.findIdx?_cons]
    · simp only [e, decide_false, ih, Option.map_some, List.findIdx?_cons, if_false, Bool.false_eq_true]
      congr 1
      cases l.findIdx? fun p => decide (k = p.1) <;> simp
      rename_i i
      cases l[i]? <;> rfl
theorem lookup_findIdx (k : K) : ∀ l : List (K × V), (l.findIdx? fun p => decide (k = p.1)).bind (fun i => (l[i]?).map fun p => (i, fv p.2)) = (l.findIdx? fun p => decide (k = p.1)).bind (fun i => (l.lookup k).map fun v => (i, fv v))
  | [] => rfl
  | p :: l => by
    have ih := lookup_findIdx k l
    by_cases e : k = p.1
    · subst e
      simp [List.findIdx?_cons, List.lookup]
    · have e' : (k == p.1) = false := by simpa using e
      simp only [List.findIdx?_cons, e, decide_false, Bool.false_eq_true, if_false, List.lookup, e']
      cases hf : l.findIdx? fun p => decide (k = p.1) with
      | none => simp
      | some i =>
        rw [hf] at ih
        simp at ih ⊢
        cases h1 : l[i]? <;> cases h2 : l.lookup k <;> simp [h1, h2] at ih ⊢
        exact ih
theorem findIdx_lookup (k : K) : ∀ l : List (K × V), (l.findIdx? fun p => decide (k = p.1)) = none ↔ l.lookup k = none
  | [] => by simp
  | p :: l => by
    have ih := findIdx_lookup k l
    by_cases e : k = p.1
    · subst e; simp [List.findIdx?_cons, List.lookup]
    · have e' : (k == p.1) = false := by simpa using e
      simp only [List.findIdx?_cons, e, decide_false, Bool.false_eq_true, if_false, List.lookup, e']
      rw [Option.map_eq_none_iff]
      exact ih
theorem MapAt.look {l : List (K × V)} (h : MapAt fk fv H r l) (hk : ∀ a b, sameCell kd (fk a) (fk b) = some (decide (a = b))) (k : K) (zero : Value) (ok : Bool) :
    AM.look kd zero ok (.map (some r)) (fk k) H = some (match l.lookup k with | some v => (if ok then .tuple #[fv v, .bool true] else fv v) | none => (if ok then .tuple #[zero, .bool false] else zero)) := by
  obtain ⟨es, clock, h1, h2⟩ := h
  simp only [AM.look, entriesOf, h1, Option.bind_some]
  rw [findE_told hk k es l h2, lookup_findIdx]
  have := findIdx_lookup k l
  cases hf : l.findIdx? fun p => decide (k = p.1) with
  | none =>
    have this := this.1 hf
    simp only [this, Option.bind_none, Option.map_some]
  | some i =>
    rw [hf] at this
    cases hl : l.lookup k with
    | none => rw [hl] at this; simp at this
    | some v => simp
theorem aset_found (k : K) (v : V) : ∀ (l : List (K × V)) (i : Nat), (l.findIdx? fun p => decide (k = p.1)) = some i → aset k v l = l.set i (k, v)
  | [], i, h => by simp at h
  | p :: l, i, h => by
    by_cases e : k = p.1
    · subst e
      simp [List.findIdx?_cons] at h
      subst h
      simp [aset]
    · have e' : ¬ p.1 = k := fun x => e x.symm
      simp only [List.findIdx?_cons, e, decide_false, Bool.false_eq_true, if_false, Option.map_eq_some_iff] at h
      obtain ⟨j, h1, rfl⟩ := h
      simp [aset, e', aset_found k v l j h1]
theorem aset_none (k : K) (v : V) : ∀ (l : List (K × V)), (l.findIdx? fun p => decide (k = p.1)) = none → aset k v l = l ++ [(k, v)]
  | [], _ => rfl
  | p :: l, h => by
    by_cases e : k = p.1
    · subst e; simp [List.findIdx?_cons] at h
    · have e' : ¬ p.1 = k := fun x => e x.symm
      simp only [List.findIdx?_cons, e, decide_false, Bool.false_eq_true, if_false, Option.map_eq_none_iff] at h
      simp [aset, e', aset_none k v l h]
theorem MapAt.set {l : List (K × V)} (h : MapAt fk fv H r l) (hk : ∀ a b, sameCell kd (fk a) (fk b) = some (decide (a = b))) (k : K) (v : V) :
    ∃ o, o ≠ .dead ∧ setMap kd (.map (some r)) (fk k) (fv v) H = some (H.put r o) ∧ MapAt fk fv (H.put r o) r (aset k v l) := by
  have hlt := h.lt
  obtain ⟨es, clock, h1, h2⟩ := h
  have hlen : es.length = l.length := by simpa using congrArg List.length h2
  simp only [setMap, h1]
  rw [findE_told hk k es l h2]
  cases hf : l.findIdx? fun p => decide (k = p.1) with
  | none =>
    refine ⟨.map (es ++ [{ key := fk k, val := fv v, born := clock }]) (clock + 1) true, by simp, by simp, _, _, AH.get_put_self _ _ hlt, ?_⟩
    rw [aset_none k v l hf, List.map_append, List.map_append, h2]
    rfl
  | some i =>
    have hi : i < l.length := by
      have := List.findIdx?_eq_some_iff_getElem.1 hf
      exact this.1
    refine ⟨.map (es.modify i fun e => { e with key := fk k, val := fv v }) clock true, by simp, by simp [hi], _, _, AH.get_put_self _ _ hlt, ?_⟩
    rw [aset_found k v l i hf]
    apply List.ext_getElem?
    intro j
    have := congrArg (fun x => x[j]?) h2
    simp only [List.getElem?_map] at this
    simp only [List.getElem?_map, List.getElem?_modify, List.getElem?_set]
    by_cases e : i = j
    · subst e
      simp [hi]
      have : i < es.length := by omega
      simp [this]
    · simp [e, this]
end
theorem aset_new {K : Type} [DecidableEq K] {V W : Type} (k : K) (w : W) (f : V → W) : ∀ (l : List (K × V)), k ∉ l.map Prod.fst → aset k w (l.map fun p => (p.1, f p.2)) = (l.map fun p => (p.1, f p.2)) ++ [(k, w)]
  | [], _ => rfl
  | p :: l, h => by
    simp only [List.map_cons, List.mem_cons, not_or] at h
    have e : ¬ p.1 = k := fun x => h.1 x.symm
    simp only [List.map_cons, aset, e, if_false, aset_new k w f l h.2, List.cons_append]
end Go.AM
end
section
namespace Go.AM
/-! ### bytes of words -/
def byteAt {w : Nat} (n : BitVec w) (i : Nat) : BitVec 8 := (n >>> (8 * i)).setWidth 8
def bytes4 (w : BitVec 32) : List (BitVec 8) := [byteAt w 0, byteAt w 1, byteAt w 2, byteAt w 3]
def bytesN (n : BitVec 64) (k : Nat) : List (BitVec 8) := (List.range k).map (byteAt n)
def lo32 (n : BitVec 64) : BitVec 32 := n.setWidth 32
def hi32 (n : BitVec 64) : BitVec 32 := (n >>> 32).setWidth 32
theorem byteAt_get {w : Nat} (n : BitVec w) (i j : Nat) : (byteAt n i).getLsbD j = (decide (j < 8) && n.getLsbD (8 * i + j)) := by
  simp [byteAt, BitVec.getLsbD_setWidth, BitVec.getLsbD_ushiftRight]
theorem byteAt_lo (n : BitVec 64) (i : Nat) (h : i < 4) : byteAt (lo32 n) i = byteAt n i := by
  apply BitVec.eq_of_getLsbD_eq
  intro j hj
  rw [byteAt_get, byteAt_get]
  simp [lo32, BitVec.getLsbD_setWidth, show 8 * i + j < 32 by omega]
theorem byteAt_hi (n : BitVec 64) (i : Nat) (h : i < 4) : byteAt (hi32 n) i = byteAt n (4 + i) := by
  apply BitVec.eq_of_getLsbD_eq
  intro j hj
  rw [byteAt_get, byteAt_get]
  simp [hi32, BitVec.getLsbD_setWidth, BitVec.getLsbD_ushiftRight, show 8 * i + j < 32 by omega]
  rw [show 32 + (8 * i + j) = 8 * (4 + i) + j by omega]
theorem byteAt_up (n : BitVec 32) (i : Nat) (h : i < 4) : byteAt (n.setWidth 64) i = byteAt n i := by
  apply BitVec.eq_of_getLsbD_eq
  intro j hj
  rw [byteAt_get, byteAt_get]
  simp [BitVec.getLsbD_setWidth, show 8 * i + j < 64 by omega]
theorem bytesN_4 (n : BitVec 32) : bytesN (n.setWidth 64) 4 = bytes4 n := by
  simp only [bytesN, List.range, List.range.loop, List.map, bytes4]
  rw [byteAt_up _ _ (by omega), byteAt_up _ _ (by omega), byteAt_up _ _ (by omega), byteAt_up _ _ (by omega)]
theorem bytesN_8 (n : BitVec 64) : bytesN n 8 = bytes4 (lo32 n) ++ bytes4 (hi32 n) := by
  simp only [bytesN, List.range, List.range.loop, List.map, bytes4, List.cons_append, List.nil_append]
  rw [byteAt_lo _ _ (by omega), byteAt_lo _ _ (by omega), byteAt_lo _ _ (by omega), byteAt_lo _ _ (by omega), byteAt_hi _ _ (by omega), byteAt_hi _ _ (by omega), byteAt_hi _ _ (by omega), byteAt_hi _ _ (by omega)]
/-- A word put together of its bytes, the lowest first. -/
def takeW (l : List (BitVec 8)) : BitVec 64 := (l.zipIdx).foldl (fun (acc : BitVec 64) (p : BitVec 8 × Nat) => acc ||| (p.1.setWidth 64 <<< (8 * p.2))) 0#64
theorem takeW_snoc (l : List (BitVec 8)) (b : BitVec 8) : takeW (l ++ [b]) = takeW l ||| (b.setWidth 64 <<< (8 * l.length)) := by
  simp [takeW, List.zipIdx_append]
theorem takeW_get : ∀ (n : Nat) (l : List (BitVec 8)), l.length = n → ∀ p, p < 64 → (takeW l).getLsbD p = ((l[p / 8]?).map fun b => b.getLsbD (p % 8)).getD false := by
  intro n
  induction n with
  | zero => intro l hl p _; have := List.eq_nil_of_length_eq_zero hl; subst this; simp [takeW]
  | succ n ih =>
    intro l hl p hp
    obtain ⟨l', b, rfl⟩ : ∃ l' b, l = l' ++ [b] := by
      refine ⟨l.dropLast, l.getLast (by intro e; subst e; simp at hl), (List.dropLast_concat_getLast _).symm⟩
    have hn : l'.length = n := by simpa using hl
    rw [takeW_snoc, BitVec.getLsbD_or, ih l' hn p hp, hn]
    by_cases h1 : p / 8 < n
    · rw [List.getElem?_append_left (by omega)]
      have : ¬ 8 * n ≤ p := by omega
      simp [BitVec.getLsbD_shiftLeft, show p < 8 * n by omega]
    · rw [List.getElem?_eq_none (l := l') (by omega)]
      by_cases h2 : p / 8 = n
      · rw [List.getElem?_append_right (by omega), hn, h2]
        simp [BitVec.getLsbD_shiftLeft, BitVec.getLsbD_setWidth, hp, show ¬ p < 8 * n by omega, show p - 8 * n < 64 by omega]
        rw [show p - 8 * n = p % 8 by omega]
      · rw [List.getElem?_eq_none (by simp; omega)]
        simp [BitVec.getLsbD_shiftLeft, BitVec.getLsbD_setWidth, hp, show ¬ p < 8 * n by omega, show p - 8 * n < 64 by omega]
        exact BitVec.getLsbD_of_ge _ _ (by omega)
theorem takeW_bytes8 (n : BitVec 64) : takeW (bytesN n 8) = n := by
  apply BitVec.eq_of_getLsbD_eq
  intro p hp
  rw [takeW_get 8 _ (by simp [bytesN]) p hp]
  simp only [bytesN]
  rw [List.getElem?_map, List.getElem?_range (by omega)]
  simp only [Option.map_some, Option.getD_some]
  rw [byteAt_get]
  simp [show p % 8 < 8 by omega, show 8 * (p / 8) + p % 8 = p by omega]
theorem takeW_bytes4 (n : BitVec 32) : (takeW (bytes4 n)).setWidth 32 = n := by
  apply BitVec.eq_of_getLsbD_eq
  intro p hp
  rw [BitVec.getLsbD_setWidth, ← bytesN_4, takeW_get 4 _ (by simp [bytesN]) p (by omega)]
  simp only [bytesN]
  rw [List.getElem?_map, List.getElem?_range (by omega)]
  simp only [Option.map_some, Option.getD_some]
  rw [byteAt_get, BitVec.getLsbD_setWidth]
  simp [show p % 8 < 8 by omega, show 8 * (p / 8) + p % 8 = p by omega, hp, show p < 64 by omega]
theorem byteAt_takeW (l : List (BitVec 8)) (i : Nat) (hi : i < l.length) (h8 : i < 8) : byteAt (takeW l) i = l[i] := by
  apply BitVec.eq_of_getLsbD_eq
  intro j hj
  rw [byteAt_get, takeW_get _ l rfl _ (by omega)]
  have e1 : (8 * i + j) / 8 = i := by omega
  have e2 : (8 * i + j) % 8 = j := by omega
  rw [e1, e2]
  simp [hi, hj]
theorem bytesN_takeW (l : List (BitVec 8)) (h8 : l.length ≤ 8) : bytesN (takeW l) l.length = l := by
  apply List.ext_getElem (by simp [bytesN])
  intro i h1 h2
  simp only [bytesN, List.getElem_map, List.getElem_range]
  exact byteAt_takeW l i h2 (by omega)
theorem join64 (n : BitVec 64) : ((hi32 n).setWidth 64 <<< 32) ||| (lo32 n).setWidth 64 = n := by
  apply BitVec.eq_of_getLsbD_eq
  intro p hp
  simp only [BitVec.getLsbD_or, BitVec.getLsbD_shiftLeft, BitVec.getLsbD_setWidth, hi32, lo32, BitVec.getLsbD_ushiftRight]
  by_cases h : p < 32
  · simp [h, hp]
  · simp [h, hp, show p - 32 < 64 by omega, show p - 32 < 32 by omega, show 32 + (p - 32) = p by omega]
theorem or4 (n : BitVec 32) : ((byteAt n 0).setWidth 32 ||| (byteAt n 1).setWidth 32 <<< 8 ||| (byteAt n 2).setWidth 32 <<< 16 ||| (byteAt n 3).setWidth 32 <<< 24) = n := by
  apply BitVec.eq_of_getLsbD_eq
  intro p hp
  simp only [BitVec.getLsbD_or, BitVec.getLsbD_shiftLeft, BitVec.getLsbD_setWidth, byteAt_get]
  by_cases h1 : p < 8
  · simp [h1, hp, show p < 16 by omega, show p < 24 by omega]
  by_cases h2 : p < 16
  · simp [h1, h2, hp, show p < 24 by omega, show p - 8 < 32 by omega, show p - 8 < 8 by omega, show 8 + (p - 8) = p by omega]
  by_cases h3 : p < 24
  · simp [h1, h2, h3, hp, show ¬ p - 8 < 8 by omega, show p - 16 < 32 by omega, show p - 16 < 8 by omega, show 16 + (p - 16) = p by omega]
  · simp [h1, h2, h3, hp, show ¬ p - 8 < 8 by omega, show ¬ p - 16 < 8 by omega, show p - 24 < 32 by omega, show p - 24 < 8 by omega, show 24 + (p - 24) = p by omega]
theorem mod32 (n : BitVec 64) : (n % 4294967296#64).setWidth 32 = lo32 n := by
  apply BitVec.eq_of_toNat_eq
  simp [lo32, BitVec.toNat_umod]
theorem div32 (n : BitVec 64) : (n / 4294967296#64).setWidth 32 = hi32 n := by
  apply BitVec.eq_of_toNat_eq
  simp [hi32, BitVec.toNat_udiv, Nat.shiftRight_eq_div_pow]
end Go.AM
end
section
/- contracts: record -/
namespace Go.AM
variable {E : Sy} {H : AH} {Q : Value → AH → Prop}

def akind (a : BitVec 32) : BitVec 32 :=
  if a &&& 4294901760#32 = 327680#32 then 327680#32 else if a &&& 4294901760#32 = 2147221504#32 then 2147221504#32 else if a &&& 4294901760#32 = 2147418112#32 then 2147418112#32 else 2147483648#32
theorem S.record_Action_Kind (hE : Fold E) (a : BitVec 32) (hQ : Q (u32 (akind a)) H) : E.call (E.fid i.record_Action_Kind) [u32 a] H Q := by
  apply hE.record_Action_Kind
  simp [F.record_Action_Kind, F.record_Action_Kind_j1, ifB_dec]
  unfold akind at hQ
  repeat' split at hQ
  all_goals (first | (simp [*]; done) | (simp [*]; exact hQ))

def astrength (a : BitVec 32) : Int :=
  if akind a = 2147483648#32 then 3 else if akind a = 327680#32 then 2 else if akind a = 2147221504#32 then 1 else 0
theorem S.record_Action_strength (hE : Fold E) (a : BitVec 32) (hQ : Q (vi (astrength a)) H) : E.call (E.fid i.record_Action_strength) [u32 a] H Q := by
  apply hE.record_Action_strength
  apply S.record_Action_Kind hE
  simp [ifB_dec]
  unfold astrength at hQ
  repeat' split at hQ
  all_goals (first | (simp [*]; done) | (simp [*]; exact hQ))

def astronger (a b : BitVec 32) : BitVec 32 := if astrength a < astrength b then b else a
theorem S.record_Stronger (hE : Fold E) (a b : BitVec 32) (hQ : Q (u32 (astronger a b)) H) : E.call (E.fid i.record_Stronger) [u32 a, u32 b] H Q := by
  apply hE.record_Stronger
  apply S.record_Action_strength hE
  apply S.record_Action_strength hE
  unfold astronger at hQ
  simp [ifB_dec]
  split at hQ <;> simp [*]

def afail (e : Int) : BitVec 32 := 327680#32 ||| BitVec.ofInt 32 (if 4095 < (if 0 > e then 0 else e) then 4095 else (if 0 > e then 0 else e))
theorem S.record_Fail (hE : Fold E) (e : Int) (hQ : Q (u32 (afail e)) H) : E.call (E.fid i.record_Fail) [vi e] H Q := by
  apply hE.record_Fail
  simp [F.record_Fail]
  exact hQ

def anumber (a : BitVec 32) : Int := if akind a ≠ 327680#32 then 0 else ((a &&& 65535#32).toNat : Int)
theorem S.record_Action_Number (hE : Fold E) (a : BitVec 32) (hQ : Q (vi (anumber a)) H) : E.call (E.fid i.record_Action_Number) [u32 a] H Q := by
  apply hE.record_Action_Number
  apply S.record_Action_Kind hE
  by_cases h : akind a = 327680#32
  · simpa [h, anumber] using hQ
  · simpa [h, anumber] using hQ

def rstrength (a : BitVec 32) : Int := if a / 65536#32 = 5#32 then 2 else if a / 65536#32 = 32764#32 then 1 else if a / 65536#32 = 32767#32 then 0 else 3
theorem S.pinfoldref03_Strength (hE : Fold E) (a : BitVec 32) (hQ : Q (vi (rstrength a)) H) : E.call (E.fid i.pinfoldref03_Strength) [u32 a] H Q := by
  apply hE.pinfoldref03_Strength
  simp [F.pinfoldref03_Strength, ifB_dec]
  unfold rstrength at hQ
  repeat' split at hQ
  all_goals (first | (simp [*]; done) | (simp [*]; exact hQ))

theorem S.pinfoldref03_Stronger (hE : Fold E) (a b : BitVec 32) (hQ : Q (u32 (if rstrength a < rstrength b then b else a)) H) : E.call (E.fid i.pinfoldref03_Stronger) [u32 a, u32 b] H Q := by
  apply hE.pinfoldref03_Stronger
  apply S.pinfoldref03_Strength hE
  apply S.pinfoldref03_Strength hE
  simp [ifB_dec]
  split at hQ <;> simp [*]
end Go.AM
end
section
/- contracts: insn, ref03 (insn) -/
namespace Go.AM
variable {E : Sy} {H : AH} {Q : Value → AH → Prop}

theorem land_high (x k w : Nat) (h : x < 2 ^ w) : x &&& ((2 ^ (w - k) - 1) <<< k) = (x / 2 ^ k) * 2 ^ k := by
  rw [← Nat.shiftLeft_eq, ← Nat.shiftRight_eq_div_pow]
  apply Nat.eq_of_testBit_eq
  intro i
  simp only [Nat.testBit_and, Nat.testBit_shiftLeft, Nat.testBit_shiftRight, Nat.testBit_two_pow_sub_one]
  by_cases hk : k ≤ i
  · by_cases hw : i < w
    · simp [hk, show i - k < w - k by omega, show k + (i - k) = i by omega]
    · have : x.testBit i = false := Nat.testBit_lt_two_pow (Nat.lt_of_lt_of_le h (Nat.pow_le_pow_right (by omega) (by omega)))
      simp [hk, this, show k + (i - k) = i by omega]
  · simp [hk]

def iclass (c : BitVec 16) : BitVec 16 := c &&& 7#16
theorem S.insn_Class (hE : Fold E) (c : BitVec 16) (hQ : Q (u16 (iclass c)) H) : E.call (E.fid i.insn_Class) [u16 c] H Q := by
  apply hE.insn_Class
  simp [F.insn_Class]
  exact hQ

def inames : List (BitVec 16) := [32, 0, 96, 128, 1, 97, 129, 2, 3, 6, 22, 7, 135, 5, 132]
theorem S.insn_Known_j3 (hE : Fold E) (c : BitVec 16) (t : Bool) (hQ : Q (vb (t && decide (iclass c = 5#16))) H) : F.insn_Known_j3 E Q (u16 c) (vb t) H := by
  unfold F.insn_Known_j3
  cases t with
  | false => simpa using hQ
  | true =>
    simp only [ifB_true]
    apply S.insn_Class hE
    simp
    simpa using hQ
def iknown2 (c : BitVec 16) : Bool := [16, 32, 48, 64].contains (c &&& ~~~((c &&& 8#16) ||| 7#16)) && decide (iclass c = 5#16)
theorem S.insn_Known_j2 (hE : Fold E) (c : BitVec 16) (hQ : Q (vb (iknown2 c)) H) : F.insn_Known_j2 E Q (u16 c) (u16 (c &&& 8#16)) H := by
  simp [F.insn_Known_j2]
  unfold iknown2 at hQ
  iterate 3
    refine ifB_split (fun h => S.insn_Known_j3 hE c (decide _) (by simpa [h] using hQ)) (fun h => ?_)
    try simp
  exact S.insn_Known_j3 hE c (decide _) (by simpa [*] using hQ)

def iknown4 (c : BitVec 16) : Bool := decide (iclass c = 4#16) || iknown2 c
theorem S.insn_Known_j4 (hE : Fold E) (c : BitVec 16) (t : Bool) (hQ : Q (vb ((t && decide (iclass c = 4#16)) || iknown2 c)) H) : F.insn_Known_j4 E Q (u16 c) (u16 (c &&& 8#16)) (vb t) H := by
  unfold F.insn_Known_j4
  cases t with
  | false => exact S.insn_Known_j2 hE c (by simpa using hQ)
  | true =>
    simp only [ifB_true]
    apply S.insn_Class hE
    simp
    refine ifB_split (fun h => by simpa [h] using hQ) (fun h => S.insn_Known_j2 hE c (by simpa [h] using hQ))

def iknown1 (c : BitVec 16) : Bool := ([0, 16, 32, 48, 64, 80, 96, 112, 160].contains (c &&& ~~~((c &&& 8#16) ||| 7#16)) && decide (iclass c = 4#16)) || iknown2 c
theorem S.insn_Known_j1 (hE : Fold E) (c : BitVec 16) (t : Bool) (hQ : Q (vb (t || iknown1 c)) H) : F.insn_Known_j1 E Q (u16 c) (vb t) H := by
  unfold F.insn_Known_j1
  cases t with
  | true => simpa using hQ
  | false =>
    simp
    unfold iknown1 at hQ
    iterate 8
      refine ifB_split (fun h => S.insn_Known_j4 hE c (decide _) (by simpa [h] using hQ)) (fun h => ?_)
      try simp
    exact S.insn_Known_j4 hE c (decide _) (by simpa [*] using hQ)
theorem S.insn_Known (hE : Fold E) (c : BitVec 16) (hQ : Q (vb (inames.contains c || iknown1 c)) H) : E.call (E.fid i.insn_Known) [u16 c] H Q := by
  apply hE.insn_Known
  simp [F.insn_Known]
  unfold inames at hQ
  iterate 14
    refine ifB_split (fun h => S.insn_Known_j1 hE c (decide _) (by simpa [h] using hQ)) (fun h => ?_)
    try simp
  exact S.insn_Known_j1 hE c (decide _) (by simpa [*] using hQ)
end Go.AM
end
section
namespace Go.AM
variable {E : Sy} {H : AH} {Q : Value → AH → Prop}
def rn1 : List Int := [32, 0, 96, 128, 1, 97, 129, 2, 3, 6, 22, 7, 135, 5, 132]
def rn2 : List Int := [0, 16, 32, 48, 64, 80, 96, 112, 160]
def rknown3 (n : Int) : Bool := [16, 32, 48, 64].any fun j => decide (n = j + 5) || decide (n = j + 13)
def rknown2 (n : Int) : Bool := (rn2.any fun j => decide (n = j + 4) || decide (n = j + 12)) || rknown3 n
def rknown (n : Int) : Bool := rn1.any (fun j => decide (j = n)) || rknown2 n

theorem S.ref03_Known_l3 (n : Int) (hQ : Q (vb (rknown3 n)) H) :
    LoopL (fun l H X0 => F.pinfoldref03_Known_l3 E Q (nth l 0) (nth l 1) H X0) [vi n, vi 16] H := by
  unfold rknown3 at hQ
  iterate 4
    apply LoopL.step; intro X hX
    simp [F.pinfoldref03_Known_l3, i64_add]
    refine ifB_split (fun h => by simpa [h] using hQ) (fun h => ?_)
    simp [h, i64_add]
    refine ifB_split (fun h => by simpa [h] using hQ) (fun h => ?_)
    apply hX
  apply LoopL.step; intro X hX
  simp [F.pinfoldref03_Known_l3, i64_add]
  simpa [*] using hQ
theorem S.ref03_Known_l2 (n : Int) (v : Value) (hV : Vals H v (rn2.map vi)) (hQ : Q (vb (rknown2 n)) H) :
    LoopL (fun l H X0 => F.pinfoldref03_Known_l2 E Q (nth l 0) (nth l 1) (nth l 2) H X0) [vi n, v, vi 0] H := by
  refine LoopL.count 9 (fun i l H' => H' = H ∧ l = [vi n, v, vi i] ∧ Q (vb (((rn2.drop i).any fun j => decide (n = j + 4) || decide (n = j + 12)) || rknown3 n)) H) ?_ ⟨rfl, rfl, hQ⟩
  rintro i l _ X hi hX ⟨rfl, rfl, hQ⟩
  have hl := hV.lenSlc
  simp [F.pinfoldref03_Known_l2, hl, rn2]
  refine ifB_split (fun h => ?_) (fun h => ?_)
  · have hi9 : i < 9 := by omega
    obtain ⟨b, o, e1, e2⟩ := hV.elem (i := i) (by simpa [rn2] using hi9)
    rw [List.drop_eq_getElem_cons (by simpa [rn2] using hi9)] at hQ
    obtain ⟨y, hy⟩ : ∃ y, rn2[i]'(by simpa [rn2] using hi9) = y := ⟨_, rfl⟩
    have hr : 0 ≤ y ∧ y ≤ 160 := by
      have : ∀ x ∈ rn2, 0 ≤ x ∧ x ≤ 160 := by decide
      rw [← hy]; exact this _ (List.getElem_mem _)
    simp only [List.any_cons, hy] at hQ
    simp [e1, e2, hy]
    rw [i64_add (by omega) (by omega)]
    simp
    by_cases h1 : n = y + 4
    · simpa [h1] using hQ
    simp [h1, e1, e2, hy]
    rw [i64_add (by omega) (by omega)]
    simp
    refine ifB_split (fun h2 => by simpa [h2] using hQ) (fun h2 => ?_)
    rw [i64_inc (by omega)]
    exact hX hi9 _ _ ⟨rfl, rfl, by simpa [h1, h2] using hQ⟩
  · have : i = 9 := by omega
    subst this
    exact S.ref03_Known_l3 n (by simpa [rn2] using hQ)
theorem S.pinfoldref03_Known (hE : Fold E) (n : Int) (hQ : ∀ H', Ext H H' → Q (vb (rknown n)) H') : E.call (E.fid i.pinfoldref03_Known) [vi n] H Q := by
  apply hE.pinfoldref03_Known
  simp [F.pinfoldref03_Known, splice]
  generalize hH1 : H.new _ = H1
  have hx : Ext H H1 := by subst hH1; exact (Ext.refl H).new _
  have hV : Vals H1 (slc H.next 0 15 15) (rn1.map vi) := Vals.made (f := none) (by subst hH1; simp [rn1]) (.inl rfl) rfl
  generalize slc H.next 0 15 15 = v at *
  refine LoopL.count 15 (fun i l H' => H' = H1 ∧ l = [vi n, v, vi i] ∧ ∀ H', Ext H H' → Q (vb (((rn1.drop i).any fun j => decide (j = n)) || rknown2 n)) H') ?_ ⟨rfl, rfl, hQ⟩
  clear hH1
  rintro i l _ X hi hX ⟨rfl, rfl, hQ⟩
  have hl := hV.lenSlc
  simp [F.pinfoldref03_Known_l1, hl, rn1]
  refine ifB_split (fun h => ?_) (fun h => ?_)
  · have hi9 : i < 15 := by omega
    obtain ⟨b, o, e1, e2⟩ := hV.elem (i := i) (by simpa [rn1] using hi9)
    rw [List.drop_eq_getElem_cons (by simpa [rn1] using hi9)] at hQ
    simp only [List.any_cons] at hQ
    simp [e1, e2]
    refine ifB_split (fun h2 => by simpa [h2] using hQ _ hx) (fun h2 => ?_)
    rw [i64_inc (by omega)]
    exact hX hi9 _ _ ⟨rfl, rfl, by simpa [h2] using hQ⟩
  · have : i = 15 := by omega
    subst this
    simp [splice]
    refine S.ref03_Known_l2 n _ (Vals.made (f := none) (by simp [rn2]) (.inl rfl) rfl) (by simpa [rn1] using hQ _ (hx.new _))
end Go.AM
end
section
namespace Go.AM
variable {E : Sy} {H : AH} {Q : Value → AH → Prop}
abbrev insnV (c : BitVec 16) (jt jf : BitVec 8) (k : BitVec 32) : Value := .agg #[u16 c, u8 jt, u8 jf, u32 k]

theorem S.insn_Load (hE : Fold E) (k : BitVec 32) (hQ : ∀ H', Ext H H' → Q (insnV 32 0 0 k) H') : E.call (E.fid i.insn_Load) [u32 k] H Q := by
  apply hE.insn_Load
  simp [F.insn_Load, splice, AH.get_new]
  exact hQ _ ((Ext.refl H).new _)
theorem S.insn_Return (hE : Fold E) (k : BitVec 32) (hQ : ∀ H', Ext H H' → Q (insnV 6 0 0 k) H') : E.call (E.fid i.insn_Return) [u32 k] H Q := by
  apply hE.insn_Return
  simp [F.insn_Return, splice, AH.get_new]
  exact hQ _ ((Ext.refl H).new _)
theorem S.insn_Skip (hE : Fold E) (k : BitVec 32) (hQ : ∀ H', Ext H H' → Q (insnV 5 0 0 k) H') : E.call (E.fid i.insn_Skip) [u32 k] H Q := by
  apply hE.insn_Skip
  simp [F.insn_Skip, splice, AH.get_new]
  exact hQ _ ((Ext.refl H).new _)
theorem S.insn_Mask (hE : Fold E) (k : BitVec 32) (hQ : ∀ H', Ext H H' → Q (insnV 84 0 0 k) H') : E.call (E.fid i.insn_Mask) [u32 k] H Q := by
  apply hE.insn_Mask
  simp [F.insn_Mask, splice, AH.get_new]
  exact hQ _ ((Ext.refl H).new _)
theorem S.insn_If (hE : Fold E) (c : BitVec 16) (k : BitVec 32) (jt jf : BitVec 8) (hQ : ∀ H', Ext H H' → Q (insnV (5#16 ||| c ||| 0#16) jt jf k) H') : E.call (E.fid i.insn_If) [u16 c, u32 k, u8 jt, u8 jf] H Q := by
  apply hE.insn_If
  simp [F.insn_If, splice, AH.get_new]
  simpa using hQ _ ((Ext.refl H).new _)

abbrev bytesV (l : List (BitVec 8)) : Value := .agg (l.map u8).toArray
def ibytes (c : BitVec 16) (jt jf : BitVec 8) (k : BitVec 32) : List (BitVec 8) :=
  [c.setWidth 8, (c >>> 8).setWidth 8, jt, jf, k.setWidth 8, (k >>> 8).setWidth 8, (k >>> 16).setWidth 8, (k >>> 24).setWidth 8]
theorem S.insn_Insn_Bytes (hE : Fold E) (c : BitVec 16) (jt jf : BitVec 8) (k : BitVec 32) (hQ : ∀ H', Ext H H' → Q (bytesV (ibytes c jt jf k)) H') :
    E.call (E.fid i.insn_Insn_Bytes) [insnV c jt jf k] H Q := by
  apply hE.insn_Insn_Bytes
  simp [F.insn_Insn_Bytes, zs, AH.get_new, Nat.add_assoc]
  iterate 4
    apply LoopL.step; intro X hX
    simp [F.insn_Insn_Bytes_l1, zs, AH.get_new, Nat.add_assoc, i64_add, i64_mul]
    apply hX; clear hX X
  apply LoopL.step; intro X hX
  simp [F.insn_Insn_Bytes_l1, zs, AH.get_new, Nat.add_assoc, splice]
  refine hQ _ ?_
  repeat (first | exact Ext.refl _ | apply Ext.new | (refine Ext.put ?_ (by omega) _))

theorem S.pinfoldlaw03_Awake (hE : Fold E) (hQ : ∀ H', Ext H H' → Q (vb true) H') : E.call (E.fid i.pinfoldlaw03_Awake) [] H Q := by
  apply hE.pinfoldlaw03_Awake
  apply S.insn_Load hE 4
  intro H1 h1
  apply S.insn_Insn_Bytes hE
  intro H2 h2
  simp [ibytes, zs, AH.get_new, splice, slArr, bnd, Addr.add]
  have hV : Vals (H2.new (AObj.cells [u8 32#8, u8 0#8, u8 0#8, u8 0#8, u8 4#8, u8 0#8, u8 0#8, u8 0#8] none)) (slc H2.next 0 8 8) ([32, 0, 0, 0, 4, 0, 0, 0].map u8) :=
    Vals.made (f := none) (by simp) (.inl rfl) rfl
  rw [strOf_vals hV]
  simp
  apply S.insn_Known hE 32
  simp [inames]
  exact hQ _ (((h1.trans h2).new _))

theorem S.InsnKnown_ (hE : Fold E) (c : BitVec 16) (low : BitVec 8) (hk : ∀ c : BitVec 16, rknown c.toNat = (inames.contains c || iknown1 c)) (hc : ∀ c : BitVec 16, iclass c = c % 8#16)
    (hQ : ∀ H', Q (vb true) H') : E.call (E.fid i.pinfoldlaw03_InsnKnown) [u16 c, u8 low] H Q := by
  apply hE.pinfoldlaw03_InsnKnown
  apply S.pinfoldlaw03_Awake hE
  intro H1 h1
  simp [splice]
  generalize hH2 : H1.new _ = H2
  have hV : Vals H2 (slc H1.next 0 2 2) ([c, BitVec.setWidth 16 low].map u16) := Vals.made (f := none) (by subst hH2; simp) (.inl rfl) rfl
  generalize slc H1.next 0 2 2 = v at *
  refine LoopL.count 2 (fun i l H' => Ext H2 H' ∧ l = [v, vi 2, vi i]) ?_ ⟨Ext.refl _, rfl⟩
  rintro i l H' X hi hX ⟨hx, rfl⟩
  simp [F.pinfoldlaw03_InsnKnown_l1]
  refine ifB_split (fun h => ?_) (fun h => hQ _)
  obtain ⟨b, o, e1, e2⟩ := Vals.elem (hV.mono hx) (i := i) (by simp; omega)
  have hi2 : i < 2 := by omega
  obtain ⟨x, hxi⟩ : ∃ x, [c, BitVec.setWidth 16 low][i]'(by simp; omega) = x := ⟨_, rfl⟩
  simp only [List.getElem_map, hxi] at e2
  simp [e1, e2]
  apply S.insn_Known hE
  simp
  apply S.pinfoldref03_Known hE
  intro H'' hx''
  simp [hk]
  apply S.insn_Class hE
  simp [hc]
  rw [i64_inc (by omega)]
  exact hX hi2 _ _ ⟨hx.trans hx'', rfl⟩
end Go.AM
end
section
namespace Go.AM
variable {E : Sy} {H : AH} {Q : Value → AH → Prop}

theorem splice_snoc (c l : List Value) (o : Nat) (v : Value) (h : o + l.length < c.length) : (splice c o l).set (o + l.length) v = splice c o (l ++ [v]) := by
  simp only [splice, List.append_assoc]
  rw [List.set_append_right _ _ (by simp; omega)]
  rw [List.set_append_right _ _ (by simp; omega)]
  simp only [List.length_take, Nat.min_eq_left (by omega : o ≤ c.length)]
  rw [show o + l.length - o - l.length = 0 by omega]
  rw [List.drop_eq_getElem_cons h]
  rw [List.set_cons_zero]
  simp [List.length_append, Nat.add_assoc]
/-- A number's bytes are laid into a slice. -/
theorem S.record_put (hE : Fold E) (b o n c : Nat) (x : BitVec 64) (k : Nat) (hk : k ≤ 8) (hkn : k ≤ n) {cs : List Value} {f : Option Nat} (hb : H.get b = .cells cs f) (ho : o + k ≤ cs.length)
    (hQ : Q (.tuple #[]) (H.put b (.cells (splice cs o ((bytesN x k).map u8)) f))) : E.call (E.fid i.record_put) [slc b o n c, u64 x, vi k] H Q := by
  apply hE.record_put
  unfold F.record_put
  have hlt := AH.lt_cells hb
  refine LoopL.count k (fun i s H' => H' = H.put b (.cells (splice cs o ((bytesN x i).map u8)) f) ∧ s = [slc b o n c, u64 x, vi k, vi i]) ?_ ⟨?_, rfl⟩
  · rintro i _ _ X hi hX ⟨rfl, rfl⟩
    simp [F.record_put_l1]
    refine ifB_split (fun h => ?_) (fun h => ?_)
    · have hik : i < k := by omega
      rw [i64_mul (by omega) (by omega)]
      have e8 : (8 : Int) * (i : Int) = ((8 * i : Nat) : Int) := by omega
      simp only [opt_some, e8, u64_shr, u64_to_u8]
      rw [ixSlc_slc 1 b o n c i (by omega)]
      simp [AH.get_put, hlt, splice_length (show o + (List.map u8 (bytesN x i)).length ≤ cs.length by simp [bytesN]; omega), show o + i < cs.length by omega]
      rw [i64_inc (by omega)]
      refine hX hik _ _ ⟨?_, rfl⟩
      have := splice_snoc cs ((bytesN x i).map u8) o (u8 (byteAt x i)) (by simp [bytesN]; omega)
      have e : (bytesN x (i + 1)) = bytesN x i ++ [byteAt x i] := by simp [bytesN, List.range_succ]
      rw [e, List.map_append, List.map_cons, List.map_nil, ← this]
      simp [bytesN, byteAt]
    · have : i = k := by omega
      subst this; exact hQ
  · simp [bytesN, splice]
    rw [← hb]
    exact (AH.put_get H hlt).symm
theorem S.record_take (hE : Fold E) (v : Value) (l : List (BitVec 8)) (k : Nat) (hk : k ≤ l.length) (hk8 : k ≤ 8) (hV : Vals H v (l.map u8)) (hQ : Q (u64 (takeW (l.take k))) H) :
    E.call (E.fid i.record_take) [v, vi k] H Q := by
  apply hE.record_take
  obtain ⟨v', e1, hV'⟩ := Vals.slice hV (lo := none) (hi := some (vi k)) (i := 0) (j := k) (.inr ⟨rfl, rfl⟩) (.inl rfl) (by omega) (by simpa using hk)
  have e2 : ((l.map u8).take k).drop 0 = (l.take k).map u8 := by simp
  rw [e2] at hV'
  have e3 := hV'.lenSlc
  have hlen : (l.take k).length = k := by simp [hk]
  simp [F.record_take, e1, e3, Nat.min_eq_left hk]
  refine LoopL.count k (fun i s H' => H' = H ∧ s = [u64 (takeW ((l.take k).take i)), v', vi k, vi i]) ?_ ⟨rfl, by simp [takeW]⟩
  rintro i _ _ X hi hX ⟨rfl, rfl⟩
  simp only [F.record_take_l1, nth_0, nth_1, nth_2, nth_3]
  simp
  refine ifB_split (fun h => ?_) (fun h => ?_)
  · have hik : i < k := by omega
    obtain ⟨b, o, f1, f2⟩ := Vals.elem hV' (i := i) (by simp; omega)
    simp only [List.getElem_map] at f2
    simp only [f1, f2, opt_some, load1_ptr, u8_to_u64]
    rw [i64_mul (by omega) (by omega)]
    have e8 : (8 : Int) * (i : Int) = ((8 * i : Nat) : Int) := by omega
    simp only [opt_some, e8, u64_shl, u64_or]
    rw [i64_inc (by omega)]
    refine hX hik _ _ ⟨rfl, ?_⟩
    rw [List.take_succ_eq_append_getElem (by omega : i < (l.take k).length), takeW_snoc]
    have e9 : ((l.take k).take i).length = i := by simp; omega
    rw [e9]
  · have : i = k := by omega
    subst this
    rw [List.take_take, Nat.min_self]; exact hQ
structure RecD where
  number : BitVec 32
  arch : BitVec 32
  at_ : BitVec 64
  args : List (BitVec 64)
def RecD.ok (r : RecD) : Prop := r.args.length = 6
def RecD.cells (r : RecD) : List Value := u32 r.number :: u32 r.arch :: u64 r.at_ :: r.args.map u64
abbrev RecD.v (r : RecD) : Value := .agg r.cells.toArray
/-- A record's sixteen words. -/
def RecD.words (r : RecD) : List (BitVec 32) := r.number :: r.arch :: lo32 r.at_ :: hi32 r.at_ :: r.args.flatMap fun a => [lo32 a, hi32 a]
def RecD.bytes (r : RecD) : List (BitVec 8) := r.words.flatMap bytes4

theorem RecD.ok_cases {r : RecD} (h : r.ok) : ∃ n a t x0 x1 x2 x3 x4 x5, r = ⟨n, a, t, [x0, x1, x2, x3, x4, x5]⟩ := by
  obtain ⟨n, a, t, l⟩ := r
  match l, h with
  | [x0, x1, x2, x3, x4, x5], _ => exact ⟨n, a, t, x0, x1, x2, x3, x4, x5, rfl⟩
theorem slArr_from (n b o i : Nat) (j : Int) (hj : j = (i : Int)) (hi : i ≤ n) : slArr n 1 (ptr b o) (some (vi j)) none none = some (.slice (some (if n = i then ⟨b, o, none⟩ else (⟨b, o, none⟩ : Addr).add (i * 1))) (n - i) (n - i)) := by
  subst hj
  have e0 : bnd (none : Option Value) n n = some n := rfl
  have e1 : bnd (some (vi (i : Int))) 0 n = some i := by simp only [bnd]; rw [if_pos (by omega)]; simp
  simp only [slArr, Option.isSome_none, Bool.false_and, Bool.false_eq_true, if_false, e0, e1, Option.bind_some]
theorem slArr_lt (n b o i : Nat) (j : Int) (hj : j = (i : Int)) (hi : i < n) : slArr n 1 (ptr b o) (some (vi j)) none none = some (slc b (o + i) (n - i) (n - i)) := by
  rw [slArr_from n b o i j hj (by omega), if_neg (by omega)]
  simp only [Addr.add, Nat.mul_one]
  by_cases h : i = 0
  · simp [h]
  · simp [h]
/-- What is laid behind what is done. -/
theorem splice_done (done bs rest : List Value) (o : Nat) (ho : o = done.length) (h : bs.length ≤ rest.length) : splice (done ++ rest) o bs = done ++ bs ++ rest.drop bs.length := by
  subst ho
  simp only [splice, List.take_left, List.drop_append]
  rw [List.drop_eq_nil_of_le (by omega)]
  simp [Nat.add_sub_cancel_left]
def BS (H H' : AH) (c0 : List Value) (done : List (BitVec 8)) : Prop :=
  Ext H H' ∧ H'.next = H.next + 3 ∧ H'.get H.next = .cells c0 none ∧ H'.get (H.next + 1) = .cells (zs 64 (u8 0#8)) none ∧
  H'.get (H.next + 2) = .cells (done.map u8 ++ zs (64 - done.length) (u8 0#8)) none ∧ done.length ≤ 64
theorem BS.put {H H' : AH} {c0 : List Value} {done : List (BitVec 8)} (h : BS H H' c0 done) (bs : List (BitVec 8)) (hb : done.length + bs.length ≤ 64) :
    BS H (H'.put (H.next + 2) (.cells (splice (done.map u8 ++ zs (64 - done.length) (u8 0#8)) done.length (bs.map u8)) none)) c0 (done ++ bs) := by
  obtain ⟨h1, h2, h3, h4, h5, h6⟩ := h
  refine ⟨h1.put (by omega) _, h2, ?_, ?_, ?_, by simp; omega⟩
  · rw [AH.get_put_ne _ _ (by omega)]; exact h3
  · rw [AH.get_put_ne _ _ (by omega)]; exact h4
  · rw [AH.get_put_self _ _ (by omega), splice_done _ _ _ _ (by simp) (by simp; omega)]
    simp only [List.map_append, zs_drop, List.length_map, List.length_append]
    rw [Nat.sub_sub]
theorem S.put_BS (hE : Fold E) {H H' : AH} {c0 : List Value} {done : List (BitVec 8)} (h : BS H H' c0 done) (n c : Nat) (x : BitVec 64) (k : Nat) (hk : k ≤ 8) (hn : k ≤ n) (hd : done.length + k ≤ 64) (o : Nat) (ho : o = done.length)
    (hQ : ∀ H'', BS H H'' c0 (done ++ bytesN x k) → Q (.tuple #[]) H'') : E.call (E.fid i.record_put) [slc (H.next + 2) o n c, u64 x, vi k] H' Q := by
  subst ho
  refine S.record_put hE (H.next + 2) done.length n c x k hk hn h.2.2.2.2.1 (by simp; omega) (hQ _ ?_)
  exact h.put (bytesN x k) (by simp [bytesN]; omega)
theorem S.record_Record_Bytes (hE : Fold E) (r : RecD) (hr : r.ok) (hQ : ∀ H', Ext H H' → Q (bytesV r.bytes) H') : E.call (E.fid i.record_Record_Bytes) [r.v] H Q := by
  obtain ⟨n, a, t, x0, x1, x2, x3, x4, x5, rfl⟩ := RecD.ok_cases hr
  apply hE.record_Record_Bytes
  unfold F.record_Record_Bytes
  simp only [boxO_agg, mk_some, allocW_eq, mkPtr_eq, AH.next_new]
  generalize hH3 : (((H.new _).new _).new _) = H3
  have h0 : BS H H3 (RecD.cells ⟨n, a, t, [x0, x1, x2, x3, x4, x5]⟩) [] := by
    subst hH3
    exact ⟨(((Ext.refl H).new _).new _).new _, rfl, by simp [AH.get_new, Nat.add_assoc], by simp [AH.get_new, Nat.add_assoc], by simp [AH.get_new, Nat.add_assoc], by simp⟩
  clear hH3
  have hc : ∀ {H' : AH} {d : List (BitVec 8)}, BS H H' (RecD.cells ⟨n, a, t, [x0, x1, x2, x3, x4, x5]⟩) d → H'.get H.next = .cells [u32 n, u32 a, u64 t, u64 x0, u64 x1, u64 x2, u64 x3, u64 x4, u64 x5] none := fun h => h.2.2.1
  rw [slArr_lt 64 (H.next + 1 + 1) 0 0 0 rfl (by omega)]
  simp [hc h0]
  refine S.put_BS hE h0 64 64 (n.setWidth 64) 4 (by omega) (by omega) (by simp) 0 (by simp) fun H4 h4 => ?_
  rw [slArr_lt 64 (H.next + 1 + 1) 0 4 4 rfl (by omega)]
  simp [hc h4]
  refine S.put_BS hE h4 60 60 (a.setWidth 64) 4 (by omega) (by omega) (by simp [bytesN]) 4 (by simp [bytesN]) fun H5 h5 => ?_
  rw [slArr_lt 64 (H.next + 1 + 1) 0 8 8 rfl (by omega)]
  simp [hc h5]
  refine S.put_BS hE h5 56 56 t 8 (by omega) (by omega) (by simp [bytesN]) 8 (by simp [bytesN]) fun H6 h6 => ?_
  simp [hc h6]
  generalize hd0 : [] ++ bytesN (n.setWidth 64) 4 ++ bytesN (a.setWidth 64) 4 ++ bytesN t 8 = d0 at h6
  have hl0 : d0.length = 16 := by rw [← hd0]; simp [bytesN]
  refine LoopL.count 6 (fun i s H' => BS H H' (RecD.cells ⟨n, a, t, [x0, x1, x2, x3, x4, x5]⟩) (d0 ++ ([x0, x1, x2, x3, x4, x5].take i).flatMap (bytesN · 8)) ∧ s = [ptr (H.next + 1) 0, ptr (H.next + 1 + 1) 0, .agg #[u64 x0, u64 x1, u64 x2, u64 x3, u64 x4, u64 x5], vi i]) ?_ ⟨by simpa using h6, rfl⟩
  rintro i _ H' X hi hX ⟨hB, rfl⟩
  simp [F.record_Record_Bytes_l1]
  refine ifB_split (fun h => ?_) (fun h => ?_)
  · have hi6 : i < 6 := by omega
    have hagg : ixAgg1 6 1 (.agg #[u64 x0, u64 x1, u64 x2, u64 x3, u64 x4, u64 x5]) (vi i) = some (u64 ([x0, x1, x2, x3, x4, x5][i]'(by simpa using hi6))) := by
      simp only [ixAgg1]
      rw [if_pos (by omega)]
      simp only [part1_agg, Int.toNat_natCast, Nat.mul_one]
      have : i = 0 ∨ i = 1 ∨ i = 2 ∨ i = 3 ∨ i = 4 ∨ i = 5 := by omega
      rcases this with rfl | rfl | rfl | rfl | rfl | rfl <;> rfl
    rw [hagg, opt_some, i64_mul (by omega) (by omega), opt_some, i64_add (by omega) (by omega), opt_some]
    rw [slArr_lt 64 (H.next + 1 + 1) 0 (16 + 8 * i) _ (by omega) (by omega)]
    simp only [opt_some]
    have hlen : (d0 ++ ([x0, x1, x2, x3, x4, x5].take i).flatMap (bytesN · 8)).length = 16 + 8 * i := by
      have : i = 0 ∨ i = 1 ∨ i = 2 ∨ i = 3 ∨ i = 4 ∨ i = 5 := by omega
      rcases this with rfl | rfl | rfl | rfl | rfl | rfl <;> simp [hl0, bytesN]
    refine S.put_BS hE hB (64 - (16 + 8 * i)) (64 - (16 + 8 * i)) _ 8 (by omega) (by omega) (by omega) _ (by omega) fun H7 h7 => ?_
    rw [i64_inc (by omega)]
    refine hX hi6 _ _ ⟨?_, rfl⟩
    rw [List.take_succ_eq_append_getElem (by simpa using hi6), List.flatMap_append, ← List.append_assoc]
    simpa using h7
  · have : i = 6 := by omega
    subst this
    obtain ⟨q1, q2, q3, q4, q5, q6⟩ := hB
    have hd : d0 ++ ([x0, x1, x2, x3, x4, x5].take 6).flatMap (bytesN · 8) = RecD.bytes ⟨n, a, t, [x0, x1, x2, x3, x4, x5]⟩ := by
      rw [← hd0]
      simp [RecD.bytes, RecD.words, bytesN_4, bytesN_8]
    rw [hd] at q5 q6
    have hl : (RecD.bytes ⟨n, a, t, [x0, x1, x2, x3, x4, x5]⟩).length = 64 := rfl
    generalize RecD.bytes ⟨n, a, t, [x0, x1, x2, x3, x4, x5]⟩ = d at *
    rw [hl] at q5
    simp only [Nat.sub_self, zs_zero, List.append_nil] at q5
    have hp : ∀ x ∈ d, plain1 (u8 x) = true := fun x _ => rfl
    simp [q5, q4, hl, List.take_of_length_le, splice, AH.get_put, q2]
    exact hQ _ (q1.put (by omega) _)
end Go.AM
end
section
namespace Go.AM
variable {E : Sy} {H : AH} {Q : Value → AH → Prop}
theorem Vals.sub {H : AH} {b o n c : Nat} {cs : List Value} {f : Option Nat} (hg : H.get b = .cells cs f) (hf : f = none ∨ f = some 1) (ho : o + n ≤ cs.length) (hn : n ≤ c) : Vals H (slc b o n c) ((cs.drop o).take n) := by
  have hl : ((cs.drop o).take n).length = n := by simp; omega
  refine ⟨fun r hr => by simp only [List.mem_map] at hr; obtain ⟨x, _, rfl⟩ := hr; rfl, .inr ⟨b, o, c, by rw [List.length_map, hl], by rw [List.length_map, hl]; exact hn, ?_, ?_⟩⟩
  · rw [hg]; rcases hf with rfl | rfl <;> simp [fits]
  · rw [hg, flatten_single, List.length_map, hl, Nat.mul_one, row_cells, if_pos ho]
def recOf (l : List (BitVec 8)) : RecD :=
  ⟨(takeW (l.take 4)).setWidth 32, (takeW ((l.drop 4).take 4)).setWidth 32, takeW ((l.drop 8).take 8), (List.range 6).map fun i => takeW ((l.drop (16 + 8 * i)).take 8)⟩
theorem recOf_ok (l : List (BitVec 8)) : (recOf l).ok := by simp [RecD.ok, recOf]
theorem S.take_at (hE : Fold E) (b o n c k : Nat) (l : List (BitVec 8)) {f : Option Nat} (hg : H.get b = .cells (l.map u8) f) (hf : f = none ∨ f = some 1) (ho : o + n ≤ l.length) (hn : n ≤ c) (hk : k ≤ n) (hk8 : k ≤ 8)
    (hQ : Q (u64 (takeW ((l.drop o).take k))) H) : E.call (E.fid i.record_take) [slc b o n c, vi k] H Q := by
  have hV := Vals.sub hg hf (o := o) (n := n) (c := c) (by simpa using ho) hn
  have e : ((l.map u8).drop o).take n = ((l.drop o).take n).map u8 := by simp
  rw [e] at hV
  refine S.record_take hE _ _ k (by simp; omega) hk8 hV ?_
  rwa [List.take_take, Nat.min_eq_left hk]
theorem set_snoc (done rest : List Value) (x v : Value) : (done ++ x :: rest).set done.length v = (done ++ [v]) ++ rest := by
  rw [List.set_append_right _ _ (by omega)]; simp
theorem S.record_Of (hE : Fold E) (l : List (BitVec 8)) (hl : l.length = 64) (hQ : ∀ H', Ext H H' → Q (recOf l).v H') : E.call (E.fid i.record_Of) [bytesV l] H Q := by
  apply hE.record_Of
  unfold F.record_Of
  simp only [boxO_agg, mk_some, allocW_eq, mkPtr_eq, AH.next_new]
  rw [slArr_lt 64 H.next 0 0 0 rfl (by omega), opt_some, slArr_lt 64 H.next 0 4 4 rfl (by omega), opt_some, slArr_lt 64 H.next 0 8 8 rfl (by omega), opt_some]
  generalize hz : ([(.int .u32 0), (.int .u32 0), (.int .u64 0), (.int .u64 0), (.int .u64 0), (.int .u64 0), (.int .u64 0), (.int .u64 0), (.int .u64 0)] : List Value) = z9
  generalize hH3 : (((H.new _).new _).new _) = H3
  have hb : H3.get H.next = .cells (l.map u8) none := by subst hH3; simp [AH.get_new, Nat.add_assoc]
  have hr : H3.get (H.next + 1) = .cells z9 none := by subst hH3; simp [AH.get_new, Nat.add_assoc]
  have hv : H3.get (H.next + 2) = .cells z9 none := by subst hH3; simp [AH.get_new, Nat.add_assoc]
  have hx : Ext H H3 := by subst hH3; exact (((Ext.refl H).new _).new _).new _
  have hn : H3.next = H.next + 3 := by subst hH3; rfl
  clear hH3
  refine S.take_at hE H.next 0 _ _ 4 l hb (.inl rfl) (by omega) (by omega) (by omega) (by omega) ⟨rfl, ?_⟩
  simp
  refine S.take_at hE H.next 4 _ _ 4 l hb (.inl rfl) (by omega) (by omega) (by omega) (by omega) ⟨rfl, ?_⟩
  simp
  refine S.take_at hE H.next 8 _ _ 8 l hb (.inl rfl) (by omega) (by omega) (by omega) (by omega) ⟨rfl, ?_⟩
  subst hz
  simp [splice, hv, Nat.add_assoc]
  generalize hH4 : H3.put (H.next + 2) _ = H4
  let done : Nat → List Value := fun i => [u32 ((takeW (l.take 4)).setWidth 32), u32 ((takeW ((l.drop 4).take 4)).setWidth 32), u64 (takeW ((l.drop 8).take 8))] ++ (List.range i).map fun j => u64 (takeW ((l.drop (16 + 8 * j)).take 8))
  have hlen : ∀ i, (done i).length = 3 + i := by intro i; simp [done]; omega
  refine LoopL.count 6 (fun i s H' => s = [ptr H.next 0, ptr (H.next + 1) 0, ptr (H.next + 2) 0, vi i] ∧ Ext H H' ∧ H'.next = H.next + 3 ∧ H'.get H.next = .cells (l.map u8) none ∧ H'.get (H.next + 1) = .cells [u32 0#32, u32 0#32, u64 0#64, u64 0#64, u64 0#64, u64 0#64, u64 0#64, u64 0#64, u64 0#64] none ∧
      H'.get (H.next + 2) = .cells (done i ++ zs (6 - i) (u64 0#64)) none) ?_ ?_
  · rintro i _ H' X hi hX ⟨rfl, h1, h2, h3, h4, h5⟩
    simp [F.record_Of_l1]
    refine ifB_split (fun h => ?_) (fun h => ?_)
    · have hi6 : i < 6 := by omega
      rw [i64_mul (by omega) (by omega), opt_some, i64_add (by omega) (by omega), opt_some, slArr_lt 64 H.next 0 (16 + 8 * i) _ (by omega) (by omega), opt_some]
      refine S.take_at hE H.next (0 + (16 + 8 * i)) _ _ 8 l h3 (.inl rfl) (by omega) (by omega) (by omega) (by omega) ?_
      rw [ixArr_nat 6 1 _ _ i hi6, opt_some, store1_ptr, h5]
      simp only [plain1_u64, if_true, List.length_append, hlen, zs_length]
      rw [if_pos (by omega), opt_some, i64_inc (by omega), opt_some]
      refine hX hi6 _ _ ⟨rfl, h1.put (by omega) _, h2, ?_, ?_, ?_⟩
      · rw [AH.get_put_ne _ _ (by omega)]; exact h3
      · rw [AH.get_put_ne _ _ (by omega)]; exact h4
      · rw [AH.get_put_self _ _ (by omega)]
        have e1 : zs (6 - i) (u64 0#64) = u64 0#64 :: zs (6 - (i + 1)) (u64 0#64) := by
          rw [show 6 - i = (6 - (i + 1)) + 1 by omega]; rfl
        have e2 : 3 + i * 1 = (done i).length := by rw [hlen]; omega
        rw [e1, e2, set_snoc]
        congr 2
        simp [done, List.range_succ]
    · have : i = 6 := by omega
      subst this
      have e3 : done 6 = (recOf l).cells := by simp [done, recOf, RecD.cells, List.range_succ]
      have e4 : (recOf l).cells.length = 9 := rfl
      have e5 : ((recOf l).cells).all plain1 = true := by simp [recOf, RecD.cells]
      rw [e3, Nat.sub_self, zs_zero, List.append_nil] at h5
      simp only [load1_ptr, loadN_ptr, h5, row_cells, Nat.zero_add, List.drop_zero]
      rw [if_pos (by omega)]
      simp only [Option.map_some, opt_some, storeN_ptr, h4]
      rw [List.take_of_length_le (by omega)]
      simp only [List.size_toArray, e4, List.toList_toArray]
      rw [if_pos ⟨trivial, by simp, e5⟩, opt_some]
      have h6 : H'.next > H.next + 1 := by omega
      simp only [AH.get_put_self _ _ h6, row_cells, splice]
      simp only [List.take_zero, List.nil_append, Nat.zero_add, e4]
      simp
      rw [if_pos (by omega)]
      simp
      rw [List.take_of_length_le (by omega)]
      exact hQ _ (h1.put (by omega) _)
  · subst hH4
    refine ⟨rfl, hx.put (by omega) _, hn, ?_, ?_, ?_⟩
    · rw [AH.get_put_ne _ _ (by omega)]; exact hb
    · rw [AH.get_put_ne _ _ (by omega)]; simpa using hr
    · rw [AH.get_put_self _ _ (by omega)]; rfl
end Go.AM
end
section
namespace Go.AM
variable {E : Sy} {H : AH} {Q : Value → AH → Prop}
theorem bytes4_lo (n : BitVec 64) : bytes4 (lo32 n) = bytesN n 4 := by
  simp only [bytesN, List.range, List.range.loop, List.map, bytes4]
  rw [byteAt_lo _ _ (by omega), byteAt_lo _ _ (by omega), byteAt_lo _ _ (by omega), byteAt_lo _ _ (by omega)]
theorem recOf_bytes (r : RecD) (hr : r.ok) : recOf r.bytes = r := by
  obtain ⟨n, a, t, x0, x1, x2, x3, x4, x5, rfl⟩ := RecD.ok_cases hr
  have h : ∀ x : BitVec 64, takeW (bytes4 (lo32 x) ++ bytes4 (hi32 x)) = x := fun x => by rw [← bytesN_8, takeW_bytes8]
  show (⟨(takeW (bytes4 n)).setWidth 32, (takeW (bytes4 a)).setWidth 32, takeW (bytes4 (lo32 t) ++ bytes4 (hi32 t)), [takeW (bytes4 (lo32 x0) ++ bytes4 (hi32 x0)), takeW (bytes4 (lo32 x1) ++ bytes4 (hi32 x1)), takeW (bytes4 (lo32 x2) ++ bytes4 (hi32 x2)), takeW (bytes4 (lo32 x3) ++ bytes4 (hi32 x3)), takeW (bytes4 (lo32 x4) ++ bytes4 (hi32 x4)), takeW (bytes4 (lo32 x5) ++ bytes4 (hi32 x5))]⟩ : RecD) = _
  simp only [h, takeW_bytes4]
theorem bytes_recOf (l : List (BitVec 8)) (hl : l.length = 64) : (recOf l).bytes = l := by
  have h4 : ∀ m : List (BitVec 8), m.length = 4 → bytes4 ((takeW m).setWidth 32) = m := fun m hm => by
    have := bytes4_lo (takeW m)
    unfold lo32 at this
    rw [this, ← hm]; exact bytesN_takeW m (by omega)
  have h8 : ∀ m : List (BitVec 8), m.length = 8 → bytes4 (lo32 (takeW m)) ++ bytes4 (hi32 (takeW m)) = m := fun m hm => by
    rw [← bytesN_8]
    have := bytesN_takeW m (by omega)
    rwa [hm] at this
  have hc := chunk_flatten (n := 6) (s := 8) (l.drop 16) (by simp; omega)
  have e0 : ∀ (n a : BitVec 32) (t x0 x1 x2 x3 x4 x5 : BitVec 64), RecD.bytes ⟨n, a, t, [x0, x1, x2, x3, x4, x5]⟩ = bytes4 n ++ (bytes4 a ++ ((bytes4 (lo32 t) ++ bytes4 (hi32 t)) ++ ((bytes4 (lo32 x0) ++ bytes4 (hi32 x0)) ++ ((bytes4 (lo32 x1) ++ bytes4 (hi32 x1)) ++ ((bytes4 (lo32 x2) ++ bytes4 (hi32 x2)) ++ ((bytes4 (lo32 x3) ++ bytes4 (hi32 x3)) ++ ((bytes4 (lo32 x4) ++ bytes4 (hi32 x4)) ++ (bytes4 (lo32 x5) ++ bytes4 (hi32 x5))))))))) := fun _ _ _ _ _ _ _ _ _ => rfl
  have e : (recOf l).bytes = l.take 4 ++ ((l.drop 4).take 4 ++ ((l.drop 8).take 8 ++ l.drop 16)) := by
    rw [hc]
    show RecD.bytes ⟨_, _, _, [takeW ((l.drop 16).take 8), takeW ((l.drop 24).take 8), takeW ((l.drop 32).take 8), takeW ((l.drop 40).take 8), takeW ((l.drop 48).take 8), takeW ((l.drop 56).take 8)]⟩ = _
    rw [e0, h4 _ (by simp; omega), h4 _ (by simp; omega), h8 _ (by simp; omega), h8 _ (by simp; omega), h8 _ (by simp; omega), h8 _ (by simp; omega), h8 _ (by simp; omega), h8 _ (by simp; omega), h8 _ (by simp; omega)]
    simp [List.range, List.range.loop]
  rw [e]
  have e1 : (l.drop 8).take 8 ++ l.drop 16 = l.drop 8 := by rw [show l.drop 16 = (l.drop 8).drop 8 by simp]; exact List.take_append_drop ..
  have e2 : (l.drop 4).take 4 ++ l.drop 8 = l.drop 4 := by rw [show l.drop 8 = (l.drop 4).drop 4 by simp]; exact List.take_append_drop ..
  rw [e1, e2, List.take_append_drop]
theorem words_len (r : RecD) (hr : r.ok) : r.words.length = 16 := by
  obtain ⟨n, a, t, x0, x1, x2, x3, x4, x5, rfl⟩ := RecD.ok_cases hr
  rfl
theorem bytes_len (r : RecD) (hr : r.ok) : r.bytes.length = 64 := by
  obtain ⟨n, a, t, x0, x1, x2, x3, x4, x5, rfl⟩ := RecD.ok_cases hr
  rfl
theorem bytes_word (r : RecD) (i : Nat) (hi : i < r.words.length) : (r.bytes.drop (4 * i)).take 4 = bytes4 r.words[i] := by
  have := flatten_part (sz := 4) (r.words.map bytes4) (by intro x hx; obtain ⟨y, _, rfl⟩ := List.mem_map.1 hx; rfl) i (by simpa using hi)
  rw [List.getElem_map] at this
  rw [← this, Nat.mul_comm, RecD.bytes, List.flatMap_def]
theorem bytes_byte (r : RecD) (hr : r.ok) (i k : Nat) (hi : i < 16) (hk : k < 4) : r.bytes[4 * i + k]'(by rw [bytes_len r hr]; omega) = byteAt (r.words[i]'(by rw [words_len r hr]; omega)) k := by
  have h1 := bytes_word r i (by rw [words_len r hr]; omega)
  have h2 := congrArg (fun l => l[k]?) h1
  simp only [List.getElem?_take, hk, if_true, List.getElem?_drop] at h2
  rw [List.getElem?_eq_getElem (by rw [bytes_len r hr]; omega)] at h2
  have h3 : (bytes4 (r.words[i]'(by rw [words_len r hr]; omega)))[k]? = some (byteAt (r.words[i]'(by rw [words_len r hr]; omega)) k) := by
    have : k = 0 ∨ k = 1 ∨ k = 2 ∨ k = 3 := by omega
    rcases this with rfl | rfl | rfl | rfl <;> rfl
  rw [h3] at h2
  simpa using h2
end Go.AM
end
section
namespace Go.AM
variable {E : Sy} {H : AH} {Q : Value → AH → Prop}
def rword (r : RecD) (a : BitVec 32) : BitVec 32 × Bool := if a.toNat % 4 = 0 ∧ a.toNat ≤ 60 then (r.words.getD (a.toNat / 4) 0, true) else (0, false)
theorem S.record_Record_Word (hE : Fold E) (r : RecD) (hr : r.ok) (a : BitVec 32) (hQ : ∀ H', Ext H H' → Q (.tuple #[u32 (rword r a).1, vb (rword r a).2]) H') : E.call (E.fid i.record_Record_Word) [r.v, u32 a] H Q := by
  apply hE.record_Record_Word
  simp [F.record_Record_Word]
  have hm : (a % 4#32 = 0#32) ↔ a.toNat % 4 = 0 := by
    rw [← BitVec.toNat_inj]; simp
  by_cases h1 : a.toNat % 4 = 0
  · simp only [hm.2 h1]
    simp
    by_cases h2 : 60 < a.toNat
    · have h3 : ¬ a.toNat ≤ 60 := by omega
      simp [h2]
      have := hQ (H.new (AObj.cells r.cells none)) (by simp)
      simpa [rword, h1, h3] using this
    · have h3 : a.toNat ≤ 60 := by omega
      simp [h2]
      have hl9 : r.cells.length = 9 := by
        obtain ⟨n, a, t, x0, x1, x2, x3, x4, x5, rfl⟩ := RecD.ok_cases hr
        rfl
      rw [if_pos (by omega), List.take_of_length_le (by omega)]
      simp only [Option.map_some, opt_some]
      refine S.record_Record_Bytes hE r hr fun H4 h4 => ?_
      have hb := bytes_len r hr
      simp [hb, splice]
      generalize hH5 : H4.new _ = H5
      have hg : H5.get H4.next = .cells (r.bytes.map u8) none := by subst hH5; simp
      have hx : Ext H H5 := by subst hH5; exact (((Ext.refl H).new _).trans h4).new _
      clear hH5
      rw [show slArr 64 1 (ptr H4.next 0) (some (u32 a)) none none = slArr 64 1 (ptr H4.next 0) (some (vi (a.toNat : Int))) none none from rfl]
      rw [slArr_lt 64 H4.next 0 a.toNat _ rfl (by omega), opt_some]
      refine S.take_at hE H4.next (0 + a.toNat) _ _ 4 r.bytes hg (.inl rfl) (by omega) (by omega) (by omega) (by omega) ?_
      have hw := bytes_word r (a.toNat / 4) (by rw [words_len r hr]; omega)
      have e4 : 0 + a.toNat = 4 * (a.toNat / 4) := by omega
      rw [e4, hw]
      simp [takeW_bytes4]
      have := hQ H5 hx
      simp only [rword, h1, h3, and_self, if_true] at this
      rw [List.getD_eq_getElem?_getD, List.getElem?_eq_getElem (by rw [words_len r hr]; omega)] at this
      exact this
  · have : ¬ (a % 4#32 = 0#32) := fun e => h1 (hm.1 e)
    simp [this]
    have := hQ (H.new (AObj.cells r.cells none)) (by simp)
    simpa [rword, h1] using this
def clampArg (n : Int) : Nat := (if 5 < (if 0 > n then 0 else n) then 5 else (if 0 > n then 0 else n)).toNat
theorem clampArg_lt (n : Int) : clampArg n < 6 := by unfold clampArg; split <;> split <;> omega
theorem clampArg_eq (n : Int) : (if 5 < (if 0 > n then 0 else n) then 5 else (if 0 > n then 0 else n)) = (clampArg n : Int) := by unfold clampArg; split <;> split <;> omega
theorem S.record_Half (hE : Fold E) (n : Int) (b : Bool) (hQ : Q (u32 (BitVec.ofNat 32 (16 + 8 * clampArg n + (if b then 4 else 0)))) H) : E.call (E.fid i.record_Half) [vi n, vb b] H Q := by
  apply hE.record_Half
  have hc := clampArg_lt n
  simp only [F.record_Half, i64_max, opt_some, i64_min, clampArg_eq]
  rw [i64_mul (by omega) (by omega), opt_some, i64_add (by omega) (by omega), opt_some]
  have e : (16 : Int) + 8 * (clampArg n : Int) = ((16 + 8 * clampArg n : Nat) : Int) := by omega
  simp only [e, i64_to_u32, opt_some, BitVec.ofInt_natCast]
  cases b with
  | false => simpa using hQ
  | true =>
    simp
    have : BitVec.ofNat 32 (16 + 8 * clampArg n) + 4#32 = BitVec.ofNat 32 (16 + 8 * clampArg n + 4) := by
      rw [← BitVec.ofNat_add]
    rw [this]; simpa using hQ
theorem words_arg (r : RecD) (hr : r.ok) (k : Nat) (hk : k < 6) (hb : Nat) (hh : hb < 2) : r.words.getD (4 + 2 * k + hb) 0 = if hb = 0 then lo32 (r.args.getD k 0) else hi32 (r.args.getD k 0) := by
  obtain ⟨n, a, t, x0, x1, x2, x3, x4, x5, rfl⟩ := RecD.ok_cases hr
  have h1 : k = 0 ∨ k = 1 ∨ k = 2 ∨ k = 3 ∨ k = 4 ∨ k = 5 := by omega
  have h2 : hb = 0 ∨ hb = 1 := by omega
  rcases h1 with rfl | rfl | rfl | rfl | rfl | rfl <;> rcases h2 with rfl | rfl <;> rfl
theorem rword_arg (r : RecD) (hr : r.ok) (k : Nat) (hk : k < 6) (b : Bool) : rword r (BitVec.ofNat 32 (16 + 8 * k + (if b then 4 else 0))) = (if b then hi32 (r.args.getD k 0) else lo32 (r.args.getD k 0), true) := by
  have h1 := words_arg r hr k hk (if b then 1 else 0) (by split <;> omega)
  unfold rword
  have e : (BitVec.ofNat 32 (16 + 8 * k + (if b then 4 else 0))).toNat = 16 + 8 * k + (if b then 4 else 0) := by
    rw [BitVec.toNat_ofNat]; apply Nat.mod_eq_of_lt; split <;> omega
  rw [e, if_pos (by constructor <;> split <;> omega)]
  have e2 : (16 + 8 * k + (if b then 4 else 0)) / 4 = 4 + 2 * k + (if b then 1 else 0) := by split <;> omega
  rw [e2, h1]
  cases b <;> rfl
theorem S.RecordHalves_ (hE : Fold E) (r : RecD) (hr : r.ok) (n : Int) (hA : ∀ {H Q}, Q (vb true) H → E.call (E.fid i.pinfoldlaw04_Awake) [] H Q) (hQ : ∀ H', Q (vb true) H') : E.call (E.fid i.pinfoldlaw04_RecordHalves) [r.v, vi n] H Q := by
  apply hE.pinfoldlaw04_RecordHalves
  unfold F.pinfoldlaw04_RecordHalves
  simp only [boxO_agg, mk_some, mkPtr_eq]
  apply hA
  have hc := clampArg_lt n
  have hl9 : r.cells.length = 9 := by
    obtain ⟨n, a, t, x0, x1, x2, x3, x4, x5, rfl⟩ := RecD.ok_cases hr
    rfl
  generalize hH1 : H.new _ = H1
  have hg : H1.get H.next = .cells r.cells none := by subst hH1; simp
  clear hH1
  have hld : ∀ {H' : AH}, H'.get H.next = .cells r.cells none → loadN 9 (ptr H.next 0) H' = some r.v := by
    intro H' h
    rw [loadN_ptr, h, row_cells, if_pos (by omega)]
    simp [List.take_of_length_le (by omega : r.cells.length ≤ 9)]
  simp only [un_not, opt_some, Bool.not_true, ifB_false, i64_max, i64_min, clampArg_eq, hld hg]
  refine S.record_Half hE n false ⟨hld hg, ?_⟩
  refine S.record_Record_Word hE r hr _ fun H4 h4 => ?_
  rw [rword_arg r hr _ hc]
  have hg4 := h4.cells hg
  simp only [ext_tuple, hld hg4]
  simp
  refine S.record_Half hE n true ⟨by rw [hg4, row_cells, if_pos (by omega)]; simp [List.take_of_length_le (by omega : r.cells.length ≤ 9)], ?_⟩
  refine S.record_Record_Word hE r hr _ fun H6 h6 => ?_
  rw [rword_arg r hr _ hc]
  have hg6 := h6.cells hg4
  have ha : r.cells[3 + clampArg n]? = some (u64 (r.args.getD (clampArg n) 0)) := by
    obtain ⟨n', a, t, x0, x1, x2, x3, x4, x5, rfl⟩ := RecD.ok_cases hr
    generalize clampArg n = k at hc
    have h1 : k = 0 ∨ k = 1 ∨ k = 2 ∨ k = 3 ∨ k = 4 ∨ k = 5 := by omega
    rcases h1 with rfl | rfl | rfl | rfl | rfl | rfl <;> rfl
  simp only [ext_tuple]
  simp [ixArr_nat 6 1 _ _ _ hc, hg6, ha]
  have hj := join64 (r.args.getD (clampArg n) 0)
  simp at hj
  simp [hj]
  exact hQ _
end Go.AM
end
section
namespace Go.AM
variable {E : Sy} {H : AH} {Q : Value → AH → Prop}
structure CondD where
  arg : Int
  op : BitVec 8
  mask : BitVec 64
  value : BitVec 64
def CondD.cells (c : CondD) : List Value := [vi c.arg, u8 c.op, u64 c.mask, u64 c.value]
abbrev CondD.v (c : CondD) : Value := .agg c.cells.toArray
/-- Does a condition hold of an argument? -/
def holdsOf (op : Nat) (mask value a : BitVec 64) : Bool :=
  if op = 1 then decide (a = value) else if op = 2 then decide (a ≠ value) else if op = 3 then decide (a.toNat < value.toNat) else if op = 4 then decide (a.toNat ≤ value.toNat)
  else if op = 5 then decide (value.toNat < a.toNat) else if op = 6 then decide (value.toNat ≤ a.toNat) else if op = 7 then decide (a &&& mask = value) else false
def argAt (l : List (BitVec 64)) (n : Nat) : BitVec 64 := l.getD n 0
def holds (c : CondD) (args : List (BitVec 64)) : Bool := if c.arg < 0 ∨ 5 < c.arg then false else holdsOf c.op.toNat c.mask c.value (argAt args c.arg.toNat)
theorem arg_cell {pre : List Value} (args : List (BitVec 64)) (h : args.length = 6) (n : Int) (h0 : 0 ≤ n) (h5 : n ≤ 5) (k : Nat) (hk : k = pre.length) : ∃ i : Nat, n = (i : Int) ∧ i < 6 ∧ (pre ++ args.map u64)[k + i]? = some (u64 (argAt args n.toNat)) := by
  refine ⟨n.toNat, by omega, by omega, ?_⟩
  subst hk
  rw [List.getElem?_append_right (by omega), Nat.add_sub_cancel_left, List.getElem?_map, argAt, List.getD_eq_getElem?_getD, List.getElem?_eq_getElem (by omega)]
  rfl
theorem S.mean_Holds (hE : Fold E) (c : CondD) (r : RecD) (hr : r.ok) (hQ : ∀ H', Ext H H' → Q (vb (holds c r.args)) H') : E.call (E.fid i.mean_Holds) [c.v, r.v] H Q := by
  apply hE.mean_Holds
  have hx : Ext H ((H.new (.cells c.cells none)).new (.cells r.cells none)) := ((Ext.refl H).new _).new _
  have hQ := hQ _ hx
  simp [F.mean_Holds, AH.get_new, CondD.cells]
  unfold holds at hQ
  by_cases h0 : c.arg < 0
  · simp [h0]
    simpa [h0, CondD.cells] using hQ
  · by_cases h5 : 5 < c.arg
    · simp [h0, AH.get_new, h5]
      simpa [h0, h5, CondD.cells] using hQ
    · obtain ⟨i, e1, e2, e3⟩ := arg_cell (pre := [u32 r.number, u32 r.arch, u64 r.at_]) r.args hr c.arg (by omega) (by omega) 3 rfl
      have e3 : r.cells[3 + i]? = some (u64 (argAt r.args c.arg.toNat)) := e3
      simp [h0, AH.get_new, h5, CondD.cells]
      rw [e1, ixArr_nat 6 1 _ _ i e2]
      simp [AH.get_new, e3]
      rw [← e1]
      generalize argAt r.args c.arg.toNat = a at *
      simp only [h0, h5, or_self, if_false, holdsOf] at hQ
      have oe : ∀ k : Nat, k < 256 → (c.op = BitVec.ofNat 8 k ↔ c.op.toNat = k) := by
        intro k hk
        rw [← BitVec.toNat_inj, BitVec.toNat_ofNat, Nat.mod_eq_of_lt (by omega)]
      have o1 := oe 1 (by omega)
      have o2 := oe 2 (by omega)
      have o3 := oe 3 (by omega)
      have o4 := oe 4 (by omega)
      have o5 := oe 5 (by omega)
      have o6 := oe 6 (by omega)
      have o7 := oe 7 (by omega)
      simp only [ifB_dec, o1, o2, o3, o4, o5, o6, o7]
      generalize c.op.toNat = op at *
      have hc : c.cells = [vi c.arg, u8 c.op, u64 c.mask, u64 c.value] := rfl
      rw [hc] at hQ
      by_cases p1 : op = 1
      · simp [p1, AH.get_new] at hQ ⊢; exact hQ
      by_cases p2 : op = 2
      · simp [p2, AH.get_new] at hQ ⊢; exact hQ
      by_cases p3 : op = 3
      · simp [p3, AH.get_new] at hQ ⊢; exact hQ
      by_cases p4 : op = 4
      · simp [p4, AH.get_new] at hQ ⊢; exact hQ
      by_cases p5 : op = 5
      · simp [p5, AH.get_new] at hQ ⊢; exact hQ
      by_cases p6 : op = 6
      · simp [p6, AH.get_new] at hQ ⊢; exact hQ
      by_cases p7 : op = 7
      · simp [p7, AH.get_new] at hQ ⊢; exact hQ
      · simp [p1, p2, p3, p4, p5, p6, p7] at hQ ⊢; exact hQ
/-- What a reference's record holds. -/
def RecD.seen (r : RecD) : List Value := u32 r.number :: u32 r.arch :: r.args.map u64
theorem S.pinfoldref09_Holds (hE : Fold E) (c : CondD) (r : RecD) (hr : r.ok) (hQ : ∀ H', Ext H H' → Q (vb (holds c r.args)) H') :
    E.call (E.fid i.pinfoldref09_Holds) [.agg #[vi c.arg, vi c.op.toNat, u64 c.mask, u64 c.value], .agg r.seen.toArray] H Q := by
  apply hE.pinfoldref09_Holds
  have hx : Ext H ((H.new (.cells [vi c.arg, vi c.op.toNat, u64 c.mask, u64 c.value] none)).new (.cells r.seen none)) := ((Ext.refl H).new _).new _
  have hQ := hQ _ hx
  simp [F.pinfoldref09_Holds, AH.get_new]
  unfold holds at hQ
  by_cases h0 : c.arg < 0
  · simp [h0]
    simpa [h0] using hQ
  · by_cases h5 : 5 < c.arg
    · simp [h0, AH.get_new, h5]
      simpa [h0, h5] using hQ
    · obtain ⟨i, e1, e2, e3⟩ := arg_cell (pre := [u32 r.number, u32 r.arch]) r.args hr c.arg (by omega) (by omega) 2 rfl
      have e3 : r.seen[2 + i]? = some (u64 (argAt r.args c.arg.toNat)) := e3
      simp [h0, AH.get_new, h5]
      rw [e1, ixArr_nat 6 1 _ _ i e2]
      simp [AH.get_new, e3]
      rw [← e1]
      generalize argAt r.args c.arg.toNat = a at *
      simp only [h0, h5, or_self, if_false, holdsOf] at hQ
      have o1 : ((c.op.toNat : Int) = 1) ↔ c.op.toNat = 1 := by omega
      have o2 : ((c.op.toNat : Int) = 2) ↔ c.op.toNat = 2 := by omega
      have o3 : ((c.op.toNat : Int) = 3) ↔ c.op.toNat = 3 := by omega
      have o4 : ((c.op.toNat : Int) = 4) ↔ c.op.toNat = 4 := by omega
      have o5 : ((c.op.toNat : Int) = 5) ↔ c.op.toNat = 5 := by omega
      have o6 : ((c.op.toNat : Int) = 6) ↔ c.op.toNat = 6 := by omega
      have o7 : ((c.op.toNat : Int) = 7) ↔ c.op.toNat = 7 := by omega
      simp only [ifB_dec, o1, o2, o3, o4, o5, o6, o7]
      by_cases p1 : c.op.toNat = 1
      · simp [p1, AH.get_new] at hQ ⊢; exact hQ
      by_cases p2 : c.op.toNat = 2
      · simp [p2, AH.get_new] at hQ ⊢; exact hQ
      by_cases p3 : c.op.toNat = 3
      · simp [p3, AH.get_new] at hQ ⊢; exact hQ
      by_cases p4 : c.op.toNat = 4
      · simp [p4, AH.get_new] at hQ ⊢; exact hQ
      by_cases p5 : c.op.toNat = 5
      · simp [p5, AH.get_new] at hQ ⊢; exact hQ
      by_cases p6 : c.op.toNat = 6
      · simp [p6, AH.get_new] at hQ ⊢; exact hQ
      by_cases p7 : c.op.toNat = 7
      · simp [p7, AH.get_new] at hQ ⊢; exact hQ
      · simp [p1, p2, p3, p4, p5, p6, p7] at hQ ⊢; exact hQ
end Go.AM
end
section
namespace Go.AM
variable {E : Sy} {H : AH} {Q : Value → AH → Prop}
structure RuleD where
  number : BitVec 32
  action : BitVec 32
  conds : List CondD
/-- A rule's cells; the reference's. -/
def RuleAt (H : AH) (r : RuleD) (cs : List Value) : Prop := r.conds.length < 2 ^ 63 ∧ ∃ v, cs = [u32 r.number, u32 r.action, v] ∧ Rows H 4 v (r.conds.map CondD.cells)
def CondD.rcells (c : CondD) : List Value := [vi c.arg, vi c.op.toNat, u64 c.mask, u64 c.value]
def RRuleAt (H : AH) (r : RuleD) (cs : List Value) : Prop := r.conds.length < 2 ^ 63 ∧ ∃ v, cs = [u32 r.number, u32 r.action, v] ∧ Rows H 4 v (r.conds.map CondD.rcells)
theorem RuleAt.mono {H H' : AH} {r : RuleD} {cs : List Value} (h : RuleAt H r cs) (e : Ext H H') : RuleAt H' r cs := ⟨h.1, h.2.choose, h.2.choose_spec.1, h.2.choose_spec.2.mono e⟩
theorem RRuleAt.mono {H H' : AH} {r : RuleD} {cs : List Value} (h : RRuleAt H r cs) (e : Ext H H') : RRuleAt H' r cs := ⟨h.1, h.2.choose, h.2.choose_spec.1, h.2.choose_spec.2.mono e⟩
def rmatches (x : RuleD) (r : RecD) : Bool := decide (x.number = r.number) && x.conds.all fun c => holds c r.args
theorem RecD.cells_len {r : RecD} (hr : r.ok) : r.cells.length = 9 := by
  obtain ⟨n, a, t, x0, x1, x2, x3, x4, x5, rfl⟩ := RecD.ok_cases hr
  rfl
theorem row_all (c : List Value) (f : Option Nat) (n : Nat) (h : c.length = n) : (AObj.cells c f).row 0 n = some c := by
  rw [row_cells, if_pos (by omega), List.drop_zero, List.take_of_length_le (by omega)]
theorem S.mean_Matches (hE : Fold E) (x : RuleD) (cs : List Value) (hx : RuleAt H x cs) (r : RecD) (hr : r.ok) (hQ : ∀ H', Ext H H' → Q (vb (rmatches x r)) H') : E.call (E.fid i.mean_Matches) [.agg cs.toArray, r.v] H Q := by
  apply hE.mean_Matches
  obtain ⟨hb, v, rfl, hv⟩ := hx
  have hl := hv.lenSlc
  simp only [List.length_map] at hl
  have hc : r.cells[0]? = some (u32 r.number) := rfl
  simp [F.mean_Matches, AH.get_new, hc]
  generalize hH2 : (H.new _).new _ = H2
  have x2 : Ext H H2 := by subst hH2; exact ((Ext.refl H).new _).new _
  have k2 : H2.get (H.next + 1) = .cells r.cells none := by subst hH2; simp [AH.get_new]
  have k1 : H2.get H.next = .cells [u32 x.number, u32 x.action, v] none := by subst hH2; simp [AH.get_new]
  clear hH2
  by_cases hn : x.number = r.number
  · simp [hn, k1, hl]
    refine LoopL.count x.conds.length (fun i s H' => s = [ptr (H.next + 1) 0, v, vi x.conds.length, vi i] ∧ Ext H2 H' ∧ (∀ H'', Ext H H'' → Q (vb ((x.conds.drop i).all fun c => holds c r.args)) H'')) ?_ ⟨rfl, Ext.refl _, by simpa [rmatches, hn] using hQ⟩
    rintro i _ H' X hi hX ⟨rfl, h1, hQ'⟩
    simp only [F.mean_Matches_l1, nth_0, nth_1, nth_2, nth_3, i64_lss, opt_some]
    refine ifB_split (fun h => ?_) (fun h => ?_)
    · have hil : i < x.conds.length := by omega
      rw [List.drop_eq_getElem_cons hil] at hQ'
      simp only [List.all_cons] at hQ'
      obtain ⟨b, o, f1, f2⟩ := Rows.ix (hv.mono (x2.trans h1)) (i := i) (by simpa using hil)
      simp only [List.getElem_map] at f2
      simp only [f1, opt_some, loadN_ptr, f2, Option.map_some]
      generalize x.conds[i] = c at *
      have k2' := h1.cells k2
      have e9 := row_all r.cells none 9 (RecD.cells_len hr)
      have hlt : H.next + 1 < H'.next := AH.lt_cells k2'
      simp [CondD.cells, splice, AH.get_new, Nat.ne_of_lt hlt, k2', e9]
      refine S.mean_Holds hE c r hr fun H4 h4 => ?_
      have x04 : Ext H' H4 := ((Ext.refl H').new _).trans h4
      by_cases hh : holds c r.args = true
      · simp [hh]
        rw [i64_inc (by omega)]
        exact hX hil _ _ ⟨rfl, h1.trans x04, by simpa [hh] using hQ'⟩
      · simp [hh]
        simpa [hh] using hQ' _ (x2.trans (h1.trans x04))
    · have : i = x.conds.length := by omega
      subst this
      simpa using hQ' _ (x2.trans h1)
  · simp [hn]
    simpa [rmatches, hn] using hQ _ x2
theorem RecD.seen_len {r : RecD} (hr : r.ok) : r.seen.length = 8 := by
  obtain ⟨n, a, t, x0, x1, x2, x3, x4, x5, rfl⟩ := RecD.ok_cases hr
  rfl
theorem S.pinfoldref09_Matches (hE : Fold E) (x : RuleD) (cs : List Value) (hx : RRuleAt H x cs) (r : RecD) (hr : r.ok) (hQ : ∀ H', Ext H H' → Q (vb (rmatches x r)) H') : E.call (E.fid i.pinfoldref09_Matches) [.agg cs.toArray, .agg r.seen.toArray] H Q := by
  apply hE.pinfoldref09_Matches
  obtain ⟨hb, v, rfl, hv⟩ := hx
  have hl := hv.lenSlc
  simp only [List.length_map] at hl
  have hc : r.seen[0]? = some (u32 r.number) := rfl
  simp [F.pinfoldref09_Matches, AH.get_new, hc]
  generalize hH2 : (H.new _).new _ = H2
  have x2 : Ext H H2 := by subst hH2; exact ((Ext.refl H).new _).new _
  have k2 : H2.get (H.next + 1) = .cells r.seen none := by subst hH2; simp [AH.get_new]
  have k1 : H2.get H.next = .cells [u32 x.number, u32 x.action, v] none := by subst hH2; simp [AH.get_new]
  clear hH2
  by_cases hn : x.number = r.number
  · simp [hn]
    refine LoopL.count x.conds.length (fun i s H' => s = [ptr H.next 0, ptr (H.next + 1) 0, vi i] ∧ Ext H2 H' ∧ (∀ H'', Ext H H'' → Q (vb ((x.conds.drop i).all fun c => holds c r.args)) H'')) ?_ ⟨rfl, Ext.refl _, by simpa [rmatches, hn] using hQ⟩
    rintro i _ H' X hi hX ⟨rfl, h1, hQ'⟩
    have k1' := h1.cells k1
    have k2' := h1.cells k2
    simp only [F.pinfoldref09_Matches_l1, nth_0, nth_1, nth_2, addOff_ptr, opt_some, load1_ptr, k1', cell_cells]
    simp [hl]
    refine ifB_split (fun h => ?_) (fun h => ?_)
    · have hil : i < x.conds.length := by omega
      rw [List.drop_eq_getElem_cons hil] at hQ'
      simp only [List.all_cons] at hQ'
      obtain ⟨b, o, f1, f2⟩ := Rows.ix (hv.mono (x2.trans h1)) (i := i) (by simpa using hil)
      simp only [List.getElem_map] at f2
      have e8 := row_all r.seen none 8 (RecD.seen_len hr)
      try simp only [k1', cell_cells]
      simp [f1, f2, k2', e8]
      generalize x.conds[i] = c at *
      simp only [CondD.rcells]
      refine S.pinfoldref09_Holds hE c r hr fun H4 h4 => ?_
      by_cases hh : holds c r.args = true
      · simp [hh]
        rw [i64_inc (by omega)]
        exact hX hil _ _ ⟨rfl, h1.trans h4, by simpa [hh] using hQ'⟩
      · simp [hh]
        simpa [hh] using hQ' _ (x2.trans (h1.trans h4))
    · have : i = x.conds.length := by omega
      subst this
      simpa using hQ' _ (x2.trans h1)
  · simp [hn]
    simpa [rmatches, hn] using hQ _ x2
end Go.AM
end
section
namespace Go.AM
variable {E : Sy} {H : AH} {Q : Value → AH → Prop}
/-- A slice of what is told by a relation. -/
def SliceOf {α : Type} (R : AH → α → List Value → Prop) (H : AH) (sz : Nat) (v : Value) (l : List α) : Prop :=
  ∃ rows, Rows H sz v rows ∧ rows.length = l.length ∧ ∀ i (h1 : i < l.length) (h2 : i < rows.length), R H l[i] rows[i]
theorem Rows.plain {H : AH} {sz : Nat} {v : Value} {rows : List (List Value)} (h : Rows H sz v rows) : plain1 v = true := by
  rcases h.at_ with ⟨_, c, rfl⟩ | ⟨b, o, c, rfl, _⟩ <;> rfl
section
variable {α : Type} {R : AH → α → List Value → Prop} {sz : Nat} {v : Value} {l : List α}
theorem SliceOf.mono (h : SliceOf R H sz v l) (hm : ∀ (H H' : AH) (a : α) (c : List Value), R H a c → Ext H H' → R H' a c) {H' : AH} (e : Ext H H') : SliceOf R H' sz v l := by
  obtain ⟨rows, h1, h2, h3⟩ := h
  exact ⟨rows, h1.mono e, h2, fun i a b => hm _ _ _ _ (h3 i a b) e⟩
theorem SliceOf.lenSlc (h : SliceOf R H sz v l) : AM.lenSlc v = some (vi l.length) := by
  obtain ⟨rows, h1, h2, h3⟩ := h
  rw [h1.lenSlc, h2]
theorem SliceOf.ix (h : SliceOf R H sz v l) {i : Nat} (hi : i < l.length) : ∃ b o cs, ixSlc sz v (vi i) = some (ptr b o) ∧ (H.get b).row o sz = some cs ∧ R H l[i] cs := by
  obtain ⟨rows, h1, h2, h3⟩ := h
  obtain ⟨b, o, f1, f2⟩ := h1.ix (i := i) (by omega)
  exact ⟨b, o, _, f1, f2, h3 i hi (by omega)⟩
end
structure PolD where
  default : BitVec 32
  rules : List RuleD
def sayStep (r : RecD) (s : BitVec 32 × Bool) (x : RuleD) : BitVec 32 × Bool :=
  if rmatches x r then (if s.2 then (astronger s.1 x.action, true) else (x.action, true)) else s
def says (p : PolD) (r : RecD) : BitVec 32 := if r.arch = 3221225534#32 then (p.rules.foldl (sayStep r) (p.default, false)).1 else 2147483648#32
def PolAt (H : AH) (p : PolD) (cs : List Value) : Prop := p.rules.length < 2 ^ 63 ∧ ∃ a v b c d, cs = [a, u32 p.default, v, b, c, d] ∧ SliceOf RuleAt H 3 v p.rules
theorem S.mean_Says (hE : Fold E) (p : PolD) (cs : List Value) (hp : PolAt H p cs) (r : RecD) (hr : r.ok) (hQ : ∀ H', Ext H H' → Q (u32 (says p r)) H') : E.call (E.fid i.mean_Says) [.agg cs.toArray, r.v] H Q := by
  apply hE.mean_Says
  obtain ⟨hb, a, v, b', c', d', rfl, hv⟩ := hp
  have hl := hv.lenSlc
  have hc : r.cells[1]? = some (u32 r.arch) := rfl
  simp [F.mean_Says, AH.get_new, hc]
  generalize hH2 : (H.new _).new _ = H2
  have x2 : Ext H H2 := by subst hH2; exact ((Ext.refl H).new _).new _
  have k2 : H2.get (H.next + 1) = .cells r.cells none := by subst hH2; simp [AH.get_new]
  have k1 : H2.get H.next = .cells [a, u32 p.default, v, b', c', d'] none := by subst hH2; simp [AH.get_new]
  clear hH2
  by_cases ha : r.arch = 3221225534#32
  · simp [ha, k1, hl]
    refine LoopL.count p.rules.length (fun i s H' => ∃ o m, s = [ptr (H.next + 1) 0, u32 o, vb m, v, vi p.rules.length, vi i] ∧ Ext H2 H' ∧ (p.rules.take i).foldl (sayStep r) (p.default, false) = (o, m)) ?_ ⟨_, _, rfl, Ext.refl _, rfl⟩
    rintro i _ H' X hi hX ⟨o, m, rfl, h1, hf⟩
    simp only [F.mean_Says_l1, nth_0, nth_1, nth_2, nth_3, nth_4, nth_5, i64_lss, opt_some]
    refine ifB_split (fun h => ?_) (fun h => ?_)
    · have hil : i < p.rules.length := by omega
      obtain ⟨b, ofs, ccs, f1, f2, f3⟩ := (hv.mono (fun _ _ _ _ h e => RuleAt.mono h e) (x2.trans h1)).ix (i := i) hil
      simp only [f1, opt_some, loadN_ptr, f2, Option.map_some]
      have hstep : (p.rules.take (i + 1)).foldl (sayStep r) (p.default, false) = sayStep r (o, m) p.rules[i] := by
        rw [List.take_succ_eq_append_getElem hil, List.foldl_append, hf]; rfl
      generalize p.rules[i] = x at *
      have k2' := h1.cells k2
      have e9 := row_all r.cells none 9 (RecD.cells_len hr)
      have hlt : H.next + 1 < H'.next := AH.lt_cells k2'
      obtain ⟨hxl, w, rfl, hw⟩ := f3
      simp [splice, AH.get_new, Nat.ne_of_lt hlt, k2', e9, hw.plain]
      generalize hH3 : H'.new _ = H3
      have x3 : Ext H' H3 := by subst hH3; exact (Ext.refl H').new _
      have k3 : H3.get H'.next = .cells [u32 x.number, u32 x.action, w] none := by subst hH3; simp
      clear hH3
      refine S.mean_Matches hE x _ ⟨hxl, w, rfl, hw.mono x3⟩ r hr fun H4 h4 => ?_
      have k4 := h4.cells k3
      by_cases hh : rmatches x r = true
      · cases m with
        | true =>
          simp [hh, k4]
          refine S.record_Stronger hE o x.action ?_
          rw [i64_inc (by omega), opt_some]
          exact hX hil _ _ ⟨_, _, rfl, h1.trans (x3.trans h4), by rw [hstep]; simp [sayStep, hh]⟩
        | false =>
          simp [hh, k4]
          rw [i64_inc (by omega), opt_some]
          exact hX hil _ _ ⟨_, _, rfl, h1.trans (x3.trans h4), by rw [hstep]; simp [sayStep, hh]⟩
      · simp [hh]
        rw [i64_inc (by omega), opt_some]
        exact hX hil _ _ ⟨_, _, rfl, h1.trans (x3.trans h4), by rw [hstep]; simp [sayStep, hh]⟩
    · have : i = p.rules.length := by omega
      subst this
      rw [List.take_length] at hf
      simpa [says, ha, hf] using hQ _ (x2.trans h1)
  · simp [ha]
    simpa [says, ha] using hQ _ x2
end Go.AM
end
section
namespace Go.AM
variable {E : Sy} {H : AH} {Q : Value → AH → Prop}

theorem astronger_assoc (a b c : BitVec 32) : astronger (astronger a b) c = astronger a (astronger b c) := by
  unfold astronger
  by_cases h1 : astrength a < astrength b
  · by_cases h2 : astrength b < astrength c
    · have : astrength a < astrength c := by omega
      simp [h1, h2, this]
    · simp [h1, h2]
  · by_cases h2 : astrength b < astrength c
    · simp [h1, h2]
    · have : ¬ astrength a < astrength c := by omega
      simp [h1, h2, this]
def afold : List (BitVec 32) → BitVec 32
  | [] => 0
  | x :: l => l.foldl astronger x
theorem foldl_astronger (a b : BitVec 32) : ∀ l : List (BitVec 32), l.foldl astronger (astronger a b) = astronger a (l.foldl astronger b)
  | [] => rfl
  | c :: l => by simp only [List.foldl_cons]; rw [astronger_assoc, foldl_astronger]
theorem afold_append (x : BitVec 32) (l m : List (BitVec 32)) (hm : m ≠ []) : afold (x :: l ++ m) = astronger (afold (x :: l)) (afold m) := by
  cases m with
  | nil => exact absurd rfl hm
  | cons y m => simp only [afold, List.cons_append, List.foldl_append, List.foldl_cons]; rw [foldl_astronger]
/-- All are at most as strong as the fold; those ahead of where the fold first stands are weaker. -/
theorem foldl_max (x : BitVec 32) : ∀ (l : List (BitVec 32)) (y : BitVec 32), y = x ∨ y ∈ l → astrength y ≤ astrength (l.foldl astronger x)
  | [], y, h => by
    rcases h with rfl | h
    · exact Int.le_refl _
    · simp at h
  | z :: l, y, h => by
    simp only [List.foldl_cons]
    have hx := foldl_max (astronger x z) l (astronger x z) (.inl rfl)
    rcases h with rfl | h
    · have : astrength y ≤ astrength (astronger y z) := by unfold astronger; split <;> omega
      omega
    · rcases List.mem_cons.1 h with rfl | h
      · have : astrength y ≤ astrength (astronger x y) := by unfold astronger; split <;> omega
        omega
      · exact foldl_max _ l y (.inr h)
theorem afold_max {l : List (BitVec 32)} {y : BitVec 32} (h : y ∈ l) : astrength y ≤ astrength (afold l) := by
  cases l with
  | nil => simp at h
  | cons x l => exact foldl_max x l y (List.mem_cons.1 h)
theorem foldl_first (x : BitVec 32) : ∀ (l : List (BitVec 32)), l.foldl astronger x = x ∨ ∃ k, ∃ h : k < l.length, l[k] = l.foldl astronger x ∧ astrength x < astrength l[k] ∧ ∀ j (hj : j < k), astrength (l[j]'(by omega)) < astrength l[k]
  | [] => .inl rfl
  | z :: l => by
    simp only [List.foldl_cons]
    by_cases hz : astrength x < astrength z
    · have e : astronger x z = z := by simp [astronger, hz]
      rw [e]
      rcases foldl_first z l with h | ⟨k, hk, h1, h2, h3⟩
      · exact .inr ⟨0, by simp, by simp [h], by simpa using hz, fun j hj => by omega⟩
      · refine .inr ⟨k + 1, by simp; omega, by simpa using h1, by simp; omega, fun j hj => ?_⟩
        cases j with
        | zero => simpa using h2
        | succ j => simpa using h3 j (by omega)
    · have e : astronger x z = x := by simp [astronger, hz]
      rw [e]
      rcases foldl_first x l with h | ⟨k, hk, h1, h2, h3⟩
      · exact .inl h
      · refine .inr ⟨k + 1, by simp; omega, by simpa using h1, by simpa using h2, fun j hj => ?_⟩
        cases j with
        | zero => simp; omega
        | succ j => simpa using h3 j (by omega)
/-- What stands ahead of the first that is the fold is weaker. -/
theorem afold_first {l : List (BitVec 32)} {i : Nat} (hi : i < l.length) (hn : ∀ j (hj : j < i), l[j]'(by omega) ≠ afold l) (hni : l[i] ≠ afold l) : astrength l[i] < astrength (afold l) := by
  cases l with
  | nil => simp at hi
  | cons x l =>
    simp only [afold] at *
    rcases foldl_first x l with h | ⟨k, hk, h1, h2, h3⟩
    · exfalso
      cases i with
      | zero => exact hni (by simpa using h.symm)
      | succ i => exact hn 0 (by omega) (by simpa using h.symm)
    · rw [← h1]
      cases i with
      | zero => simpa using h2
      | succ i =>
        have hik : i < k := by
          apply Classical.byContradiction
          intro hge
          by_cases e : i = k
          · subst e; exact hni (by simpa using h1)
          · exact hn (k + 1) (by omega) (by simpa using h1)
        simpa using h3 i hik
theorem kind_strength {a b : BitVec 32} (h : akind a = akind b) : astrength a = astrength b := by unfold astrength; rw [h]

theorem S.RecordOrder_fold (hE : Fold E) (v : Value) (l : List (BitVec 32)) (hl : l ≠ []) (hb : l.length < 2 ^ 62) (hV : Vals H v (l.map u32)) (hQ : Q (u32 (afold l)) H) : E.call (E.fid i.pinfoldlaw04_RecordOrder_1) [v] H Q := by
  apply hE.pinfoldlaw04_RecordOrder_1
  have hpos := List.length_pos_iff.2 hl
  obtain ⟨b, o, e1, e2⟩ := Vals.elem hV (i := 0) (by simpa using hpos)
  obtain ⟨v', e3, hV'⟩ := Vals.slice hV (lo := some (vi 1)) (hi := none) (i := 1) (j := l.length) (.inl rfl) (.inr ⟨rfl, by simp⟩) (by omega) (by simp)
  have hV' : Vals H v' ((l.drop 1).map u32) := by
    have e : ((l.map u32).take l.length).drop 1 = (l.drop 1).map u32 := by rw [List.take_of_length_le (by simp)]; simp
    rwa [e] at hV'
  have e4 := hV'.lenSlc
  obtain ⟨x, l', rfl⟩ : ∃ x l', l = x :: l' := by cases l with | nil => exact absurd rfl hl | cons x l' => exact ⟨x, l', rfl⟩
  simp at e1 e2 hV' e4
  simp [F.pinfoldlaw04_RecordOrder_1, e1, e2, e3, e4]
  refine LoopL.count l'.length (fun i l H' => H' = H ∧ l = [u32 ((l'.take i).foldl astronger x), v', vi l'.length, vi i]) ?_ ⟨rfl, by simp⟩
  rintro i _ _ X hi hX ⟨rfl, rfl⟩
  simp [F.pinfoldlaw04_RecordOrder_1_l1]
  refine ifB_split (fun h => ?_) (fun h => ?_)
  · have hil : i < l'.length := by omega
    obtain ⟨b, o, f1, f2⟩ := Vals.elem hV' (i := i) (by simpa using hil)
    simp at f2
    simp [f1, f2]
    apply S.record_Stronger hE
    rw [i64_inc (by simp at hb; omega)]
    refine hX hil _ _ ⟨rfl, ?_⟩
    rw [List.take_succ_eq_append_getElem hil, List.foldl_append]
    simp
  · have : i = l'.length := by omega
    subst this
    simpa [afold] using hQ

theorem S.pinfoldlaw04_Awake (hE : Fold E) (hQ : Q (vb true) H) : E.call (E.fid i.pinfoldlaw04_Awake) [] H Q := by
  apply hE.pinfoldlaw04_Awake
  unfold F.pinfoldlaw04_Awake
  refine S.record_Fail hE 13 ?_
  simp
  apply S.record_Stronger hE
  have : astronger 2147221504#32 (afail 13) = 327693#32 := by decide
  simp [this]
  exact hQ

theorem S.RecordOrder_j1 (hE : Fold E) (v : Value) (l : List (BitVec 32)) (hl : l ≠ []) (hb : l.length ≤ 40) (cut : BitVec 8) (hV : Vals H v (l.map u32)) (hQ : ∀ H', Q (vb true) H') :
    F.pinfoldlaw04_RecordOrder_j1 E Q v (u8 cut) (.func (.func (E.fid i.pinfoldlaw04_RecordOrder_1)) #[] #[]) (u32 (afold l)) H := by
  have hlen := hV.lenSlc
  have hpos := List.length_pos_iff.2 hl
  simp [F.pinfoldlaw04_RecordOrder_j1, hlen]
  rw [binInt_rem _ _ _ (by omega), ← Int.ofNat_tmod]
  simp
  refine ifB_split (fun h => hQ _) (fun h => ?_)
  have hk : cut.toNat % l.length < l.length := Nat.mod_lt _ hpos
  generalize hk' : cut.toNat % l.length = k at *
  have ek : ((cut.toNat : Int) % (l.length : Int)) = (k : Int) := by rw [← hk']; simp
  simp only [ek] at h ⊢
  have hk0 : k ≠ 0 := by omega
  obtain ⟨v1, e1, hV1⟩ := Vals.slice hV (lo := none) (hi := some (vi k)) (i := 0) (j := k) (.inr ⟨rfl, rfl⟩) (.inl rfl) (by omega) (by simp; omega)
  obtain ⟨v2, e2, hV2⟩ := Vals.slice hV (lo := some (vi k)) (hi := none) (i := k) (j := l.length) (.inl rfl) (.inr ⟨rfl, by simp⟩) (by omega) (by simp)
  have q1 : ((l.map u32).take k).drop 0 = (l.take k).map u32 := by simp
  have q2 : ((l.map u32).take l.length).drop k = (l.drop k).map u32 := by rw [List.take_of_length_le (by simp)]; simp
  rw [q1] at hV1
  rw [q2] at hV2
  simp [e1, e2]
  have n1 : l.take k ≠ [] := by intro e; have := congrArg List.length e; rw [List.length_take] at this; simp only [List.length_nil] at this; omega
  have n2 : l.drop k ≠ [] := by intro e; have := congrArg List.length e; rw [List.length_drop] at this; simp only [List.length_nil] at this; omega
  refine S.RecordOrder_fold hE v1 (l.take k) n1 (by simp; omega) hV1 ?_
  simp [e2]
  refine S.RecordOrder_fold hE v2 (l.drop k) n2 (by simp; omega) hV2 ?_
  apply S.record_Stronger hE
  have : astronger (afold (l.take k)) (afold (l.drop k)) = afold l := by
    have e := List.take_append_drop k l
    cases ht : l.take k with
    | nil => exact absurd ht n1
    | cons x t =>
      rw [← afold_append x t _ n2, ← ht, e]
  simp [this]
  exact hQ _
theorem S.RecordOrder_ (hE : Fold E) (v : Value) (l : List (BitVec 32)) (cut : BitVec 8) (hV : Vals H v (l.map u32)) (hQ : ∀ H', Q (vb true) H') :
    E.call (E.fid i.pinfoldlaw04_RecordOrder) [v, u8 cut] H Q := by
  apply hE.pinfoldlaw04_RecordOrder
  unfold F.pinfoldlaw04_RecordOrder
  apply S.pinfoldlaw04_Awake hE
  have hlen := hV.lenSlc
  simp [hlen]
  by_cases h1 : 40 < l.length
  · have : (40 : Int) < (l.length : Int) := by omega
    simp [this]
    exact hQ _
  have h1' : ¬ (40 : Int) < (l.length : Int) := by omega
  simp [h1', hlen]
  refine ifB_split (fun h => hQ _) (fun h => ?_)
  have hl : l ≠ [] := by intro e; subst e; simp at h
  refine S.RecordOrder_fold hE v l hl (by omega) hV ?_
  refine LoopL.count l.length (fun i s H' => H' = H ∧ s = [v, u8 cut, .func (.func (E.fid AM.i.pinfoldlaw04_RecordOrder_1)) #[] #[], u32 (afold l), v, vi l.length, vi i] ∧ ∀ j (hj : j < i) (hjl : j < l.length), l[j] ≠ afold l) ?_ ⟨rfl, rfl, fun j hj => by omega⟩
  rintro i _ _ X hi hX ⟨rfl, rfl, hn⟩
  simp [F.pinfoldlaw04_RecordOrder_l1]
  refine ifB_split (fun h => ?_) (fun h => S.RecordOrder_j1 hE v l hl (by omega) cut hV hQ)
  have hil : i < l.length := by omega
  obtain ⟨b, o, f1, f2⟩ := Vals.elem hV (i := i) (by simpa using hil)
  simp at f2
  simp [f1, f2]
  apply S.record_Stronger hE
  have hm : astronger (afold l) l[i] = afold l := by
    have := afold_max (l := l) (List.getElem_mem hil)
    unfold astronger
    rw [if_neg (by omega)]
  simp [hm]
  refine ifB_split (fun h => S.RecordOrder_j1 hE v l hl (by omega) cut hV hQ) (fun hne => ?_)
  simp [f1, f2]
  apply S.record_Action_Kind hE
  apply S.record_Action_Kind hE
  have hst := afold_first hil (fun j hj => hn j hj (by omega)) hne
  have hkd : akind l[i] ≠ akind (afold l) := fun e => by have := kind_strength e; omega
  simp [hkd]
  rw [i64_inc (by omega)]
  refine hX hil _ _ ⟨rfl, rfl, fun j hj hjl => ?_⟩
  by_cases e : j = i
  · subst e; exact hne
  · exact hn j (by omega) hjl
theorem S.law_RecordOrder (hE : Fold E) (args : List Value) (ha : ArgsSV H [.slice 1 (.int .u32), .int .u8] args) (hQ : ∀ H', Q (vb true) H') : E.call (E.fid i.pinfoldlaw04_RecordOrder) args H Q := by
  obtain ⟨v1, _, rfl, h1, ha⟩ := ha.cons_inv
  obtain ⟨v2, _, rfl, h2, ha⟩ := ha.cons_inv
  obtain rfl := ha.nil_inv
  obtain ⟨x2, rfl⟩ := h2.u8
  obtain ⟨l, hV⟩ := h1.u32s
  exact S.RecordOrder_ hE v1 l x2 hV hQ
end Go.AM
end
section
namespace Go.AM
variable {E : Sy} {H : AH} {Q : Value → AH → Prop}
theorem kind_nat (a : BitVec 32) : (a &&& 4294901760#32).toNat = a.toNat / 65536 * 65536 := by
  rw [BitVec.toNat_and]
  exact land_high a.toNat 16 32 a.isLt
theorem kind_iff (a : BitVec 32) (k : Nat) (hk : k < 65536) : (a &&& 4294901760#32 = BitVec.ofNat 32 (k * 65536)) ↔ a / 65536#32 = BitVec.ofNat 32 k := by
  rw [← BitVec.toNat_inj, ← BitVec.toNat_inj, kind_nat]
  simp only [BitVec.toNat_udiv, BitVec.toNat_ofNat]
  rw [Nat.mod_eq_of_lt (by omega : k * 65536 < 2 ^ 32), Nat.mod_eq_of_lt (by omega : k < 2 ^ 32), show (65536 % 2 ^ 32 : Nat) = 65536 from rfl]
  omega
theorem akind_r (a : BitVec 32) : akind a = if a / 65536#32 = 5#32 then 327680#32 else if a / 65536#32 = 32764#32 then 2147221504#32 else if a / 65536#32 = 32767#32 then 2147418112#32 else 2147483648#32 := by
  unfold akind
  have h1 := kind_iff a 5 (by omega)
  have h2 := kind_iff a 32764 (by omega)
  have h3 := kind_iff a 32767 (by omega)
  simp only [Nat.reduceMul] at h1 h2 h3
  simp only [h1, h2, h3]
theorem rstrength_eq (a : BitVec 32) : rstrength a = astrength a := by
  unfold astrength rstrength
  rw [akind_r]
  split
  · simp
  split
  · simp
  split <;> simp
def akinds : List (BitVec 32) := [2147418112#32, 2147221504#32, 327680#32, 2147483648#32]
theorem rstrength_cases (a : BitVec 32) : (∃ t : Nat, ∃ h : t < 4, rstrength a = t ∧ akind a = akinds[t]'h) ∧ (rstrength a = 2 ↔ akind a = 327680#32) := by
  unfold rstrength
  rw [akind_r]
  split
  · exact ⟨⟨2, by omega, rfl, rfl⟩, by simp⟩
  split
  · exact ⟨⟨1, by omega, rfl, rfl⟩, by simp⟩
  split
  · exact ⟨⟨0, by omega, rfl, rfl⟩, by simp⟩
  · exact ⟨⟨3, by omega, rfl, rfl⟩, by simp⟩

theorem S.RecordActions_l2 (hE : Fold E) (X0 : List Value → AH → Prop) (e : Int) (v9 v10 t28 t29 : Value) (l : List (BitVec 32)) (x : BitVec 32) (i : Nat) (hi : i < 7) (hV : Vals H v9 (l.map u32)) (hl : l.length = 7)
    (hX0 : X0 [vi e, v9, v10, t28, t29, vi ((i + 1 : Nat) : Int)] H) :
    LoopL (fun l H X1 => F.pinfoldlaw04_RecordActions_l2 E Q X0 (nth l 0) (nth l 1) (nth l 2) (nth l 3) (nth l 4) (nth l 5) (nth l 6) (nth l 7) (nth l 8) (nth l 9) H X1) [vi e, v9, v10, u32 x, t28, t29, vi i, v9, vi l.length, vi 0] H := by
  refine LoopL.count 7 (fun j s H' => H' = H ∧ s = [vi e, v9, v10, u32 x, t28, t29, vi i, v9, vi l.length, vi j]) ?_ ⟨rfl, rfl⟩
  rintro j _ _ X hj hX ⟨rfl, rfl⟩
  simp [F.pinfoldlaw04_RecordActions_l2, hl]
  refine ifB_split (fun h => ?_) (fun h => ?_)
  · have hj7 : j < 7 := by omega
    obtain ⟨b, o, f1, f2⟩ := Vals.elem hV (i := j) (by simp; omega)
    simp at f2
    simp [f1, f2]
    apply S.record_Stronger hE
    apply S.pinfoldref03_Stronger hE
    have : (if rstrength x < rstrength (l[j]'(by omega)) then (l[j]'(by omega)) else x) = astronger x (l[j]'(by omega)) := by
      rw [rstrength_eq, rstrength_eq]; rfl
    simp [this]
    rw [i64_inc (by omega)]
    exact hX hj7 _ _ ⟨rfl, by rw [hl]; rfl⟩
  · rw [i64_inc (by omega)]
    exact hX0
theorem S.RecordActions_j1 (hE : Fold E) (X0 : List Value → AH → Prop) (e : Int) (v9 v10 t28 t29 : Value) (l : List (BitVec 32)) (x : BitVec 32) (i : Nat) (hi : i < 7) (hV : Vals H v9 (l.map u32)) (hl : l.length = 7) (hK : Vals H v10 (akinds.map u32))
    (w : Int) (hw : w = anumber x) (hX0 : X0 [vi e, v9, v10, t28, t29, vi ((i + 1 : Nat) : Int)] H) :
    F.pinfoldlaw04_RecordActions_j1 E Q X0 (vi e) v9 v10 (u32 x) (vi (rstrength x)) (vi w) t28 t29 (vi i) H := by
  obtain ⟨⟨t, ht, e1, e2⟩, _⟩ := rstrength_cases x
  rw [e1]
  obtain ⟨b, o, f1, f2⟩ := Vals.elem hK (i := t) (by simpa [akinds] using ht)
  rw [List.getElem_map] at f2
  have f2 : (H.get b).cell o = some (u32 (akind x)) := by rw [e2]; exact f2
  simp [F.pinfoldlaw04_RecordActions_j1, f1, f2]
  apply S.record_Action_Kind hE
  simp [f1, f2]
  apply S.record_Action_Number hE
  have hlen := hV.lenSlc
  simp [hw, hlen]
  exact S.RecordActions_l2 hE X0 e v9 v10 t28 t29 l x i hi hV hl hX0
theorem S.RecordActions_ (hE : Fold E) (a b : BitVec 32) (e : Int) (k : BitVec 8) (hQ : ∀ H', Q (vb true) H') :
    E.call (E.fid i.pinfoldlaw04_RecordActions) [u32 a, u32 b, vi e, u8 k] H Q := by
  apply hE.pinfoldlaw04_RecordActions
  unfold F.pinfoldlaw04_RecordActions
  apply S.pinfoldlaw04_Awake hE
  simp
  apply S.record_Fail hE
  simp [splice]
  generalize hH1 : (H.new _) = H1
  generalize hH2 : (H1.new _) = H2
  have hV : Vals H2 (slc H.next 0 7 7) ([a, b, 2147483648#32, 2147221504#32, 2147418112#32, afail e, 327680#32 ||| BitVec.setWidth 32 k].map u32) := Vals.made (f := none) (by subst hH2; subst hH1; simp [AH.get_new]) (.inl rfl) rfl
  have hn : H1.next = H.next + 1 := by subst hH1; rfl
  have hK : Vals H2 (slc (H.next + 1) 0 4 4) (akinds.map u32) := Vals.made (f := none) (by subst hH2; rw [← hn]; simp [akinds]) (.inl rfl) rfl
  have hl : [a, b, 2147483648#32, 2147221504#32, 2147418112#32, afail e, 327680#32 ||| BitVec.setWidth 32 k].length = 7 := rfl
  generalize [a, b, 2147483648#32, 2147221504#32, 2147418112#32, afail e, 327680#32 ||| BitVec.setWidth 32 k] = l at *
  generalize slc H.next 0 7 7 = v9 at *
  generalize slc (H.next + 1) 0 4 4 = v10 at *
  refine LoopL.count 7 (fun i s H' => H' = H2 ∧ s = [vi e, v9, v10, v9, vi 7, vi i]) ?_ ⟨rfl, rfl⟩
  clear hH1 hH2 hn
  rintro i _ _ X hi hX ⟨rfl, rfl⟩
  simp [F.pinfoldlaw04_RecordActions_l1]
  refine ifB_split (fun h => ?_) (fun h => ?_)
  · have hi7 : i < 7 := by omega
    obtain ⟨b, o, f1, f2⟩ := Vals.elem hV (i := i) (by simp; omega)
    rw [List.getElem_map] at f2
    generalize l[i]'(by omega) = x at *
    simp [f1, f2]
    apply S.pinfoldref03_Strength hE
    have h2 := (rstrength_cases x).2
    have hX' := hX hi7 [vi e, v9, v10, v9, vi 7, vi ((i + 1 : Nat) : Int)] _ ⟨rfl, rfl⟩
    simp
    refine ifB_split (fun h => ?_) (fun h => ?_)
    · exact S.RecordActions_j1 hE X e v9 v10 v9 (vi 7) l x i hi7 hV hl hK _ (by simp [anumber, h2.1 h]) hX'
    · exact S.RecordActions_j1 hE X e v9 v10 v9 (vi 7) l x i hi7 hV hl hK 0 (by
        have : akind x ≠ 327680#32 := fun e => h (h2.2 e)
        simp [anumber, this]) hX'
  · apply S.record_Fail hE
    simp [afail]
    exact hQ _
theorem S.law_RecordActions (hE : Fold E) (args : List Value) (ha : ArgsSV H [.int .u32, .int .u32, .int .i64, .int .u8] args) (hQ : ∀ H', Q (vb true) H') : E.call (E.fid i.pinfoldlaw04_RecordActions) args H Q := by
  obtain ⟨v1, _, rfl, h1, ha⟩ := ha.cons_inv
  obtain ⟨v2, _, rfl, h2, ha⟩ := ha.cons_inv
  obtain ⟨v3, _, rfl, h3, ha⟩ := ha.cons_inv
  obtain ⟨v4, _, rfl, h4, ha⟩ := ha.cons_inv
  obtain rfl := ha.nil_inv
  obtain ⟨x1, rfl⟩ := h1.u32
  obtain ⟨x2, rfl⟩ := h2.u32
  obtain ⟨x3, rfl, _⟩ := h3.i64
  obtain ⟨x4, rfl⟩ := h4.u8
  exact S.RecordActions_ hE x1 x2 x3 x4 hQ
end Go.AM
end
section
namespace Go.AM
variable {E : Sy} {H : AH} {Q : Value → AH → Prop}
/-! ### the strongest of those that speak, told in two ways -/
def speaking (p : PolD) (r : RecD) : List (BitVec 32) := (p.rules.filter fun x => rmatches x r).map RuleD.action
theorem sayStep_fold (r : RecD) : ∀ (l : List RuleD) (o : BitVec 32) (m : Bool), (l.foldl (sayStep r) (o, m)).1 = (if m then ((l.filter fun x => rmatches x r).map RuleD.action).foldl astronger o else
    match (l.filter fun x => rmatches x r).map RuleD.action with | [] => o | a :: t => t.foldl astronger a)
  | [], o, m => by cases m <;> rfl
  | x :: l, o, m => by
    simp only [List.foldl_cons]
    by_cases h : rmatches x r = true
    · cases m with
      | true => simp only [sayStep, h, if_true, sayStep_fold r l, List.filter_cons, List.map_cons, List.foldl_cons]
      | false => simp [sayStep, h, sayStep_fold r l, List.filter_cons]
    · simp only [sayStep, h, if_false, Bool.false_eq_true, sayStep_fold r l, List.filter_cons]
theorem says_speaking (p : PolD) (r : RecD) (ha : r.arch = 3221225534#32) : says p r = match speaking p r with | [] => p.default | a :: t => afold (a :: t) := by
  unfold says
  rw [if_pos ha, sayStep_fold]
  simp only [Bool.false_eq_true, if_false, speaking]
  split <;> rfl
theorem foldl_mem (x : BitVec 32) : ∀ l : List (BitVec 32), l.foldl astronger x = x ∨ l.foldl astronger x ∈ l
  | [] => .inl rfl
  | y :: l => by
    simp only [List.foldl_cons]
    rcases foldl_mem (astronger x y) l with h | h
    · rw [h]
      unfold astronger
      split
      · exact .inr (by simp)
      · exact .inl rfl
    · exact .inr (by simp [h])
/-- The first of a strength, where none is stronger, is what the fold gives. -/
theorem afold_is (l : List (BitVec 32)) (i : Nat) (hi : i < l.length) (h1 : ∀ j (hj : j < l.length), astrength l[j] ≤ astrength l[i]) (h2 : ∀ j (hj : j < i), astrength (l[j]'(by omega)) < astrength l[i]) : afold l = l[i] := by
  cases l with
  | nil => simp at hi
  | cons x l =>
    have hmax := afold_max (l := x :: l) (List.getElem_mem hi)
    have hmem : afold (x :: l) ∈ x :: l := by
      simp only [afold]
      rcases foldl_mem x l with h | h
      · rw [h]; simp
      · simp [h]
    obtain ⟨k, hk, he⟩ := List.getElem_of_mem hmem
    have hle := h1 k hk
    rw [he] at hle
    by_cases hki : k < i
    · have := h2 k hki
      rw [he] at this
      omega
    by_cases hkeq : k = i
    · subst hkeq; exact he.symm
    · -- the fold stands at i already: else what stands ahead of it is weaker
      apply Classical.byContradiction
      intro hne
      have hfirst : ∀ j (hj : j < i), (x :: l)[j]'(by omega) ≠ afold (x :: l) := by
        intro j hj e
        have := h2 j hj
        rw [e] at this
        omega
      have := afold_first hi hfirst (Ne.symm hne)
      omega
theorem astrength_range (a : BitVec 32) : 0 ≤ astrength a ∧ astrength a ≤ 3 := by
  unfold astrength
  split
  · omega
  split
  · omega
  split <;> omega
/-- None of this strength speaks, up to a place. -/
def NoneAt (p : PolD) (r : RecD) (s : Int) (n : Nat) : Prop := ∀ j (hj : j < p.rules.length), j < n → rmatches p.rules[j] r = true → astrength p.rules[j].action ≠ s
theorem says_found (p : PolD) (r : RecD) (ha : r.arch = 3221225534#32) (s : Int) (i : Nat) (hi : i < p.rules.length) (hm : rmatches p.rules[i] r = true) (hs : astrength p.rules[i].action = s)
    (h1 : ∀ t, s < t → t ≤ 3 → NoneAt p r t p.rules.length) (h2 : NoneAt p r s i) : says p r = p.rules[i].action := by
  rw [says_speaking p r ha]
  have hsp : p.rules = p.rules.take i ++ p.rules[i] :: p.rules.drop (i + 1) := by rw [List.getElem_cons_drop, List.take_append_drop]
  have e : speaking p r = ((p.rules.take i).filter fun x => rmatches x r).map RuleD.action ++ p.rules[i].action :: ((p.rules.drop (i + 1)).filter fun x => rmatches x r).map RuleD.action := by
    unfold speaking
    conv => lhs; rw [hsp]
    rw [List.filter_append, List.filter_cons, if_pos hm, List.map_append, List.map_cons]
  have hall : ∀ y ∈ speaking p r, astrength y ≤ s := by
    intro y hy
    simp only [speaking, List.mem_map, List.mem_filter] at hy
    obtain ⟨x, ⟨hx, hxm⟩, rfl⟩ := hy
    obtain ⟨j, hj, rfl⟩ := List.getElem_of_mem hx
    have := astrength_range p.rules[j].action
    apply Classical.byContradiction
    intro hgt
    exact h1 (astrength p.rules[j].action) (by omega) this.2 j hj hj hxm rfl
  have hpre : ∀ y ∈ ((p.rules.take i).filter fun x => rmatches x r).map RuleD.action, astrength y < s := by
    intro y hy
    have hle := hall y (by rw [e]; simp only [List.mem_append]; exact .inl hy)
    simp only [List.mem_map, List.mem_filter] at hy
    obtain ⟨x, ⟨hx, hxm⟩, rfl⟩ := hy
    obtain ⟨j, hj, rfl⟩ := List.getElem_of_mem hx
    simp only [List.length_take] at hj
    rw [List.getElem_take] at hxm hle ⊢
    have := h2 j (by omega) (by omega) hxm
    omega
  generalize ((p.rules.take i).filter fun x => rmatches x r).map RuleD.action = pre at *
  generalize ((p.rules.drop (i + 1)).filter fun x => rmatches x r).map RuleD.action = post at *
  have key : afold (speaking p r) = p.rules[i].action := by
    have hlt : pre.length < (speaking p r).length := by rw [e]; simp
    have hget : (speaking p r)[pre.length] = p.rules[i].action := by simp [e]
    have := afold_is (speaking p r) pre.length hlt (by
      intro j hj
      rw [hget, hs]
      exact hall _ (List.getElem_mem hj)) (by
      intro j hj
      rw [hget, hs]
      have : (speaking p r)[j]'(by omega) = pre[j] := by simp [e, List.getElem_append_left hj]
      rw [this]
      exact hpre _ (List.getElem_mem hj))
    rw [this, hget]
  cases h : speaking p r with
  | nil => rw [h] at e; simp at e
  | cons a t => rw [h] at key; exact key
theorem says_none (p : PolD) (r : RecD) (ha : r.arch = 3221225534#32) (h1 : ∀ t, 0 ≤ t → t ≤ 3 → NoneAt p r t p.rules.length) : says p r = p.default := by
  rw [says_speaking p r ha]
  have : speaking p r = [] := by
    unfold speaking
    rw [List.map_eq_nil_iff, List.filter_eq_nil_iff]
    intro x hx hxm
    obtain ⟨j, hj, rfl⟩ := List.getElem_of_mem hx
    have := astrength_range p.rules[j].action
    exact h1 _ this.1 this.2 j hj hj hxm rfl
  rw [this]
end Go.AM
end
section
namespace Go.AM
variable {E : Sy} {H : AH} {Q : Value → AH → Prop}
def RPolAt (H : AH) (p : PolD) (cs : List Value) : Prop := p.rules.length < 2 ^ 63 ∧ ∃ v, cs[1]? = some (u32 p.default) ∧ cs[2]? = some v ∧ SliceOf RRuleAt H 3 v p.rules
theorem S.ref09_Says_l2 (hE : Fold E) (p : PolD) (r : RecD) (hr : r.ok) (ha : r.arch = 3221225534#32) (X0 : List Value → AH → Prop) (H0 : AH) (b1 b2 : Nat) (v : Value) (cs : List Value) (hp : p.rules.length < 2 ^ 63)
    (h1 : H.get b1 = .cells cs none) (h2 : H.get b2 = .cells r.seen none) (hc : cs[2]? = some v) (hv : SliceOf RRuleAt H 3 v p.rules) (s : Int) (hs0 : 0 ≤ s) (hs3 : s ≤ 3) (hx : Ext H0 H)
    (hup : ∀ t, s < t → t ≤ 3 → NoneAt p r t p.rules.length) (hQ : ∀ H', Ext H0 H' → Q (u32 (says p r)) H') (hX0 : ∀ H', Ext H H' → NoneAt p r s p.rules.length → X0 [ptr b1 0, ptr b2 0, vi (s - 1)] H') :
    LoopL (fun l H X1 => F.pinfoldref09_Says_l2 E Q X0 (nth l 0) (nth l 1) (nth l 2) (nth l 3) H X1) [ptr b1 0, ptr b2 0, vi s, vi 0] H := by
  refine LoopL.count p.rules.length (fun i l H' => l = [ptr b1 0, ptr b2 0, vi s, vi i] ∧ Ext H H' ∧ NoneAt p r s i) ?_ ⟨rfl, Ext.refl _, fun j _ hj => by omega⟩
  rintro i _ H' X hi hX ⟨rfl, e1, hn⟩
  have k1 := e1.cells h1
  have k2 := e1.cells h2
  have hl := hv.lenSlc
  have e8 := row_all r.seen none 8 (RecD.seen_len hr)
  simp [F.pinfoldref09_Says_l2, k1, hc, hl]
  refine ifB_split (fun h => ?_) (fun h => ?_)
  · have hil : i < p.rules.length := by omega
    obtain ⟨b, o, ccs, f1, f2, f3⟩ := (hv.mono (fun _ _ _ _ h e => RRuleAt.mono h e) e1).ix (i := i) hil
    have f3' := f3
    obtain ⟨hxl, w, hcs, hw⟩ := f3
    have f1c : (H'.get b).cell (o + 1) = some (u32 p.rules[i].action) := by
      have := row_cell f2
      rw [row_at f2 (by omega : 1 < 3), hcs]; rfl
    simp [f1, f1c]
    apply S.pinfoldref03_Strength hE
    rw [rstrength_eq]
    simp
    by_cases hst : astrength p.rules[i].action = s
    · simp [hst, k1, hc, f1, f2, k2, e8]
      refine S.pinfoldref09_Matches hE p.rules[i] ccs f3' r hr fun H4 h4 => ?_
      have k4 := h4.cells k1
      by_cases hm : rmatches p.rules[i] r = true
      · simp [hm, k4, hc, f1]
        have f4 : (H4.get b).cell (o + 1) = some (u32 p.rules[i].action) := by
          have hnd : H'.get b ≠ .dead := row_notdead f2
          rw [h4.get (AH.lt_of_get hnd)]; exact f1c
        rw [f4, opt_some, ← says_found p r ha s i hil hm hst hup hn]
        exact hQ _ (hx.trans (e1.trans h4))
      · simp [hm]
        rw [i64_inc (by omega), opt_some]
        refine hX hil _ _ ⟨rfl, e1.trans h4, fun j hj hji hjm => ?_⟩
        by_cases e : j = i
        · subst e; exact absurd hjm hm
        · exact hn j hj (by omega) hjm
    · simp [hst]
      rw [i64_inc (by omega), opt_some]
      refine hX hil _ _ ⟨rfl, e1, fun j hj hji hjm => ?_⟩
      by_cases e : j = i
      · subst e; exact hst
      · exact hn j hj (by omega) hjm
  · have : i = p.rules.length := by omega
    subst this
    rw [i64_sub (by omega) (by omega), opt_some]
    exact hX0 _ e1 hn
theorem S.pinfoldref09_Says (hE : Fold E) (p : PolD) (cs : List Value) (hp : RPolAt H p cs) (r : RecD) (hr : r.ok) (hQ : ∀ H', Ext H H' → Q (u32 (says p r)) H') : E.call (E.fid i.pinfoldref09_Says) [.agg cs.toArray, .agg r.seen.toArray] H Q := by
  apply hE.pinfoldref09_Says
  obtain ⟨hb, v, hd, hc, hv⟩ := hp
  have hcs : r.seen[1]? = some (u32 r.arch) := rfl
  simp [F.pinfoldref09_Says, AH.get_new, hcs]
  generalize hH2 : (H.new _).new _ = H2
  have x2 : Ext H H2 := by subst hH2; exact ((Ext.refl H).new _).new _
  have k2 : H2.get (H.next + 1) = .cells r.seen none := by subst hH2; simp [AH.get_new]
  have k1 : H2.get H.next = .cells cs none := by subst hH2; simp [AH.get_new]
  clear hH2
  by_cases ha : r.arch = 3221225534#32
  · simp [ha]
    refine LoopL.count 4 (fun i l H' => l = [ptr H.next 0, ptr (H.next + 1) 0, vi (3 - (i : Int))] ∧ Ext H2 H' ∧ ∀ t : Int, 3 - (i : Int) < t → t ≤ 3 → NoneAt p r t p.rules.length) ?_ ⟨rfl, Ext.refl _, fun t h1 h2 => by omega⟩
    rintro i _ H' X hi hX ⟨rfl, e1, hn⟩
    simp [F.pinfoldref09_Says_l1]
    refine ifB_split (fun h => ?_) (fun h => ?_)
    · refine S.ref09_Says_l2 hE p r hr ha X H H.next (H.next + 1) v cs hb (e1.cells k1) (e1.cells k2) hc (hv.mono (fun _ _ _ _ h e => RRuleAt.mono h e) (x2.trans e1)) (3 - (i : Int)) (by omega) (by omega) (x2.trans e1) hn hQ fun H'' x hnone => ?_
      refine hX (by omega) _ _ ⟨?_, e1.trans x, fun t h1 h2 => ?_⟩
      · have : (3 : Int) - ((i + 1 : Nat) : Int) = 3 - (i : Int) - 1 := by omega
        rw [this]
      · by_cases e : t = 3 - (i : Int)
        · subst e; exact hnone
        · exact hn t (by omega) h2
    · have : i = 4 := by omega
      subst this
      simp [e1.cells k1, hd]
      rw [← says_none p r ha fun t h0 h3 => hn t (by omega) h3]
      exact hQ _ (x2.trans e1)
  · simp [ha]
    simpa [says, ha] using hQ _ x2
end Go.AM
end
section
namespace Go.AM
variable {E : Sy} {H : AH} {Q : Value → AH → Prop}
theorem PolAt.mono {H H' : AH} {p : PolD} {cs : List Value} (h : PolAt H p cs) (e : Ext H H') : PolAt H' p cs := by
  obtain ⟨hb, a, v, b, c, d, h1, h2⟩ := h
  exact ⟨hb, a, v, b, c, d, h1, h2.mono (fun _ _ _ _ h e => RuleAt.mono h e) e⟩
theorem RPolAt.mono {H H' : AH} {p : PolD} {cs : List Value} (h : RPolAt H p cs) (e : Ext H H') : RPolAt H' p cs := by
  obtain ⟨hb, v, h1, h2, h3⟩ := h
  exact ⟨hb, v, h1, h2, h3.mono (fun _ _ _ _ h e => RRuleAt.mono h e) e⟩
/-- What policies say together. -/
def sayAll (l : List PolD) (r : RecD) : BitVec 32 := l.foldr (fun p o => astronger o (says p r)) 2147418112#32
theorem sayAll_drop (l : List PolD) (r : RecD) {i : Nat} (hi : i < l.length) : sayAll (l.drop i) r = astronger (sayAll (l.drop (i + 1)) r) (says l[i] r) := by
  rw [List.drop_eq_getElem_cons hi]; rfl
theorem u32_allow : Value.int .u32 2147418112 = u32 2147418112#32 := congrArg (Value.int .u32) (by decide +kernel)
theorem S.mean_All (hE : Fold E) (l : List PolD) (v : Value) (hn : l.length < 2 ^ 63) (hv : SliceOf PolAt H 6 v l) (r : RecD) (hr : r.ok) (hQ : ∀ H', Ext H H' → Q (u32 (sayAll l r)) H') : E.call (E.fid i.mean_All) [v, r.v] H Q := by
  apply hE.mean_All
  have hl := hv.lenSlc
  simp [F.mean_All, hl]
  generalize hH2 : H.new _ = H2
  have x2 : Ext H H2 := by subst hH2; exact (Ext.refl H).new _
  have k2 : H2.get H.next = .cells r.cells none := by subst hH2; simp [AH.get_new]
  clear hH2
  rw [i64_sub (by omega) (by omega), opt_some]
  refine LoopL.count l.length (fun i s H' => s = [v, ptr H.next 0, u32 (sayAll (l.drop (l.length - i)) r), vi ((l.length : Int) - 1 - i)] ∧ Ext H2 H') ?_ ⟨by rw [Nat.sub_zero, List.drop_length, show ((l.length : Int) - 1 - ((0 : Nat) : Int)) = (l.length : Int) - 1 by omega]; exact congrArg (fun w => [v, ptr H.next 0, w, vi ((l.length : Int) - 1)]) u32_allow, Ext.refl _⟩
  rintro i hi0 H' X hi hX ⟨rfl, e1⟩
  simp [F.mean_All_l1]
  refine ifB_split (fun h => ?_) (fun h => ?_)
  · have hil : l.length - i - 1 < l.length := by omega
    have e0 : (l.length : Int) - 1 - i = ((l.length - i - 1 : Nat) : Int) := by omega
    obtain ⟨b, o, cs, f1, f2, f3⟩ := (hv.mono (fun _ _ _ _ h e => PolAt.mono h e) (x2.trans e1)).ix (i := l.length - i - 1) hil
    have e9 := row_all r.cells none 9 (RecD.cells_len hr)
    rw [e0]
    simp [f1, f2, e1.cells k2, e9]
    refine S.mean_Says hE l[l.length - i - 1] cs f3 r hr fun H4 h4 => ?_
    refine S.record_Stronger hE _ _ ?_
    rw [i64_sub (by omega) (by omega), opt_some]
    have hd := sayAll_drop l r hil
    have e2 : l.length - i - 1 + 1 = l.length - i := by omega
    have e3 : l.length - (i + 1) = l.length - i - 1 := by omega
    rw [e2] at hd
    rw [← hd]
    refine hX (by omega) _ _ ⟨?_, e1.trans h4⟩
    rw [e3]
    have : ((l.length - i - 1 : Nat) : Int) - 1 = (l.length : Int) - 1 - ((i + 1 : Nat) : Int) := by omega
    rw [this]
  · have : i = l.length := by omega
    subst this
    simpa using hQ _ (x2.trans e1)
theorem S.pinfoldref09_All (hE : Fold E) (l : List PolD) (v : Value) (hn : l.length < 2 ^ 63) (hv : SliceOf RPolAt H 6 v l) (r : RecD) (hr : r.ok) (hQ : ∀ H', Ext H H' → Q (u32 (sayAll l r)) H') : E.call (E.fid i.pinfoldref09_All) [v, .agg r.seen.toArray] H Q := by
  apply hE.pinfoldref09_All
  have hl := hv.lenSlc
  simp [F.pinfoldref09_All, hl]
  generalize hH2 : H.new _ = H2
  have x2 : Ext H H2 := by subst hH2; exact (Ext.refl H).new _
  have k2 : H2.get H.next = .cells r.seen none := by subst hH2; simp [AH.get_new]
  clear hH2
  rw [i64_sub (by omega) (by omega), opt_some]
  refine LoopL.count l.length (fun i s H' => s = [v, ptr H.next 0, u32 (sayAll (l.drop (l.length - i)) r), vi ((l.length : Int) - 1 - i)] ∧ Ext H2 H') ?_ ⟨by rw [Nat.sub_zero, List.drop_length, show ((l.length : Int) - 1 - ((0 : Nat) : Int)) = (l.length : Int) - 1 by omega]; exact congrArg (fun w => [v, ptr H.next 0, w, vi ((l.length : Int) - 1)]) u32_allow, Ext.refl _⟩
  rintro i hi0 H' X hi hX ⟨rfl, e1⟩
  simp [F.pinfoldref09_All_l1]
  refine ifB_split (fun h => ?_) (fun h => ?_)
  · have hil : l.length - i - 1 < l.length := by omega
    have e0 : (l.length : Int) - 1 - i = ((l.length - i - 1 : Nat) : Int) := by omega
    obtain ⟨b, o, cs, f1, f2, f3⟩ := (hv.mono (fun _ _ _ _ h e => RPolAt.mono h e) (x2.trans e1)).ix (i := l.length - i - 1) hil
    have e9 := row_all r.seen none 8 (RecD.seen_len hr)
    rw [e0]
    simp [f1, f2, e1.cells k2, e9]
    refine S.pinfoldref09_Says hE l[l.length - i - 1] cs f3 r hr fun H4 h4 => ?_
    refine S.pinfoldref03_Stronger hE _ _ ?_
    rw [i64_sub (by omega) (by omega), opt_some]
    have hd := sayAll_drop l r hil
    have e2 : l.length - i - 1 + 1 = l.length - i := by omega
    have e3 : l.length - (i + 1) = l.length - i - 1 := by omega
    rw [e2] at hd
    have hs : ∀ a b : BitVec 32, (if rstrength a < rstrength b then b else a) = astronger a b := by
      intro a b; simp [astronger, rstrength_eq]
    rw [hs, ← hd]
    refine hX (by omega) _ _ ⟨?_, e1.trans h4⟩
    rw [e3]
    have : ((l.length - i - 1 : Nat) : Int) - 1 = (l.length : Int) - 1 - ((i + 1 : Nat) : Int) := by omega
    rw [this]
  · have : i = l.length := by omega
    subst this
    simpa using hQ _ (x2.trans e1)
end Go.AM
end
section
namespace Go.AM
variable {E : Sy} {H : AH} {Q : Value → AH → Prop}
def awakeP : PolD := ⟨2147483648#32, [⟨2#32, 2147418112#32, []⟩, ⟨2#32, afail 13, [⟨1, 7#8, 2#64, 2#64⟩]⟩]⟩
def awakeR : RecD := ⟨2#32, 3221225534#32, 0#64, [0#64, 3#64, 0#64, 0#64, 0#64, 0#64]⟩
theorem says_awake : says awakeP awakeR = 327693#32 := by decide +kernel
theorem S.pinfoldlaw11_Awake (hE : Fold E) (hQ : ∀ H', Ext H H' → Q (vb true) H') : E.call (E.fid i.pinfoldlaw11_Awake) [] H Q := by
  apply hE.pinfoldlaw11_Awake
  simp [F.pinfoldlaw11_Awake, AH.get_new, splice, AObj.row]
  refine S.record_Fail hE 13 ?_
  simp [AH.get_new, splice, AObj.row]
  refine ⟨by simp [Nat.add_assoc], ?_⟩
  generalize hH : AH.new _ _ = H4
  have g3 : H4.get (H.next + 1 + 1 + 1) = .cells [u32 2#32, u32 2147418112#32, .slice none 0 0, u32 2#32, u32 (afail 13), slc (H.next + 1) 0 1 1] none := by subst hH; simp [AH.get_new]
  have g1 : H4.get (H.next + 1) = .cells [vi 1, u8 7#8, u64 2#64, u64 2#64] none := by subst hH; simp [AH.get_new, Nat.add_assoc]
  have x4 : Ext H H4 := by subst hH; exact ((((Ext.refl H).new _).new _).new _).new _
  clear hH
  refine S.mean_Says hE awakeP [str [], u32 2147483648#32, slc (H.next + 1 + 1 + 1) 0 2 2, u16 0#16, .slice none 0 0, .slice none 0 0] ?_ awakeR rfl fun H5 h5 => ?_
  · refine ⟨by decide, _, _, _, _, _, rfl, [[u32 2#32, u32 2147418112#32, .slice none 0 0], [u32 2#32, u32 (afail 13), slc (H.next + 1) 0 1 1]], Rows.made (f := none) g3 (.inl rfl) rfl (by simp), rfl, ?_⟩
    intro i h1 h2
    match i, h1, h2 with
    | 0, _, _ => exact ⟨by simp [awakeP], _, rfl, Rows.nil _ _ _⟩
    | 1, _, _ => exact ⟨by simp [awakeP], _, rfl, Rows.made (f := none) g1 (.inl rfl) rfl (by simp [CondD.cells])⟩
  · rw [says_awake]
    simpa using hQ _ (x4.trans h5)
end Go.AM
end
section
namespace Go.AM
variable {E : Sy} {H : AH} {Q : Value → AH → Prop}
theorem S.pinfoldlaw11_Ref (hE : Fold E) (r : RecD) (hr : r.ok) (hQ : ∀ H', Ext H H' → Q (.agg r.seen.toArray) H') : E.call (E.fid i.pinfoldlaw11_Ref) [r.v] H Q := by
  apply hE.pinfoldlaw11_Ref
  obtain ⟨n, a, t, x0, x1, x2, x3, x4, x5, rfl⟩ := RecD.ok_cases hr
  simp [F.pinfoldlaw11_Ref, AH.get_new, splice, AObj.row, RecD.cells, RecD.seen]
  simp [RecD.seen] at hQ
  exact hQ _ (by repeat (first | exact Ext.refl _ | apply Ext.new))
end Go.AM
end
section
namespace Go.AM
variable {E : Sy} {H : AH} {Q : Value → AH → Prop}
/-- A policy whole. -/
structure PolX where
  name : List UInt8
  pol : PolD
  handled : BitVec 16
  paths : List (List UInt8 × BitVec 16)
  ports : List (BitVec 16 × BitVec 16)
def PolXAt (H : AH) (x : PolX) (cs : List Value) : Prop := ∃ v pv qv, cs = [str x.name, u32 x.pol.default, v, u16 x.handled, pv, qv] ∧ SliceOf RuleAt H 3 v x.pol.rules ∧
  Rows H 2 pv (x.paths.map fun p => [str p.1, u16 p.2]) ∧ Rows H 2 qv (x.ports.map fun p => [u16 p.1, u16 p.2])
/-- Sizes that any slice has. -/
def PolX.fits (x : PolX) : Prop := x.name.length < 2 ^ 63 ∧ x.pol.rules.length < 2 ^ 63 ∧ x.paths.length < 2 ^ 63 ∧ x.ports.length < 2 ^ 63
def PolX.few (x : PolX) : Prop := x.pol.rules.length ≤ 80 ∧ (∀ r ∈ x.pol.rules, r.conds.length ≤ 20) ∧ x.paths.length ≤ 50 ∧ x.ports.length ≤ 50
theorem SliceOf.sub {α : Type} {R : AH → α → List Value → Prop} {sz : Nat} {v : Value} {l : List α} (h : SliceOf R H sz v l) (hm : ∀ (H H' : AH) (a : α) (c : List Value), R H a c → Sub H H' → R H' a c) {H' : AH} (e : Sub H H') : SliceOf R H' sz v l := by
  obtain ⟨rows, h1, h2, h3⟩ := h
  exact ⟨rows, h1.sub e, h2, fun i a b => hm _ _ _ _ (h3 i a b) e⟩
theorem RuleAt.sub {H H' : AH} {r : RuleD} {cs : List Value} (h : RuleAt H r cs) (e : Sub H H') : RuleAt H' r cs := ⟨h.1, h.2.choose, h.2.choose_spec.1, h.2.choose_spec.2.sub e⟩
theorem RRuleAt.sub {H H' : AH} {r : RuleD} {cs : List Value} (h : RRuleAt H r cs) (e : Sub H H') : RRuleAt H' r cs := ⟨h.1, h.2.choose, h.2.choose_spec.1, h.2.choose_spec.2.sub e⟩
theorem PolXAt.sub {H H' : AH} {x : PolX} {cs : List Value} (h : PolXAt H x cs) (e : Sub H H') : PolXAt H' x cs := by
  obtain ⟨v, pv, qv, h1, h2, h3, h4⟩ := h
  exact ⟨v, pv, qv, h1, h2.sub (fun _ _ _ _ h e => RuleAt.sub h e) e, h3.sub e, h4.sub e⟩
theorem PolXAt.mono {H H' : AH} {x : PolX} {cs : List Value} (h : PolXAt H x cs) (e : Ext H H') : PolXAt H' x cs := h.sub e.sub
theorem PolXAt.at_ {x : PolX} {cs : List Value} (h : PolXAt H x cs) (hb : x.pol.rules.length < 2 ^ 63) : PolAt H x.pol cs := by
  obtain ⟨v, pv, qv, h1, h2, _⟩ := h
  exact ⟨hb, _, v, _, _, _, h1, h2⟩
theorem S.law09_Few_l2 (H0 : AH) (b1 : Nat) (x : PolX) (hf : x.fits) (v pv qv : Value)
    (hv : SliceOf RuleAt H 3 v x.pol.rules) (hp : Rows H 2 pv (x.paths.map fun p => [str p.1, u16 p.2])) (hq : Rows H 2 qv (x.ports.map fun p => [u16 p.1, u16 p.2])) (h1 : H.get b1 = .cells [str x.name, u32 x.pol.default, v, u16 x.handled, pv, qv] none)
    (hx : Ext H0 H) (hQ : ∀ b H', Ext H0 H' → (b = true → x.pol.rules.length ≤ 80 ∧ x.paths.length ≤ 50 ∧ x.ports.length ≤ 50) → Q (vb b) H') :
    LoopL (fun l H X0 => F.pinfoldlaw09_Few_l2 E Q (nth l 0) (nth l 1) (nth l 2) (nth l 3) H X0) [ptr b1 0, pv, vi x.paths.length, vi 0] H := by
  have hp63 := hf.2.2.1
  refine LoopL.count x.paths.length (fun i s H' => s = [ptr b1 0, pv, vi x.paths.length, vi i] ∧ Ext H H') ?_ ⟨rfl, Ext.refl _⟩
  rintro i _ H' X hi hX ⟨rfl, e1⟩
  have k1 := e1.cells h1
  simp [F.pinfoldlaw09_Few_l2]
  refine ifB_split (fun h => ?_) (fun h => ?_)
  · have hil : i < x.paths.length := by omega
    obtain ⟨b, o, f1, f2⟩ := (hp.mono e1).ix (i := i) (by simpa using hil)
    rw [List.getElem_map] at f2
    simp [f1, f2, AH.get_new, splice]
    refine ifB_split (fun h => ?_) (fun h => ?_)
    · exact hQ false _ (hx.trans (e1.trans ((Ext.refl _).new _))) (by simp)
    · rw [i64_add (by omega) (by omega), opt_some]
      exact hX hil _ _ ⟨by simp, e1.trans ((Ext.refl _).new _)⟩
  · have hl3 := hv.lenSlc
    have hl4 := hp.lenSlc
    have hl5 := hq.lenSlc
    rw [List.length_map] at hl4 hl5
    simp [k1, hl3, hl4, hl5]
    by_cases c1 : x.pol.rules.length ≤ 80
    · have d1 : ((x.pol.rules.length : Int) ≤ 80) := by omega
      by_cases c2 : ((x.paths.length : Int) ≤ 50)
      · by_cases c3 : ((x.ports.length : Int) ≤ 50)
        · simp [d1, c2, c3, k1, hl3, hl4, hl5]
          exact hQ _ _ (hx.trans e1) fun _ => ⟨c1, by omega, by omega⟩
        · simp [d1, c2, c3, k1, hl3, hl4, hl5]
          exact hQ _ _ (hx.trans e1) (by simp)
      · simp [d1, c2, k1, hl3, hl4, hl5]
        exact hQ _ _ (hx.trans e1) (by simp)
    · have d1 : ¬ ((x.pol.rules.length : Int) ≤ 80) := by omega
      simp [d1]
      exact hQ _ _ (hx.trans e1) (by simp)
theorem S.pinfoldlaw09_Few (hE : Fold E) (x : PolX) (cs : List Value) (hp : PolXAt H x cs) (hf : x.fits) (hQ : ∀ b H', Ext H H' → (b = true → x.few) → Q (vb b) H') : E.call (E.fid i.pinfoldlaw09_Few) [.agg cs.toArray] H Q := by
  apply hE.pinfoldlaw09_Few
  obtain ⟨v, pv, qv, hcs, hv, hpr, hqr⟩ := hp
  have hr63 := hf.2.1
  have hl := hv.lenSlc
  simp [F.pinfoldlaw09_Few, AH.get_new]
  generalize hH2 : H.new _ = H2
  have x2 : Ext H H2 := by subst hH2; exact (Ext.refl H).new _
  have k2 : H2.get H.next = .cells cs none := by subst hH2; simp [AH.get_new]
  clear hH2
  subst hcs
  simp [k2, hl]
  refine LoopL.count x.pol.rules.length (fun i s H' => s = [ptr H.next 0, v, vi x.pol.rules.length, vi i] ∧ Ext H2 H' ∧ ∀ j (hj : j < x.pol.rules.length), j < i → x.pol.rules[j].conds.length ≤ 20) ?_ ⟨rfl, Ext.refl _, fun j _ h => by omega⟩
  rintro i _ H' X hi hX ⟨rfl, e1, hc⟩
  have k1 := e1.cells k2
  simp [F.pinfoldlaw09_Few_l1]
  refine ifB_split (fun h => ?_) (fun h => ?_)
  · have hil : i < x.pol.rules.length := by omega
    obtain ⟨b, o, ccs, f1, f2, f3⟩ := (hv.mono (fun _ _ _ _ h e => RuleAt.mono h e) (x2.trans e1)).ix (i := i) hil
    obtain ⟨hxl, w, rfl, hw⟩ := f3
    have hlw := hw.lenSlc
    rw [List.length_map] at hlw
    simp [f1, f2, AH.get_new, splice, hw.plain, hlw]
    refine ifB_split (fun h => ?_) (fun h => ?_)
    · exact hQ false _ (x2.trans (e1.trans ((Ext.refl _).new _))) (by simp)
    · rw [i64_add (by omega) (by omega), opt_some]
      refine hX hil _ _ ⟨by simp, e1.trans ((Ext.refl _).new _), fun j hj hji => ?_⟩
      by_cases e : j = i
      · subst e; omega
      · exact hc j hj (by omega)
  · have : i = x.pol.rules.length := by omega
    subst this
    have hl4 := (hpr.mono (x2.trans e1)).lenSlc
    rw [List.length_map] at hl4
    simp [k1, hl4]
    refine S.law09_Few_l2 H H.next x hf v pv qv (hv.mono (fun _ _ _ _ h e => RuleAt.mono h e) (x2.trans e1)) (hpr.mono (x2.trans e1)) (hqr.mono (x2.trans e1)) k1 (x2.trans e1) fun b H'' h h' => ?_
    refine hQ b H'' h fun hb => ⟨(h' hb).1, fun x hx => ?_, (h' hb).2⟩
    obtain ⟨j, hj, rfl⟩ := List.getElem_of_mem hx
    exact hc j hj (by omega)
end Go.AM
end
section
namespace Go.AM
variable {E : Sy} {H : AH} {Q : Value → AH → Prop}
theorem S.pinfoldlaw09_RefCond (hE : Fold E) (c : CondD) (hQ : ∀ H', Ext H H' → Q (.agg c.rcells.toArray) H') : E.call (E.fid i.pinfoldlaw09_RefCond) [c.v] H Q := by
  apply hE.pinfoldlaw09_RefCond
  simp [F.pinfoldlaw09_RefCond, AH.get_new, splice, AObj.row, CondD.cells]
  simp [CondD.rcells] at hQ
  exact hQ _ (by repeat (first | exact Ext.refl _ | apply Ext.new))
end Go.AM
end
section
namespace Go.AM
variable {E : Sy} {H : AH} {Q : Value → AH → Prop}
def smallValues : List (BitVec 64) := [0#64, 1#64, 2#64, 3#64, 5#64, 255#64, 4294967295#64, 4294967296#64, 4294967297#64, 8589934597#64, 9223372036854775810#64, 18446744073709551615#64]
theorem S.pinfoldlaw09_values (hE : Fold E) (hQ : ∀ v H', Ext H H' → Vals H' v (smallValues.map u64) → Q v H') : E.call (E.fid i.pinfoldlaw09_values) [] H Q := by
  apply hE.pinfoldlaw09_values
  simp [F.pinfoldlaw09_values]
  refine hQ _ _ ((Ext.refl _).new _) (Vals.made (AH.get_new_self _ _) (.inl rfl) rfl)
structure SCond where
  arg : BitVec 8
  op : BitVec 8
  mask : BitVec 8
  value : BitVec 8
def SCond.cells (c : SCond) : List Value := [u8 c.arg, u8 c.op, u8 c.mask, u8 c.value]
abbrev SCond.v (c : SCond) : Value := .agg c.cells.toArray
def sval (n : Nat) : BitVec 64 := smallValues.getD n 0#64
def SCond.cond (s : SCond) : CondD :=
  if 1#8 + s.op % 7#8 = 7#8 then ⟨(s.arg % 6#8).toNat, 7#8, sval (1 + s.mask.toNat % 11), sval (s.value.toNat % 12) &&& sval (1 + s.mask.toNat % 11)⟩
  else ⟨(s.arg % 6#8).toNat, 1#8 + s.op % 7#8, 0#64, sval (s.value.toNat % 12)⟩
theorem sval_at (n : Nat) (h : n < 12) : ((smallValues.map u64).map fun x => [x])[n]? = some [u64 (sval n)] := by
  have : n < smallValues.length := h
  simp [sval, List.getD_eq_getElem?_getD, this]
theorem Vals.get? {H : AH} {v : Value} {l : List Value} (h : Vals H v l) {i : Nat} {x : Value} (hi : l[i]? = some x) : ∃ b o, ixSlc 1 v (vi i) = some (ptr b o) ∧ (H.get b).cell o = some x := by
  obtain ⟨hlt, rfl⟩ := List.getElem?_eq_some_iff.1 hi
  exact h.elem hlt
theorem S.pinfoldlaw09_Cond_Cond (hE : Fold E) (c : SCond) (hQ : ∀ H', Ext H H' → Q c.cond.v H') : E.call (E.fid i.pinfoldlaw09_Cond_Cond) [c.v] H Q := by
  apply hE.pinfoldlaw09_Cond_Cond
  simp [F.pinfoldlaw09_Cond_Cond]
  refine S.pinfoldlaw09_values hE fun v H3 h3 hv => ?_
  have e3 : Ext H H3 := (((Ext.refl H).new _).new _).trans h3
  have k1 : H3.get H.next = .cells c.cells none := h3.cells (by simp [AH.get_new])
  have k2 : H3.get (H.next + 1) = .cells [.int .i64 0, u8 0#8, u64 0#64, u64 0#64] none := h3.cells (by simp [AH.get_new])
  have hl := hv.lenSlc
  have h12 : ((smallValues.map u64).length : Int) = ((12 : Nat) : Int) := rfl
  have hlt := AH.lt_cells k2
  have m12 : smallValues.length = 12 := rfl
  have hat : ∀ n, n < 12 → (smallValues.map u64)[n]? = some (u64 (sval n)) := fun n hn => by
    have : n < smallValues.length := hn
    simp [sval, List.getD_eq_getElem?_getD, this]
  have r1 : binInt .rem (vi c.value.toNat) (vi 12) = some (vi ((c.value.toNat % 12 : Nat) : Int)) := i64_rem_nat c.value.toNat 12 (by decide)
  have r2 : binInt .rem (vi c.mask.toNat) (vi 11) = some (vi ((c.mask.toNat % 11 : Nat) : Int)) := i64_rem_nat c.mask.toNat 11 (by decide)
  have ea : ((c.arg % 6#8).toNat : Int) = (c.arg.toNat : Int) % 6 := by simp
  unfold SCond.cond at hQ
  have hn1 : c.value.toNat % 12 < 12 := Nat.mod_lt _ (by decide)
  have hn2 : c.mask.toNat % 11 < 11 := Nat.mod_lt _ (by decide)
  generalize c.value.toNat % 12 = n1 at *
  generalize c.mask.toNat % 11 = n2 at *
  have r3 : binInt .add (vi 1) (vi (n2 : Int)) = some (vi ((1 + n2 : Nat) : Int)) := i64_add_nat 1 _ (by omega)
  have r4 : binInt .sub (vi 12) (vi 1) = some (vi 11) := rfl
  obtain ⟨b1, o1, f1, f2⟩ := hv.get? (hat n1 hn1)
  obtain ⟨b2, o2, f3, f4⟩ := hv.get? (hat (1 + n2) (by omega))
  have hb1 : b1 < H3.next := AH.lt_of_get (fun h => by rw [h] at f2; cases f2)
  have hb2 : b2 < H3.next := AH.lt_of_get (fun h => by rw [h] at f4; cases f4)
  generalize 1 + n2 = n3 at *
  have hne : H.next + 1 ≠ H3.next := Nat.ne_of_lt hlt
  simp [k1, SCond.cells, hl, m12, r1, f1, f2, splice, AH.get_new, Nat.ne_of_lt (Nat.lt_of_succ_lt hlt)]
  by_cases hop : 1#8 + c.op % 7#8 = 7#8
  · rw [if_pos hop] at hQ
    simp [hop, r2, r3, r4, f3, f4, AH.get_new, AH.get_put, splice, k1, k2, hlt, hne, Nat.ne_of_lt hb2]
    simpa [CondD.v, CondD.cells, ea] using hQ _ ((e3.put (b := H.next + 1) (by omega) _).new _)
  · rw [if_neg hop] at hQ
    simp [hop, AH.get_new, AH.get_put, hlt, hne, k2, splice]
    simpa [CondD.v, CondD.cells, ea] using hQ _ ((e3.put (b := H.next + 1) (by omega) _).new _)
end Go.AM
end
section
namespace Go.AM
variable {E : Sy} {H : AH} {Q : Value → AH → Prop}
def callTable : List (Nat × List UInt8 × Nat) := [(0, [114, 101, 97, 100], 2), (1, [119, 114, 105, 116, 101], 2), (2, [111, 112, 101, 110], 2), (3, [99, 108, 111, 115, 101], 1), (4, [115, 116, 97, 116], 1), (8, [115, 101, 101, 107], 2), (32, [100, 117, 112], 1), (39, [112, 105, 100], 0), (41, [115, 111, 99, 107, 101, 116], 0), (42, [99, 111, 110, 110, 101, 99, 116], 2), (49, [98, 105, 110, 100], 2), (50, [108, 105, 115, 116, 101, 110], 1), (57, [102, 111, 114, 107], 0), (60, [101, 120, 105, 116], 1), (77, [116, 114, 117, 110, 99, 97, 116, 101], 2), (78, [114, 101, 97, 100, 100, 105, 114], 1), (79, [99, 119, 100], 0), (80, [99, 104, 100, 105, 114], 1), (82, [114, 101, 110, 97, 109, 101], 2), (83, [109, 107, 100, 105, 114], 1), (84, [114, 109, 100, 105, 114], 1), (86, [108, 105, 110, 107], 2), (87, [117, 110, 108, 105, 110, 107], 1), (88, [115, 121, 109, 108, 105, 110, 107], 2), (89, [114, 101, 97, 100, 108, 105, 110, 107], 1), (157, [112, 114, 99, 116, 108], 1), (165, [109, 111, 117, 110, 116], 2), (166, [117, 109, 111, 117, 110, 116], 1), (317, [115, 101, 99, 99, 111, 109, 112], 1), (446, [114, 101, 115, 116, 114, 105, 99, 116], 1)]
def callCells (c : Nat × List UInt8 × Nat) : List Value := [vi c.1, str c.2.1, vi c.2.2]
theorem bv3 (z0 z1 z2 a b c : Value) (ha : vcells a = [a]) (hb : vcells b = [b]) (hc : vcells c = [c]) (da : defd a = true) (db : defd b = true) (dc : defd c = true) : buildV [(0, 1), (1, 1), (2, 1)] #[z0, z1, z2] [(0, a), (1, b), (2, c)] = some (.agg #[a, b, c]) := by
  simp [ha, hb, hc, da, db, dc, splice]
theorem S.pinfoldref01_Calls' (hE : Fold E) (hQ : Q (slc H.next 0 30 30) (H.new (.cells (callTable.map callCells).flatten none))) : E.call (E.fid i.pinfoldref01_Calls) [] H Q := by
  apply hE.pinfoldref01_Calls
  unfold F.pinfoldref01_Calls
  repeat rw [bv3 _ _ _ _ _ _ rfl rfl rfl rfl rfl rfl, opt_some]
  rw [buildS_full 30 3 _ _ (callTable.map fun c => .agg (callCells c).toArray) rfl ?_ rfl rfl ?_, mk_some]
  · exact hQ
  · rfl
  · intro r hr
    obtain ⟨c, _, rfl⟩ := List.mem_map.1 hr
    rfl
theorem S.pinfoldref01_Calls (hE : Fold E) (hQ : ∀ v H', Ext H H' → Rows H' 3 v (callTable.map callCells) → Q v H') : E.call (E.fid i.pinfoldref01_Calls) [] H Q := by
  refine S.pinfoldref01_Calls' hE (hQ _ _ ((Ext.refl _).new _) (Rows.made (f := none) (AH.get_new_self _ _) (.inl rfl) rfl ?_))
  intro r hr
  obtain ⟨c, _, rfl⟩ := List.mem_map.1 hr
  rfl
def sdirs : List (List UInt8) := [[47], [47, 97], [47, 97, 47, 98], [47, 102], [47, 97, 47, 103], [47, 99]]
theorem S.pinfoldlaw09_Dirs (hE : Fold E) (hQ : ∀ v H', Ext H H' → Vals H' v (sdirs.map str) → Q v H') : E.call (E.fid i.pinfoldlaw09_Dirs) [] H Q := by
  apply hE.pinfoldlaw09_Dirs
  simp [F.pinfoldlaw09_Dirs, splice]
  exact hQ _ _ ((Ext.refl _).new _) (Vals.made (AH.get_new_self _ _) (.inl rfl) rfl)
def saction (k n : BitVec 8) : BitVec 32 := if k % 4#8 = 0#8 then 2147483648#32 else if k % 4#8 = 1#8 then afail (1 + (n.toNat : Int)) else if k % 4#8 = 2#8 then 2147221504#32 else 2147418112#32
theorem S.pinfoldlaw09_Action (hE : Fold E) (k n : BitVec 8) (hQ : Q (u32 (saction k n)) H) : E.call (E.fid i.pinfoldlaw09_Action) [u8 k, u8 n] H Q := by
  apply hE.pinfoldlaw09_Action
  unfold saction at hQ
  have hn := n.isLt
  simp [F.pinfoldlaw09_Action, ifB_dec]
  by_cases h0 : k % 4#8 = 0#8
  · simp [h0] at hQ ⊢; exact hQ
  by_cases h1 : k % 4#8 = 1#8
  · simp [h1] at hQ ⊢
    rw [i64_add (by omega) (by omega), opt_some]
    exact S.record_Fail hE _ hQ
  by_cases h2 : k % 4#8 = 2#8
  · simp [h2] at hQ ⊢; exact hQ
  · simp [h0, h1, h2] at hQ ⊢; exact hQ
end Go.AM
end
section
namespace Go.AM
variable {E : Sy} {H : AH} {Q : Value → AH → Prop}
theorem RecD.cells_plain (r : RecD) : r.cells.all plain1 = true := by simp [RecD.cells]
theorem RecD.cells_ok {r : RecD} (hr : r.ok) : ∃ n a t x0 x1 x2 x3 x4 x5, r.cells = [u32 n, u32 a, u64 t, u64 x0, u64 x1, u64 x2, u64 x3, u64 x4, u64 x5] := by
  obtain ⟨n, a, t, x0, x1, x2, x3, x4, x5, rfl⟩ := RecD.ok_cases hr
  exact ⟨_, _, _, _, _, _, _, _, _, rfl⟩
/-- A record with one argument set. -/
def RecD.setArg (r : RecD) (k : Nat) (x : BitVec 64) : RecD := { r with args := r.args.set k x }
theorem RecD.setArg_ok {r : RecD} (hr : r.ok) (k : Nat) (x : BitVec 64) : (r.setArg k x).ok := by
  simpa [RecD.setArg, RecD.ok] using hr
theorem RecD.setArg_cells (r : RecD) (k : Nat) (x : BitVec 64) : (r.setArg k x).cells = r.cells.set (3 + k) (u64 x) := by
  simp [RecD.setArg, RecD.cells, List.map_set, Nat.add_comm 3 k]
theorem Records_l2 (hE : Fold E) (X0 : List Value → AH → Prop) (cl : List CondD) (hcl : cl.length < 2 ^ 63) (w : Value) (Z : AH) (hw : Rows Z 4 w (cl.map CondD.cells)) (b3 b11 : Nat) (t7 : Value) (k : BitVec 8) (t17 t18 : Value) (i : Nat) (hi : i < 30)
    (outs : List (List Value)) (ho : outs.length ≤ 1000) (hZ : Sub Z H) (hG : Grow Z H 9 t7 outs) (hb11 : Z.get b11 = .dead) (hne : blk t7 ≠ some b11) (r : RecD) (hr : r.ok) (h11 : H.get b11 = .cells r.cells none)
    (hX0 : ∀ t7' H' r', RecD.ok r' → Only (b11 :: blkL t7) H H' → Grow Z H' 9 t7' (outs ++ [r'.cells]) → (∀ b, blk t7' = some b → blk t7 = some b ∨ H.next ≤ b) → X0 [ptr b3 0, t7', t17, t18, vi ((i + 1 : Nat) : Int)] H') :
    LoopL (fun l H X1 => F.pinfoldlaw11_Records_l2 E Q X0 (nth l 0) (nth l 1) (nth l 2) (nth l 3) (nth l 4) (nth l 5) (nth l 6) (nth l 7) (nth l 8) (nth l 9) H X1) [ptr b3 0, t7, u8 k, ptr b11 0, t17, t18, vi i, w, vi cl.length, vi 0] H := by
  refine LoopL.count cl.length (fun j s H' => s = [ptr b3 0, t7, u8 k, ptr b11 0, t17, t18, vi i, w, vi cl.length, vi j] ∧ Only [b11] H H' ∧ ∃ r', RecD.ok r' ∧ H'.get b11 = .cells r'.cells none) ?_ ⟨rfl, Only.refl _ _, r, hr, h11⟩
  rintro j _ H' X hj hX ⟨rfl, e1, r', hr', k11⟩
  have hZ' : Sub Z H' := hZ.only e1 (by simpa using hb11)
  have hlt := AH.lt_cells k11
  simp only [F.pinfoldlaw11_Records_l2, nth_0, nth_1, nth_2, nth_3, nth_4, nth_5, nth_6, nth_7, nth_8, nth_9, i64_lss, opt_some]
  refine ifB_split (fun h => ?_) (fun h => ?_)
  · have hjl : j < cl.length := by omega
    obtain ⟨b, o, f1, f2⟩ := (hw.sub hZ').ix (i := j) (by simpa using hjl)
    simp only [List.getElem_map] at f2
    simp only [f1, opt_some, loadN_ptr, f2, Option.map_some]
    generalize cl[j] = c at *
    simp [CondD.cells, splice, AH.get_new]
    have hfin : ∀ H3 r3, Only [b11] H H3 → RecD.ok r3 → H3.get b11 = .cells r3.cells none → opt (binInt BinOp.add (vi (j : Int)) (vi 1)) fun v28 => X [ptr b3 0, t7, u8 k, ptr b11 0, t17, t18, vi i, w, vi cl.length, v28] H3 := by
      intro H3 r3 g1 g2 g3
      rw [i64_inc (by omega), opt_some]
      exact hX hjl _ _ ⟨rfl, g1, r3, g2, g3⟩
    by_cases h0 : 0 ≤ c.arg
    · by_cases h5 : c.arg ≤ 5
      · obtain ⟨a, ea⟩ : ∃ a : Nat, c.arg = a := ⟨c.arg.toNat, by omega⟩
        have ha6 : a < 6 := by omega
        have hl9 := RecD.cells_len hr'
        have hrem : ((j : Int) % 2) = ((j % 2 : Nat) : Int) := by omega
        have hrm : binInt .rem (vi j) (vi 2) = some (vi ((j % 2 : Nat) : Int)) := i64_rem_nat j 2 (by decide)
        generalize j % 2 = jm at *
        have h03 : (0 : Int) ≤ a := by omega
        have h53 : (a : Int) ≤ 5 := by omega
        have hq : (k / 16#8) % 3#8 = (k / 16#8) % 3#8 := rfl
        simp [ea, h53, AH.get_new, hrm, ixArr_nat 6 1 b11 3 a ha6, Nat.ne_of_lt hlt, k11, hl9]
        rw [if_pos (by omega), opt_some]
        refine hfin _ (r'.setArg a (c.value + BitVec.setWidth 64 (k / 16#8 % 3#8) - BitVec.ofNat 64 jm * BitVec.setWidth 64 (k % 2#8))) ((e1.put (.inl (by simp)) _).new _) (RecD.setArg_ok hr' _ _) ?_
        rw [AH.get_new_lt _ _ (by simpa using hlt), AH.get_put_self _ _ hlt, RecD.setArg_cells]
      · simp [h0, h5, AH.get_new]
        exact hfin _ r' (e1.new _) hr' (by rw [AH.get_new_lt _ _ hlt]; exact k11)
    · simp [h0]
      exact hfin _ r' (e1.new _) hr' (by rw [AH.get_new_lt _ _ hlt]; exact k11)
  · have hl9 := RecD.cells_len hr'
    have : j = cl.length := by omega
    subst this
    have e9 := row_all r'.cells none 9 hl9
    obtain ⟨n, a, t, x0, x1, x2, x3, x4, x5, hc⟩ := RecD.cells_ok hr'
    have hbl : blkL t7 = blkL t7 := rfl
    have hG' : Grow Z H' 9 t7 outs := hG.only e1 (fun b hb hm => by simp at hm; subst hm; exact hne hb)
    obtain ⟨v', H8, a1, a2, a3, a4⟩ := hG'.app1 hZ'.1 (bytes := 64) r'.cells hl9 (RecD.cells_plain r') (by omega) (by omega) (by omega)
    simp [k11, e9, hl9, hc, splice]
    rw [← hc, a1]
    simp
    rw [i64_inc (by omega), opt_some]
    refine hX0 v' H8 r' hr' ?_ a2 fun b hb => (a4 b hb).imp id fun h => Nat.le_trans e1.1 h
    exact (e1.mono (fun b hb => .inl (by simp at hb; simp [hb]))).trans' (a3.mono fun b hb => .inl (by simp [hb]))
theorem S.pinfoldlaw11_Records (hE : Fold E) (p : PolD) (cs : List Value) (hp : PolAt H p cs) (l : List RecD) (lv : Value) (hl : Rows H 9 lv (l.map RecD.cells)) (hok : ∀ r ∈ l, r.ok) (hn : l.length ≤ 20) (picks : List (BitVec 8)) (pv : Value) (hpk : Vals H pv (picks.map u8))
    (hpn : picks.length < 2 ^ 63) (hQ : ∀ v H' (l' : List RecD), Ext H H' → Rows H' 9 v (l'.map RecD.cells) → (∀ r ∈ l', RecD.ok r) → l'.length ≤ 50 → Q v H') : E.call (E.fid i.pinfoldlaw11_Records) [.agg cs.toArray, lv, pv] H Q := by
  apply hE.pinfoldlaw11_Records
  obtain ⟨hb, a, v, b', c', d', rfl, hv⟩ := hp
  have hkl := hpk.lenSlc
  rw [List.length_map] at hkl
  simp [F.pinfoldlaw11_Records, hkl]
  have x1 : Ext H (H.new (.cells [a, u32 p.default, v, b', c', d'] none)) := (Ext.refl H).new _
  have x2 := x1.new (.cells [] none)
  have hG0 : Grow ((H.new (.cells [a, u32 p.default, v, b', c', d'] none))) ((H.new (.cells [a, u32 p.default, v, b', c', d'] none)).new (.cells [] none)) 9 (slc (H.next + 1) 0 0 0) [] :=
    Grow.room (AH.get_ge _ (Nat.le_refl _)) (AH.get_new_self _ _) rfl
  have hpl : ∀ r ∈ l.map RecD.cells, r.all plain1 = true := by
    intro r hr
    obtain ⟨x, _, rfl⟩ := List.mem_map.1 hr
    exact RecD.cells_plain x
  obtain ⟨w, H3, a1, a2, a3, a4⟩ := hG0.app (Nat.le_succ _) (bytes := 64) (hl.mono x2) hpl (by omega) (by omega) (by simp; omega) (by simp; omega)
  generalize hZ : H.new (.cells [a, u32 p.default, v, b', c', d'] none) = Z at *
  have hk1 : Z.get H.next = .cells [a, u32 p.default, v, b', c', d'] none := by subst hZ; simp
  have hzn : Z.next = H.next + 1 := by subst hZ; rfl
  rw [a1]
  simp
  have hZ3 : Ext Z H3 := a3.ext ((Ext.refl Z).new _) (by intro b hb; rw [mem_blkL] at hb; simp [blk] at hb; omega)
  have hvZ := hv.mono (fun _ _ _ _ h e => RuleAt.mono h e) x1
  refine LoopL.count picks.length (fun i s H' => ∃ (t7 : Value) (l' : List RecD), s = [ptr H.next 0, t7, pv, vi picks.length, vi i] ∧ i ≤ 30 ∧ Ext Z H' ∧ Grow Z H' 9 t7 (l'.map RecD.cells) ∧ (∀ r ∈ l', RecD.ok r) ∧ l'.length ≤ 20 + i ∧ ∀ b, blk t7 = some b → Z.next ≤ b) ?_ ⟨w, l, rfl, by omega, hZ3, by simpa using a2, hok, by omega, fun b hb => (a4 b hb).elim (fun h => by simp [blk] at h; omega) (fun h => by simp at h; omega)⟩
  rintro i _ H' X hi hX ⟨t7, l', rfl, hi30, e1, hG, hok', hlen, hbl⟩
  simp only [F.pinfoldlaw11_Records_l1, nth_0, nth_1, nth_2, nth_3, nth_4, i64_lss, opt_some]
  have hend : Q t7 H' := hQ t7 H' l' (x1.trans e1) hG.toRows hok' (by omega)
  refine ifB_split (fun h => ?_) (fun h => ?_)
  · have hil : i < picks.length := by omega
    obtain ⟨b, o, f1, f2⟩ := (hpk.mono (x1.trans e1)).elem (i := i) (by simpa using hil)
    simp only [List.getElem_map] at f2
    generalize picks[i] = k at *
    have k1 := e1.cells hk1
    have hlr := (hvZ.mono (fun _ _ _ _ h e => RuleAt.mono h e) e1).lenSlc
    simp [f1, f2]
    by_cases h30 : (30 : Int) ≤ i
    · simp [h30]; exact hend
    · simp [h30, k1, hlr]
      by_cases hz : p.rules = []
      · simp [hz]; exact hend
      · have hpos : p.rules.length ≠ 0 := by simpa using hz
        simp [hz, k1, hlr]
        rw [i64_rem_nat _ _ hpos, opt_some]
        have hm : k.toNat % p.rules.length < p.rules.length := Nat.mod_lt _ (by omega)
        generalize k.toNat % p.rules.length = m at *
        obtain ⟨b2, o2, cs2, f3, f4, f5⟩ := hvZ.ix (i := m) hm
        have f4 : (H'.get b2).row o2 3 = some cs2 := by rw [e1.get (AH.lt_of_get (row_notdead f4))]; exact f4
        generalize p.rules[m] = x at *
        obtain ⟨hxl, w2, rfl, hw2⟩ := f5
        have hlw := hw2.lenSlc
        rw [List.length_map] at hlw
        simp [f3, f4, splice, AH.get_new, Nat.add_assoc, hw2.plain, hlw]
        have hlt := AH.lt_cells k1
        refine Records_l2 hE X x.conds hxl w2 Z hw2 H.next (H'.next + 1) t7 k pv _ i (by omega) (l'.map RecD.cells) (by simp; omega) ((e1.sub.new _).new _) ((hG.ext ((Ext.refl _).new _)).ext ((Ext.refl _).new _)) (AH.get_ge _ (by omega)) (fun h => by have := hG.blk_lt h; omega)
          ⟨x.number, 3221225534#32, BitVec.setWidth 64 k, List.replicate 6 0#64⟩ rfl (by rw [← AH.next_new, AH.get_new_self]; rfl) fun t7' H9 r' hr' g1 g2 g3 => ?_
        refine hX hil _ _ ⟨t7', l' ++ [r'], rfl, by omega, ?_, by simpa using g2, ?_, by simp; omega, fun b hb => (g3 b hb).elim (hbl b) fun h => by have := e1.1; simp at h; omega⟩
        · refine g1.ext ((e1.new _).new _) fun b hb => ?_
          simp only [List.mem_cons, mem_blkL] at hb
          rcases hb with rfl | hb
          · omega
          · exact hbl b hb
        · intro r hr
          rcases List.mem_append.1 hr with hr | hr
          · exact hok' r hr
          · simp at hr; subst hr; exact hr'
  · exact hend
end Go.AM
end
section
/- resources: what a stretch of code owns and changes, each with its blocks, none of them shared -/
namespace Go.AM
structure Res where
  fp : List Nat
  P : AH → Prop
  keep : ∀ {H H' : AH}, P H → (∀ b ∈ fp, H'.get b = H.get b) → P H'
structure Has (H0 Z H : AH) (L : List Res) : Prop where
  ext : Ext H0 H
  sub : Sub Z H
  all : ∀ r ∈ L, r.P H ∧ ∀ b ∈ r.fp, H0.next ≤ b ∧ b < H.next ∧ Z.get b = .dead
  nd : (L.flatMap Res.fp).Nodup
/-- One resource becomes another one. -/
structure Upd (r r' : Res) (H H' : AH) : Prop where
  only : Only r.fp H H'
  holds : r'.P H'
  fp : ∀ b ∈ r'.fp, (b ∈ r.fp ∨ H.next ≤ b) ∧ b < H'.next
  nd : r'.fp.Nodup
theorem Upd.trans {r r' r'' : Res} {H H' H'' : AH} (h : Upd r r' H H') (h' : Upd r' r'' H' H'') : Upd r r'' H H'' :=
  ⟨h.only.trans h'.only fun b hb => (h.fp b hb).1, h'.holds, fun b hb => ⟨by
    rcases (h'.fp b hb).1 with k | k
    · exact (h.fp b k).1
    · exact .inr (Nat.le_trans h.only.1 k), (h'.fp b hb).2⟩, h'.nd⟩
theorem Upd.ext {r r' : Res} {H H' H'' : AH} (h : Upd r r' H H') (e : Ext H' H'') : Upd r r' H H'' :=
  ⟨h.only.trans (e.only (F := [])) (by simp), r'.keep h.holds fun b hb => e.get (h.fp b hb).2, fun b hb => ⟨(h.fp b hb).1, Nat.lt_of_lt_of_le (h.fp b hb).2 e.1⟩, h.nd⟩
theorem Upd.after {r r' : Res} {H H' H'' : AH} (e : Ext H H') (h : Upd r r' H' H'') : Upd r r' H H'' :=
  ⟨(e.only (F := r.fp)).trans' h.only, h.holds, fun b hb => ⟨(h.fp b hb).1.imp id fun k => Nat.le_trans e.1 k, (h.fp b hb).2⟩, h.nd⟩
theorem Upd.refl {r : Res} {H : AH} (h : r.P H) (hf : ∀ b ∈ r.fp, b < H.next) (hn : r.fp.Nodup) : Upd r r H H := ⟨Only.refl _ _, h, fun b hb => ⟨.inl hb, hf b hb⟩, hn⟩
/-- More is frozen; of what lay ahead of a place, nothing more. -/
def Fz (n : Nat) (Z Z' : AH) : Prop := Sub Z Z' ∧ ∀ b, b < n → Z'.get b = Z.get b
theorem Fz.refl (n : Nat) (Z : AH) : Fz n Z Z := ⟨Sub.refl _, fun _ _ => rfl⟩
theorem Fz.trans {n : Nat} {A B C : AH} (h : Fz n A B) (h' : Fz n B C) : Fz n A C := ⟨h.1.trans h'.1, fun b hb => (h'.2 b hb).trans (h.2 b hb)⟩
theorem Fz.le {n m : Nat} {A B : AH} (h : Fz n A B) (hm : m ≤ n) : Fz m A B := ⟨h.1, fun b hb => h.2 b (Nat.lt_of_lt_of_le hb hm)⟩
/-- A new block, frozen at once. -/
theorem Sub.newfrozen {Z H : AH} (h : Sub Z H) (o : AObj) : ∃ Z', Fz H.next Z Z' ∧ Sub Z' (H.new o) ∧ Z'.get H.next = o := by
  have hs : Sub Z (H.new o) := h.new o
  have hlt : H.next < (H.new o).next := by simp
  refine ⟨Z.freeze (H.new o).next H.next ((H.new o).get H.next), ⟨hs.to_freeze hlt, fun b hb => ?_⟩, hs.freeze hlt, ?_⟩
  · rw [AH.get_freeze _ _ _ _ _ hs.1 hlt, if_neg (by omega)]
  · rw [AH.get_freeze _ _ _ _ _ hs.1 hlt, if_pos rfl, AH.get_new_self]
/-- What a callee froze, beside what was frozen. -/
theorem Fz.dead {n : Nat} {Z Z' : AH} (h : Fz n Z Z') {b : Nat} (hb : b < n) (hd : Z.get b = .dead) : Z'.get b = .dead := by rw [h.2 b hb, hd]
section
variable {H0 Z H H' : AH} {L : List Res}
theorem Has.begin (e : Ext H0 H) (s : Sub Z H) : Has H0 Z H [] := ⟨e, s, by simp, by simp⟩
/-- A callee has made what is frozen now. -/
theorem Has.refreeze (h : Has H0 Z H L) {Z' : AH} (e : Ext H H') (f : Fz H.next Z Z') (s : Sub Z' H') : Has H0 Z' H' L :=
  ⟨h.ext.trans e, s, fun r hr => by
    obtain ⟨h1, h2⟩ := h.all r hr
    exact ⟨r.keep h1 fun b hb => e.get (h2 b hb).2.1, fun b hb => ⟨(h2 b hb).1, Nat.lt_of_lt_of_le (h2 b hb).2.1 e.1, f.dead (h2 b hb).2.1 (h2 b hb).2.2⟩⟩, h.nd⟩
theorem Has.start (e : Ext H0 H) : Has H0 H H [] := ⟨e, Sub.refl _, by simp, by simp⟩
theorem Has.get (h : Has H0 Z H L) {k : Nat} {r : Res} (hk : L[k]? = some r) : r.P H := (h.all r (List.mem_of_getElem? hk)).1
theorem Has.lt (h : Has H0 Z H L) {k : Nat} {r : Res} (hk : L[k]? = some r) {b : Nat} (hb : b ∈ r.fp) : b < H.next := ((h.all r (List.mem_of_getElem? hk)).2 b hb).2.1
theorem Has.grow (h : Has H0 Z H L) (e : Ext H H') : Has H0 Z H' L :=
  ⟨h.ext.trans e, h.sub.ext e, fun r hr => by
    obtain ⟨h1, h2⟩ := h.all r hr
    exact ⟨r.keep h1 fun b hb => e.get (h2 b hb).2.1, fun b hb => ⟨(h2 b hb).1, Nat.lt_of_lt_of_le (h2 b hb).2.1 e.1, (h2 b hb).2.2⟩⟩, h.nd⟩
theorem Has.new (h : Has H0 Z H L) (o : AObj) : Has H0 Z (H.new o) L := h.grow ((Ext.refl H).new o)
theorem Has.add (h : Has H0 Z H L) (r : Res) (e : Ext H H') (hp : r.P H') (hf : ∀ b ∈ r.fp, H.next ≤ b ∧ b < H'.next) (hn : r.fp.Nodup) : Has H0 Z H' (L ++ [r]) := by
  have g := h.grow e
  refine ⟨g.ext, g.sub, fun x hx => ?_, ?_⟩
  · rcases List.mem_append.1 hx with hx | hx
    · exact g.all x hx
    · simp only [List.mem_singleton] at hx; subst hx
      exact ⟨hp, fun b hb => ⟨Nat.le_trans h.ext.1 (hf b hb).1, (hf b hb).2, AH.get_ge _ (Nat.le_trans h.sub.1 (hf b hb).1)⟩⟩
  · rw [List.flatMap_append, List.nodup_append]
    refine ⟨h.nd, by simpa using hn, fun a ha b hb => ?_⟩
    simp only [List.mem_flatMap] at ha
    obtain ⟨y, hy, ha⟩ := ha
    have := ((h.all y hy).2 a ha).2.1
    have := (hf b (by simpa using hb)).1
    omega
/-- Blocks of two places are not the same. -/
theorem nodup_disj : ∀ {L : List Res} (_ : (L.flatMap Res.fp).Nodup) {i j : Nat} {r s : Res} (_ : L[i]? = some r) (_ : L[j]? = some s) (_ : i ≠ j) {b : Nat} (_ : b ∈ r.fp), b ∉ s.fp
  | [], _, i, j, r, s, hi, _, _, b, _ => by simp at hi
  | x :: L, hn, i, j, r, s, hi, hj, hij, b, hb => by
    rw [List.flatMap_cons, List.nodup_append] at hn
    obtain ⟨_, h2, h3⟩ := hn
    intro hs
    cases i with
    | zero =>
      cases j with
      | zero => exact hij rfl
      | succ j =>
        simp at hi; subst hi
        exact h3 b hb b (List.mem_flatMap.2 ⟨s, List.mem_of_getElem? (by simpa using hj), hs⟩) rfl
    | succ i =>
      cases j with
      | zero =>
        simp at hj; subst hj
        exact h3 b hs b (List.mem_flatMap.2 ⟨r, List.mem_of_getElem? (by simpa using hi), hb⟩) rfl
      | succ j => exact nodup_disj h2 (by simpa using hi) (by simpa using hj) (by omega) hb hs
theorem nodup_set : ∀ {L : List Res} (_ : (L.flatMap Res.fp).Nodup) {n : Nat} (_ : ∀ r ∈ L, ∀ b ∈ r.fp, b < n) {k : Nat} {r r' : Res} (_ : L[k]? = some r) (_ : ∀ b ∈ r'.fp, b ∈ r.fp ∨ n ≤ b) (_ : r'.fp.Nodup), ((L.set k r').flatMap Res.fp).Nodup
  | [], _, n, _, k, r, r', hk, _, _ => by simp at hk
  | x :: L, hn, n, hlt, k, r, r', hk, hf, hr => by
    rw [List.flatMap_cons, List.nodup_append] at hn
    obtain ⟨h1, h2, h3⟩ := hn
    cases k with
    | zero =>
      simp at hk; subst hk
      rw [List.set_cons_zero, List.flatMap_cons, List.nodup_append]
      refine ⟨hr, h2, fun a ha b hb => ?_⟩
      rcases hf a ha with h | h
      · exact h3 a h b hb
      · obtain ⟨y, hy, hb⟩ := List.mem_flatMap.1 hb
        have := hlt y (by simp [hy]) b hb
        omega
    | succ k =>
      rw [List.set_cons_succ, List.flatMap_cons, List.nodup_append]
      refine ⟨h1, nodup_set h2 (fun r hr => hlt r (by simp [hr])) (by simpa using hk) hf hr, fun a ha b hb => ?_⟩
      obtain ⟨y, hy, hb⟩ := List.mem_flatMap.1 hb
      rcases List.mem_or_eq_of_mem_set hy with hy | e
      · exact h3 a ha b (List.mem_flatMap.2 ⟨y, hy, hb⟩)
      · subst e
        rcases hf b ‹b ∈ y.fp› with h | h
        · exact h3 a ha b (List.mem_flatMap.2 ⟨r, List.mem_of_getElem? (by simpa using hk), h⟩)
        · have := hlt x (by simp) a ha
          omega
theorem Has.step (h : Has H0 Z H L) {k : Nat} {r r' : Res} (hk : L[k]? = some r) (u : Upd r r' H H') : Has H0 Z H' (L.set k r') := by
  have hr := h.all r (List.mem_of_getElem? hk)
  refine ⟨u.only.ext h.ext fun b hb => (hr.2 b hb).1, h.sub.only u.only fun b hb => (hr.2 b hb).2.2, fun x hx => ?_, nodup_set h.nd (fun r hr b hb => ((h.all r hr).2 b hb).2.1) hk (fun b hb => (u.fp b hb).1) u.nd⟩
  obtain ⟨j, hj, hjx⟩ := List.getElem_of_mem hx
  by_cases e : k = j
  · subst e
    rw [List.getElem_set_self] at hjx
    subst hjx
    refine ⟨u.holds, fun b hb => ⟨?_, (u.fp b hb).2, ?_⟩⟩
    · rcases (u.fp b hb).1 with g | g
      · exact (hr.2 b g).1
      · exact Nat.le_trans h.ext.1 g
    · rcases (u.fp b hb).1 with g | g
      · exact (hr.2 b g).2.2
      · exact AH.get_ge _ (Nat.le_trans h.sub.1 g)
  · rw [List.getElem_set_ne e] at hjx
    have hj' : j < L.length := by simpa using hj
    have hjx' : L[j]? = some x := by rw [List.getElem?_eq_getElem hj', hjx]
    obtain ⟨h1, h2⟩ := h.all x (List.mem_of_getElem? hjx')
    refine ⟨x.keep h1 fun b hb => u.only.get (h2 b hb).2.1 (nodup_disj h.nd hjx' hk (Ne.symm e) hb), fun b hb => ⟨(h2 b hb).1, Nat.lt_of_lt_of_le (h2 b hb).2.1 u.only.1, (h2 b hb).2.2⟩⟩
theorem nodup_erase : ∀ {L : List Res} (_ : (L.flatMap Res.fp).Nodup) (k : Nat), ((L.eraseIdx k).flatMap Res.fp).Nodup
  | [], _, _ => by simp
  | x :: L, hn, 0 => by
    rw [List.flatMap_cons, List.nodup_append] at hn
    exact hn.2.1
  | x :: L, hn, k + 1 => by
    rw [List.flatMap_cons, List.nodup_append] at hn
    rw [List.eraseIdx_cons_succ, List.flatMap_cons, List.nodup_append]
    refine ⟨hn.1, nodup_erase hn.2.1 k, fun a ha b hb => ?_⟩
    obtain ⟨y, hy, hb⟩ := List.mem_flatMap.1 hb
    exact hn.2.2 a ha b (List.mem_flatMap.2 ⟨y, List.mem_of_mem_eraseIdx hy, hb⟩)
theorem Has.drop (h : Has H0 Z H L) (k : Nat) : Has H0 Z H (L.eraseIdx k) :=
  ⟨h.ext, h.sub, fun r hr => h.all r (List.mem_of_mem_eraseIdx hr), nodup_erase h.nd k⟩
theorem freeze_all (h : Sub Z H) : ∀ (l : List Nat), (∀ b ∈ l, b < H.next) → ∃ Z', Sub Z Z' ∧ Sub Z' H ∧ (∀ b ∈ l, Z'.get b = H.get b) ∧ ∀ b, b ∉ l → Z'.get b = Z.get b
  | [], _ => ⟨Z, Sub.refl _, h, by simp, fun _ _ => rfl⟩
  | b :: l, hl => by
    obtain ⟨Z', h1, h2, h3, h4⟩ := freeze_all h l fun x hx => hl x (by simp [hx])
    have hb := hl b (by simp)
    have hg : ∀ x, (Z'.freeze H.next b (H.get b)).get x = if x = b then H.get b else Z'.get x := fun x => AH.get_freeze _ _ _ _ _ h2.1 hb
    refine ⟨_, h1.trans (h2.to_freeze hb), h2.freeze hb, fun x hx => ?_, fun x hx => ?_⟩
    · rw [hg]
      split
      · rename_i e; rw [e]
      · rename_i e; exact h3 x (by simpa [e] using hx)
    · simp only [List.mem_cons, not_or] at hx
      rw [hg, if_neg hx.1, h4 x hx.2]
/-- A resource is never changed any more. -/
theorem Has.freeze (h : Has H0 Z H L) {k : Nat} {r : Res} (hk : L[k]? = some r) : ∃ Z', Fz H0.next Z Z' ∧ r.P Z' ∧ Has H0 Z' H (L.eraseIdx k) := by
  have hr := h.all r (List.mem_of_getElem? hk)
  obtain ⟨Z', h1, h2, h3, h4⟩ := freeze_all h.sub r.fp fun b hb => (hr.2 b hb).2.1
  refine ⟨Z', ⟨h1, fun b hb => h4 b fun hm => ?_⟩, r.keep hr.1 h3, h.ext, h2, fun x hx => ?_, nodup_erase h.nd k⟩
  · have := (hr.2 b hm).1
    omega
  obtain ⟨j, hjk, hj⟩ := List.mem_eraseIdx_iff_getElem?.1 hx
  obtain ⟨g1, g2⟩ := h.all x (List.mem_of_getElem? hj)
  exact ⟨g1, fun b hb => ⟨(g2 b hb).1, (g2 b hb).2.1, by rw [h4 b (nodup_disj h.nd hj hk hjk hb)]; exact (g2 b hb).2.2⟩⟩
end
/-! ### boxes, slices that grow, maps -/
def boxR (b : Nat) (c : List Value) : Res := ⟨[b], fun H => H.get b = .cells c none, fun h e => by rw [e _ (by simp)]; exact h⟩
def zH : AH := ⟨0, fun _ => .dead⟩
theorem zH_get (b : Nat) : zH.get b = .dead := by simp [AH.get, zH]
def growR (sz : Nat) (v : Value) (rows : List (List Value)) : Res := ⟨blkL v, fun H => Grow zH H sz v rows, fun h e => h.keep fun b hb _ => e b (mem_blkL.2 hb)⟩
def mapR {K V : Type} [DecidableEq K] (fk : K → Value) (fv : V → Value) (r : Nat) (l : List (K × V)) : Res := ⟨[r], fun H => MapAt fk fv H r l, fun h e => h.keep (e _ (by simp))⟩
section
variable {H0 Z H H' : AH} {L : List Res}
theorem blkL_nodup (v : Value) : (blkL v).Nodup := by unfold blkL; split <;> simp
theorem Has.box (h : Has H0 Z H L) {k b : Nat} {c : List Value} (hk : L[k]? = some (boxR b c)) : H.get b = .cells c none := h.get hk
theorem Has.box_lt (h : Has H0 Z H L) {k b : Nat} {c : List Value} (hk : L[k]? = some (boxR b c)) : b < H.next := AH.lt_cells (h.box hk)
theorem Has.newbox (h : Has H0 Z H L) (c : List Value) : Has H0 Z (H.new (.cells c none)) (L ++ [boxR H.next c]) :=
  h.add _ ((Ext.refl H).new _) (AH.get_new_self _ _) (by simp [boxR]) (by simp [boxR])
theorem Has.put (h : Has H0 Z H L) {k b : Nat} {c : List Value} (hk : L[k]? = some (boxR b c)) (c' : List Value) : Has H0 Z (H.put b (.cells c' none)) (L.set k (boxR b c')) :=
  h.step hk ⟨(Only.refl _ _).put (.inl (by simp [boxR])) _, AH.get_put_self _ _ (h.box_lt hk), fun x hx => ⟨.inl hx, by simp [boxR] at hx; subst hx; exact h.box_lt hk⟩, by simp [boxR]⟩
theorem Has.nils (h : Has H0 Z H L) (sz : Nat) : Has H0 Z H (L ++ [growR sz nilS []]) :=
  h.add _ (Ext.refl H) (Grow.nil _ _ _) (by simp [growR, blkL, blk]) (by simp [growR, blkL, blk])
theorem Has.slice (h : Has H0 Z H L) {k sz : Nat} {v : Value} {rows : List (List Value)} (hk : L[k]? = some (growR sz v rows)) : Grow zH H sz v rows := h.get hk
theorem Has.rows (h : Has H0 Z H L) {k sz : Nat} {v : Value} {rows : List (List Value)} (hk : L[k]? = some (growR sz v rows)) : Rows H sz v rows := (h.slice hk).toRows
theorem Grow.upd {sz : Nat} {v v' : Value} {rows rows' : List (List Value)} (g : Grew' H H' v v') (h' : Grow zH H' sz v' rows') : Upd (growR sz v rows) (growR sz v' rows') H H' :=
  ⟨g.1, h', fun b hb => ⟨(g.2 b (mem_blkL.1 hb)).imp mem_blkL.2 id, h'.blk_lt (mem_blkL.1 hb)⟩, blkL_nodup v'⟩
theorem Has.app1 (h : Has H0 Z H L) {k sz : Nat} {v : Value} {rows : List (List Value)} (hk : L[k]? = some (growR sz v rows)) {bytes : Nat} (new : List Value) (hl : new.length = sz) (hp : new.all plain1 = true) (hs : sz ≠ 0) (hb : bytes ≠ 0) (h1 : (rows.length + 1) * bytes ≤ 2 ^ 46) :
    ∃ v' H', AM.app sz bytes v (slc H.next 0 1 1) (H.new (.cells new none)) = some (v', H') ∧ plain1 v' = true ∧ Has H0 Z H' (L.set k (growR sz v' (rows ++ [new]))) := by
  obtain ⟨v', H', a1, a2, a3⟩ := (h.slice hk).app1 (Nat.zero_le _) new hl hp hs hb h1
  exact ⟨v', H', a1, a2.plain, h.step hk (Grow.upd a3 a2)⟩
theorem Has.app (h : Has H0 Z H L) {k sz : Nat} {v x : Value} {rows new : List (List Value)} (hk : L[k]? = some (growR sz v rows)) {bytes : Nat} (hx : Rows H sz x new) (hp : ∀ r ∈ new, r.all plain1 = true) (hs : sz ≠ 0) (hb : bytes ≠ 0) (h1 : (rows.length + new.length) * bytes ≤ 2 ^ 46) (h2 : rows.length + new.length < 2 ^ 62) :
    ∃ v' H', AM.app sz bytes v x H = some (v', H') ∧ plain1 v' = true ∧ Has H0 Z H' (L.set k (growR sz v' (rows ++ new))) := by
  obtain ⟨v', H', a1, a2, a3⟩ := (h.slice hk).app (Nat.zero_le _) hx hp hs hb h1 h2
  exact ⟨v', H', a1, a2.plain, h.step hk (Grow.upd a3 a2)⟩
theorem Has.newroom (h : Has H0 Z H L) (sz : Nat) : Has H0 Z (H.new (.cells [] none)) (L ++ [growR sz (slc H.next 0 0 0) []]) :=
  h.add _ ((Ext.refl H).new _) (Grow.room (zH_get _) (AH.get_new_self _ _) (by simp)) (by simp [growR, blkL, blk]) (by simp [growR, blkL, blk])
theorem Has.mapAt {K V : Type} [DecidableEq K] {fk : K → Value} {fv : V → Value} (h : Has H0 Z H L) {k r : Nat} {l : List (K × V)} (hk : L[k]? = some (mapR fk fv r l)) : MapAt fk fv H r l := h.get hk
theorem Has.newmap {K V : Type} [DecidableEq K] (fk : K → Value) (fv : V → Value) (h : Has H0 Z H L) : Has H0 Z (H.new (.map [] 0 true)) (L ++ [mapR fk fv H.next ([] : List (K × V))]) :=
  h.add _ ((Ext.refl H).new _) (MapAt.new H) (by simp [mapR]) (by simp [mapR])
theorem Has.mapset {K V : Type} [DecidableEq K] {fk : K → Value} {fv : V → Value} (h : Has H0 Z H L) {n r kd : Nat} {l : List (K × V)} (hn : L[n]? = some (mapR fk fv r l)) (hk : ∀ a b, sameCell kd (fk a) (fk b) = some (decide (a = b))) (k : K) (v : V) :
    ∃ H', setMap kd (.map (some r)) (fk k) (fv v) H = some H' ∧ Has H0 Z H' (L.set n (mapR fk fv r (aset k v l))) := by
  have hm := h.mapAt hn
  obtain ⟨o, h1, h2, h3⟩ := hm.set hk k v
  exact ⟨_, h2, h.step hn ⟨(Only.refl _ _).put (.inl (by simp [mapR])) _, h3, fun x hx => ⟨.inl hx, by simp [mapR] at hx; subst hx; exact hm.lt⟩, by simp [mapR]⟩⟩
end
end Go.AM
end
section
namespace Go.AM
variable {E : Sy} {H : AH} {Q : Value → AH → Prop}
theorem CondD.rcells_plain (c : CondD) : c.rcells.all plain1 = true := rfl
theorem CondD.rcells_len (c : CondD) : c.rcells.length = 4 := rfl
abbrev refL (b2 b3 : Nat) (c2 : List Value) (nm : Value) (d : BitVec 32) (rv hd pv qv : Value) (rows prows qrows : List (List Value)) : List Res :=
  [boxR b2 c2, boxR b3 [nm, u32 d, rv, hd, pv, qv], growR 3 rv rows, growR 2 pv prows, growR 2 qv qrows]
theorem Ref_l2 (hE : Fold E) (X0 : List Value → AH → Prop) (b1 b2 b3 b6 : Nat) (t22 t23 : Value) (i : Nat) (hi : i < 80) (x : RuleD) (hx : x.conds.length ≤ 20) (w : Value) (H0 Z : AH) (hw : Rows Z 4 w (x.conds.map CondD.cells)) (c2 : List Value) (nm : Value) (d : BitVec 32) (rv hd pv qv : Value) (rows prows qrows : List (List Value))
    (hr : rows.length = i) (hS : Has H0 Z H (refL b2 b3 c2 nm d rv hd pv qv rows prows qrows ++ [boxR b6 [u32 x.number, u32 x.action, nilS]]))
    (hX0 : ∀ Z' H' rv' row, Fz H0.next Z Z' → RRuleAt Z' x row → Has H0 Z' H' (refL b2 b3 c2 nm d rv' hd pv qv (rows ++ [row]) prows qrows) → X0 [ptr b1 0, ptr b2 0, ptr b3 0, t22, t23, vi ((i + 1 : Nat) : Int)] H') :
    LoopL (fun l H X1 => F.pinfoldlaw09_Ref_l2 E Q X0 (nth l 0) (nth l 1) (nth l 2) (nth l 3) (nth l 4) (nth l 5) (nth l 6) (nth l 7) (nth l 8) (nth l 9) H X1) [ptr b1 0, ptr b2 0, ptr b3 0, ptr b6 0, t22, t23, vi i, w, vi x.conds.length, vi 0] H := by
  refine LoopL.count x.conds.length (fun j s H' => ∃ cv, s = [ptr b1 0, ptr b2 0, ptr b3 0, ptr b6 0, t22, t23, vi i, w, vi x.conds.length, vi j] ∧ plain1 cv = true ∧ Has H0 Z H' (refL b2 b3 c2 nm d rv hd pv qv rows prows qrows ++ [boxR b6 [u32 x.number, u32 x.action, cv], growR 4 cv ((x.conds.take j).map CondD.rcells)])) ?_ ⟨nilS, rfl, rfl, hS.nils 4⟩
  rintro j _ H' X hj hX ⟨cv, rfl, hcv, h1⟩
  have k6 := h1.box (k := 5) rfl
  have h6 := h1.box_lt (k := 5) rfl
  simp only [F.pinfoldlaw09_Ref_l2, nth_0, nth_1, nth_2, nth_3, nth_4, nth_5, nth_6, nth_7, nth_8, nth_9, i64_lss, opt_some]
  refine ifB_split (fun h => ?_) (fun h => ?_)
  · have hjl : j < x.conds.length := by omega
    obtain ⟨b, o, f1, f2⟩ := (hw.sub h1.sub).ix (i := j) (by simpa using hjl)
    simp only [List.getElem_map] at f2
    have htk : (x.conds.take (j + 1)).map CondD.rcells = (x.conds.take j).map CondD.rcells ++ [x.conds[j].rcells] := by
      rw [List.take_succ_eq_append_getElem hjl, List.map_append]; rfl
    generalize x.conds[j] = c at *
    simp [-buildS_eq, f1, f2, CondD.cells, splice, AH.get_new, Nat.ne_of_lt h6, k6]
    have h2 := h1.new (.cells c.cells none)
    refine S.pinfoldlaw09_RefCond hE c fun H3 e3 => ?_
    have h3 := h2.grow e3
    have k63 := h3.box (k := 5) rfl
    obtain ⟨v', H5, a1, a2, a3⟩ := h3.app1 (k := 6) rfl (bytes := 32) c.rcells c.rcells_len c.rcells_plain (by omega) (by omega) (by simp; omega)
    have k65 := a3.box (k := 5) rfl
    have h65 := a3.box_lt (k := 5) rfl
    rw [k63]
    refine ⟨rfl, ?_⟩
    rw [buildS_one 4 [_, _, _, _] c.rcells rfl rfl, mk_some, mkSlc_eq, a1]
    simp [a2, k65]
    rw [i64_inc (by omega), opt_some]
    have h4 := a3.put (k := 5) rfl [u32 x.number, u32 x.action, v']
    refine hX hjl _ _ ⟨v', rfl, a2, ?_⟩
    rw [htk]
    exact h4
  · have : j = x.conds.length := by omega
    subst this
    rw [List.take_length] at h1
    have k3 := h1.box (k := 1) rfl
    obtain ⟨v', H8, a1, a2, a3⟩ := h1.app1 (k := 2) rfl (bytes := 32) [u32 x.number, u32 x.action, cv] rfl (by simp [hcv]) (by omega) (by omega) (by omega)
    have k38 := a3.box (k := 1) rfl
    have h38 := a3.box_lt (k := 1) rfl
    simp only [addOff_ptr, opt_some, load1_ptr, loadN_ptr, k3, k6, row_all [u32 x.number, u32 x.action, cv] none 3 rfl, cell_cells, Option.map_some]
    simp only [Nat.zero_add, List.getElem?_cons_succ, List.getElem?_cons_zero, opt_some]
    rw [buildS_one 3 [_, _, _] [u32 x.number, u32 x.action, cv] rfl rfl, mk_some, mkSlc_eq, a1]
    simp [a2, k38]
    rw [i64_inc (by omega), opt_some]
    have h4 := a3.put (k := 1) rfl [nm, u32 d, v', hd, pv, qv]
    obtain ⟨Z', z1, z2, z3⟩ := h4.freeze (k := 6) rfl
    exact hX0 Z' _ v' [u32 x.number, u32 x.action, cv] z1 ⟨by omega, cv, rfl, z2.toRows⟩ (z3.drop 5)
def rpath (p : List UInt8 × BitVec 16) : List Value := [str p.1, vi (p.2.toNat : Int)]
def rport (p : BitVec 16 × BitVec 16) : List Value := [vi (p.1.toNat : Int), vi (p.2.toNat : Int)]
theorem Ref_l4 (b2 b3 : Nat) (c2 : List Value) (hc2 : c2.length = 6) (l : List (BitVec 16 × BitVec 16)) (hn : l.length ≤ 50) (sv : Value) (H0 Z : AH) (hsv : Rows Z 2 sv (l.map fun p => [u16 p.1, u16 p.2])) (nm : Value) (d : BitVec 32) (rv hd pv : Value) (rows prows : List (List Value)) (hnm : plain1 nm = true) (hhd : plain1 hd = true)
    (hS : Has H0 Z H (refL b2 b3 c2 nm d rv hd pv nilS rows prows []))
    (hQ : ∀ H' qv c2, Has H0 Z H' (refL b2 b3 c2 nm d rv hd pv qv rows prows (l.map rport)) → Q (.agg #[nm, u32 d, rv, hd, pv, qv]) H') :
    LoopL (fun l H X0 => F.pinfoldlaw09_Ref_l4 E Q (nth l 0) (nth l 1) (nth l 2) (nth l 3) (nth l 4) H X0) [ptr b2 0, ptr b3 0, sv, vi l.length, vi 0] H := by
  refine LoopL.count l.length (fun j s H' => ∃ qv, s = [ptr b2 0, ptr b3 0, sv, vi l.length, vi j] ∧ plain1 qv = true ∧ Has H0 Z H' (refL b2 b3 c2 nm d rv hd pv qv rows prows ((l.take j).map rport))) ?_ ⟨nilS, rfl, rfl, hS⟩
  rintro j _ H' X hj hX ⟨qv, rfl, hqv, h1⟩
  have k3 := h1.box (k := 1) rfl
  have l3 := h1.box_lt (k := 1) rfl
  have k2 := h1.box (k := 0) rfl
  simp only [F.pinfoldlaw09_Ref_l4, nth_0, nth_1, nth_2, nth_3, nth_4, i64_lss, opt_some]
  refine ifB_split (fun h => ?_) (fun h => ?_)
  · have hjl : j < l.length := by omega
    obtain ⟨b, o, f1, f2⟩ := (hsv.sub h1.sub).ix (i := j) (by simpa using hjl)
    simp only [List.getElem_map] at f2
    have htk : (l.take (j + 1)).map rport = (l.take j).map rport ++ [rport l[j]] := by
      rw [List.take_succ_eq_append_getElem hjl, List.map_append]; rfl
    generalize l[j] = c at *
    simp [-buildS_eq, f1, f2, splice, AH.get_new, Nat.ne_of_lt l3, k3]
    have h2 := h1.new (.cells [u16 c.1, u16 c.2] none)
    obtain ⟨v', H5, a1, a2, a3⟩ := h2.app1 (k := 4) rfl (bytes := 16) (rport c) rfl rfl (by omega) (by omega) (by simp; omega)
    have e := buildS_one 2 [vi 0, vi 0] (rport c) rfl rfl
    simp only [rport] at e a1 a3 htk
    rw [e, mk_some, mkSlc_eq, a1]
    have k35 := a3.box (k := 1) rfl
    simp [a2, k35]
    rw [i64_inc (by omega), opt_some]
    refine hX hjl _ _ ⟨v', rfl, a2, ?_⟩
    rw [htk]
    exact a3.put (k := 1) rfl [nm, u32 d, rv, hd, pv, v']
  · have : j = l.length := by omega
    subst this
    rw [List.take_length] at h1
    have hrv := (h1.slice (k := 2) rfl).plain
    have hpv := (h1.slice (k := 3) rfl).plain
    have e9 := row_all [nm, u32 d, rv, hd, pv, qv] none 6 rfl
    have l2 := h1.box_lt (k := 0) rfl
    have h4 := h1.put (k := 0) rfl [nm, u32 d, rv, hd, pv, qv]
    simp [k3, e9, k2, hc2, hnm, hhd, hrv, hpv, hqv, l2, splice]
    have e0 : List.drop 6 c2 = [] := List.drop_eq_nil_of_le (by omega)
    rw [e0]
    exact hQ _ qv _ h4
theorem Ref_l3 (b1 b2 b3 : Nat) (c2 : List Value) (hc2 : c2.length = 6) (l : List (List UInt8 × BitVec 16)) (hn : l.length ≤ 50) (sv : Value) (l2 : List (BitVec 16 × BitVec 16)) (hn2 : l2.length ≤ 50) (sv2 : Value) (H0 Z : AH) (hsv : Rows Z 2 sv (l.map fun p => [str p.1, u16 p.2])) (hsv2 : Rows Z 2 sv2 (l2.map fun p => [u16 p.1, u16 p.2]))
    (c1 : List Value) (h1 : Z.get b1 = .cells c1 none) (hc1 : c1[5]? = some sv2) (nm : Value) (d : BitVec 32) (rv hd : Value) (rows : List (List Value)) (hnm : plain1 nm = true) (hhd : plain1 hd = true)
    (hS : Has H0 Z H (refL b2 b3 c2 nm d rv hd nilS nilS rows [] []))
    (hQ : ∀ H' pv qv c2, Has H0 Z H' (refL b2 b3 c2 nm d rv hd pv qv rows (l.map rpath) (l2.map rport)) → Q (.agg #[nm, u32 d, rv, hd, pv, qv]) H') :
    LoopL (fun l H X0 => F.pinfoldlaw09_Ref_l3 E Q (nth l 0) (nth l 1) (nth l 2) (nth l 3) (nth l 4) (nth l 5) H X0) [ptr b1 0, ptr b2 0, ptr b3 0, sv, vi l.length, vi 0] H := by
  refine LoopL.count l.length (fun j s H' => ∃ pv, s = [ptr b1 0, ptr b2 0, ptr b3 0, sv, vi l.length, vi j] ∧ Has H0 Z H' (refL b2 b3 c2 nm d rv hd pv nilS rows ((l.take j).map rpath) [])) ?_ ⟨nilS, rfl, hS⟩
  rintro j _ H' X hj hX ⟨pv, rfl, g1⟩
  have k3 := g1.box (k := 1) rfl
  have l3 := g1.box_lt (k := 1) rfl
  simp only [F.pinfoldlaw09_Ref_l3, nth_0, nth_1, nth_2, nth_3, nth_4, nth_5, i64_lss, opt_some]
  refine ifB_split (fun h => ?_) (fun h => ?_)
  · have hjl : j < l.length := by omega
    obtain ⟨b, o, f1, f2⟩ := (hsv.sub g1.sub).ix (i := j) (by simpa using hjl)
    simp only [List.getElem_map] at f2
    have htk : (l.take (j + 1)).map rpath = (l.take j).map rpath ++ [rpath l[j]] := by
      rw [List.take_succ_eq_append_getElem hjl, List.map_append]; rfl
    generalize l[j] = c at *
    simp [-buildS_eq, f1, f2, splice, AH.get_new, Nat.ne_of_lt l3, k3]
    have h2 := g1.new (.cells [str c.1, u16 c.2] none)
    obtain ⟨v', H5, a1, a2, a3⟩ := h2.app1 (k := 3) rfl (bytes := 24) (rpath c) rfl rfl (by omega) (by omega) (by simp; omega)
    have e := buildS_one 2 [str [], vi 0] (rpath c) rfl rfl
    simp only [rpath] at e a1 a3 htk
    rw [e, mk_some, mkSlc_eq, a1]
    have k35 := a3.box (k := 1) rfl
    simp [a2, k35]
    rw [i64_inc (by omega), opt_some]
    refine hX hjl _ _ ⟨v', rfl, ?_⟩
    rw [htk]
    exact a3.put (k := 1) rfl [nm, u32 d, rv, hd, v', nilS]
  · have : j = l.length := by omega
    subst this
    rw [List.take_length] at g1
    have hl2 := (hsv2.sub g1.sub).lenSlc
    rw [List.length_map] at hl2
    simp [g1.sub.cells h1, hc1, hl2]
    exact Ref_l4 b2 b3 c2 hc2 l2 hn2 sv2 H0 Z hsv2 nm d rv hd pv rows _ hnm hhd g1 fun H'' qv c2 g => hQ _ _ _ _ g
def RPolXAt (H : AH) (x : PolX) (cs : List Value) : Prop := ∃ v pv qv, cs = [str x.name, u32 x.pol.default, v, vi x.handled.toNat, pv, qv] ∧ SliceOf RRuleAt H 3 v x.pol.rules ∧ Rows H 2 pv (x.paths.map rpath) ∧ Rows H 2 qv (x.ports.map rport)
theorem RPolXAt.sub {H H' : AH} {x : PolX} {cs : List Value} (h : RPolXAt H x cs) (e : Sub H H') : RPolXAt H' x cs := by
  obtain ⟨v, pv, qv, h1, h2, h3, h4⟩ := h
  exact ⟨v, pv, qv, h1, h2.sub (fun _ _ _ _ h e => RRuleAt.sub h e) e, h3.sub e, h4.sub e⟩
theorem RPolXAt.at_ {x : PolX} {cs : List Value} (h : RPolXAt H x cs) (hb : x.pol.rules.length < 2 ^ 63) : RPolAt H x.pol cs := by
  obtain ⟨v, pv, qv, rfl, h2, _⟩ := h
  exact ⟨hb, v, rfl, rfl, h2⟩
theorem S.pinfoldlaw09_RefZ (hE : Fold E) (x : PolX) (cs : List Value) (Z0 : AH) (hz : Sub Z0 H) (hp : PolXAt Z0 x cs) (hf : x.few) (hQ : ∀ Z' H' cs', Ext H H' → Fz H.next Z0 Z' → Sub Z' H' → RPolXAt Z' x cs' → Q (.agg cs'.toArray) H') : E.call (E.fid i.pinfoldlaw09_Ref) [.agg cs.toArray] H Q := by
  apply hE.pinfoldlaw09_Ref
  obtain ⟨v, pv, qv, rfl, hv, hpv, hqv⟩ := hp
  obtain ⟨f1, f2, f3, f4⟩ := hf
  have hl := (hv.sub (fun _ _ _ _ h e => RuleAt.sub h e) hz).lenSlc
  simp [F.pinfoldlaw09_Ref, AH.get_new, splice, Nat.add_assoc, hl]
  obtain ⟨Z, zf, zs, k1⟩ := hz.newfrozen (.cells [str x.name, u32 x.pol.default, v, u16 x.handled, pv, qv] none)
  have hS := (((((Has.begin ((Ext.refl H).new _) zs).newbox [str [], u32 0#32, nilS, .int .i64 0, nilS, nilS]).newbox [str x.name, u32 x.pol.default, nilS, vi x.handled.toNat, nilS, nilS]).nils 3).nils 2).nils 2
  simp only [AH.next_new, List.nil_append, List.cons_append] at hS
  refine LoopL.count x.pol.rules.length (fun j s H' => ∃ Z' rv rows, s = [ptr H.next 0, ptr (H.next + 1) 0, ptr (H.next + 2) 0, v, vi x.pol.rules.length, vi j] ∧ Fz H.next Z Z' ∧ Has H Z' H' (refL (H.next + 1) (H.next + 2) [str [], u32 0#32, nilS, .int .i64 0, nilS, nilS] (str x.name) x.pol.default rv (vi x.handled.toNat) nilS nilS rows [] []) ∧
      rows.length = j ∧ ∀ i (h1 : i < x.pol.rules.length) (h2 : i < rows.length), RRuleAt Z' x.pol.rules[i] rows[i]) ?_ ⟨Z, nilS, [], rfl, Fz.refl _ _, hS, rfl, fun i _ h => by simp at h⟩
  rintro j _ H' X hj hX ⟨Z', rv, rows, rfl, z1, g1, g2, g3⟩
  have k1' := (z1.1.trans g1.sub).cells k1
  have hvZ := (hv.sub (fun _ _ _ _ h e => RuleAt.sub h e) (zf.1.trans z1.1))
  simp only [F.pinfoldlaw09_Ref_l1, nth_0, nth_1, nth_2, nth_3, nth_4, nth_5, i64_lss, opt_some]
  refine ifB_split (fun h => ?_) (fun h => ?_)
  · have hjl : j < x.pol.rules.length := by omega
    obtain ⟨b, o, ccs, m1, m2, m3⟩ := hvZ.ix (i := j) hjl
    have m2 : (H'.get b).row o 3 = some ccs := by rw [g1.sub.2 b (row_notdead m2)]; exact m2
    have hcl := f2 x.pol.rules[j] (List.getElem_mem hjl)
    obtain ⟨hxl, w, rfl, hw⟩ := m3
    have hlw := (hw.sub g1.sub).lenSlc
    rw [List.length_map] at hlw
    simp [m1, m2, splice, AH.get_new, hw.plain, hlw, Nat.add_assoc]
    have g4 := (g1.new (.cells [u32 x.pol.rules[j].number, u32 x.pol.rules[j].action, w] none)).newbox [u32 x.pol.rules[j].number, u32 x.pol.rules[j].action, nilS]
    refine Ref_l2 hE X H.next (H.next + 1) (H.next + 2) (H'.next + 1) v _ j (by omega) x.pol.rules[j] hcl w H Z' hw _ _ _ rv _ nilS nilS rows [] [] g2 g4 fun Z2 H2 rv' row q1 q2 q3 => ?_
    refine hX hjl _ _ ⟨Z2, rv', rows ++ [row], rfl, z1.trans q1, q3, by simp [g2], fun i h1 h2 => ?_⟩
    by_cases e : i < rows.length
    · rw [List.getElem_append_left e]
      exact (g3 i h1 e).sub q1.1
    · have : i = j := by simp at h2; omega
      subst this
      rw [List.getElem_append_right (by omega)]
      simpa [g2] using q2
  · have : j = x.pol.rules.length := by omega
    subst this
    have hlp := (hpv.sub (zf.1.trans (z1.1.trans g1.sub))).lenSlc
    rw [List.length_map] at hlp
    simp [k1', hlp]
    refine Ref_l3 H.next (H.next + 1) (H.next + 2) _ rfl x.paths f3 pv x.ports f4 qv H Z' (hpv.sub (zf.1.trans z1.1)) (hqv.sub (zf.1.trans z1.1)) _ (z1.1.cells k1) rfl (str x.name) x.pol.default rv (vi x.handled.toNat) rows rfl rfl g1 fun H2 pv' qv' c2 q => ?_
    obtain ⟨Z2, y1, y2, y3⟩ := q.freeze (k := 2) rfl
    obtain ⟨Z3, y4, y5, y6⟩ := y3.freeze (k := 2) rfl
    obtain ⟨Z4, y7, y8, y9⟩ := y6.freeze (k := 2) rfl
    have r1 : Rows Z4 3 rv rows := (Grow.toRows (show Grow zH Z2 3 rv rows from y2)).sub (y4.1.trans y7.1)
    have r2 : Rows Z4 2 pv' (x.paths.map rpath) := (Grow.toRows (show Grow zH Z3 2 pv' _ from y5)).sub y7.1
    have r3 : Rows Z4 2 qv' (x.ports.map rport) := Grow.toRows (show Grow zH Z4 2 qv' _ from y8)
    exact hQ Z4 H2 [str x.name, u32 x.pol.default, rv, vi x.handled.toNat, pv', qv'] q.ext (((zf.trans z1).trans y1).trans (y4.trans y7)) y9.sub ⟨rv, pv', qv', rfl, ⟨rows, r1, g2, fun i a b => (g3 i a b).sub (y1.1.trans (y4.1.trans y7.1))⟩, r2, r3⟩
theorem S.pinfoldlaw09_Ref (hE : Fold E) (x : PolX) (cs : List Value) (hp : PolXAt H x cs) (hf : x.few) (hQ : ∀ H' cs', Ext H H' → RPolXAt H' x cs' → Q (.agg cs'.toArray) H') : E.call (E.fid i.pinfoldlaw09_Ref) [.agg cs.toArray] H Q :=
  S.pinfoldlaw09_RefZ hE x cs H (Sub.refl _) hp hf fun _ H' cs' e _ s h => hQ H' cs' e (h.sub s)
end Go.AM
end
section
namespace Go.AM
variable {E : Sy} {H : AH} {Q : Value → AH → Prop}
structure SRule where
  call : BitVec 8
  action : BitVec 8
  errno : BitVec 8
  conds : List SCond
structure Small where
  name : BitVec 8
  dflt : BitVec 8
  errno : BitVec 8
  rules : List SRule
  handled : BitVec 16
  paths : List (BitVec 8)
  rights : List (BitVec 16)
  ports : List (BitVec 8)
def SRuleAt (H : AH) (r : SRule) (cs : List Value) : Prop := r.conds.length < 2 ^ 63 ∧ ∃ w, cs = [u8 r.call, u8 r.action, u8 r.errno, w] ∧ Rows H 4 w (r.conds.map SCond.cells)
theorem SRuleAt.sub {H H' : AH} {r : SRule} {cs : List Value} (h : SRuleAt H r cs) (e : Sub H H') : SRuleAt H' r cs := ⟨h.1, h.2.choose, h.2.choose_spec.1, h.2.choose_spec.2.sub e⟩
def SmallAt (H : AH) (s : Small) (cs : List Value) : Prop := ∃ v pv rv qv, cs = [u8 s.name, u8 s.dflt, u8 s.errno, v, u16 s.handled, pv, rv, qv] ∧ SliceOf SRuleAt H 4 v s.rules ∧ Vals H pv (s.paths.map u8) ∧ Vals H rv (s.rights.map u16) ∧ Vals H qv (s.ports.map u8) ∧
  s.rules.length < 2 ^ 63 ∧ s.paths.length < 2 ^ 63 ∧ s.rights.length < 2 ^ 63 ∧ s.ports.length < 2 ^ 63
theorem SmallAt.sub {H H' : AH} {s : Small} {cs : List Value} (h : SmallAt H s cs) (e : Sub H H') : SmallAt H' s cs := by
  obtain ⟨v, pv, rv, qv, h1, h2, h3, h4, h5, h6⟩ := h
  exact ⟨v, pv, rv, qv, h1, h2.sub (fun _ _ _ _ h e => SRuleAt.sub h e) e, Rows.sub h3 e, Rows.sub h4 e, Rows.sub h5 e, h6⟩
/-! ### what it makes -/
def callNumber (n : Nat) : BitVec 32 := BitVec.ofNat 32 (callTable.getD n (0, [], 0)).1
def SRule.rule (r : SRule) : RuleD := ⟨callNumber (r.call.toNat % 30), saction r.action r.errno, (r.conds.take 4).map SCond.cond⟩
def Small.hd (s : Small) : BitVec 16 := s.handled &&& 51199#16
def Small.right (s : Small) (i : Nat) (kind : BitVec 16) : BitVec 16 := match s.rights[i]? with | none => s.hd &&& kind | some r => r &&& s.hd &&& kind
def stepPath (s : Small) (l : List (List UInt8 × BitVec 16)) (i : Nat) : List (List UInt8 × BitVec 16) :=
  let p := sdirs.getD ((s.paths.getD i 0#8).toNat % 6) []
  if p ∉ l.map Prod.fst ∧ s.right i 2047#16 ≠ 0#16 then l ++ [(p, s.right i 2047#16)] else l
def stepPort (s : Small) (l : List (BitVec 16 × BitVec 16)) (i : Nat) : List (BitVec 16 × BitVec 16) :=
  let n : BitVec 16 := (80#8 + s.ports.getD i 0#8 % 4#8).setWidth 16
  if n ∉ l.map Prod.fst ∧ s.right i 49152#16 ≠ 0#16 then l ++ [(n, s.right i 49152#16)] else l
def Small.pathsTo (s : Small) (n : Nat) : List (List UInt8 × BitVec 16) := (List.range n).foldl (stepPath s) []
def Small.portsTo (s : Small) (n : Nat) : List (BitVec 16 × BitVec 16) := (List.range n).foldl (stepPort s) []
def snames : List (List UInt8) := [[112], [112, 111, 108, 45, 49], [120, 95, 121]]
def Small.pol (s : Small) : PolX := ⟨snames.getD (s.name % 3#8).toNat [], ⟨saction s.dflt s.errno, (s.rules.take 12).map SRule.rule⟩, s.hd, s.pathsTo s.paths.length, s.portsTo s.ports.length⟩
theorem pathsTo_succ (s : Small) (n : Nat) : s.pathsTo (n + 1) = stepPath s (s.pathsTo n) n := by simp [Small.pathsTo, List.range_succ]
theorem portsTo_succ (s : Small) (n : Nat) : s.portsTo (n + 1) = stepPort s (s.portsTo n) n := by simp [Small.portsTo, List.range_succ]
theorem step_nodup {α β : Type} [DecidableEq α] (l : List (α × β)) (a : α) (b : β) (h : a ∉ l.map Prod.fst) (hn : (l.map Prod.fst).Nodup) : ((l ++ [(a, b)]).map Prod.fst).Nodup := by
  rw [List.map_append, List.nodup_append]
  refine ⟨hn, by simp, fun x hx y hy => ?_⟩
  simp at hy
  subst hy
  rintro rfl
  exact h hx
theorem pathsTo_ok (s : Small) : ∀ n, ((s.pathsTo n).map Prod.fst).Nodup ∧ ∀ x ∈ (s.pathsTo n).map Prod.fst, x ∈ sdirs
  | 0 => by simp [Small.pathsTo]
  | n + 1 => by
    obtain ⟨h1, h2⟩ := pathsTo_ok s n
    rw [pathsTo_succ]
    unfold stepPath
    simp only
    split
    · rename_i h
      refine ⟨step_nodup _ _ _ h.1 h1, fun x hx => ?_⟩
      rw [List.map_append, List.mem_append] at hx
      rcases hx with hx | hx
      · exact h2 x hx
      · simp only [List.map_cons, List.map_nil, List.mem_singleton] at hx
        subst hx
        have : (s.paths.getD n 0#8).toNat % 6 < sdirs.length := Nat.mod_lt _ (by decide)
        rw [List.getD_eq_getElem?_getD, List.getElem?_eq_getElem this]
        exact List.getElem_mem this
    · exact ⟨h1, h2⟩
theorem pathsTo_len (s : Small) (n : Nat) : (s.pathsTo n).length ≤ 6 := by
  have := nodup_le _ sdirs (pathsTo_ok s n).1 (pathsTo_ok s n).2
  simpa [sdirs] using this
def portNs : List (BitVec 16) := [80#16, 81#16, 82#16, 83#16]
theorem portN (x : BitVec 8) : ((80#8 + x % 4#8).setWidth 16 : BitVec 16) ∈ portNs := by
  have h : ∀ y : BitVec 8, y.toNat < 4 → ((80#8 + y).setWidth 16 : BitVec 16) ∈ portNs := by
    intro y hy
    have : y = BitVec.ofNat 8 y.toNat := by simp
    rw [this]
    generalize y.toNat = k at *
    match k, hy with
    | 0, _ => decide
    | 1, _ => decide
    | 2, _ => decide
    | 3, _ => decide
  exact h _ (by simp; omega)
theorem portsTo_ok (s : Small) : ∀ n, ((s.portsTo n).map Prod.fst).Nodup ∧ ∀ x ∈ (s.portsTo n).map Prod.fst, x ∈ portNs
  | 0 => by simp [Small.portsTo]
  | n + 1 => by
    obtain ⟨h1, h2⟩ := portsTo_ok s n
    rw [portsTo_succ]
    unfold stepPort
    simp only
    split
    · rename_i h
      refine ⟨step_nodup _ _ _ h.1 h1, fun x hx => ?_⟩
      rw [List.map_append, List.mem_append] at hx
      rcases hx with hx | hx
      · exact h2 x hx
      · simp only [List.map_cons, List.map_nil, List.mem_singleton] at hx
        subst hx
        exact portN _
    · exact ⟨h1, h2⟩
theorem portsTo_len (s : Small) (n : Nat) : (s.portsTo n).length ≤ 4 := by
  have := nodup_le _ portNs (portsTo_ok s n).1 (portsTo_ok s n).2
  simpa [portNs] using this
theorem Small.pol_few (s : Small) : s.pol.few := by
  refine ⟨by simp [Small.pol]; omega, ?_, by have := pathsTo_len s s.paths.length; simp [Small.pol]; omega, by have := portsTo_len s s.ports.length; simp [Small.pol]; omega⟩
  intro r hr
  simp only [Small.pol, List.mem_map] at hr
  obtain ⟨x, _, rfl⟩ := hr
  simp [SRule.rule]; omega
/-! ### the walk -/
theorem S.pinfoldlaw09_Small_Policy_1 (hE : Fold E) (s : Small) (cs : List Value) (hs : SmallAt H s cs) (b1 b4 : Nat) (h1 : H.get b1 = .cells cs none) (c4 : List Value) (h4 : H.get b4 = .cells c4 none) (hc4 : c4[3]? = some (u16 s.hd)) (n : Nat) (k : BitVec 16) (hQ : Q (u16 (s.right n k)) H) :
    E.call (E.fid i.pinfoldlaw09_Small_Policy_1) [vi n, u16 k, ptr b1 0, ptr b4 0] H Q := by
  apply hE.pinfoldlaw09_Small_Policy_1
  obtain ⟨v, pv, rv, qv, rfl, _, _, hr, _⟩ := hs
  have hl := hr.lenSlc
  rw [List.length_map] at hl
  unfold Small.right at hQ
  simp [F.pinfoldlaw09_Small_Policy_1, h1, hl]
  refine ifB_split (fun h => ?_) (fun h => ?_)
  · rw [List.getElem?_eq_none (by omega)] at hQ
    simp [h4, hc4]
    exact hQ
  · have hi : n < s.rights.length := by omega
    rw [List.getElem?_eq_getElem hi] at hQ
    obtain ⟨b, o, f1, f2⟩ := hr.elem (i := n) (by simpa using hi)
    simp [h1, h4, hc4, f1, f2]
    exact hQ
abbrev polL (b2 b4 : Nat) (c2 : List Value) (nm : Value) (d : BitVec 32) (rv hd pv qv : Value) (rows prows qrows : List (List Value)) : List Res := refL b2 b4 c2 nm d rv hd pv qv rows prows qrows
def pathV (p : List UInt8 × BitVec 16) : List Value := [str p.1, u16 p.2]
def portV (p : BitVec 16 × BitVec 16) : List Value := [u16 p.1, u16 p.2]
theorem sdirs_get (n : Nat) (h : n < 6) : (sdirs.map str)[n]? = some (str (sdirs.getD n [])) := by
  have : n < sdirs.length := h
  simp [List.getD_eq_getElem?_getD, this]
theorem Policy_l2 (hE : Fold E) (s : Small) (cs : List Value) (H0 Z : AH) (hs : SmallAt Z s cs) (b1 b2 b4 r : Nat) (h1 : Z.get b1 = .cells cs none) (c2 : List Value) (hc2 : c2.length = 6) (nm : Value) (hnm : plain1 nm = true) (d : BitVec 32) (rv pv : Value) (rows prows : List (List Value)) (sv : Value) (hsv : Vals Z sv (s.ports.map u8)) (hn : s.ports.length < 2 ^ 63)
    (hS : Has H0 Z H (refL b2 b4 c2 nm d rv (u16 s.hd) pv nilS rows prows [] ++ [mapR u16 vb r []]))
    (hQ : ∀ H' qv c2, Has H0 Z H' (refL b2 b4 c2 nm d rv (u16 s.hd) pv qv rows prows ((s.portsTo s.ports.length).map portV)) → Q (.agg #[nm, u32 d, rv, u16 s.hd, pv, qv]) H') :
    LoopL (fun l H X0 => F.pinfoldlaw09_Small_Policy_l2 E Q (nth l 0) (nth l 1) (nth l 2) (nth l 3) (nth l 4) (nth l 5) (nth l 6) H X0) [ptr b2 0, ptr b4 0, .func (.func (E.fid i.pinfoldlaw09_Small_Policy_1)) #[] #[ptr b1 0, ptr b4 0], .map (some r), sv, vi s.ports.length, vi 0] H := by
  refine LoopL.count s.ports.length (fun j l H' => ∃ qv, l = [ptr b2 0, ptr b4 0, .func (.func (E.fid i.pinfoldlaw09_Small_Policy_1)) #[] #[ptr b1 0, ptr b4 0], .map (some r), sv, vi s.ports.length, vi j] ∧ plain1 qv = true ∧
      Has H0 Z H' (refL b2 b4 c2 nm d rv (u16 s.hd) pv qv rows prows ((s.portsTo j).map portV) ++ [mapR u16 vb r ((s.portsTo j).map fun p => (p.1, true))])) ?_ ⟨nilS, rfl, rfl, hS⟩
  rintro j _ H' X hj hX ⟨qv, rfl, hqv, g1⟩
  have k4 := g1.box (k := 1) rfl
  have k2 := g1.box (k := 0) rfl
  simp only [F.pinfoldlaw09_Small_Policy_l2, nth_0, nth_1, nth_2, nth_3, nth_4, nth_5, nth_6, i64_lss, opt_some]
  refine ifB_split (fun h => ?_) (fun h => ?_)
  · have hjl : j < s.ports.length := by omega
    obtain ⟨b, o, f1, f2⟩ := (Rows.sub hsv g1.sub).ix (i := j) (by simpa using hjl)
    simp only [List.getElem_map] at f2
    have f2 := row_at f2 (by omega : 0 < 1)
    simp at f2
    have hst := portsTo_succ s j
    have hlen := portsTo_len s j
    unfold stepPort at hst
    simp only [List.getD_eq_getElem?_getD, List.getElem?_eq_getElem hjl, Option.getD_some] at hst
    generalize s.ports[j] = c at *
    simp [-buildS_eq, -buildV_eq, f1, f2]
    generalize hnn : (BitVec.setWidth 16 (80#8 + c % 4#8) : BitVec 16) = n at *
    refine S.pinfoldlaw09_Small_Policy_1 hE s cs (hs.sub g1.sub) b1 b4 (g1.sub.cells h1) _ k4 rfl j 49152#16 ?_
    have hm := (g1.mapAt (k := 5) rfl).look (kd := 0) same_u16 n (.bool false) false
    rw [lookup_set] at hm
    by_cases hin : n ∈ (s.portsTo j).map Prod.fst
    · rw [if_pos hin] at hm
      have hm : look 0 (.bool false) false (.map (some r)) (u16 n) H' = some (.bool true) := hm
      simp only [hm, opt_some, un_not, Bool.not_true, gd_ft, gd_skip, pick_false, ifB_false]
      rw [i64_add (by omega) (by omega), opt_some]
      refine hX hjl _ _ ⟨qv, by simp, hqv, ?_⟩
      rw [hst, if_neg (fun h => h.1 hin)]
      exact g1
    · rw [if_neg hin] at hm
      have hm : look 0 (.bool false) false (.map (some r)) (u16 n) H' = some (.bool false) := hm
      by_cases hr : s.right j 49152#16 = 0#16
      · simp [-buildS_eq, -buildV_eq, hm, hr]
        rw [i64_add (by omega) (by omega), opt_some]
        refine hX hjl _ _ ⟨qv, by simp, hqv, ?_⟩
        rw [hst, if_neg (fun h => h.2 hr)]
        exact g1
      · rw [if_pos ⟨hin, hr⟩] at hst
        simp [-buildS_eq, -buildV_eq, hm, hr]
        obtain ⟨H4, m1, m2⟩ := g1.mapset (n := 5) rfl (kd := 0) same_u16 n true
        rw [aset_new n true (fun _ => true) _ hin] at m2
        rw [m1, opt_some, m2.box (k := 1) rfl]
        obtain ⟨v', H5, a1, a2, a3⟩ := m2.app1 (k := 4) rfl (bytes := 4) (portV (n, s.right j 49152#16)) rfl rfl (by omega) (by omega) (by simp; omega)
        have e := buildS_one 2 [u16 0#16, u16 0#16] (portV (n, s.right j 49152#16)) rfl rfl
        simp only [portV] at e a1 
        simp [-buildS_eq, splice]
        rw [e, mk_some, mkSlc_eq, a1]
        simp [a2, a3.box (k := 1) rfl]
        rw [i64_add (by omega) (by omega), opt_some]
        refine hX hjl _ _ ⟨v', by simp, a2, ?_⟩
        rw [hst, List.map_append, List.map_append]
        exact a3.put (k := 1) rfl [nm, u32 d, rv, u16 s.hd, pv, v']
  · have : j = s.ports.length := by omega
    subst this
    have hrv := (g1.slice (k := 2) rfl).plain
    have hpv := (g1.slice (k := 3) rfl).plain
    have e9 := row_all [nm, u32 d, rv, u16 s.hd, pv, qv] none 6 rfl
    have l2 := g1.box_lt (k := 0) rfl
    have h4 := (g1.put (k := 0) rfl [nm, u32 d, rv, u16 s.hd, pv, qv]).drop 5
    simp [k4, e9, k2, hc2, hnm, hrv, hpv, hqv, l2, splice]
    have e0 : List.drop 6 c2 = [] := List.drop_eq_nil_of_le (by omega)
    rw [e0]
    exact hQ _ qv _ h4
end Go.AM
end
section
namespace Go.AM
variable {E : Sy} {H : AH} {Q : Value → AH → Prop}
theorem Policy_l1 (hE : Fold E) (s : Small) (cs : List Value) (H0 Z : AH) (hs : SmallAt Z s cs) (b1 b2 b4 r : Nat) (h1 : Z.get b1 = .cells cs none) (c2 : List Value) (hc2 : c2.length = 6) (nm : Value) (hnm : plain1 nm = true) (d : BitVec 32) (rv : Value) (rows : List (List Value)) (sv : Value) (hsv : Vals Z sv (s.paths.map u8)) (hn : s.paths.length < 2 ^ 63)
    (hS : Has H0 Z H (refL b2 b4 c2 nm d rv (u16 s.hd) nilS nilS rows [] [] ++ [mapR str vb r []]))
    (hQ : ∀ H' pv qv c2, Has H0 Z H' (refL b2 b4 c2 nm d rv (u16 s.hd) pv qv rows ((s.pathsTo s.paths.length).map pathV) ((s.portsTo s.ports.length).map portV)) → Q (.agg #[nm, u32 d, rv, u16 s.hd, pv, qv]) H') :
    LoopL (fun l H X0 => F.pinfoldlaw09_Small_Policy_l1 E Q (nth l 0) (nth l 1) (nth l 2) (nth l 3) (nth l 4) (nth l 5) (nth l 6) (nth l 7) H X0) [ptr b1 0, ptr b2 0, ptr b4 0, .map (some r), .func (.func (E.fid i.pinfoldlaw09_Small_Policy_1)) #[] #[ptr b1 0, ptr b4 0], sv, vi s.paths.length, vi 0] H := by
  refine LoopL.count s.paths.length (fun j l H' => ∃ pv, l = [ptr b1 0, ptr b2 0, ptr b4 0, .map (some r), .func (.func (E.fid i.pinfoldlaw09_Small_Policy_1)) #[] #[ptr b1 0, ptr b4 0], sv, vi s.paths.length, vi j] ∧
      Has H0 Z H' (refL b2 b4 c2 nm d rv (u16 s.hd) pv nilS rows ((s.pathsTo j).map pathV) [] ++ [mapR str vb r ((s.pathsTo j).map fun p => (p.1, true))])) ?_ ⟨nilS, rfl, hS⟩
  rintro j _ H' X hj hX ⟨pv, rfl, g1⟩
  have k4 := g1.box (k := 1) rfl
  simp only [F.pinfoldlaw09_Small_Policy_l1, nth_0, nth_1, nth_2, nth_3, nth_4, nth_5, nth_6, nth_7, i64_lss, opt_some]
  refine ifB_split (fun h => ?_) (fun h => ?_)
  · have hjl : j < s.paths.length := by omega
    obtain ⟨b, o, f1, f2⟩ := (Rows.sub hsv g1.sub).ix (i := j) (by simpa using hjl)
    simp only [List.getElem_map] at f2
    have f2 := row_at f2 (by omega : 0 < 1)
    simp at f2
    have hst := pathsTo_succ s j
    have hlen := pathsTo_len s j
    unfold stepPath at hst
    simp only [List.getD_eq_getElem?_getD (l := s.paths), List.getElem?_eq_getElem hjl, Option.getD_some] at hst
    generalize s.paths[j] = c at *
    simp [-buildS_eq, -buildV_eq, f1, f2]
    refine S.pinfoldlaw09_Dirs hE fun w1 H1 e1 hw1 => ?_
    refine S.pinfoldlaw09_Dirs hE fun w2 H2 e2 hw2 => ?_
    have hl2 := hw2.lenSlc
    have hl2 : lenSlc w2 = some (vi 6) := hl2
    have hrm : binInt .rem (vi c.toNat) (vi 6) = some (vi ((c.toNat % 6 : Nat) : Int)) := i64_rem_nat c.toNat 6 (by decide)
    have hm6 : c.toNat % 6 < 6 := Nat.mod_lt _ (by decide)
    generalize c.toNat % 6 = m at *
    obtain ⟨b3, o3, f3, f4⟩ := (hw1.mono e2).get? (sdirs_get m hm6)
    generalize sdirs.getD m [] = n at *
    have g1 := (g1.grow e1).grow e2
    have k4 := g1.box (k := 1) rfl
    simp [-buildS_eq, -buildV_eq, hl2, hrm, f3, f4]
    refine S.pinfoldlaw09_Small_Policy_1 hE s cs (hs.sub g1.sub) b1 b4 (g1.sub.cells h1) _ k4 rfl j 2047#16 ?_
    have hm := (g1.mapAt (k := 5) rfl).look (kd := 1) same_str n (.bool false) false
    rw [lookup_set] at hm
    by_cases hin : n ∈ (s.pathsTo j).map Prod.fst
    · rw [if_pos hin] at hm
      have hm : look 1 (.bool false) false (.map (some r)) (str n) H2 = some (.bool true) := hm
      simp only [hm, opt_some, un_not, Bool.not_true, gd_ft, gd_skip, pick_false, ifB_false]
      rw [i64_add (by omega) (by omega), opt_some]
      refine hX hjl _ _ ⟨pv, by simp, ?_⟩
      rw [hst, if_neg (fun h => h.1 hin)]
      exact g1
    · rw [if_neg hin] at hm
      have hm : look 1 (.bool false) false (.map (some r)) (str n) H2 = some (.bool false) := hm
      by_cases hr : s.right j 2047#16 = 0#16
      · simp [-buildS_eq, -buildV_eq, hm, hr]
        rw [i64_add (by omega) (by omega), opt_some]
        refine hX hjl _ _ ⟨pv, by simp, ?_⟩
        rw [hst, if_neg (fun h => h.2 hr)]
        exact g1
      · rw [if_pos ⟨hin, hr⟩] at hst
        simp [-buildS_eq, -buildV_eq, hm, hr]
        obtain ⟨H4, m1, m2⟩ := g1.mapset (n := 5) rfl (kd := 1) same_str n true
        rw [aset_new n true (fun _ => true) _ hin] at m2
        rw [m1, opt_some, m2.box (k := 1) rfl]
        obtain ⟨v', H5, a1, a2, a3⟩ := m2.app1 (k := 3) rfl (bytes := 24) (pathV (n, s.right j 2047#16)) rfl rfl (by omega) (by omega) (by simp; omega)
        have e := buildS_one 2 [str [], u16 0#16] (pathV (n, s.right j 2047#16)) rfl rfl
        simp only [pathV] at e a1
        simp [-buildS_eq, splice]
        rw [e, mk_some, mkSlc_eq, a1]
        simp [a2, a3.box (k := 1) rfl]
        rw [i64_add (by omega) (by omega), opt_some]
        refine hX hjl _ _ ⟨v', by simp, ?_⟩
        rw [hst, List.map_append, List.map_append]
        exact a3.put (k := 1) rfl [nm, u32 d, rv, u16 s.hd, v', nilS]
  · have : j = s.paths.length := by omega
    subst this
    have hs' := hs
    obtain ⟨v, pv', rv', qv, rfl, _, _, _, h5, _, _, _, h9⟩ := hs'
    have hl2 := (Rows.sub h5 g1.sub).lenSlc
    simp only [List.length_map] at hl2
    have g2 := (g1.drop 5).newmap u16 vb
    have k1 := g2.sub.cells h1
    simp [k1, hl2]
    exact Policy_l2 hE s _ H0 Z hs b1 b2 b4 H'.next h1 c2 hc2 nm hnm d rv pv rows _ qv h5 h9 g2 fun H'' qv c2 g => hQ _ _ _ _ g
theorem Policy_j1 (hE : Fold E) (s : Small) (cs : List Value) (H0 Z : AH) (hs : SmallAt Z s cs) (b1 b2 b4 : Nat) (h1 : Z.get b1 = .cells cs none) (c2 : List Value) (hc2 : c2.length = 6) (nm : Value) (hnm : plain1 nm = true) (d : BitVec 32) (rv : Value) (rows : List (List Value))
    (hS : Has H0 Z H (refL b2 b4 c2 nm d rv (u16 s.hd) nilS nilS rows [] []))
    (hQ : ∀ H' pv qv c2, Has H0 Z H' (refL b2 b4 c2 nm d rv (u16 s.hd) pv qv rows ((s.pathsTo s.paths.length).map pathV) ((s.portsTo s.ports.length).map portV)) → Q (.agg #[nm, u32 d, rv, u16 s.hd, pv, qv]) H') :
    F.pinfoldlaw09_Small_Policy_j1 E Q (ptr b1 0) (ptr b2 0) (ptr b4 0) H := by
  have hs' := hs
  obtain ⟨v, pv', rv', qv, rfl, _, h4, _, _, _, h7, _, _⟩ := hs'
  have g2 := hS.newmap str vb
  have hl2 := (Rows.sub h4 g2.sub).lenSlc
  simp only [List.length_map] at hl2
  have k1 := g2.sub.cells h1
  simp [F.pinfoldlaw09_Small_Policy_j1, k1, hl2]
  exact Policy_l1 hE s _ H0 Z hs b1 b2 b4 H.next h1 c2 hc2 nm hnm d rv rows pv' h4 h7 g2 hQ
theorem SCond.cells_plain (c : SCond) : c.cells.all plain1 = true := rfl
theorem Policy_l4 (hE : Fold E) (X0 : List Value → AH → Prop) (b1 b2 b4 b7 : Nat) (t3 t38 t39 : Value) (i : Nat) (hi : i < 12) (x : SRule) (hx : x.conds.length < 2 ^ 63) (w : Value) (H0 Z : AH) (hw : Rows Z 4 w (x.conds.map SCond.cells)) (c2 : List Value) (nm : Value) (d nu ac : BitVec 32) (rv hd pv qv : Value) (rows prows qrows : List (List Value))
    (hr : rows.length = i) (hS : Has H0 Z H (refL b2 b4 c2 nm d rv hd pv qv rows prows qrows ++ [boxR b7 [u32 nu, u32 ac, nilS]]))
    (hX0 : ∀ Z' H' rv' row, Fz H0.next Z Z' → RuleAt Z' ⟨nu, ac, (x.conds.take 4).map SCond.cond⟩ row → Has H0 Z' H' (refL b2 b4 c2 nm d rv' hd pv qv (rows ++ [row]) prows qrows) → X0 [ptr b1 0, ptr b2 0, t3, ptr b4 0, t38, t39, vi ((i + 1 : Nat) : Int)] H') :
    LoopL (fun l H X1 => F.pinfoldlaw09_Small_Policy_l4 E Q X0 (nth l 0) (nth l 1) (nth l 2) (nth l 3) (nth l 4) (nth l 5) (nth l 6) (nth l 7) (nth l 8) (nth l 9) (nth l 10) H X1) [ptr b1 0, ptr b2 0, t3, ptr b4 0, ptr b7 0, t38, t39, vi i, w, vi x.conds.length, vi 0] H := by
  refine LoopL.count x.conds.length (fun j s H' => ∃ cv, s = [ptr b1 0, ptr b2 0, t3, ptr b4 0, ptr b7 0, t38, t39, vi i, w, vi x.conds.length, vi j] ∧ plain1 cv = true ∧ Has H0 Z H' (refL b2 b4 c2 nm d rv hd pv qv rows prows qrows ++ [boxR b7 [u32 nu, u32 ac, cv], growR 4 cv ((((x.conds.take 4).map SCond.cond).take j).map CondD.cells)])) ?_ ⟨nilS, rfl, rfl, hS.nils 4⟩
  rintro j _ H' X hj hX ⟨cv, rfl, hcv, h1⟩
  have k6 := h1.box (k := 5) rfl
  have h6 := h1.box_lt (k := 5) rfl
  simp only [F.pinfoldlaw09_Small_Policy_l4, nth_0, nth_1, nth_2, nth_3, nth_4, nth_5, nth_6, nth_7, nth_8, nth_9, nth_10, i64_lss, opt_some]
  refine ifB_split (fun h => ?_) (fun h => ?_)
  · have hjl : j < x.conds.length := by omega
    obtain ⟨b, o, f1, f2⟩ := (hw.sub h1.sub).ix (i := j) (by simpa using hjl)
    simp only [List.getElem_map] at f2
    have h2 := h1.new (.cells x.conds[j].cells none)
    by_cases hj4 : j < 4
    · have htk : (((x.conds.take 4).map SCond.cond).take (j + 1)).map CondD.cells = (((x.conds.take 4).map SCond.cond).take j).map CondD.cells ++ [x.conds[j].cond.cells] := by
        rw [List.take_succ_eq_append_getElem (by simp; omega), List.map_append]; simp
      generalize x.conds[j] = c at *
      have hj4' : (j : Int) < 4 := by omega
      simp [-buildS_eq, f1, f2, SCond.cells, splice, AH.get_new, Nat.ne_of_lt h6, k6, hj4']
      refine S.pinfoldlaw09_Cond_Cond hE c fun H3 e3 => ?_
      have h3 := h2.grow e3
      have k63 := h3.box (k := 5) rfl
      obtain ⟨v', H5, a1, a2, a3⟩ := h3.app1 (k := 6) rfl (bytes := 32) c.cond.cells rfl rfl (by omega) (by omega) (by simp; omega)
      have k65 := a3.box (k := 5) rfl
      rw [k63]
      refine ⟨rfl, ?_⟩
      rw [buildS_one 4 [_, _, _, _] c.cond.cells rfl rfl, mk_some, mkSlc_eq, a1]
      simp [a2, k65]
      rw [i64_add (by omega) (by omega), opt_some]
      refine hX hjl _ _ ⟨v', by simp, a2, ?_⟩
      rw [htk]
      exact a3.put (k := 5) rfl [u32 nu, u32 ac, v']
    · have htk : ((x.conds.take 4).map SCond.cond).take (j + 1) = ((x.conds.take 4).map SCond.cond).take j := by
        rw [List.take_of_length_le (i := j + 1) (by simp; omega), List.take_of_length_le (i := j) (by simp; omega)]
      generalize x.conds[j] = c at *
      have hj4' : ¬ (j : Int) < 4 := by omega
      simp [-buildS_eq, f1, f2, SCond.cells, splice, AH.get_new, Nat.ne_of_lt h6, k6, hj4']
      rw [i64_add (by omega) (by omega), opt_some]
      refine hX hjl _ _ ⟨cv, by simp, hcv, ?_⟩
      rw [htk]
      exact h2
  · have : j = x.conds.length := by omega
    subst this
    rw [List.take_of_length_le (by simp; omega)] at h1
    have k3 := h1.box (k := 1) rfl
    obtain ⟨v', H8, a1, a2, a3⟩ := h1.app1 (k := 2) rfl (bytes := 32) [u32 nu, u32 ac, cv] rfl (by simp [hcv]) (by omega) (by omega) (by omega)
    have k38 := a3.box (k := 1) rfl
    simp only [addOff_ptr, opt_some, load1_ptr, loadN_ptr, k3, k6, row_all [u32 nu, u32 ac, cv] none 3 rfl, cell_cells, Option.map_some]
    simp only [Nat.zero_add, List.getElem?_cons_succ, List.getElem?_cons_zero, opt_some]
    rw [buildS_one 3 [_, _, _] [u32 nu, u32 ac, cv] rfl rfl, mk_some, mkSlc_eq, a1]
    simp [a2, k38]
    rw [i64_inc (by omega), opt_some]
    have h4 := a3.put (k := 1) rfl [nm, u32 d, v', hd, pv, qv]
    obtain ⟨Z', z1, z2, z3⟩ := h4.freeze (k := 6) rfl
    exact hX0 Z' _ v' [u32 nu, u32 ac, cv] z1 ⟨by simp; omega, cv, rfl, z2.toRows⟩ (z3.drop 5)
theorem callTable_get (n : Nat) (h : n < 30) : ∃ c, (callTable.map callCells)[n]? = some (callCells c) ∧ BitVec.ofNat 32 c.1 = callNumber n := by
  have hn : n < callTable.length := h
  refine ⟨callTable[n], by simp [hn], ?_⟩
  simp [callNumber, List.getD_eq_getElem?_getD, hn]
theorem S.pinfoldlaw09_Small_PolicyZ (hE : Fold E) (s : Small) (cs : List Value) (Z0 : AH) (hz : Sub Z0 H) (hs : SmallAt Z0 s cs) (hQ : ∀ Z' H' cs', Ext H H' → Fz H.next Z0 Z' → Sub Z' H' → PolXAt Z' s.pol cs' → Q (.agg cs'.toArray) H') : E.call (E.fid i.pinfoldlaw09_Small_Policy) [.agg cs.toArray] H Q := by
  apply hE.pinfoldlaw09_Small_Policy
  simp [-buildS_eq, F.pinfoldlaw09_Small_Policy]
  obtain ⟨Z, zf, zs, k1⟩ := hz.newfrozen (.cells cs none)
  have hS := (Has.begin ((Ext.refl H).new (.cells cs none)) zs).newbox [str [], u32 0#32, nilS, u16 0#16, nilS, nilS]
  simp only [AH.next_new] at hS
  generalize hH2 : (H.new _).new _ = H2 at *
  have hn2 : H2.next = H.next + 2 := by subst hH2; rfl
  refine S.pinfoldref01_Calls' hE ?_
  have hG : Grow zH (H2.new (.cells (callTable.map callCells).flatten none)) 3 (slc H2.next 0 30 30) (callTable.map callCells) := Grow.made (zH_get _) (AH.get_new_self _ _) (.inl rfl) rfl (by
    intro r hr
    obtain ⟨c, _, rfl⟩ := List.mem_map.1 hr
    exact ⟨rfl, rfl⟩)
  have hS := hS.add (growR 3 (slc H2.next 0 30 30) (callTable.map callCells)) ((Ext.refl H2).new _) hG (by simp [growR, blkL, blk]) (by simp [growR, blkL, blk])
  obtain ⟨Z1, z1, z2, hS⟩ := hS.freeze (k := 1) rfl
  have hs' := hs
  obtain ⟨v, pv, rv, qv, rfl, hv, hpv, hrv, hqv, n1, n2, n3, n4⟩ := hs'
  generalize hHT : H2.new _ = HT at *
  have hnT : HT.next = H2.next + 1 := by subst hHT; rfl
  have kT := hS.sub.cells (z1.1.cells k1)
  have ltT := AH.lt_cells kT
  have b2T := hS.box (k := 0) rfl
  have l2T := hS.box_lt (k := 0) rfl
  have hq3 : (s.name % 3#8).toNat < 3 := by simp; omega
  have hnm : (snames.map str)[(s.name % 3#8).toNat]? = some (str (snames.getD (s.name % 3#8).toNat [])) := by
    have : (s.name % 3#8).toNat < snames.length := hq3
    simp only [List.getElem?_map, List.getElem?_eq_getElem this, List.getD_eq_getElem?_getD, Option.map_some, Option.getD_some]
  unfold Small.pol at hQ
  generalize hq : s.name % 3#8 = q at *
  generalize snames.getD q.toNat [] = nm at *
  have hnm : [str [112], str [112, 111, 108, 45, 49], str [120, 95, 121]][q.toNat]? = some (str nm) := hnm
  have hss : s.handled &&& 51199#16 = s.hd := rfl
  have hnm' : [str [112], str [112, 111, 108, 45, 49], str [120, 95, 121]][q.toNat]'hq3 = str nm := by
    rw [List.getElem?_eq_getElem hq3] at hnm
    exact Option.some.inj hnm
  have hne2 : ¬ H.next = HT.next + 1 := by omega
  simp [-buildV_eq, splice, AH.get_new, Nat.ne_of_lt ltT, kT, hq, hq3, hnm', hss]
  refine S.pinfoldlaw09_Action hE _ _ ?_
  have hl := (hv.sub (fun _ _ _ _ h e => SRuleAt.sub h e) (zf.1.trans (z1.1.trans hS.sub))).lenSlc
  simp [splice, AH.get_new, Nat.ne_of_lt ltT, hne2, kT, hnm', hl]
  refine ⟨hnm, ?_⟩
  have hS := ((((hS.new (.cells [str [112], str [112, 111, 108, 45, 49], str [120, 95, 121]] none)).newbox [str nm, u32 (saction s.dflt s.errno), nilS, u16 s.hd, nilS, nilS]).nils 3).nils 2).nils 2
  generalize (HT.new _).new _ = H5 at *
  simp only [AH.next_new] at hS
  have hsZ := hs.sub (zf.1.trans z1.1)
  have k1Z := z1.1.cells k1
  clear hHT hH2 kT ltT b2T l2T hl
  refine LoopL.count s.rules.length (fun j l H' => ∃ Z' rv rows, l = [ptr H.next 0, ptr (H.next + 1) 0, slc H2.next 0 30 30, ptr (HT.next + 1) 0, v, vi s.rules.length, vi j] ∧ j ≤ 12 ∧ Fz H.next Z1 Z' ∧ Has H Z' H' (refL (H.next + 1) (HT.next + 1) [str [], u32 0#32, nilS, u16 0#16, nilS, nilS] (str nm) (saction s.dflt s.errno) rv (u16 s.hd) nilS nilS rows [] []) ∧
      rows.length = j ∧ ∀ i (h1 : i < s.rules.length) (h2 : i < rows.length), RuleAt Z' s.rules[i].rule rows[i]) ?_ ⟨Z1, nilS, [], rfl, by omega, Fz.refl _ _, hS, rfl, fun i _ h => by simp at h⟩
  rintro j _ H' X hj hX ⟨Z', rv', rows, rfl, hj12, y1, g1, g2, g3⟩
  have hend : ∀ H'', (j = 12 ∨ j = s.rules.length) → Ext H' H'' → F.pinfoldlaw09_Small_Policy_j1 E Q (ptr H.next 0) (ptr (H.next + 1) 0) (ptr (HT.next + 1) 0) H'' := by
    intro H'' hjj ex
    refine Policy_j1 hE s _ H Z' (hsZ.sub y1.1) H.next (H.next + 1) (HT.next + 1) (y1.1.cells k1Z) _ rfl (str nm) rfl (saction s.dflt s.errno) rv' rows (g1.grow ex) fun H3 pv3 qv3 c2 q => ?_
    obtain ⟨Z2, w1, w2, w3⟩ := q.freeze (k := 2) rfl
    obtain ⟨Z3, w4, w5, w6⟩ := w3.freeze (k := 2) rfl
    obtain ⟨Z4, w7, w8, w9⟩ := w6.freeze (k := 2) rfl
    have r1 : Rows Z4 3 rv' rows := (Grow.toRows (show Grow zH Z2 3 rv' rows from w2)).sub (w4.1.trans w7.1)
    have r2 := (Grow.toRows (show Grow zH Z3 2 pv3 _ from w5)).sub w7.1
    have r3 := Grow.toRows (show Grow zH Z4 2 qv3 _ from w8)
    refine hQ Z4 H3 [str nm, u32 (saction s.dflt s.errno), rv', u16 s.hd, pv3, qv3] q.ext ((((zf.trans z1).trans y1).trans w1).trans (w4.trans w7)) w9.sub ⟨rv', pv3, qv3, rfl, ⟨rows, r1, ?_, ?_⟩, r2, r3⟩
    · simp [g2]; omega
    · intro i a b
      have hi : i < s.rules.length := by simp at a; omega
      simpa using (g3 i hi b).sub (w1.1.trans (w4.1.trans w7.1))
  simp only [F.pinfoldlaw09_Small_Policy_l3, nth_0, nth_1, nth_2, nth_3, nth_4, nth_5, nth_6, i64_lss, opt_some]
  refine ifB_split (fun h => ?_) (fun h => ?_)
  · have hjl : j < s.rules.length := by omega
    obtain ⟨b, o, ccs, m1, m2, m3⟩ := (hv.sub (fun _ _ _ _ h e => SRuleAt.sub h e) (zf.1.trans (z1.1.trans y1.1))).ix (i := j) hjl
    have m2 : (H'.get b).row o 4 = some ccs := by rw [g1.sub.2 b (row_notdead m2)]; exact m2
    obtain ⟨hxl, w, rfl, hw⟩ := m3
    have hlw := (hw.sub g1.sub).lenSlc
    rw [List.length_map] at hlw
    by_cases h12 : j = 12
    · have h12' : (12 : Int) ≤ j := by omega
      simp [m1, m2, splice, AH.get_new, hw.plain, h12']
      exact hend _ (.inl h12) ((Ext.refl _).new _)
    · have hne : ¬ (12 : Int) ≤ j := by omega
      have hrm : binInt .rem (vi s.rules[j].call.toNat) (vi 30) = some (vi ((s.rules[j].call.toNat % 30 : Nat) : Int)) := i64_rem_nat _ 30 (by decide)
      have hrule : s.rules[j].rule = ⟨callNumber (s.rules[j].call.toNat % 30), saction s.rules[j].action s.rules[j].errno, (s.rules[j].conds.take 4).map SCond.cond⟩ := rfl
      have hm30 : s.rules[j].call.toNat % 30 < 30 := Nat.mod_lt _ (by decide)
      generalize s.rules[j].call.toNat % 30 = m at *
      obtain ⟨c, c1, c2⟩ := callTable_get m hm30
      obtain ⟨hlt, c1⟩ := List.getElem?_eq_some_iff.1 c1
      obtain ⟨b5, o5, f3, f4⟩ := (((z2 : Grow zH Z1 3 _ _).toRows).sub (y1.1.trans g1.sub)).ix (i := m) hlt
      rw [c1] at f4
      have f5 := row_at f4 (by omega : 0 < 3)
      simp [callCells] at f5
      have hlt5 : b5 < H'.next := AH.lt_of_get (row_notdead f4)
      simp [m1, m2, splice, AH.get_new, hw.plain, hne, hrm, f3, f5, Nat.ne_of_lt hlt5]
      refine S.pinfoldlaw09_Action hE _ _ ?_
      have hne5 : ¬ b5 = H'.next + 1 := by omega
      simp [splice, AH.get_new, hw.plain, hlw, f5, Nat.ne_of_lt hlt5, hne5, c2]
      have g4 := (g1.new (.cells [u8 s.rules[j].call, u8 s.rules[j].action, u8 s.rules[j].errno, w] none)).newbox [u32 (callNumber m), u32 (saction s.rules[j].action s.rules[j].errno), nilS]
      refine Policy_l4 hE X H.next (H.next + 1) (HT.next + 1) (H'.next + 1) _ v _ j (by omega) s.rules[j] hxl w H Z' hw _ _ _ _ _ rv' _ nilS nilS rows [] [] g2 g4 fun Z2 H2' rv'' row q1 q2 q3 => ?_
      refine hX hjl _ _ ⟨Z2, rv'', rows ++ [row], rfl, by omega, y1.trans q1, q3, by simp [g2], fun i h1 h2 => ?_⟩
      by_cases e : i < rows.length
      · rw [List.getElem_append_left e]
        exact (g3 i h1 e).sub q1.1
      · have : i = j := by simp at h2; omega
        subst this
        rw [List.getElem_append_right (by omega), hrule]
        simpa [g2] using q2
  · exact hend H' (.inr (by omega)) (Ext.refl _)
theorem S.pinfoldlaw09_Small_Policy (hE : Fold E) (s : Small) (cs : List Value) (hs : SmallAt H s cs) (hQ : ∀ H' cs', Ext H H' → PolXAt H' s.pol cs' → Q (.agg cs'.toArray) H') : E.call (E.fid i.pinfoldlaw09_Small_Policy) [.agg cs.toArray] H Q :=
  S.pinfoldlaw09_Small_PolicyZ hE s cs H (Sub.refl _) hs fun _ H' cs' e _ s h => hQ H' cs' e (h.sub s)
end Go.AM
end
section
namespace Go.AM
variable {E : Sy} {H : AH} {Q : Value → AH → Prop}
/-! ### which rules speak, and which counts -/
def spk (p : PolD) (r : RecD) (i : Nat) : Bool := match p.rules[i]? with | some x => rmatches x r | none => false
def spkTo (p : PolD) (r : RecD) (n : Nat) : List Nat := (List.range n).filter (spk p r)
def actAt (p : PolD) (i : Nat) : BitVec 32 := match p.rules[i]? with | some x => x.action | none => 0#32
def cntStep (p : PolD) (r : RecD) (c : Option Nat) (i : Nat) : Option Nat :=
  if spk p r i then (match c with | none => some i | some k => if astrength (actAt p k) < astrength (actAt p i) then some i else some k) else c
def cntTo (p : PolD) (r : RecD) (n : Nat) : Option Nat := (List.range n).foldl (cntStep p r) none
def cntV (c : Option Nat) : Int := match c with | none => -1 | some k => k
theorem spkTo_succ (p : PolD) (r : RecD) (n : Nat) : spkTo p r (n + 1) = spkTo p r n ++ (if spk p r n then [n] else []) := by
  simp [spkTo, List.range_succ, List.filter_append, List.filter_cons]
theorem cntTo_succ (p : PolD) (r : RecD) (n : Nat) : cntTo p r (n + 1) = cntStep p r (cntTo p r n) n := by
  simp [cntTo, List.range_succ, List.foldl_append]
theorem cntTo_lt (p : PolD) (r : RecD) : ∀ (n : Nat) {k : Nat}, cntTo p r n = some k → k < n
  | 0, k, h => by simp [cntTo] at h
  | n + 1, k, h => by
    rw [cntTo_succ] at h
    cases hc : cntTo p r n with
    | none =>
      rw [hc] at h
      by_cases hs : spk p r n = true <;> simp [cntStep, hs] at h
      omega
    | some j =>
      rw [hc] at h
      have := cntTo_lt p r n hc
      by_cases hs : spk p r n = true
      · by_cases ht : astrength (actAt p j) < astrength (actAt p n) <;> simp [cntStep, hs, ht] at h <;> omega
      · simp [cntStep, hs] at h; omega
theorem says_cnt (p : PolD) (r : RecD) : ∀ n (_ : n ≤ p.rules.length), (p.rules.take n).foldl (sayStep r) (p.default, false) = (match cntTo p r n with | none => (p.default, false) | some k => (actAt p k, true))
  | 0, _ => rfl
  | n + 1, h => by
    have hn : n < p.rules.length := by omega
    have e : p.rules[n]? = some p.rules[n] := List.getElem?_eq_getElem hn
    have ea : actAt p n = p.rules[n].action := by simp [actAt, e]
    have es : spk p r n = rmatches p.rules[n] r := by simp [spk, e]
    rw [List.take_succ_eq_append_getElem hn, List.foldl_append, says_cnt p r n (by omega), cntTo_succ]
    simp only [List.foldl_cons, List.foldl_nil, cntStep, es]
    cases hc : cntTo p r n with
    | none => by_cases hm : rmatches p.rules[n] r = true <;> simp [sayStep, hm, ea]
    | some k =>
      by_cases hm : rmatches p.rules[n] r = true
      · by_cases hs : astrength (actAt p k) < astrength (actAt p n)
        · have hs' := hs
          rw [ea] at hs'
          simp [sayStep, hm, astronger, hs, hs', ea]
        · have hs' := hs
          rw [ea] at hs'
          simp [sayStep, hm, astronger, hs, hs']
      · simp [hm, sayStep]
end Go.AM
end
section
namespace Go.AM
variable {E : Sy} {H : AH} {Q : Value → AH → Prop}
theorem astronger_kind (a b : BitVec 32) : (astronger (akind a) (akind b) ≠ akind a) ↔ astrength a < astrength b := by
  have h1 : ∀ x : BitVec 32, akind (akind x) = akind x := by
    intro x; unfold akind; repeat' split
    all_goals (first | rfl | simp_all)
  have h2 : ∀ x, astrength (akind x) = astrength x := by intro x; simp [astrength, h1]
  unfold astronger
  rw [h2, h2]
  constructor
  · intro h
    split at h
    · assumption
    · simp at h
  · intro h
    rw [if_pos h]
    intro e
    have := congrArg astrength e
    rw [h2, h2] at this
    omega
theorem S.mean_Speaks (hE : Fold E) (p : PolD) (cs : List Value) (hp : PolAt H p cs) (hn : p.rules.length ≤ 1000) (r : RecD) (hr : r.ok)
    (hQ : ∀ v H', Ext H H' → Rows H' 1 v ((spkTo p r p.rules.length).map fun i : Nat => [vi i]) → Q (.tuple #[v, vi (cntV (cntTo p r p.rules.length))]) H') : E.call (E.fid i.mean_Speaks) [.agg cs.toArray, r.v] H Q := by
  apply hE.mean_Speaks
  obtain ⟨hb, a, v, b', c', d', rfl, hv⟩ := hp
  have hl := hv.lenSlc
  simp [F.mean_Speaks, AH.get_new, hl]
  generalize hH2 : (H.new _).new _ = H2
  have x2 : Ext H H2 := by subst hH2; exact ((Ext.refl H).new _).new _
  have k2 : H2.get (H.next + 1) = .cells r.cells none := by subst hH2; simp [AH.get_new]
  have k1 : H2.get H.next = .cells [a, u32 p.default, v, b', c', d'] none := by subst hH2; simp [AH.get_new]
  clear hH2
  have spk_len : ∀ n, (spkTo p r n).length ≤ n := fun n => by
    have := List.length_filter_le (spk p r) (List.range n)
    simpa [spkTo] using this
  refine LoopL.count p.rules.length (fun i s H' => ∃ t4, s = [ptr H.next 0, ptr (H.next + 1) 0, t4, vi (cntV (cntTo p r i)), v, vi p.rules.length, vi i] ∧ Ext H2 H' ∧ Own H2 H' 1 t4 ((spkTo p r i).map fun i : Nat => [vi i])) ?_ ⟨_, rfl, Ext.refl _, Own.nil _ _ _⟩
  rintro i _ H' X hi hX ⟨t4, rfl, e1, hO⟩
  simp only [F.mean_Speaks_l1, nth_0, nth_1, nth_2, nth_3, nth_4, nth_5, nth_6, i64_lss, opt_some]
  refine ifB_split (fun h => ?_) (fun h => ?_)
  · have hil : i < p.rules.length := by omega
    obtain ⟨b, ofs, ccs, f1, f2, f3⟩ := (hv.mono (fun _ _ _ _ h e => RuleAt.mono h e) (x2.trans e1)).ix (i := i) hil
    simp only [f1, opt_some, loadN_ptr, f2, Option.map_some]
    have hsk : spk p r i = rmatches p.rules[i] r := by simp [spk, hil]
    have hact : actAt p i = p.rules[i].action := by simp [actAt, hil]
    have hs1 := spkTo_succ p r i
    have hc1 := cntTo_succ p r i
    rw [hsk] at hs1
    simp only [cntStep, hsk] at hc1
    have k2' := e1.cells k2
    have k1' := e1.cells k1
    have e9 := row_all r.cells none 9 (RecD.cells_len hr)
    have hlt : H.next + 1 < H'.next := AH.lt_cells k2'
    obtain ⟨hxl, w, rfl, hw⟩ := f3
    simp [splice, AH.get_new, Nat.ne_of_lt hlt, k2', e9, hw.plain]
    generalize hH3 : H'.new _ = H3
    have x3 : Ext H' H3 := by subst hH3; exact (Ext.refl H').new _
    have k3 : H3.get H'.next = .cells [u32 p.rules[i].number, u32 p.rules[i].action, w] none := by subst hH3; simp
    clear hH3
    refine S.mean_Matches hE p.rules[i] _ ⟨hxl, w, rfl, hw.mono x3⟩ r hr fun H4 h4 => ?_
    have k4 := h4.cells k3
    have e4 := e1.trans (x3.trans h4)
    have hO4 := hO.mono (x3.trans h4)
    have hblk : blk t4 ≠ some H'.next := fun hh => by have := hO.blk_lt hh; omega
    have hblk2 : blk t4 ≠ some H4.next := fun hh => by have := hO4.blk_lt hh; omega
    have hlt4 : H'.next < H4.next := AH.lt_cells k4
    by_cases hm : rmatches p.rules[i] r = true
    · simp [hm]
      have hlen := spk_len i
      obtain ⟨v', H5, a1, a2, a3⟩ := (hO4.mono ((Ext.refl H4).new (.cells [vi i] none))).app (e4.new _) (bytes := 8) (x := slc H4.next 0 1 1) (new := [[vi i]]) (Rows.made (f := none) (AH.get_new_self _ _) (.inl rfl) rfl (by simp)) (by simp) (by omega) (by omega) (by simp; omega) (by simp; omega)
      have e5 := a3.1
      have m1 := e5.cells k1
      have m4 : H5.get H'.next = .cells [u32 p.rules[i].number, u32 p.rules[i].action, w] none := by
        rw [a3.2.2.1 _ (by simp; omega) hblk, AH.get_new_lt _ _ hlt4]; exact k4
      simp only [hm, if_true] at hs1 hc1
      have hO5 : Own H2 H5 1 v' ((spkTo p r (i + 1)).map fun i : Nat => [vi i]) := by rw [hs1]; simpa using a2
      simp [a1]
      cases hc : cntTo p r i with
      | none =>
        rw [hc] at hc1
        simp only at hc1
        simp [cntV]
        rw [i64_inc (by omega), opt_some]
        exact hX hil _ _ ⟨v', by rw [hc1]; rfl, e5, hO5⟩
      | some k =>
        rw [hc] at hc1
        simp only at hc1
        have hk : k < i := cntTo_lt p r i hc
        have hkl : k < p.rules.length := by omega
        obtain ⟨bk, ok, ck, g1, g2, g3⟩ := (hv.mono (fun _ _ _ _ h e => RuleAt.mono h e) (x2.trans e5)).ix (i := k) hkl
        have g4 : (H5.get bk).cell (ok + 1) = some (u32 p.rules[k].action) := by
          obtain ⟨_, w', rfl, _⟩ := g3
          rw [row_at g2 (by omega : 1 < 3)]; rfl
        have hak : actAt p k = p.rules[k].action := by simp [actAt, hkl]
        have hneg : ¬ ((k : Int) < 0) := by omega
        simp [cntV, hneg, m1, g1, m4, g4]
        refine S.record_Action_Kind hE _ ?_
        simp [m1, g1, m4, g4]
        refine S.record_Action_Kind hE _ ?_
        simp [m1, g1, m4, g4]
        refine S.record_Stronger hE _ _ ?_
        simp [m1, g1, m4, g4]
        refine S.record_Action_Kind hE _ ?_
        simp
        have hst := astronger_kind p.rules[k].action p.rules[i].action
        by_cases hs : astrength p.rules[k].action < astrength p.rules[i].action
        · have hst' := hst.2 hs
          simp [hst']
          rw [i64_inc (by omega), opt_some]
          refine hX hil _ _ ⟨v', ?_, e5, hO5⟩
          rw [hc1, hak, hact, if_pos hs]; rfl
        · have hst' : astronger (akind p.rules[k].action) (akind p.rules[i].action) = akind p.rules[k].action := by
            apply Classical.byContradiction
            intro hh; exact hs (hst.1 hh)
          simp [hst']
          rw [i64_inc (by omega), opt_some]
          refine hX hil _ _ ⟨v', ?_, e5, hO5⟩
          rw [hc1, hak, hact, if_neg hs]; rfl
    · simp [hm]
      rw [i64_inc (by omega), opt_some]
      simp only [hm] at hs1 hc1
      refine hX hil _ _ ⟨t4, ?_, e4, ?_⟩
      · rw [hc1]; simp
      · rw [hs1]; simpa using hO4
  · have : i = p.rules.length := by omega
    subst this
    exact hQ _ _ (x2.trans e1) hO.toRows
end Go.AM
end
section
namespace Go.AM
variable {E : Sy} {H : AH} {Q : Value → AH → Prop}
abbrev recSh : Sh := .struct [.int .u32, .int .u32, .int .u64, .arr 6 (.int .u64)]
theorem SV.rec {cs : List Value} (h : SV H recSh cs) : ∃ r : RecD, r.ok ∧ cs = r.cells := by
  obtain ⟨c1, c2, rfl, h1, c3, c4, rfl, h2, c5, c6, rfl, h3, c7, c8, rfl, h4, rfl⟩ := h
  obtain ⟨x1, rfl⟩ := h1.u32
  obtain ⟨x2, rfl⟩ := h2.u32
  obtain ⟨x3, rfl⟩ := h3.u64
  obtain ⟨rows, hl, rfl, hr⟩ := h4
  obtain ⟨l, rfl⟩ := rows_map (f := AM.u64) fun r h => (hr r h).u64
  refine ⟨⟨x1, x2, x3, l⟩, by simpa [RecD.ok] using hl, ?_⟩
  have := flatten_single (l.map AM.u64)
  rw [List.map_map] at this
  simp only [RecD.cells, List.cons_append, List.nil_append, List.append_nil]
  simpa [Function.comp_def] using this
theorem ArgSV.rec {v : Value} (h : ArgSV H recSh v) : ∃ r : RecD, r.ok ∧ v = r.v := by
  obtain ⟨cs, rfl, h⟩ := h
  obtain ⟨r, hr, rfl⟩ := SV.rec (show SV H recSh cs from h)
  exact ⟨r, hr, rfl⟩
theorem S.law_RecordHalves (hE : Fold E) (args : List Value) (ha : ArgsSV H [recSh, .int .i64] args) (hQ : ∀ H', Q (vb true) H') : E.call (E.fid i.pinfoldlaw04_RecordHalves) args H Q := by
  obtain ⟨v1, _, rfl, h1, ha⟩ := ha.cons_inv
  obtain ⟨v2, _, rfl, h2, ha⟩ := ha.cons_inv
  obtain rfl := ha.nil_inv
  obtain ⟨r, hr, rfl⟩ := h1.rec
  obtain ⟨n, rfl, _⟩ := h2.i64
  exact S.RecordHalves_ hE r hr n (fun h => S.pinfoldlaw04_Awake hE h) hQ
end Go.AM
end
section
namespace Go.AM
variable {E : Sy} {H : AH} {Q : Value → AH → Prop}
abbrev condSh : Sh := .struct [.int .i64, .int .u8, .int .u64, .int .u64]
abbrev ruleSh : Sh := .struct [.int .u32, .int .u32, .slice 4 condSh]
abbrev polSh : Sh := .struct [.str, .int .u32, .slice 3 ruleSh, .int .u16, .slice 2 (.struct [.str, .int .u16]), .slice 2 (.struct [.int .u16, .int .u16])]
abbrev scondSh : Sh := .struct [.int .u8, .int .u8, .int .u8, .int .u8]
abbrev smallSh : Sh := .struct [.int .u8, .int .u8, .int .u8, .slice 4 (.struct [.int .u8, .int .u8, .int .u8, .slice 4 scondSh]), .int .u16, .slice 1 (.int .u8), .slice 1 (.int .u16), .slice 1 (.int .u8)]
theorem rows_map' {α : Type} {f : α → List Value} : ∀ {rows : List (List Value)}, (∀ r ∈ rows, ∃ x, r = f x) → ∃ l : List α, rows = l.map f
  | [], _ => ⟨[], rfl⟩
  | r :: rows, h => by
    obtain ⟨x, rfl⟩ := h r (by simp)
    obtain ⟨l, rfl⟩ := rows_map' (rows := rows) (fun r hr => h r (by simp [hr]))
    exact ⟨x :: l, rfl⟩
theorem rows_rel {α : Type} {R : α → List Value → Prop} : ∀ {rows : List (List Value)}, (∀ r ∈ rows, ∃ x, R x r) → ∃ l : List α, rows.length = l.length ∧ ∀ i (h1 : i < l.length) (h2 : i < rows.length), R l[i] rows[i]
  | [], _ => ⟨[], rfl, fun i h => by simp at h⟩
  | r :: rows, h => by
    obtain ⟨x, hx⟩ := h r (by simp)
    obtain ⟨l, h1, h2⟩ := rows_rel (rows := rows) (fun r hr => h r (by simp [hr]))
    refine ⟨x :: l, by simp [h1], fun i a b => ?_⟩
    cases i with
    | zero => exact hx
    | succ i => exact h2 i (by simpa using a) (by simpa using b)
theorem SV.cond {cs : List Value} (h : SV H condSh cs) : ∃ d : CondD, cs = d.cells := by
  obtain ⟨c1, c2, rfl, h1, c3, c4, rfl, h2, c5, c6, rfl, h3, c7, c8, rfl, h4, rfl⟩ := h
  obtain ⟨x1, rfl, _⟩ := h1.i64
  obtain ⟨x2, rfl⟩ := h2.u8
  obtain ⟨x3, rfl⟩ := h3.u64
  obtain ⟨x4, rfl⟩ := h4.u64
  exact ⟨⟨x1, x2, x3, x4⟩, rfl⟩
theorem SV.scond {cs : List Value} (h : SV H scondSh cs) : ∃ d : SCond, cs = d.cells := by
  obtain ⟨c1, c2, rfl, h1, c3, c4, rfl, h2, c5, c6, rfl, h3, c7, c8, rfl, h4, rfl⟩ := h
  obtain ⟨x1, rfl⟩ := h1.u8
  obtain ⟨x2, rfl⟩ := h2.u8
  obtain ⟨x3, rfl⟩ := h3.u8
  obtain ⟨x4, rfl⟩ := h4.u8
  exact ⟨⟨x1, x2, x3, x4⟩, rfl⟩
theorem SV.sliceOf {α : Type} {R : AH → α → List Value → Prop} {sz : Nat} {e : Sh} {cs : List Value} (hf : ∀ r, SV H e r → ∃ x, R H x r) (h : SV H (.slice sz e) cs) : ∃ v, ∃ l : List α, cs = [v] ∧ SliceOf R H sz v l ∧ l.length < 2 ^ 63 := by
  obtain ⟨v, rows, rfl, h1, h2, h3⟩ := h
  obtain ⟨l, g1, g2⟩ := rows_rel (R := R H) fun r hr => hf r (h3 r hr)
  exact ⟨v, l, rfl, ⟨rows, h1, g1, g2⟩, by omega⟩
theorem SV.rowsOf {α : Type} {f : α → List Value} {sz : Nat} {e : Sh} {cs : List Value} (hf : ∀ r, SV H e r → ∃ x, r = f x) (h : SV H (.slice sz e) cs) : ∃ v, ∃ l : List α, cs = [v] ∧ Rows H sz v (l.map f) ∧ l.length < 2 ^ 63 := by
  obtain ⟨v, rows, rfl, h1, h2, h3⟩ := h
  obtain ⟨l, rfl⟩ := rows_map' fun r hr => hf r (h3 r hr)
  exact ⟨v, l, rfl, h1, by simp at h2; omega⟩
theorem SV.rule {cs : List Value} (h : SV H ruleSh cs) : ∃ d : RuleD, RuleAt H d cs := by
  obtain ⟨c1, c2, rfl, h1, c3, c4, rfl, h2, c5, c6, rfl, h3, rfl⟩ := h
  obtain ⟨x1, rfl⟩ := h1.u32
  obtain ⟨x2, rfl⟩ := h2.u32
  obtain ⟨v, l, rfl, h4, h5⟩ := SV.rowsOf (f := CondD.cells) (fun r hr => SV.cond hr) h3
  exact ⟨⟨x1, x2, l⟩, h5, v, rfl, h4⟩
theorem SV.srule {cs : List Value} (h : SV H (.struct [.int .u8, .int .u8, .int .u8, .slice 4 scondSh]) cs) : ∃ d : SRule, SRuleAt H d cs := by
  obtain ⟨c1, c2, rfl, h1, c3, c4, rfl, h2, c5, c6, rfl, h3, c7, c8, rfl, h4, rfl⟩ := h
  obtain ⟨x1, rfl⟩ := h1.u8
  obtain ⟨x2, rfl⟩ := h2.u8
  obtain ⟨x3, rfl⟩ := h3.u8
  obtain ⟨v, l, rfl, h4, h5⟩ := SV.rowsOf (f := SCond.cells) (fun r hr => SV.scond hr) h4
  exact ⟨⟨x1, x2, x3, l⟩, h5, v, rfl, h4⟩
theorem SV.pol {cs : List Value} (h : SV H polSh cs) : ∃ x : PolX, PolXAt H x cs ∧ x.fits := by
  obtain ⟨c1, c2, rfl, h1, c3, c4, rfl, h2, c5, c6, rfl, h3, c7, c8, rfl, h4, c9, c10, rfl, h5, c11, c12, rfl, h6, rfl⟩ := h
  obtain ⟨nm, rfl, hn⟩ := h1
  obtain ⟨x2, rfl⟩ := h2.u32
  obtain ⟨v, l, rfl, g1, g2⟩ := SV.sliceOf (R := RuleAt) (fun r hr => SV.rule hr) h3
  obtain ⟨x4, rfl⟩ := h4.u16
  obtain ⟨pv, pl, rfl, g3, g4⟩ := SV.rowsOf (f := fun p : List UInt8 × BitVec 16 => [AM.str p.1, AM.u16 p.2]) (fun r hr => by
    obtain ⟨c1, c2, rfl, h1, c3, c4, rfl, h2, rfl⟩ := hr
    obtain ⟨s, rfl, _⟩ := h1
    obtain ⟨w, rfl⟩ := h2.u16
    exact ⟨(s, w), rfl⟩) h5
  obtain ⟨qv, ql, rfl, g5, g6⟩ := SV.rowsOf (f := fun p : BitVec 16 × BitVec 16 => [AM.u16 p.1, AM.u16 p.2]) (fun r hr => by
    obtain ⟨c1, c2, rfl, h1, c3, c4, rfl, h2, rfl⟩ := hr
    obtain ⟨s, rfl⟩ := h1.u16
    obtain ⟨w, rfl⟩ := h2.u16
    exact ⟨(s, w), rfl⟩) h6
  exact ⟨⟨nm, ⟨x2, l⟩, x4, pl, ql⟩, ⟨v, pv, qv, rfl, g1, g3, g5⟩, by simp; omega, g2, g4, g6⟩
theorem ArgSV.pol {v : Value} (h : ArgSV H polSh v) : ∃ (x : PolX) (cs : List Value), v = .agg cs.toArray ∧ PolXAt H x cs ∧ x.fits := by
  obtain ⟨cs, rfl, h⟩ := h
  obtain ⟨x, h1, h2⟩ := SV.pol (show SV H polSh cs from h)
  exact ⟨x, cs, rfl, h1, h2⟩
theorem SV.small {cs : List Value} (h : SV H smallSh cs) : ∃ x : Small, SmallAt H x cs := by
  obtain ⟨c1, c2, rfl, h1, c3, c4, rfl, h2, c5, c6, rfl, h3, c7, c8, rfl, h4, c9, c10, rfl, h5, c11, c12, rfl, h6, c13, c14, rfl, h7, c15, c16, rfl, h8, rfl⟩ := h
  obtain ⟨x1, rfl⟩ := h1.u8
  obtain ⟨x2, rfl⟩ := h2.u8
  obtain ⟨x3, rfl⟩ := h3.u8
  obtain ⟨v, l, rfl, g1, g2⟩ := SV.sliceOf (R := SRuleAt) (fun r hr => SV.srule hr) h4
  obtain ⟨x5, rfl⟩ := h5.u16
  obtain ⟨pv, pl, rfl, g3, g4⟩ := SV.vals (fun r hr => SV.u8 hr) h6
  obtain ⟨rv, rl, rfl, g5, g6⟩ := SV.vals (fun r hr => SV.u16 hr) h7
  obtain ⟨qv, ql, rfl, g7, g8⟩ := SV.vals (fun r hr => SV.u8 hr) h8
  exact ⟨⟨x1, x2, x3, l, x5, pl, rl, ql⟩, v, pv, rv, qv, rfl, g1, g3, g5, g7, g2, by simp; omega, by simp; omega, by simp; omega⟩
theorem ArgSV.small {v : Value} (h : ArgSV H smallSh v) : ∃ (x : Small) (cs : List Value), v = .agg cs.toArray ∧ SmallAt H x cs := by
  obtain ⟨cs, rfl, h⟩ := h
  obtain ⟨x, h1⟩ := SV.small (show SV H smallSh cs from h)
  exact ⟨x, cs, rfl, h1⟩
theorem rows_recs {rows : List (List Value)} (h : ∀ r ∈ rows, SV H recSh r) : ∃ l : List RecD, rows = l.map RecD.cells ∧ ∀ r ∈ l, r.ok := by
  induction rows with
  | nil => exact ⟨[], rfl, by simp⟩
  | cons r rows ih =>
    obtain ⟨x, hx, rfl⟩ := SV.rec (h r (by simp))
    obtain ⟨l, rfl, hl⟩ := ih fun r hr => h r (by simp [hr])
    exact ⟨x :: l, rfl, by simpa using ⟨hx, hl⟩⟩
theorem ArgSV.recs {v : Value} (h : ArgSV H (.slice 9 recSh) v) : ∃ l : List RecD, Rows H 9 v (l.map RecD.cells) ∧ (∀ r ∈ l, r.ok) := by
  obtain ⟨w, rows, e, h1, h2, h3⟩ := (show SV H (.slice 9 recSh) [v] from h)
  obtain rfl : v = w := by simpa using e
  obtain ⟨l, rfl, hl⟩ := rows_recs h3
  exact ⟨l, h1, hl⟩
theorem ArgSV.u8s' {v : Value} (h : ArgSV H (.slice 1 (.int .u8)) v) : ∃ l : List (BitVec 8), Vals H v (l.map AM.u8) ∧ l.length < 2 ^ 63 := by
  obtain ⟨w, l, e, g3, g4⟩ := SV.vals (fun r hr => SV.u8 hr) (show SV H (.slice 1 (.int .u8)) [v] from h)
  obtain rfl : v = w := by simpa using e
  exact ⟨l, g3, by omega⟩
end Go.AM
end
