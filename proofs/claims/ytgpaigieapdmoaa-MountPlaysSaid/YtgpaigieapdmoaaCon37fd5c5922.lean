/- CONTRACTS ON THE PRINTED FUNCTIONS: Base, Res, Mount1, Mount2, Mount3, Mount4, Mount5, Mount6, Mount7, Cut, Lazy, StRef16, RefM1, RefM2, RefM3, StLaw17, LawMountPlays, LawMountPlays2. -/
import Derived.Test.YtgpaigieapdmoaaF
import Derived.Test.YtgpaigieapdmoaaAmD
set_option linter.all false
section
/- words for heaps that change: what stays, what is frozen, slices that grow, maps -/
namespace Go.AM
/-! ### what else stays -/
def Only (F : List Nat) (H H' : AH) : Prop := H.next ≤ H'.next ∧ ∀ b, b < H.next → b ∉ F → H'.get b = H.get b
theorem Only.refl (F : List Nat) (H : AH) : Only F H H := ⟨Nat.le_refl _, fun _ _ _ => rfl⟩
theorem Only.trans {F F' : List Nat} {H H' H'' : AH} (h : Only F H H') (h' : Only F' H' H'') (hs : ∀ b ∈ F', b ∈ F ∨ H.next ≤ b) : Only F H H'' :=
  ⟨Nat.le_trans h.1 h'.1, fun b hb hf => by
    rw [h'.2 b (Nat.lt_of_lt_of_le hb h.1) (fun k => (hs b k).elim hf (fun k => by omega)), h.2 b hb hf]⟩
theorem Only.trans' {F : List Nat} {H H' H'' : AH} (h : Only F H H') (h' : Only F H' H'') : Only F H H'' := h.trans h' fun _ k => .inl k
theorem Only.new {F : List Nat} {H H' : AH} (h : Only F H H') (o : AObj) : Only F H (H'.new o) :=
  ⟨Nat.le_succ_of_le h.1, fun b hb hf => by rw [AH.get_new_lt _ _ (Nat.lt_of_lt_of_le hb h.1)]; exact h.2 b hb hf⟩
theorem Only.put {F : List Nat} {H H' : AH} (h : Only F H H') {b : Nat} (hb : b ∈ F ∨ H.next ≤ b) (o : AObj) : Only F H (H'.put b o) :=
  ⟨h.1, fun x hx hf => by rw [AH.get_put_ne _ _ (by rintro rfl; exact hb.elim hf (fun k => by omega))]; exact h.2 x hx hf⟩
theorem Ext.only {F : List Nat} {H H' : AH} (h : Ext H H') : Only F H H' := ⟨h.1, fun b hb _ => h.2 b hb⟩
theorem Only.get {F : List Nat} {H H' : AH} (h : Only F H H') {b : Nat} (hb : b < H.next) (hf : b ∉ F) : H'.get b = H.get b := h.2 b hb hf
theorem Only.obj {F : List Nat} {H H' : AH} (h : Only F H H') {b : Nat} {o : AObj} (ho : o ≠ .dead) (hg : H.get b = o) (hf : b ∉ F) : H'.get b = o := by
  rw [h.2 b (AH.lt_of_get (by rw [hg]; exact ho)) hf, hg]
theorem Only.cells {F : List Nat} {H H' : AH} (h : Only F H H') {b : Nat} {c : List Value} {f : Option Nat} (hg : H.get b = .cells c f) (hf : b ∉ F) : H'.get b = .cells c f := h.obj (by simp) hg hf
theorem Only.mono {F F' : List Nat} {H H' : AH} (h : Only F H H') (hs : ∀ b ∈ F, b ∈ F' ∨ H.next ≤ b) : Only F' H H' :=
  ⟨h.1, fun b hb hf => h.2 b hb fun k => (hs b k).elim hf (fun k => by omega)⟩
theorem Only.ext {F : List Nat} {H0 H H' : AH} (h : Only F H H') (e : Ext H0 H) (hs : ∀ b ∈ F, H0.next ≤ b) : Ext H0 H' :=
  ⟨Nat.le_trans e.1 h.1, fun b hb => by rw [h.2 b (Nat.lt_of_lt_of_le hb e.1) (fun k => by have := hs b k; omega)]; exact e.2 b hb⟩
/-! ### what is frozen -/
def Sub (Z H : AH) : Prop := Z.next ≤ H.next ∧ ∀ b, Z.get b ≠ .dead → H.get b = Z.get b
theorem Sub.refl (H : AH) : Sub H H := ⟨Nat.le_refl _, fun _ _ => rfl⟩
theorem Ext.sub {H H' : AH} (e : Ext H H') : Sub H H' := ⟨e.1, fun _ hb => e.get (AH.lt_of_get hb)⟩
theorem Sub.trans {A B C : AH} (h : Sub A B) (h' : Sub B C) : Sub A C := ⟨Nat.le_trans h.1 h'.1, fun b hb => by rw [h'.2 b (by rw [h.2 b hb]; exact hb), h.2 b hb]⟩
theorem Sub.ext {Z H H' : AH} (h : Sub Z H) (e : Ext H H') : Sub Z H' := h.trans e.sub
theorem Sub.new {Z H : AH} (h : Sub Z H) (o : AObj) : Sub Z (H.new o) := h.ext ((Ext.refl H).new o)
theorem Sub.put {Z H : AH} (h : Sub Z H) {b : Nat} (hb : Z.get b = .dead) (o : AObj) : Sub Z (H.put b o) :=
  ⟨h.1, fun x hx => by rw [AH.get_put_ne _ _ (by rintro rfl; exact hx hb)]; exact h.2 x hx⟩
theorem Sub.only {Z H H' : AH} {F : List Nat} (h : Sub Z H) (o : Only F H H') (hF : ∀ b ∈ F, Z.get b = .dead) : Sub Z H' :=
  ⟨Nat.le_trans h.1 o.1, fun b hb => by
    have h1 := h.2 b hb
    rw [o.2 b (AH.lt_of_get (by rw [h1]; exact hb)) (fun k => hb (hF b k)), h1]⟩
theorem Sub.cells {Z H : AH} (h : Sub Z H) {b : Nat} {c : List Value} {f : Option Nat} (hb : Z.get b = .cells c f) : H.get b = .cells c f := by
  rw [h.2 b (by rw [hb]; simp), hb]
theorem AH.get_ge (H : AH) {b : Nat} (h : H.next ≤ b) : H.get b = .dead := by simp [AH.get, Nat.not_lt.2 h]
theorem Rows.sub {Z H : AH} {sz : Nat} {v : Value} {rows : List (List Value)} (h : Rows Z sz v rows) (e : Sub Z H) : Rows H sz v rows := by
  refine ⟨h.len, ?_⟩
  rcases h.at_ with h | ⟨b, o, c, h1, h2, h3, h4⟩
  · exact .inl h
  · have := e.2 b (row_notdead h4)
    exact .inr ⟨b, o, c, h1, h2, by rw [this]; exact h3, by rw [this]; exact h4⟩
/-- One block more is frozen. -/
def AH.freeze (Z : AH) (n b : Nat) (o : AObj) : AH := { next := n, raw := fun x => if x = b then o else Z.get x }
theorem AH.get_freeze (Z : AH) (n b : Nat) (o : AObj) (x : Nat) (hn : Z.next ≤ n) (hb : b < n) : (Z.freeze n b o).get x = if x = b then o else Z.get x := by
  by_cases h : x = b
  · subst h; simp [AH.get, AH.freeze, hb]
  · by_cases k : x < n
    · simp [AH.get, AH.freeze, h, k]
    · have : ¬ x < Z.next := by omega
      simp [AH.get, AH.freeze, h, k, this]
theorem Sub.freeze {Z H : AH} (h : Sub Z H) {b : Nat} (hb : b < H.next) : Sub (Z.freeze H.next b (H.get b)) H :=
  ⟨Nat.le_refl _, fun x hx => by
    rw [AH.get_freeze _ _ _ _ _ h.1 hb] at hx ⊢
    split
    · rename_i e; rw [e]
    · rename_i e; rw [if_neg e] at hx; exact h.2 x hx⟩
theorem Sub.to_freeze {Z H : AH} (h : Sub Z H) {b : Nat} (hb : b < H.next) : Sub Z (Z.freeze H.next b (H.get b)) :=
  ⟨h.1, fun x hx => by
    rw [AH.get_freeze _ _ _ _ _ h.1 hb]
    split
    · rename_i e; rw [← h.2 x hx, e]
    · rfl⟩
/-! ### slices that grow -/
def Grow (Z H : AH) (sz : Nat) (v : Value) (rows : List (List Value)) : Prop :=
  (∀ r ∈ rows, r.length = sz ∧ r.all plain1 = true) ∧ ((rows = [] ∧ v = nilS) ∨ ∃ b f c cs, Z.get b = .dead ∧ v = slc b 0 rows.length c ∧ H.get b = .cells cs f ∧ rows.length ≤ c ∧ cs.length = c * sz ∧ cs.take (rows.length * sz) = rows.flatten ∧
    (f = none ∨ f = some sz))
section
variable {Z H H' : AH} {sz : Nat} {v : Value} {rows : List (List Value)}
theorem Grow.nil (Z H : AH) (sz : Nat) : Grow Z H sz nilS [] := ⟨by simp, .inl ⟨rfl, rfl⟩⟩
theorem Grow.made {b n : Nat} {f : Option Nat} (hb : Z.get b = .dead) (hg : H.get b = .cells rows.flatten f) (hf : f = none ∨ f = some sz) (hn : rows.length = n) (hr : ∀ r ∈ rows, r.length = sz ∧ r.all plain1 = true) : Grow Z H sz (slc b 0 n n) rows := by
  subst hn
  have hfl := flatten_length rows fun r h => (hr r h).1
  exact ⟨hr, .inr ⟨b, f, rows.length, rows.flatten, hb, rfl, hg, Nat.le_refl _, hfl, by rw [← hfl, List.take_length], hf⟩⟩
theorem Grow.room {b c : Nat} {cs : List Value} (hb : Z.get b = .dead) (hg : H.get b = .cells cs none) (hc : cs.length = c * sz) : Grow Z H sz (slc b 0 0 c) [] :=
  ⟨by simp, .inr ⟨b, none, c, cs, hb, rfl, hg, Nat.zero_le _, hc, by simp, .inl rfl⟩⟩
theorem Grow.toRows (h : Grow Z H sz v rows) : Rows H sz v rows := by
  rcases h.2 with ⟨rfl, rfl⟩ | ⟨b, f, c, cs, h1, rfl, h3, h4, h5, h6, h7⟩
  · exact Rows.nil _ _ none
  · refine ⟨fun r hr => (h.1 r hr).1, .inr ⟨b, 0, c, rfl, h4, ?_, ?_⟩⟩
    · rw [h3]; rcases h7 with rfl | rfl <;> simp [fits]
    · have : rows.length * sz ≤ c * sz := Nat.mul_le_mul_right _ h4
      rw [h3, row_cells, if_pos (by omega), List.drop_zero, h6]
theorem Grow.plain (h : Grow Z H sz v rows) : plain1 v = true := by
  rcases h.2 with ⟨_, rfl⟩ | ⟨b, f, c, cs, h1, rfl, _⟩ <;> rfl
theorem Grow.keep (h : Grow Z H sz v rows) (e : ∀ b, blk v = some b → b < H.next → H'.get b = H.get b) : Grow Z H' sz v rows := by
  refine ⟨h.1, ?_⟩
  rcases h.2 with h | ⟨b, f, c, cs, h1, rfl, h3, h4⟩
  · exact .inl h
  · exact .inr ⟨b, f, c, cs, h1, rfl, by rw [e b rfl (AH.lt_cells h3)]; exact h3, h4⟩
theorem Grow.ext (h : Grow Z H sz v rows) (e : Ext H H') : Grow Z H' sz v rows := h.keep fun b _ hb => e.get hb
theorem Grow.only {F : List Nat} (h : Grow Z H sz v rows) (e : Only F H H') (hf : ∀ b, blk v = some b → b ∉ F) : Grow Z H' sz v rows := h.keep fun b k hb => e.get hb (hf b k)
theorem Grow.blk_dead (h : Grow Z H sz v rows) {b : Nat} (hb : blk v = some b) : Z.get b = .dead := by
  rcases h.2 with ⟨_, rfl⟩ | ⟨b', f, c, cs, h1, rfl, _⟩
  · simp [blk] at hb
  · simp [blk] at hb; subst hb; exact h1
theorem Grow.blk_lt (h : Grow Z H sz v rows) {b : Nat} (hb : blk v = some b) : b < H.next := by
  rcases h.2 with ⟨_, rfl⟩ | ⟨b', f, c, cs, h1, rfl, h3, _⟩
  · simp [blk] at hb
  · simp [blk] at hb; subst hb; exact AH.lt_cells h3
theorem Grow.refreeze {Z' : AH} (h : Grow Z H sz v rows) (hz : ∀ b, blk v = some b → Z'.get b = .dead) : Grow Z' H sz v rows := by
  refine ⟨h.1, ?_⟩
  rcases h.2 with h | ⟨b, f, c, cs, h1, rfl, h3⟩
  · exact .inl h
  · exact .inr ⟨b, f, c, cs, hz b rfl, rfl, h3⟩
def blkL (v : Value) : List Nat := match blk v with | some b => [b] | none => []
theorem mem_blkL {v : Value} {b : Nat} : b ∈ blkL v ↔ blk v = some b := by
  unfold blkL
  cases blk v <;> simp [eq_comm]
/-- A slice that grew is frozen. -/
theorem Grow.freeze (h : Grow Z H sz v rows) (hz : Sub Z H) : ∃ Z', Sub Z Z' ∧ Sub Z' H ∧ Rows Z' sz v rows ∧ ∀ b, blk v ≠ some b → Z'.get b = Z.get b := by
  have hr := h.toRows
  rcases h.2 with ⟨rfl, rfl⟩ | ⟨b, f, c, cs, h1, rfl, h3, h4, h5, h6, h7⟩
  · exact ⟨Z, Sub.refl _, hz, Rows.nil _ _ none, fun _ _ => rfl⟩
  · have hlt := AH.lt_cells h3
    have hg : ∀ x, (Z.freeze H.next b (H.get b)).get x = if x = b then H.get b else Z.get x := fun x => AH.get_freeze _ _ _ _ _ hz.1 hlt
    refine ⟨Z.freeze H.next b (H.get b), hz.to_freeze hlt, hz.freeze hlt, ?_, fun x hx => ?_⟩
    · refine ⟨hr.len, ?_⟩
      rcases hr.at_ with ⟨g1, a, g2⟩ | ⟨b', o, c', g1, g2, g3, g4⟩
      · exact .inl ⟨g1, a, g2⟩
      · simp only [Value.slice.injEq, Option.some.injEq, Addr.mk.injEq] at g1
        obtain ⟨⟨rfl, rfl, _⟩, _, rfl⟩ := g1
        exact .inr ⟨b, 0, c, rfl, g2, by rw [hg, if_pos rfl]; exact g3, by rw [hg, if_pos rfl]; exact g4⟩
    · rw [hg, if_neg (by rintro rfl; exact hx rfl)]
def Grew' (H H' : AH) (v v' : Value) : Prop := Only (blkL v) H H' ∧ ∀ b, blk v' = some b → blk v = some b ∨ H.next ≤ b
theorem Grow.app (h : Grow Z H sz v rows) (hZ : Z.next ≤ H.next) {bytes : Nat} {x : Value} {new : List (List Value)} (hx : Rows H sz x new) (hp : ∀ r ∈ new, r.all plain1 = true)
    (hs : sz ≠ 0) (hb : bytes ≠ 0) (h1 : (rows.length + new.length) * bytes ≤ 2 ^ 46) (h2 : rows.length + new.length < 2 ^ 62) :
    ∃ v' H', AM.app sz bytes v x H = some (v', H') ∧ Grow Z H' sz v' (rows ++ new) ∧ Grew' H H' v v' := by
  have hrows := h.toRows
  have hall : ∀ r ∈ rows ++ new, r.length = sz ∧ r.all plain1 = true := by
    intro r hr
    rcases List.mem_append.1 hr with hr | hr
    · exact h.1 r hr
    · exact ⟨hx.len r hr, hp r hr⟩
  have hpn : new.flatten.all plain1 = true := all_flatten hp
  have hpo : rows.flatten.all plain1 = true := all_flatten fun r hr => (h.1 r hr).2
  have hfn := flatten_length new hx.len
  have hfo := flatten_length rows fun r hr => (h.1 r hr).1
  have hnew : srcRow sz new.length x H = some new.flatten := firstRow_rows hx
  rcases h.2 with ⟨rfl, rfl⟩ | ⟨b, f, c, cs, g1, rfl, g3, g4, g5, g6, g7⟩
  · by_cases hn : new = []
    · subst hn
      refine ⟨nilS, H, ?_, ⟨by simp, .inl ⟨rfl, rfl⟩⟩, Only.refl _ _, fun b hb => .inl hb⟩
      have e := lenO_rows hx
      simp at e hnew
      simp [AM.app, e, hnew]
    · have hpos : 0 < new.length := List.length_pos_iff.2 hn
      refine ⟨slc H.next 0 new.length new.length, H.new (.cells new.flatten (some sz)), ?_, Grow.made (AH.get_ge _ hZ) (AH.get_new_self _ _) (.inr rfl) (by simp) (by simpa using hall), (Only.refl _ _).new _, fun b hb => .inr (by simp [blk] at hb; omega)⟩
      simp only [AM.app, lenO_rows hx, hnew, Option.bind_some, hpn, Bool.not_true, Bool.false_eq_true, if_false]
      simp at h1 h2
      rw [if_neg (by omega), if_neg (by simp; omega)]
      simp [firstRow]
  · have hlt := AH.lt_cells g3
    have hbl : blkL (slc b 0 rows.length c) = [b] := rfl
    have hmul : (rows.length + new.length) * sz = rows.length * sz + new.length * sz := Nat.add_mul _ _ _
    by_cases hcap : rows.length + new.length ≤ c
    · have hle : (rows.length + new.length) * sz ≤ c * sz := Nat.mul_le_mul_right _ hcap
      refine ⟨slc b 0 (rows.length + new.length) c, H.put b (.cells (splice cs (rows.length * sz) new.flatten) f), ?_, ⟨hall, .inr ⟨b, f, c, _, g1, by simp, AH.get_put_self _ _ hlt, by simpa using hcap, ?_, ?_, ?_⟩⟩, (Only.refl _ _).put (.inl (by simp [hbl])) _, fun b' hb' => .inl (by simpa [blk] using hb')⟩
      · simp only [AM.app, lenO_rows hx, hnew, Option.bind_some, hpn, Bool.not_true, Bool.false_eq_true, if_false]
        rw [if_pos hcap]
        simp only [Option.isSome_none, Bool.false_eq_true, if_false, g3]
        rw [if_pos (by omega), Nat.zero_add]
      · rw [splice_length (by omega)]; exact g5
      · simp only [List.length_append, List.flatten_append, hmul, splice]
        rw [List.take_append_of_le_length (by rw [List.length_append, List.length_take, hfn]; omega), List.take_of_length_le (by rw [List.length_append, List.length_take, hfn]; omega), g6]
      · exact g7
    · have hold : firstRow sz rows.length (slc b 0 rows.length c) H = some rows.flatten := by
        have : rows.length * sz ≤ c * sz := Nat.mul_le_mul_right _ g4
        simp only [firstRow, Option.isSome_none, Bool.false_eq_true, if_false, g3, row_cells]
        rw [if_pos (by omega), List.drop_zero, g6]
      have hfin : ∀ H1 : AH, H1.next = H.next → AM.app sz bytes (slc b 0 rows.length c) x H = some (mkSlc (rows.length + new.length) (rows.length + new.length) H.next, H1.new (.cells (rows.flatten ++ new.flatten) (some sz))) →
          Only [b] H H1 →
          ∃ v' H', AM.app sz bytes (slc b 0 rows.length c) x H = some (v', H') ∧ Grow Z H' sz v' (rows ++ new) ∧ Grew' H H' (slc b 0 rows.length c) v' := by
        intro H1 e1 e2 e3
        exact ⟨_, _, e2, Grow.made (AH.get_ge _ hZ) (by rw [← e1, AH.get_new_self, List.flatten_append]) (.inr rfl) (by simp) hall, by rw [hbl]; exact e3.new _, fun b' hb' => .inr (by simp [blk] at hb'; omega)⟩
      have pre : AM.app sz bytes (slc b 0 rows.length c) x H = (match f with
          | none => some (mkSlc (rows.length + new.length) (rows.length + new.length) H.next, H.new (.cells (rows.flatten ++ new.flatten) (some sz)))
          | some e => if e = sz then some (mkSlc (rows.length + new.length) (rows.length + new.length) H.next, (H.put b .dead).new (.cells (rows.flatten ++ new.flatten) (some sz))) else none) := by
        simp only [AM.app, lenO_rows hx, hnew, Option.bind_some, hpn, Bool.not_true, Bool.false_eq_true, if_false]
        rw [if_neg hcap, if_neg (by omega), hold]
        simp only [Option.bind_some, hpo, Bool.not_true, Bool.false_eq_true, if_false, g3]
        cases f <;> rfl
      rcases g7 with rfl | rfl
      · exact hfin H rfl pre (Only.refl _ _)
      · exact hfin (H.put b .dead) rfl (by rw [pre]; simp) ((Only.refl _ _).put (.inl (by simp)) _)
/-- One element more, as the code makes it: a slice of one, appended. -/
theorem Grow.app1 (h : Grow Z H sz v rows) (hZ : Z.next ≤ H.next) {bytes : Nat} (new : List Value) (hl : new.length = sz) (hp : new.all plain1 = true) (hs : sz ≠ 0) (hb : bytes ≠ 0) (h1 : (rows.length + 1) * bytes ≤ 2 ^ 46) :
    ∃ v' H', AM.app sz bytes v (slc H.next 0 1 1) (H.new (.cells new none)) = some (v', H') ∧ Grow Z H' sz v' (rows ++ [new]) ∧ Grew' H H' v v' := by
  have hb1 : 1 ≤ bytes := by omega
  have h2 : (rows.length + 1) * 1 ≤ (rows.length + 1) * bytes := Nat.mul_le_mul_left _ hb1
  obtain ⟨v', H', a1, a2, a3, a4⟩ := (h.ext ((Ext.refl H).new (.cells new none))).app (Nat.le_succ_of_le hZ) (bytes := bytes) (x := slc H.next 0 1 1) (new := [new]) (Rows.made (f := none) (by rw [AH.get_new_self]; simp) (.inl rfl) rfl (by simpa using hl)) (by simpa using hp) hs hb h1 (by simp at *; omega)
  refine ⟨v', H', a1, a2, ⟨by have := a3.1; simp at this; omega, fun b hb hf => ?_⟩, fun b hb => (a4 b hb).imp id fun k => by simp at k; omega⟩
  rw [a3.2 b (by simp; omega) hf, AH.get_new_lt _ _ hb]
end
theorem row_all (c : List Value) (f : Option Nat) (n : Nat) (h : c.length = n) : (AObj.cells c f).row 0 n = some c := by
  rw [row_cells, if_pos (by omega), List.drop_zero, List.take_of_length_le (by omega)]
/-! ### tables -/
theorem splice_mid (a b c v : List Value) (h : b.length = v.length) : splice (a ++ b ++ c) a.length v = a ++ v ++ c := by
  have h1 : (a ++ b ++ c).take a.length = a := by rw [List.append_assoc, List.take_left' rfl]
  have h2 : (a ++ b ++ c).drop (a.length + v.length) = c := by rw [← h, ← List.length_append, List.drop_left' rfl]
  simp only [splice, h1, h2]
theorem fillL_full (size : Nat) : ∀ (vs : List Value) (k : Nat) (pre post : List Value), pre.length = k * size → post.length = vs.length * size → (∀ v ∈ vs, (vcells v).length = size) →
    fillL (fun i => some (i * size, size)) (pre ++ post) ((List.range' k vs.length).zip vs) = some (pre ++ vs.flatMap vcells)
  | [], k, pre, post, _, h2, _ => by
    simp at h2
    simp [h2]
  | v :: vs, k, pre, post, h1, h2, h3 => by
    have hv := h3 v (by simp)
    have e : post = post.take size ++ post.drop size := (List.take_append_drop _ _).symm
    have hl : (post.take size).length = size := by rw [List.length_take, h2, List.length_cons, Nat.succ_mul]; omega
    have hs : splice (pre ++ post) (k * size) (vcells v) = (pre ++ vcells v) ++ post.drop size := by
      conv => lhs; rw [e]
      rw [← h1, ← List.append_assoc, splice_mid _ _ _ _ (by omega)]
    simp only [List.length_cons, List.range'_succ, List.zip_cons_cons, fillL_cons]
    rw [hv, hs]
    have ih := fillL_full size vs (k + 1) (pre ++ vcells v) (post.drop size) (by rw [List.length_append, h1, hv, Nat.succ_mul]) (by rw [List.length_drop, h2, List.length_cons, Nat.succ_mul]; omega) (fun x hx => h3 x (by simp [hx]))
    rw [ih]
    have hle : k * size + size ≤ pre.length + post.length := by rw [h1, h2, List.length_cons, Nat.succ_mul]; omega
    simp [hle]
/-- A slice made of as many parts as it has elements. -/
theorem buildS_full (len size : Nat) (zero : List Value) (parts : List (Nat × Value)) (vs : List Value) (hz : zero.length = size) (hp : parts = (List.range' 0 vs.length).zip vs) (hn : vs.length = len) (hd : vs.all defd = true) (hl : ∀ v ∈ vs, (vcells v).length = size) :
    buildS len size zero.toArray parts = some (.cells (vs.flatMap vcells) none, mkSlc len len) := by
  subst hp hn
  rw [buildS_eq _ _ _ _ hz]
  have h1 : ((List.range' 0 vs.length).zip vs).all (fun p => defd p.2) = true := by
    rw [List.all_eq_true] at hd ⊢
    intro p hp
    exact hd _ (List.of_mem_zip hp).2
  have := fillL_full size vs 0 [] (List.replicate vs.length zero).flatten (by simp) (by simp [hz]) hl
  simp only [List.nil_append] at this
  simp [h1, this]
  rfl
theorem buildS_one (size : Nat) (zero cs : List Value) (hz : zero.length = size) (h : cs.length = size) : buildS 1 size zero.toArray [(0, .agg cs.toArray)] = some (.cells cs none, mkSlc 1 1) := by
  have := buildS_full 1 size zero [(0, .agg cs.toArray)] [.agg cs.toArray] hz rfl rfl rfl (by simpa using h)
  simpa using this
theorem buildS_val (zero x : Value) (h : vcells x = [x]) (hd : defd x = true) : buildS 1 1 #[zero] [(0, x)] = some (.cells [x] none, mkSlc 1 1) := by
  have := buildS_full 1 1 [zero] [(0, x)] [x] rfl rfl rfl (by simp [hd]) (by simp [h])
  simpa [h] using this
@[simp] theorem callV_func (c : CallT) (g : FuncId) (a b : Array Value) (args : List Value) (H : AH) (K : Value → AH → Prop) : callV c (.func (.func g) a b) args H K = c g (a.toList ++ args ++ b.toList) H K := nrfl rfl
theorem nodup_le {α : Type} [DecidableEq α] : ∀ (l m : List α), l.Nodup → (∀ x ∈ l, x ∈ m) → l.length ≤ m.length
  | [], m, _, _ => Nat.zero_le _
  | x :: l, m, hn, hs => by
    have hx := hs x (by simp)
    rw [List.nodup_cons] at hn
    have := nodup_le l (m.erase x) hn.2 fun y hy => (List.mem_erase_of_ne (by rintro rfl; exact hn.1 hy)).2 (hs y (by simp [hy]))
    rw [List.length_erase_of_mem hx] at this
    have := List.length_pos_of_mem hx
    simp only [List.length_cons]
    omega
theorem lookup_set {K : Type} [DecidableEq K] {V : Type} (k : K) : ∀ l : List (K × V), (l.map fun p => (p.1, true)).lookup k = if k ∈ l.map Prod.fst then some true else none
  | [] => rfl
  | p :: l => by
    have ih := lookup_set k l
    by_cases e : k = p.1
    · simp [e, List.lookup]
    · have e' : (k == p.1) = false := by simpa using e
      simp only [List.map_cons, List.lookup, e', ih, List.mem_cons, e, false_or]
/-! ### numbers -/
theorem i64_rem_nat (a b : Nat) (hb : b ≠ 0) : binInt .rem (vi a) (vi b) = some (vi ((a % b : Nat) : Int)) := by
  rw [binInt_rem _ _ _ (by omega)]
  simp [Int.tmod]
theorem i64_quo_nat (a b : Nat) (hb : b ≠ 0) (ha : a < 2 ^ 63) : binInt .quo (vi a) (vi b) = some (vi ((a / b : Nat) : Int)) := by
  have h1 : a / b ≤ a := Nat.div_le_self _ _
  rw [binInt_quo _ _ _ (by omega)]
  have e : (a : Int).tdiv b = ((a / b : Nat) : Int) := by simp [Int.tdiv]
  rw [e]
  generalize a / b = q at *
  rw [wrap_i64 (by omega) (by omega)]
theorem i64_add_nat (a b : Nat) (h : a + b < 2 ^ 63) : binInt .add (vi a) (vi b) = some (vi ((a + b : Nat) : Int)) := by
  rw [i64_add (by omega) (by omega)]; simp
theorem i64_rem_num (a n : Nat) (hn : n ≠ 0) : binInt .rem (vi a) (vi (no_index (OfNat.ofNat n))) = some (vi ((a % n : Nat) : Int)) := i64_rem_nat a n hn
theorem i64_quo_num (a n : Nat) (hn : n ≠ 0) (ha : a < 2 ^ 63) : binInt .quo (vi a) (vi (no_index (OfNat.ofNat n))) = some (vi ((a / n : Nat) : Int)) := i64_quo_nat a n hn ha
/-! ### maps -/
/-- A map's entries, in the order in which they came. -/
def MapAt {K V : Type} (fk : K → Value) (fv : V → Value) (H : AH) (r : Nat) (l : List (K × V)) : Prop :=
  ∃ es clock, H.get r = .map es clock true ∧ es.map (fun e => (e.key, e.val)) = l.map fun p => (fk p.1, fv p.2)
def aset {K V : Type} [DecidableEq K] (k : K) (v : V) : List (K × V) → List (K × V)
  | [] => [(k, v)]
  | p :: l => if p.1 = k then (k, v) :: l else p :: aset k v l
section
variable {K V : Type} [DecidableEq K] {fk : K → Value} {fv : V → Value} {H : AH} {r kd : Nat}
theorem MapAt.lt {l : List (K × V)} (h : MapAt fk fv H r l) : r < H.next := by
  obtain ⟨es, clock, h1, _⟩ := h
  exact AH.lt_of_get (by rw [h1]; simp)
theorem MapAt.keep {H' : AH} {l : List (K × V)} (h : MapAt fk fv H r l) (e : H'.get r = H.get r) : MapAt fk fv H' r l := by
  obtain ⟨es, clock, h1, h2⟩ := h
  exact ⟨es, clock, by rw [e]; exact h1, h2⟩
theorem MapAt.new (H : AH) : MapAt fk fv (H.new (.map [] 0 true)) H.next ([] : List (K × V)) := ⟨[], 0, AH.get_new_self _ _, rfl⟩
theorem findE_told (hk : ∀ a b, sameCell kd (fk a) (fk b) = some (decide (a = b))) (k : K) : ∀ (es : List MapEntry) (l : List (K × V)), es.map (fun e => (e.key, e.val)) = l.map (fun p => (fk p.1, fv p.2)) →
    findE kd (fk k) es = some ((l.findIdx? fun p => decide (k = p.1)).bind fun i => (l[i]?).map fun p => (i, fv p.2))
  | [], [], _ => rfl
  | [], _ :: _, h => by simp at h
  | _ :: _, [], h => by simp at h
  | e :: es, p :: l, h => by
    simp only [List.map_cons, List.cons.injEq, Prod.mk.injEq] at h
    obtain ⟨⟨h1, h2⟩, h3⟩ := h
    have ih := findE_told hk k es l h3
    simp only [findE, h1, hk, Option.bind_some]
    by_cases e : k = p.1
    · simp [e, h2, List.findIdx?_cons]
    · simp only [e, decide_false, ih, Option.map_some, List.findIdx?_cons, if_false, Bool.false_eq_true]
      congr 1
      cases l.findIdx? fun p => decide (k = p.1) <;> simp
      rename_i i
      cases l[i]? <;> rfl
theorem lookup_findIdx (k : K) : ∀ l : List (K × V), (l.findIdx? fun p => decide (k = p.1)).bind (fun i => (l[i]?).map fun p => (i, fv p.2)) = (l.findIdx? fun p => decide (k = p.1)).bind (fun i => (l.lookup k).map fun v => (i, fv v))
  | [] => rfl
  | p :: l => by
    have ih := lookup_findIdx k l
    by_cases e : k = p.1
    · subst e
      simp [List.findIdx?_cons, List.lookup]
    · have e' : (k == p.1) = false := by simpa using e
      simp only [List.findIdx?_cons, e, decide_false, Bool.false_eq_true, if_false, List.lookup, e']
      cases hf : l.findIdx? fun p => decide (k = p.1) with
      | none => simp
      | some i =>
        rw [hf] at ih
        simp at ih ⊢
        cases h1 : l[i]? <;> cases h2 : l.lookup k <;> simp [h1, h2] at ih ⊢
        exact ih
theorem findIdx_lookup (k : K) : ∀ l : List (K × V), (l.findIdx? fun p => decide (k = p.1)) = none ↔ l.lookup k = none
  | [] => by simp
  | p :: l => by
    have ih := findIdx_lookup k l
    by_cases e : k = p.1
    · subst e; simp [List.findIdx?_cons, List.lookup]
    · have e' : (k == p.1) = false := by simpa using e
      simp only [List.findIdx?_cons, e, decide_false, Bool.false_eq_true, if_false, List.lookup, e']
      rw [Option.map_eq_none_iff]
      exact ih
theorem MapAt.look {l : List (K × V)} (h : MapAt fk fv H r l) (hk : ∀ a b, sameCell kd (fk a) (fk b) = some (decide (a = b))) (k : K) (zero : Value) (ok : Bool) :
    AM.look kd zero ok (.map (some r)) (fk k) H = some (match l.lookup k with | some v => (if ok then .tuple #[fv v, .bool true] else fv v) | none => (if ok then .tuple #[zero, .bool false] else zero)) := by
  obtain ⟨es, clock, h1, h2⟩ := h
  simp only [AM.look, entriesOf, h1, Option.bind_some]
  rw [findE_told hk k es l h2, lookup_findIdx]
  have := findIdx_lookup k l
  cases hf : l.findIdx? fun p => decide (k = p.1) with
  | none =>
    have this := this.1 hf
    simp only [this, Option.bind_none, Option.map_some]
  | some i =>
    rw [hf] at this
    cases hl : l.lookup k with
    | none => rw [hl] at this; simp at this
    | some v => simp
theorem aset_found (k : K) (v : V) : ∀ (l : List (K × V)) (i : Nat), (l.findIdx? fun p => decide (k = p.1)) = some i → aset k v l = l.set i (k, v)
  | [], i, h => by simp at h
  | p :: l, i, h => by
    by_cases e : k = p.1
    · subst e
      simp [List.findIdx?_cons] at h
      subst h
      simp [aset]
    · have e' : ¬ p.1 = k := fun x => e x.symm
      simp only [List.findIdx?_cons, e, decide_false, Bool.false_eq_true, if_false, Option.map_eq_some_iff] at h
      obtain ⟨j, h1, rfl⟩ := h
      simp [aset, e', aset_found k v l j h1]
theorem aset_none (k : K) (v : V) : ∀ (l : List (K × V)), (l.findIdx? fun p => decide (k = p.1)) = none → aset k v l = l ++ [(k, v)]
  | [], _ => rfl
  | p :: l, h => by
    by_cases e : k = p.1
    · subst e; simp [List.findIdx?_cons] at h
    · have e' : ¬ p.1 = k := fun x => e x.symm
      simp only [List.findIdx?_cons, e, decide_false, Bool.false_eq_true, if_false, Option.map_eq_none_iff] at h
      simp [aset, e', aset_none k v l h]
theorem MapAt.set {l : List (K × V)} (h : MapAt fk fv H r l) (hk : ∀ a b, sameCell kd (fk a) (fk b) = some (decide (a = b))) (k : K) (v : V) :
    ∃ o, o ≠ .dead ∧ setMap kd (.map (some r)) (fk k) (fv v) H = some (H.put r o) ∧ MapAt fk fv (H.put r o) r (aset k v l) := by
  have hlt := h.lt
  obtain ⟨es, clock, h1, h2⟩ := h
  have hlen : es.length = l.length := by simpa using congrArg List.length h2
  simp only [setMap, h1]
  rw [findE_told hk k es l h2]
  cases hf : l.findIdx? fun p => decide (k = p.1) with
  | none =>
    refine ⟨.map (es ++ [{ key := fk k, val := fv v, born := clock }]) (clock + 1) true, by simp, by simp, _, _, AH.get_put_self _ _ hlt, ?_⟩
    rw [aset_none k v l hf, List.map_append, List.map_append, h2]
    rfl
  | some i =>
    have hi : i < l.length := by
      have := List.findIdx?_eq_some_iff_getElem.1 hf
      exact this.1
    refine ⟨.map (es.modify i fun e => { e with key := fk k, val := fv v }) clock true, by simp, by simp [hi], _, _, AH.get_put_self _ _ hlt, ?_⟩
    rw [aset_found k v l i hf]
    apply List.ext_getElem?
    intro j
    have := congrArg (fun x => x[j]?) h2
    simp only [List.getElem?_map] at this
    simp only [List.getElem?_map, List.getElem?_modify, List.getElem?_set]
    by_cases e : i = j
    · subst e
      simp [hi]
      have : i < es.length := by omega
      simp [this]
    · simp [e, this]
end
theorem aset_new {K : Type} [DecidableEq K] {V W : Type} (k : K) (w : W) (f : V → W) : ∀ (l : List (K × V)), k ∉ l.map Prod.fst → aset k w (l.map fun p => (p.1, f p.2)) = (l.map fun p => (p.1, f p.2)) ++ [(k, w)]
  | [], _ => rfl
  | p :: l, h => by
    simp only [List.map_cons, List.mem_cons, not_or] at h
    have e : ¬ p.1 = k := fun x => h.1 x.symm
    simp only [List.map_cons, aset, e, if_false, aset_new k w f l h.2, List.cons_append]
end Go.AM
end
section
/- resources: what a stretch of code owns and changes, each with its blocks, none of them shared -/
namespace Go.AM
structure Res where
  fp : List Nat
  P : AH → Prop
  keep : ∀ {H H' : AH}, P H → (∀ b ∈ fp, H'.get b = H.get b) → P H'
structure Has (H0 Z H : AH) (L : List Res) : Prop where
  ext : Ext H0 H
  sub : Sub Z H
  all : ∀ r ∈ L, r.P H ∧ ∀ b ∈ r.fp, H0.next ≤ b ∧ b < H.next ∧ Z.get b = .dead
  nd : (L.flatMap Res.fp).Nodup
/-- One resource becomes another one. -/
structure Upd (r r' : Res) (H H' : AH) : Prop where
  only : Only r.fp H H'
  holds : r'.P H'
  fp : ∀ b ∈ r'.fp, (b ∈ r.fp ∨ H.next ≤ b) ∧ b < H'.next
  nd : r'.fp.Nodup
theorem Upd.trans {r r' r'' : Res} {H H' H'' : AH} (h : Upd r r' H H') (h' : Upd r' r'' H' H'') : Upd r r'' H H'' :=
  ⟨h.only.trans h'.only fun b hb => (h.fp b hb).1, h'.holds, fun b hb => ⟨by
    rcases (h'.fp b hb).1 with k | k
    · exact (h.fp b k).1
    · exact .inr (Nat.le_trans h.only.1 k), (h'.fp b hb).2⟩, h'.nd⟩
theorem Upd.ext {r r' : Res} {H H' H'' : AH} (h : Upd r r' H H') (e : Ext H' H'') : Upd r r' H H'' :=
  ⟨h.only.trans (e.only (F := [])) (by simp), r'.keep h.holds fun b hb => e.get (h.fp b hb).2, fun b hb => ⟨(h.fp b hb).1, Nat.lt_of_lt_of_le (h.fp b hb).2 e.1⟩, h.nd⟩
theorem Upd.after {r r' : Res} {H H' H'' : AH} (e : Ext H H') (h : Upd r r' H' H'') : Upd r r' H H'' :=
  ⟨(e.only (F := r.fp)).trans' h.only, h.holds, fun b hb => ⟨(h.fp b hb).1.imp id fun k => Nat.le_trans e.1 k, (h.fp b hb).2⟩, h.nd⟩
theorem Upd.refl {r : Res} {H : AH} (h : r.P H) (hf : ∀ b ∈ r.fp, b < H.next) (hn : r.fp.Nodup) : Upd r r H H := ⟨Only.refl _ _, h, fun b hb => ⟨.inl hb, hf b hb⟩, hn⟩
/-- More is frozen; of what lay ahead of a place, nothing more. -/
def Fz (n : Nat) (Z Z' : AH) : Prop := Sub Z Z' ∧ ∀ b, b < n → Z'.get b = Z.get b
theorem Fz.refl (n : Nat) (Z : AH) : Fz n Z Z := ⟨Sub.refl _, fun _ _ => rfl⟩
theorem Fz.trans {n : Nat} {A B C : AH} (h : Fz n A B) (h' : Fz n B C) : Fz n A C := ⟨h.1.trans h'.1, fun b hb => (h'.2 b hb).trans (h.2 b hb)⟩
theorem Fz.le {n m : Nat} {A B : AH} (h : Fz n A B) (hm : m ≤ n) : Fz m A B := ⟨h.1, fun b hb => h.2 b (Nat.lt_of_lt_of_le hb hm)⟩
/-- A new block, frozen at once. -/
theorem Sub.newfrozen {Z H : AH} (h : Sub Z H) (o : AObj) : ∃ Z', Fz H.next Z Z' ∧ Sub Z' (H.new o) ∧ Z'.get H.next = o := by
  have hs : Sub Z (H.new o) := h.new o
  have hlt : H.next < (H.new o).next := by simp
  refine ⟨Z.freeze (H.new o).next H.next ((H.new o).get H.next), ⟨hs.to_freeze hlt, fun b hb => ?_⟩, hs.freeze hlt, ?_⟩
  · rw [AH.get_freeze _ _ _ _ _ hs.1 hlt, if_neg (by omega)]
  · rw [AH.get_freeze _ _ _ _ _ hs.1 hlt, if_pos rfl, AH.get_new_self]
/-- What a callee froze, beside what was frozen. -/
theorem Fz.dead {n : Nat} {Z Z' : AH} (h : Fz n Z Z') {b : Nat} (hb : b < n) (hd : Z.get b = .dead) : Z'.get b = .dead := by rw [h.2 b hb, hd]
section
variable {H0 Z H H' : AH} {L : List Res}
theorem Has.begin (e : Ext H0 H) (s : Sub Z H) : Has H0 Z H [] := ⟨e, s, by simp, by simp⟩
/-- A callee has made what is frozen now. -/
theorem Has.refreeze (h : Has H0 Z H L) {Z' : AH} (e : Ext H H') (f : Fz H.next Z Z') (s : Sub Z' H') : Has H0 Z' H' L :=
  ⟨h.ext.trans e, s, fun r hr => by
    obtain ⟨h1, h2⟩ := h.all r hr
    exact ⟨r.keep h1 fun b hb => e.get (h2 b hb).2.1, fun b hb => ⟨(h2 b hb).1, Nat.lt_of_lt_of_le (h2 b hb).2.1 e.1, f.dead (h2 b hb).2.1 (h2 b hb).2.2⟩⟩, h.nd⟩
theorem Has.start (e : Ext H0 H) : Has H0 H H [] := ⟨e, Sub.refl _, by simp, by simp⟩
theorem Has.get (h : Has H0 Z H L) {k : Nat} {r : Res} (hk : L[k]? = some r) : r.P H := (h.all r (List.mem_of_getElem? hk)).1
theorem Has.lt (h : Has H0 Z H L) {k : Nat} {r : Res} (hk : L[k]? = some r) {b : Nat} (hb : b ∈ r.fp) : b < H.next := ((h.all r (List.mem_of_getElem? hk)).2 b hb).2.1
theorem Has.grow (h : Has H0 Z H L) (e : Ext H H') : Has H0 Z H' L :=
  ⟨h.ext.trans e, h.sub.ext e, fun r hr => by
    obtain ⟨h1, h2⟩ := h.all r hr
    exact ⟨r.keep h1 fun b hb => e.get (h2 b hb).2.1, fun b hb => ⟨(h2 b hb).1, Nat.lt_of_lt_of_le (h2 b hb).2.1 e.1, (h2 b hb).2.2⟩⟩, h.nd⟩
theorem Has.new (h : Has H0 Z H L) (o : AObj) : Has H0 Z (H.new o) L := h.grow ((Ext.refl H).new o)
theorem Has.add (h : Has H0 Z H L) (r : Res) (e : Ext H H') (hp : r.P H') (hf : ∀ b ∈ r.fp, H.next ≤ b ∧ b < H'.next) (hn : r.fp.Nodup) : Has H0 Z H' (L ++ [r]) := by
  have g := h.grow e
  refine ⟨g.ext, g.sub, fun x hx => ?_, ?_⟩
  · rcases List.mem_append.1 hx with hx | hx
    · exact g.all x hx
    · simp only [List.mem_singleton] at hx; subst hx
      exact ⟨hp, fun b hb => ⟨Nat.le_trans h.ext.1 (hf b hb).1, (hf b hb).2, AH.get_ge _ (Nat.le_trans h.sub.1 (hf b hb).1)⟩⟩
  · rw [List.flatMap_append, List.nodup_append]
    refine ⟨h.nd, by simpa using hn, fun a ha b hb => ?_⟩
    simp only [List.mem_flatMap] at ha
    obtain ⟨y, hy, ha⟩ := ha
    have := ((h.all y hy).2 a ha).2.1
    have := (hf b (by simpa using hb)).1
    omega
/-- Blocks of two places are not the same. -/
theorem nodup_disj : ∀ {L : List Res} (_ : (L.flatMap Res.fp).Nodup) {i j : Nat} {r s : Res} (_ : L[i]? = some r) (_ : L[j]? = some s) (_ : i ≠ j) {b : Nat} (_ : b ∈ r.fp), b ∉ s.fp
  | [], _, i, j, r, s, hi, _, _, b, _ => by simp at hi
  | x :: L, hn, i, j, r, s, hi, hj, hij, b, hb => by
    rw [List.flatMap_cons, List.nodup_append] at hn
    obtain ⟨_, h2, h3⟩ := hn
    intro hs
    cases i with
    | zero =>
      cases j with
      | zero => exact hij rfl
      | succ j =>
        simp at hi; subst hi
        exact h3 b hb b (List.mem_flatMap.2 ⟨s, List.mem_of_getElem? (by simpa using hj), hs⟩) rfl
    | succ i =>
      cases j with
      | zero =>
        simp at hj; subst hj
        exact h3 b hs b (List.mem_flatMap.2 ⟨r, List.mem_of_getElem? (by simpa using hi), hb⟩) rfl
      | succ j => exact nodup_disj h2 (by simpa using hi) (by simpa using hj) (by omega) hb hs
theorem nodup_set : ∀ {L : List Res} (_ : (L.flatMap Res.fp).Nodup) {n : Nat} (_ : ∀ r ∈ L, ∀ b ∈ r.fp, b < n) {k : Nat} {r r' : Res} (_ : L[k]? = some r) (_ : ∀ b ∈ r'.fp, b ∈ r.fp ∨ n ≤ b) (_ : r'.fp.Nodup), ((L.set k r').flatMap Res.fp).Nodup
  | [], _, n, _, k, r, r', hk, _, _ => by simp at hk
  | x :: L, hn, n, hlt, k, r, r', hk, hf, hr => by
    rw [List.flatMap_cons, List.nodup_append] at hn
    obtain ⟨h1, h2, h3⟩ := hn
    cases k with
    | zero =>
      simp at hk; subst hk
      rw [List.set_cons_zero, List.flatMap_cons, List.nodup_append]
      refine ⟨hr, h2, fun a ha b hb => ?_⟩
      rcases hf a ha with h | h
      · exact h3 a h b hb
      · obtain ⟨y, hy, hb⟩ := List.mem_flatMap.1 hb
        have := hlt y (by simp [hy]) b hb
        omega
    | succ k =>
      rw [List.set_cons_succ, List.flatMap_cons, List.nodup_append]
      refine ⟨h1, nodup_set h2 (fun r hr => hlt r (by simp [hr])) (by simpa using hk) hf hr, fun a ha b hb => ?_⟩
      obtain ⟨y, hy, hb⟩ := List.mem_flatMap.1 hb
      rcases List.mem_or_eq_of_mem_set hy with hy | e
      · exact h3 a ha b (List.mem_flatMap.2 ⟨y, hy, hb⟩)
      · subst e
        rcases hf b ‹b ∈ y.fp› with h | h
        · exact h3 a ha b (List.mem_flatMap.2 ⟨r, List.mem_of_getElem? (by simpa using hk), h⟩)
        · have := hlt x (by simp) a ha
          omega
theorem Has.step (h : Has H0 Z H L) {k : Nat} {r r' : Res} (hk : L[k]? = some r) (u : Upd r r' H H') : Has H0 Z H' (L.set k r') := by
  have hr := h.all r (List.mem_of_getElem? hk)
  refine ⟨u.only.ext h.ext fun b hb => (hr.2 b hb).1, h.sub.only u.only fun b hb => (hr.2 b hb).2.2, fun x hx => ?_, nodup_set h.nd (fun r hr b hb => ((h.all r hr).2 b hb).2.1) hk (fun b hb => (u.fp b hb).1) u.nd⟩
  obtain ⟨j, hj, hjx⟩ := List.getElem_of_mem hx
  by_cases e : k = j
  · subst e
    rw [List.getElem_set_self] at hjx
    subst hjx
    refine ⟨u.holds, fun b hb => ⟨?_, (u.fp b hb).2, ?_⟩⟩
    · rcases (u.fp b hb).1 with g | g
      · exact (hr.2 b g).1
      · exact Nat.le_trans h.ext.1 g
    · rcases (u.fp b hb).1 with g | g
      · exact (hr.2 b g).2.2
      · exact AH.get_ge _ (Nat.le_trans h.sub.1 g)
  · rw [List.getElem_set_ne e] at hjx
    have hj' : j < L.length := by simpa using hj
    have hjx' : L[j]? = some x := by rw [List.getElem?_eq_getElem hj', hjx]
    obtain ⟨h1, h2⟩ := h.all x (List.mem_of_getElem? hjx')
    refine ⟨x.keep h1 fun b hb => u.only.get (h2 b hb).2.1 (nodup_disj h.nd hjx' hk (Ne.symm e) hb), fun b hb => ⟨(h2 b hb).1, Nat.lt_of_lt_of_le (h2 b hb).2.1 u.only.1, (h2 b hb).2.2⟩⟩
theorem nodup_erase : ∀ {L : List Res} (_ : (L.flatMap Res.fp).Nodup) (k : Nat), ((L.eraseIdx k).flatMap Res.fp).Nodup
  | [], _, _ => by simp
  | x :: L, hn, 0 => by
    rw [List.flatMap_cons, List.nodup_append] at hn
    exact hn.2.1
  | x :: L, hn, k + 1 => by
    rw [List.flatMap_cons, List.nodup_append] at hn
    rw [List.eraseIdx_cons_succ, List.flatMap_cons, List.nodup_append]
    refine ⟨hn.1, nodup_erase hn.2.1 k, fun a ha b hb => ?_⟩
    obtain ⟨y, hy, hb⟩ := List.mem_flatMap.1 hb
    exact hn.2.2 a ha b (List.mem_flatMap.2 ⟨y, List.mem_of_mem_eraseIdx hy, hb⟩)
theorem Has.drop (h : Has H0 Z H L) (k : Nat) : Has H0 Z H (L.eraseIdx k) :=
  ⟨h.ext, h.sub, fun r hr => h.all r (List.mem_of_mem_eraseIdx hr), nodup_erase h.nd k⟩
theorem freeze_all (h : Sub Z H) : ∀ (l : List Nat), (∀ b ∈ l, b < H.next) → ∃ Z', Sub Z Z' ∧ Sub Z' H ∧ (∀ b ∈ l, Z'.get b = H.get b) ∧ ∀ b, b ∉ l → Z'.get b = Z.get b
  | [], _ => ⟨Z, Sub.refl _, h, by simp, fun _ _ => rfl⟩
  | b :: l, hl => by
    obtain ⟨Z', h1, h2, h3, h4⟩ := freeze_all h l fun x hx => hl x (by simp [hx])
    have hb := hl b (by simp)
    have hg : ∀ x, (Z'.freeze H.next b (H.get b)).get x = if x = b then H.get b else Z'.get x := fun x => AH.get_freeze _ _ _ _ _ h2.1 hb
    refine ⟨_, h1.trans (h2.to_freeze hb), h2.freeze hb, fun x hx => ?_, fun x hx => ?_⟩
    · rw [hg]
      split
      · rename_i e; rw [e]
      · rename_i e; exact h3 x (by simpa [e] using hx)
    · simp only [List.mem_cons, not_or] at hx
      rw [hg, if_neg hx.1, h4 x hx.2]
/-- A resource is never changed any more. -/
theorem Has.freeze (h : Has H0 Z H L) {k : Nat} {r : Res} (hk : L[k]? = some r) : ∃ Z', Fz H0.next Z Z' ∧ r.P Z' ∧ Has H0 Z' H (L.eraseIdx k) := by
  have hr := h.all r (List.mem_of_getElem? hk)
  obtain ⟨Z', h1, h2, h3, h4⟩ := freeze_all h.sub r.fp fun b hb => (hr.2 b hb).2.1
  refine ⟨Z', ⟨h1, fun b hb => h4 b fun hm => ?_⟩, r.keep hr.1 h3, h.ext, h2, fun x hx => ?_, nodup_erase h.nd k⟩
  · have := (hr.2 b hm).1
    omega
  obtain ⟨j, hjk, hj⟩ := List.mem_eraseIdx_iff_getElem?.1 hx
  obtain ⟨g1, g2⟩ := h.all x (List.mem_of_getElem? hj)
  exact ⟨g1, fun b hb => ⟨(g2 b hb).1, (g2 b hb).2.1, by rw [h4 b (nodup_disj h.nd hj hk hjk hb)]; exact (g2 b hb).2.2⟩⟩
end
/-! ### boxes, slices that grow, maps -/
def boxR (b : Nat) (c : List Value) : Res := ⟨[b], fun H => H.get b = .cells c none, fun h e => by rw [e _ (by simp)]; exact h⟩
def zH : AH := ⟨0, fun _ => .dead⟩
theorem zH_get (b : Nat) : zH.get b = .dead := by simp [AH.get, zH]
def growR (sz : Nat) (v : Value) (rows : List (List Value)) : Res := ⟨blkL v, fun H => Grow zH H sz v rows, fun h e => h.keep fun b hb _ => e b (mem_blkL.2 hb)⟩
def mapR {K V : Type} [DecidableEq K] (fk : K → Value) (fv : V → Value) (r : Nat) (l : List (K × V)) : Res := ⟨[r], fun H => MapAt fk fv H r l, fun h e => h.keep (e _ (by simp))⟩
section
variable {H0 Z H H' : AH} {L : List Res}
theorem blkL_nodup (v : Value) : (blkL v).Nodup := by unfold blkL; split <;> simp
theorem Has.box (h : Has H0 Z H L) {k b : Nat} {c : List Value} (hk : L[k]? = some (boxR b c)) : H.get b = .cells c none := h.get hk
theorem Has.box_lt (h : Has H0 Z H L) {k b : Nat} {c : List Value} (hk : L[k]? = some (boxR b c)) : b < H.next := AH.lt_cells (h.box hk)
theorem Has.newbox (h : Has H0 Z H L) (c : List Value) : Has H0 Z (H.new (.cells c none)) (L ++ [boxR H.next c]) :=
  h.add _ ((Ext.refl H).new _) (AH.get_new_self _ _) (by simp [boxR]) (by simp [boxR])
theorem Has.put (h : Has H0 Z H L) {k b : Nat} {c : List Value} (hk : L[k]? = some (boxR b c)) (c' : List Value) : Has H0 Z (H.put b (.cells c' none)) (L.set k (boxR b c')) :=
  h.step hk ⟨(Only.refl _ _).put (.inl (by simp [boxR])) _, AH.get_put_self _ _ (h.box_lt hk), fun x hx => ⟨.inl hx, by simp [boxR] at hx; subst hx; exact h.box_lt hk⟩, by simp [boxR]⟩
theorem Has.nils (h : Has H0 Z H L) (sz : Nat) : Has H0 Z H (L ++ [growR sz nilS []]) :=
  h.add _ (Ext.refl H) (Grow.nil _ _ _) (by simp [growR, blkL, blk]) (by simp [growR, blkL, blk])
theorem Has.slice (h : Has H0 Z H L) {k sz : Nat} {v : Value} {rows : List (List Value)} (hk : L[k]? = some (growR sz v rows)) : Grow zH H sz v rows := h.get hk
theorem Has.rows (h : Has H0 Z H L) {k sz : Nat} {v : Value} {rows : List (List Value)} (hk : L[k]? = some (growR sz v rows)) : Rows H sz v rows := (h.slice hk).toRows
theorem Grow.upd {sz : Nat} {v v' : Value} {rows rows' : List (List Value)} (g : Grew' H H' v v') (h' : Grow zH H' sz v' rows') : Upd (growR sz v rows) (growR sz v' rows') H H' :=
  ⟨g.1, h', fun b hb => ⟨(g.2 b (mem_blkL.1 hb)).imp mem_blkL.2 id, h'.blk_lt (mem_blkL.1 hb)⟩, blkL_nodup v'⟩
theorem Has.app1 (h : Has H0 Z H L) {k sz : Nat} {v : Value} {rows : List (List Value)} (hk : L[k]? = some (growR sz v rows)) {bytes : Nat} (new : List Value) (hl : new.length = sz) (hp : new.all plain1 = true) (hs : sz ≠ 0) (hb : bytes ≠ 0) (h1 : (rows.length + 1) * bytes ≤ 2 ^ 46) :
    ∃ v' H', AM.app sz bytes v (slc H.next 0 1 1) (H.new (.cells new none)) = some (v', H') ∧ plain1 v' = true ∧ Has H0 Z H' (L.set k (growR sz v' (rows ++ [new]))) := by
  obtain ⟨v', H', a1, a2, a3⟩ := (h.slice hk).app1 (Nat.zero_le _) new hl hp hs hb h1
  exact ⟨v', H', a1, a2.plain, h.step hk (Grow.upd a3 a2)⟩
theorem Has.app (h : Has H0 Z H L) {k sz : Nat} {v x : Value} {rows new : List (List Value)} (hk : L[k]? = some (growR sz v rows)) {bytes : Nat} (hx : Rows H sz x new) (hp : ∀ r ∈ new, r.all plain1 = true) (hs : sz ≠ 0) (hb : bytes ≠ 0) (h1 : (rows.length + new.length) * bytes ≤ 2 ^ 46) (h2 : rows.length + new.length < 2 ^ 62) :
    ∃ v' H', AM.app sz bytes v x H = some (v', H') ∧ plain1 v' = true ∧ Has H0 Z H' (L.set k (growR sz v' (rows ++ new))) := by
  obtain ⟨v', H', a1, a2, a3⟩ := (h.slice hk).app (Nat.zero_le _) hx hp hs hb h1 h2
  exact ⟨v', H', a1, a2.plain, h.step hk (Grow.upd a3 a2)⟩
theorem Has.newroom (h : Has H0 Z H L) (sz : Nat) : Has H0 Z (H.new (.cells [] none)) (L ++ [growR sz (slc H.next 0 0 0) []]) :=
  h.add _ ((Ext.refl H).new _) (Grow.room (zH_get _) (AH.get_new_self _ _) (by simp)) (by simp [growR, blkL, blk]) (by simp [growR, blkL, blk])
theorem Has.mapAt {K V : Type} [DecidableEq K] {fk : K → Value} {fv : V → Value} (h : Has H0 Z H L) {k r : Nat} {l : List (K × V)} (hk : L[k]? = some (mapR fk fv r l)) : MapAt fk fv H r l := h.get hk
theorem Has.newmap {K V : Type} [DecidableEq K] (fk : K → Value) (fv : V → Value) (h : Has H0 Z H L) : Has H0 Z (H.new (.map [] 0 true)) (L ++ [mapR fk fv H.next ([] : List (K × V))]) :=
  h.add _ ((Ext.refl H).new _) (MapAt.new H) (by simp [mapR]) (by simp [mapR])
theorem Has.mapset {K V : Type} [DecidableEq K] {fk : K → Value} {fv : V → Value} (h : Has H0 Z H L) {n r kd : Nat} {l : List (K × V)} (hn : L[n]? = some (mapR fk fv r l)) (hk : ∀ a b, sameCell kd (fk a) (fk b) = some (decide (a = b))) (k : K) (v : V) :
    ∃ H', setMap kd (.map (some r)) (fk k) (fv v) H = some H' ∧ Has H0 Z H' (L.set n (mapR fk fv r (aset k v l))) := by
  have hm := h.mapAt hn
  obtain ⟨o, h1, h2, h3⟩ := hm.set hk k v
  exact ⟨_, h2, h.step hn ⟨(Only.refl _ _).put (.inl (by simp [mapR])) _, h3, fun x hx => ⟨.inl hx, by simp [mapR] at hx; subst hx; exact hm.lt⟩, by simp [mapR]⟩⟩
end
end Go.AM
end
section
namespace Go.AM
variable {E : Sy} {H : AH} {Q : Value → AH → Prop}
structure PlaceD where
  m : Int
  i : BitVec 16
  deriving DecidableEq
def PlaceD.cells (p : PlaceD) : List Value := [vi p.m, u16 p.i]
abbrev PlaceD.v (p : PlaceD) : Value := .agg p.cells.toArray
structure MntD where
  id : Int
  at_ : PlaceD
  root : BitVec 16
  held : Int
  deriving DecidableEq
def MntD.cells (m : MntD) : List Value := [vi m.id, vi m.at_.m, u16 m.at_.i, u16 m.root, vi m.held]
abbrev MntD.v (m : MntD) : Value := .agg m.cells.toArray
theorem MntD.cells_plain (m : MntD) : m.cells.all plain1 = true := rfl
@[simp] theorem nilp_some (a : Addr) : binNil eqPtr .eql (.pointer (some a)) (.pointer none) = some (.bool false) := rfl
@[simp] theorem nilp_none : binNil eqPtr .eql (.pointer none) (.pointer none) = some (.bool true) := rfl
@[simp] theorem nilp_some' (a : Addr) : binNil eqPtr .neq (.pointer (some a)) (.pointer none) = some (.bool true) := rfl
@[simp] theorem nilp_none' : binNil eqPtr .neq (.pointer none) (.pointer none) = some (.bool false) := rfl
@[simp] theorem nilCk_ptr (a : Addr) : nilCk (.pointer (some a)) = some (.pointer (some a)) := rfl
/-- The first place where a test holds; below 0: nowhere. -/
def ixOf {α : Type} (P : α → Bool) (l : List α) : Int := match l.findIdx? P with | some i => (i : Int) | none => -1
theorem S.slices_IndexFunc_mount_Mount (hE : Fold E) (T : List MntD) (hT : T.length < 2 ^ 63) (v f : Value) (hv : Rows H 5 v (T.map MntD.cells)) (P : MntD → Bool)
    (hf : ∀ H' m (K : Value → AH → Prop), Ext H H' → m ∈ T → (∀ H'', Ext H' H'' → K (vb (P m)) H'') → callV E.call f [MntD.v m] H' K)
    (hQ : ∀ H', Ext H H' → Q (vi (ixOf P T)) H') : E.call (E.fid i.slices_IndexFunc_mount_Mount) [v, f] H Q := by
  apply hE.slices_IndexFunc_mount_Mount
  have hl := hv.lenSlc
  rw [List.length_map] at hl
  simp [F.slices_IndexFunc_mount_Mount, hl]
  refine LoopL.count T.length (fun j s H' => s = [v, f, vi T.length, vi j] ∧ Ext H H' ∧ ∀ i (hi : i < T.length), i < j → P T[i] = false) ?_ ⟨rfl, Ext.refl _, fun i _ h => by omega⟩
  rintro j _ H' X hj hX ⟨rfl, e1, hn⟩
  simp only [F.slices_IndexFunc_mount_Mount_l1, nth_0, nth_1, nth_2, nth_3, i64_lss, opt_some]
  refine ifB_split (fun h => ?_) (fun h => ?_)
  · have hjl : j < T.length := by omega
    obtain ⟨b, o, f1, f2⟩ := (hv.mono e1).ix (i := j) (by simpa using hjl)
    simp only [List.getElem_map] at f2
    simp only [f1, opt_some, loadN_ptr, f2, Option.map_some]
    refine hf H' T[j] _ e1 (List.getElem_mem hjl) fun H2 e2 => ?_
    cases hp : P T[j] with
    | true =>
      have : ixOf P T = (j : Int) := by
        have : T.findIdx? P = some j := List.findIdx?_eq_some_iff_getElem.2 ⟨hjl, hp, fun i hi => by simpa using hn i (by omega) hi⟩
        simp [ixOf, this]
      simp only [ifB_true]
      rw [← this]
      exact hQ _ (e1.trans e2)
    | false =>
      simp only [ifB_false]
      rw [i64_inc (by omega), opt_some]
      refine hX hjl _ _ ⟨rfl, e1.trans e2, fun i hi hij => ?_⟩
      by_cases e : i = j
      · subst e; exact hp
      · exact hn i hi (by omega)
  · have : j = T.length := by omega
    subst this
    have : ixOf P T = -1 := by
      have : T.findIdx? P = none := by
        rw [List.findIdx?_eq_none_iff]
        intro x hx
        obtain ⟨i, hi, rfl⟩ := List.getElem_of_mem hx
        exact hn i hi hi
      simp [ixOf, this]
    rw [← this]
    exact hQ _ e1
theorem S.slices_ContainsFunc_mount_Mount (hE : Fold E) (T : List MntD) (hT : T.length < 2 ^ 63) (v f : Value) (hv : Rows H 5 v (T.map MntD.cells)) (P : MntD → Bool)
    (hf : ∀ H' m (K : Value → AH → Prop), Ext H H' → m ∈ T → (∀ H'', Ext H' H'' → K (vb (P m)) H'') → callV E.call f [MntD.v m] H' K)
    (hQ : ∀ H', Ext H H' → Q (vb (T.any P)) H') : E.call (E.fid i.slices_ContainsFunc_mount_Mount) [v, f] H Q := by
  apply hE.slices_ContainsFunc_mount_Mount
  refine S.slices_IndexFunc_mount_Mount hE T hT v f hv P hf fun H' e => ?_
  have : T.any P = decide (0 ≤ ixOf P T) := by
    unfold ixOf
    cases h : T.findIdx? P with
    | none =>
      rw [List.findIdx?_eq_none_iff] at h
      simpa using h
    | some i =>
      obtain ⟨hi, h2, _⟩ := List.findIdx?_eq_some_iff_getElem.1 h
      simp
      exact ⟨_, List.getElem_mem hi, h2⟩
  simp
  rw [← this]
  exact hQ _ e
/-- A table, as it can be read. -/
def TabAt (H : AH) (p : Nat) (T : List MntD) (nx : Int) : Prop := T.length < 2 ^ 62 ∧ ∃ v, H.get p = .cells [v, vi nx] none ∧ Rows H 5 v (T.map MntD.cells)
theorem TabAt.mono {H H' : AH} {p : Nat} {T : List MntD} {nx : Int} (h : TabAt H p T nx) (e : Ext H H') : TabAt H' p T nx := by
  obtain ⟨h0, v, h1, h2⟩ := h
  exact ⟨h0, v, e.cells h1, h2.mono e⟩
theorem S.mount_Table_find_1 (hE : Fold E) (m : MntD) (b : Nat) (id : Int) (hb : H.get b = .cells [vi id] none) (hQ : ∀ H', Ext H H' → Q (vb (decide (m.id = id))) H') : E.call (E.fid i.mount_Table_find_1) [m.v, ptr b 0] H Q := by
  apply hE.mount_Table_find_1
  have hlt := AH.lt_cells hb
  simp [F.mount_Table_find_1, MntD.cells, AH.get_new, Nat.ne_of_lt hlt, hb]
  exact hQ _ ((Ext.refl _).new _)
def findT (T : List MntD) (id : Int) : Int := ixOf (fun m => decide (m.id = id)) T
theorem S.mount_Table_find (hE : Fold E) (p : Nat) (T : List MntD) (nx id : Int) (hT : TabAt H p T nx) (hQ : ∀ H', Ext H H' → Q (vi (findT T id)) H') : E.call (E.fid i.mount_Table_find) [ptr p 0, vi id] H Q := by
  apply hE.mount_Table_find
  obtain ⟨h0, v, h1, h2⟩ := hT
  have hlt := AH.lt_cells h1
  have hb : boxO (vi id) = some (.cells [vi id] none, mkPtr) := rfl
  have x1 : Ext H (H.new (.cells [vi id] none)) := (Ext.refl H).new _
  simp [F.mount_Table_find, hb, AH.get_new, Nat.ne_of_lt hlt, h1]
  refine S.slices_IndexFunc_mount_Mount hE T (by omega) v _ (h2.mono x1) (fun m => decide (m.id = id)) (fun H' m K e _ hK => ?_) fun H' e => hQ _ (x1.trans e)
  simp
  exact S.mount_Table_find_1 hE m H.next id (e.cells (AH.get_new_self _ _)) hK
end Go.AM
end
section
namespace Go.AM
variable {E : Sy} {H : AH} {Q : Value → AH → Prop}
theorem ixOf_cases {α : Type} (P : α → Bool) (l : List α) : (l.find? P = none ∧ ixOf P l = -1) ∨ ∃ (i : Nat) (hi : i < l.length), ixOf P l = i ∧ l.find? P = some l[i] ∧ P l[i] = true ∧ l.findIdx? P = some i := by
  unfold ixOf
  cases h : l.findIdx? P with
  | none =>
    rw [List.findIdx?_eq_none_iff] at h
    exact .inl ⟨List.find?_eq_none.2 fun x hx => by simp [h x hx], rfl⟩
  | some i =>
    obtain ⟨hi, h2, h3⟩ := List.findIdx?_eq_some_iff_getElem.1 h
    refine .inr ⟨i, hi, rfl, ?_, h2, rfl⟩
    rw [List.find?_eq_some_iff_getElem]
    exact ⟨h2, i, hi, rfl, fun j hj => by simpa using h3 j hj⟩
def getT (T : List MntD) (id : Int) : Option MntD := T.find? fun m => decide (m.id = id)
def zeroM : MntD := ⟨0, ⟨0, 0#16⟩, 0#16, 0⟩
def optM (o : Option MntD) : MntD := o.getD zeroM
theorem S.mount_Table_Get (hE : Fold E) (p : Nat) (T : List MntD) (nx id : Int) (hT : TabAt H p T nx) (hQ : ∀ H', Ext H H' → Q (.tuple #[(optM (getT T id)).v, vb (getT T id).isSome]) H') : E.call (E.fid i.mount_Table_Get) [ptr p 0, vi id] H Q := by
  apply hE.mount_Table_Get
  simp only [F.mount_Table_Get, allocW_eq]
  have x1 : Ext H (H.new (.cells [vi 0, vi 0, .int .u16 0, .int .u16 0, vi 0] none)) := (Ext.refl H).new _
  refine S.mount_Table_find hE p T nx id (hT.mono x1) fun H2 e2 => ?_
  have x2 := x1.trans e2
  have kz := e2.cells (AH.get_new_self H (.cells [vi 0, vi 0, .int .u16 0, .int .u16 0, vi 0] none))
  have lz := AH.lt_cells kz
  rcases ixOf_cases (fun m : MntD => decide (m.id = id)) T with ⟨h1, h2⟩ | ⟨j, hj, h1, h2, _, _⟩
  · have h1 : getT T id = none := h1
    have h2 : findT T id = -1 := h2
    simp [h2, kz, lz, splice]
    rw [h1] at hQ
    exact hQ _ (x2.put (b := H.next) (by omega) _)
  · have h1 : findT T id = j := h1
    have h2 : getT T id = some T[j] := h2
    have hT2 := hT.mono x2
    obtain ⟨h0, v, k1, k2⟩ := hT2
    obtain ⟨b, o, f1, f2⟩ := k2.ix (i := j) (by simpa using hj)
    simp only [List.getElem_map] at f2
    have hneg : ¬ ((j : Int) < 0) := by omega
    rw [h2] at hQ
    simp only [optM, Option.getD_some, Option.isSome_some] at hQ
    generalize T[j] = m at *
    simp [h1, hneg, k1, f1, f2, kz, lz, splice, MntD.cells]
    exact hQ _ (x2.put (b := H.next) (by omega) _)
def standsAt (p : PlaceD) (m : MntD) : Bool := decide (m.id ≠ 0) && decide (m.at_ = p)
theorem place_eq (p q : PlaceD) : (p = q) ↔ p.m = q.m ∧ p.i = q.i := by
  cases p; cases q; simp
theorem S.mount_Table_Seen_1 (hE : Fold E) (m : MntD) (b : Nat) (p : PlaceD) (hb : H.get b = .cells p.cells none) (hQ : ∀ H', Ext H H' → Q (vb (standsAt p m)) H') : E.call (E.fid i.mount_Table_Seen_1) [m.v, ptr b 0] H Q := by
  apply hE.mount_Table_Seen_1
  have hlt := AH.lt_cells hb
  unfold standsAt at hQ
  by_cases h0 : m.id = 0
  · simp [F.mount_Table_Seen_1, MntD.cells, AH.get_new, Nat.ne_of_lt hlt, hb, h0]
    simpa [h0] using hQ _ ((Ext.refl _).new _)
  · simp [F.mount_Table_Seen_1, MntD.cells, PlaceD.cells, AH.get_new, Nat.ne_of_lt hlt, hb, h0]
    simpa [h0, place_eq, Bool.decide_and] using hQ _ ((Ext.refl _).new _)
/-! ### what is seen -/
def seenN (T : List MntD) : Nat → PlaceD → PlaceD
  | 0, p => p
  | n + 1, p => match T.find? (standsAt p) with
    | none => p
    | some m => seenN T n ⟨m.id, m.root⟩
def above (T : List MntD) (p : PlaceD) : Nat := (T.filter fun m => decide (p.m < m.id)).length
def seen (T : List MntD) (p : PlaceD) : PlaceD := seenN T T.length p
/-- Each stands in an older one. -/
def Older (T : List MntD) : Prop := ∀ m ∈ T, m.id ≠ 0 → m.at_.m < m.id
theorem above_le (T : List MntD) (p : PlaceD) : above T p ≤ T.length := List.length_filter_le _ _
theorem filter_lt {α : Type} (P R : α → Bool) : ∀ (l : List α), (∀ x ∈ l, P x = true → R x = true) → ∀ y ∈ l, P y = false → R y = true → (l.filter P).length < (l.filter R).length
  | [], _, y, hy, _, _ => by simp at hy
  | x :: l, h, y, hy, h1, h2 => by
    have hle : (l.filter P).length ≤ (l.filter R).length := by
      have : ∀ l' : List α, (∀ x ∈ l', P x = true → R x = true) → (l'.filter P).length ≤ (l'.filter R).length := by
        intro l'
        induction l' with
        | nil => intro _; simp
        | cons z l' ih =>
          intro hh
          have := ih fun x hx => hh x (by simp [hx])
          have hz := hh z (by simp)
          simp only [List.filter_cons]
          cases hp : P z with
          | true => simp [hz hp]; omega
          | false => cases hr : R z <;> simp <;> omega
      exact this l fun x hx => h x (by simp [hx])
    rcases List.mem_cons.1 hy with rfl | hy
    · simp [List.filter_cons, h1, h2]; omega
    · have ih := filter_lt P R l (fun x hx => h x (by simp [hx])) y hy h1 h2
      have hx := h x (by simp)
      simp only [List.filter_cons]
      cases hp : P x with
      | true => simp [hx hp]; omega
      | false => cases hr : R x <;> simp <;> omega
theorem above_step {T : List MntD} (hT : Older T) {p : PlaceD} {m : MntD} (h : T.find? (standsAt p) = some m) : above T ⟨m.id, m.root⟩ < above T p := by
  have hm := List.find?_some h
  have hmem := List.mem_of_find?_eq_some h
  simp only [standsAt, Bool.and_eq_true, decide_eq_true_eq] at hm
  obtain ⟨h1, rfl⟩ := hm
  have := hT m hmem h1
  refine filter_lt _ _ T (fun x _ hx => ?_) m hmem (by simp) (by simpa using this)
  simp only [decide_eq_true_eq] at hx ⊢
  omega
theorem seenN_stable {T : List MntD} (hT : Older T) : ∀ (n : Nat) (p : PlaceD), above T p ≤ n → seenN T n p = seenN T (n + 1) p
  | 0, p, h => by
    cases hf : T.find? (standsAt p) with
    | none => simp [seenN, hf]
    | some m => have := above_step hT hf; omega
  | n + 1, p, h => by
    cases hf : T.find? (standsAt p) with
    | none => simp [seenN, hf]
    | some m =>
      have := above_step hT hf
      have ih := seenN_stable hT n ⟨m.id, m.root⟩ (by omega)
      rw [seenN, seenN, hf]
      exact ih
theorem seenN_enough {T : List MntD} (hT : Older T) (p : PlaceD) : ∀ (d n : Nat), above T p ≤ n → seenN T (n + d) p = seenN T n p
  | 0, _, _ => rfl
  | d + 1, n, h => by rw [← Nat.add_assoc, ← seenN_stable hT (n + d) p (by omega), seenN_enough hT p d n h]
theorem seen_none {T : List MntD} {p : PlaceD} (h : T.find? (standsAt p) = none) : seen T p = p := by
  unfold seen
  cases T.length <;> simp [seenN, h]
theorem seen_some {T : List MntD} (hT : Older T) {p : PlaceD} {m : MntD} (h : T.find? (standsAt p) = some m) : seen T p = seen T ⟨m.id, m.root⟩ := by
  have h1 := above_step hT h
  have h2 := above_le T p
  unfold seen
  obtain ⟨n, hn⟩ : ∃ n, T.length = n + 1 := ⟨T.length - 1, by omega⟩
  rw [hn, seenN, h]
  exact seenN_stable hT n _ (by omega)
theorem S.mount_Table_Seen (hE : Fold E) (p : Nat) (T : List MntD) (nx : Int) (q : PlaceD) (hT : TabAt H p T nx) (ho : Older T) (hQ : ∀ H', Ext H H' → Q (seen T q).v H') : E.call (E.fid i.mount_Table_Seen) [ptr p 0, q.v] H Q := by
  apply hE.mount_Table_Seen
  have hp1 : p < H.next := by obtain ⟨_, v, h1, _⟩ := hT; exact AH.lt_cells h1
  simp [F.mount_Table_Seen]
  generalize hH2 : (H.new _).new _ = H2
  have x2 : Ext H H2 := by subst hH2; exact ((Ext.refl H).new _).new _
  have k1 : H2.get H.next = .cells q.cells none := by subst hH2; simp [AH.get_new]
  have k2 : H2.get (H.next + 1) = .cells [vi 0, u16 0#16] none := by subst hH2; simp [AH.get_new]
  clear hH2
  refine LoopL.ind (fun n s H' => ∃ r, n = above T r ∧ s = [ptr p 0, ptr H.next 0, ptr (H.next + 1) 0] ∧ Ext H H' ∧ seen T r = seen T q ∧ H'.get H.next = .cells r.cells none ∧ H'.get (H.next + 1) = .cells [vi 0, u16 0#16] none) ?_ (above T q) ⟨q, rfl, rfl, x2, rfl, k1, k2⟩
  rintro n _ H' X hX ⟨r, rfl, rfl, e1, hs, m1, m2⟩
  have hT1 := hT.mono e1
  obtain ⟨h0, v, t1, t2⟩ := hT1
  have l1 := AH.lt_cells m1
  have l2 := AH.lt_cells m2
  simp [F.mount_Table_Seen_l1, t1]
  refine S.slices_IndexFunc_mount_Mount hE T (by omega) v _ t2 (standsAt r) (fun H3 m K e _ hK => ?_) fun H3 e3 => ?_
  · simp
    exact S.mount_Table_Seen_1 hE m H.next r (e.cells m1) hK
  rcases ixOf_cases (standsAt r) T with ⟨h1, h2⟩ | ⟨j, hj, h1, h2, _, _⟩
  · rw [h2]
    have n1 := e3.cells m1
    have n2 := e3.cells m2
    have ln2 := AH.lt_cells n2
    simp [n1, PlaceD.cells, n2, splice, ln2]
    have := hQ _ ((e1.trans e3).put (b := H.next + 1) (by omega) (.cells r.cells none))
    rw [← hs, seen_none h1] at this
    exact this
  · have hneg : ¬ ((j : Int) < 0) := by omega
    have t1' := e3.cells t1
    have n1 := e3.cells m1
    have ln1 := AH.lt_cells n1
    obtain ⟨b, o, f1, f2⟩ := (t2.mono e3).ix (i := j) (by simpa using hj)
    simp only [List.getElem_map] at f2
    have hst := above_step ho h2
    have hss := seen_some ho h2
    generalize T[j] = m at *
    have c0 : (H3.get b).cell o = some (vi m.id) := by
      have := row_at f2 (j := 0) (by omega)
      rw [Nat.add_zero] at this
      rw [this]; rfl
    have c3 : (H3.get b).cell (o + 3) = some (u16 m.root) := by
      have := row_at f2 (j := 3) (by omega)
      rw [this]; rfl
    simp [h1, hneg, t1', f1, c0, c3, splice, n1, PlaceD.cells]
    refine hX (above T ⟨m.id, m.root⟩) hst _ _ ⟨⟨m.id, m.root⟩, rfl, rfl, (e1.trans e3).put (b := H.next) (by omega) _, by rw [← hss]; exact hs, ?_, ?_⟩
    · rw [AH.get_put_self _ _ ln1]; rfl
    · rw [AH.get_put_ne _ _ (by omega)]; exact e3.cells m2
end Go.AM
end
section
namespace Go.AM
variable {E : Sy} {H : AH} {Q : Value → AH → Prop}
/-- The place at which the mount stands whose root a place is. -/
def downT (T : List MntD) (p : PlaceD) : Option PlaceD := match getT T p.m with
  | none => none
  | some m => if m.id = 0 ∨ m.root ≠ p.i then none else some m.at_
def optP (o : Option PlaceD) : PlaceD := o.getD ⟨0, 0#16⟩
theorem S.mount_Table_Down (hE : Fold E) (p : Nat) (T : List MntD) (nx : Int) (q : PlaceD) (hT : TabAt H p T nx) (hQ : ∀ H', Ext H H' → Q (.tuple #[(optP (downT T q)).v, vb (downT T q).isSome]) H') : E.call (E.fid i.mount_Table_Down) [ptr p 0, q.v] H Q := by
  apply hE.mount_Table_Down
  simp [F.mount_Table_Down, AH.get_new, PlaceD.cells]
  generalize hH2 : (H.new _).new _ = H2
  have x2 : Ext H H2 := by subst hH2; exact ((Ext.refl H).new _).new _
  have k1 : H2.get H.next = .cells [vi q.m, u16 q.i] none := by subst hH2; simp [AH.get_new]
  have k2 : H2.get (H.next + 1) = .cells [vi 0, u16 0#16] none := by subst hH2; simp [AH.get_new]
  clear hH2
  refine S.mount_Table_Get hE p T nx q.m (hT.mono x2) fun H3 e3 => ?_
  have x3 := x2.trans e3
  have m1 := e3.cells k1
  have m2 := e3.cells k2
  have l1 := AH.lt_cells m1
  have l2 := AH.lt_cells m2
  unfold downT at hQ
  have hp : ∀ (A B : AObj), Ext H (H3.put (H.next + 1) B |>.new A) := fun A B => (x3.put (b := H.next + 1) (by omega) B).new A
  cases hg : getT T q.m with
  | none =>
    rw [hg] at hQ
    simp [optM, zeroM, MntD.cells, splice, AH.get_new, Nat.ne_of_lt l1, Nat.ne_of_lt l2, l2, m1, m2]
    simpa [optP, PlaceD.v, PlaceD.cells] using hQ _ (hp _ _)
  | some m =>
    rw [hg] at hQ
    simp only at hQ
    by_cases h0 : m.id = 0
    · simp [optM, h0, MntD.cells, splice, AH.get_new, Nat.ne_of_lt l1, Nat.ne_of_lt l2, l2, m1, m2]
      simpa [optP, PlaceD.v, PlaceD.cells, h0] using hQ _ (hp _ _)
    · by_cases hr : m.root = q.i
      · simp [optM, h0, hr, MntD.cells, splice, AH.get_new, Nat.ne_of_lt l1, Nat.ne_of_lt l2, l2, m1, m2]
        simpa [optP, PlaceD.v, PlaceD.cells, h0, hr] using hQ _ (hp _ _)
      · simp [optM, h0, hr, MntD.cells, splice, AH.get_new, Nat.ne_of_lt l1, Nat.ne_of_lt l2, l2, m1, m2]
        simpa [optP, PlaceD.v, PlaceD.cells, h0, hr] using hQ _ (hp _ _)
def uses (n : BitVec 16) (m : MntD) : Bool := decide (m.root = n) || decide (m.id ≠ 0) && decide (m.at_.i = n)
theorem S.mount_Table_Used_1 (hE : Fold E) (m : MntD) (b : Nat) (n : BitVec 16) (hb : H.get b = .cells [u16 n] none) (hQ : ∀ H', Ext H H' → Q (vb (uses n m)) H') : E.call (E.fid i.mount_Table_Used_1) [m.v, ptr b 0] H Q := by
  apply hE.mount_Table_Used_1
  have hlt := AH.lt_cells hb
  unfold uses at hQ
  have hQ := hQ _ ((Ext.refl H).new (.cells m.cells none))
  by_cases h1 : m.root = n
  · simp [F.mount_Table_Used_1, MntD.cells, AH.get_new, Nat.ne_of_lt hlt, hb, h1] at hQ ⊢
    exact hQ
  · by_cases h0 : m.id = 0
    · simp [F.mount_Table_Used_1, MntD.cells, AH.get_new, Nat.ne_of_lt hlt, hb, h0, h1] at hQ ⊢
      exact hQ
    · simp [F.mount_Table_Used_1, MntD.cells, AH.get_new, Nat.ne_of_lt hlt, hb, h0, h1] at hQ ⊢
      exact hQ
theorem S.mount_Table_Used (hE : Fold E) (p : Nat) (T : List MntD) (nx : Int) (n : BitVec 16) (hT : TabAt H p T nx) (hQ : ∀ H', Ext H H' → Q (vb (T.any (uses n))) H') : E.call (E.fid i.mount_Table_Used) [ptr p 0, u16 n] H Q := by
  apply hE.mount_Table_Used
  obtain ⟨h0, v, h1, h2⟩ := hT
  have hlt := AH.lt_cells h1
  have hb : boxO (u16 n) = some (.cells [u16 n] none, mkPtr) := rfl
  have x1 : Ext H (H.new (.cells [u16 n] none)) := (Ext.refl H).new _
  simp [F.mount_Table_Used, hb, AH.get_new, Nat.ne_of_lt hlt, h1]
  refine S.slices_ContainsFunc_mount_Mount hE T (by omega) v _ (h2.mono x1) (uses n) (fun H' m K e _ hK => ?_) fun H' e => hQ _ (x1.trans e)
  simp
  exact S.mount_Table_Used_1 hE m H.next n (e.cells (AH.get_new_self _ _)) hK
def standsIn (k : Int) (m : MntD) : Bool := decide (m.id ≠ 0) && decide (m.at_.m = k)
theorem S.mount_Table_Drop_1 (hE : Fold E) (m : MntD) (b : Nat) (q : PlaceD) (hb : H.get b = .cells q.cells none) (hQ : ∀ H', Ext H H' → Q (vb (standsIn q.m m)) H') : E.call (E.fid i.mount_Table_Drop_1) [m.v, ptr b 0] H Q := by
  apply hE.mount_Table_Drop_1
  have hlt := AH.lt_cells hb
  unfold standsIn at hQ
  have hQ := hQ _ ((Ext.refl H).new (.cells m.cells none))
  by_cases h0 : m.id = 0
  · simp [F.mount_Table_Drop_1, MntD.cells, AH.get_new, Nat.ne_of_lt hlt, hb, h0] at hQ ⊢
    exact hQ
  · simp [F.mount_Table_Drop_1, MntD.cells, PlaceD.cells, AH.get_new, Nat.ne_of_lt hlt, hb, h0] at hQ ⊢
    exact hQ
/-- A copy: a slice of its own. -/
theorem S.slices_Clone_mount_Mount (hE : Fold E) (T : List MntD) (hT : T.length ≤ 1000) (v : Value) (hv : Rows H 5 v (T.map MntD.cells)) (hQ : ∀ v' H', Ext H H' → Grow zH H' 5 v' (T.map MntD.cells) → (∀ b, blk v' = some b → H.next ≤ b) → Q v' H') :
    E.call (E.fid i.slices_Clone_mount_Mount) [v] H Q := by
  apply hE.slices_Clone_mount_Mount
  have hpl : ∀ r ∈ T.map MntD.cells, r.all plain1 = true := by
    intro r hr
    obtain ⟨x, _, rfl⟩ := List.mem_map.1 hr
    rfl
  have hnil : (∃ k c, v = .slice none k c ∧ T = []) ∨ (∃ a k c, v = .slice (some a) k c) := by
    rcases hv.at_ with ⟨h1, a, rfl⟩ | ⟨b, o, c, rfl, _⟩
    · cases a with
      | none => exact .inl ⟨_, _, rfl, by simpa using h1⟩
      | some a => exact .inr ⟨_, _, _, rfl⟩
    · exact .inr ⟨_, _, _, rfl⟩
  rcases hnil with ⟨k, c, rfl, rfl⟩ | ⟨a, k, c, hva⟩
  · simp [F.slices_Clone_mount_Mount, binNil, eqSlc]
    exact hQ _ _ (Ext.refl _) (Grow.nil _ _ _) (by simp [blk])
  · have hb : binNil eqSlc .eql v (.slice none 0 0) = some (.bool false) := by rw [hva]; rfl
    simp [F.slices_Clone_mount_Mount, hb]
    have x1 : Ext H (H.new (.cells [] none)) := (Ext.refl H).new _
    have hG0 : Grow zH (H.new (.cells [] none)) 5 (slc H.next 0 0 0) [] := Grow.room (zH_get _) (AH.get_new_self _ _) rfl
    obtain ⟨w, H3, a1, a2, a3, a4⟩ := hG0.app (Nat.zero_le _) (bytes := 40) (hv.mono x1) hpl (by omega) (by omega) (by simp; omega) (by simp; omega)
    rw [a1]
    simp
    refine hQ w H3 (a3.ext x1 (by intro b hb; rw [mem_blkL] at hb; simp [blk] at hb; omega)) (by simpa using a2) fun b hb => (a4 b hb).elim (fun h => by simp [blk] at h; omega) (fun h => by simp at h; omega)
theorem S.mount_Table_List (hE : Fold E) (p : Nat) (T : List MntD) (nx : Int) (hT : TabAt H p T nx) (hn : T.length ≤ 1000) (hQ : ∀ v H', Ext H H' → Rows H' 5 v (T.map MntD.cells) → Q v H') : E.call (E.fid i.mount_Table_List) [ptr p 0] H Q := by
  apply hE.mount_Table_List
  obtain ⟨h0, v, h1, h2⟩ := hT
  simp [F.mount_Table_List, h1]
  exact S.slices_Clone_mount_Mount hE T hn v h2 fun v' H' e g _ => hQ v' H' e g.toRows
theorem S.mount_Top (hE : Fold E) (hQ : ∀ H', Ext H H' → Q (PlaceD.v ⟨0, 1#16⟩) H') : E.call (E.fid i.mount_Top) [] H Q := by
  apply hE.mount_Top
  simp [F.mount_Top, splice]
  exact hQ _ ((Ext.refl _).new _)
/-! ### what changes it -/
def tabR (p : Nat) (v : Value) (T : List MntD) (nx : Int) : Res := ⟨p :: blkL v, fun H => H.get p = .cells [v, vi nx] none ∧ Grow zH H 5 v (T.map MntD.cells),
  fun h e => ⟨by rw [e _ (by simp)]; exact h.1, h.2.keep fun b hb _ => e b (by simp [mem_blkL.2 hb])⟩⟩
theorem tabR.at_ {p : Nat} {v : Value} {T : List MntD} {nx : Int} (h : (tabR p v T nx).P H) (hn : T.length < 2 ^ 62) : TabAt H p T nx := ⟨hn, v, h.1, h.2.toRows⟩
theorem Upd.put0 {p : Nat} {v v' : Value} {T T' : List MntD} {nx nx' : Int} {H H1 : AH} (h : (tabR p v T nx).P H) (hp : p ∉ blkL v) (o : Only (p :: blkL v) H H1) (g : Grow zH H1 5 v' (T'.map MntD.cells)) (hb : ∀ b, blk v' = some b → blk v = some b ∨ H.next ≤ b) :
    Upd (tabR p v T nx) (tabR p v' T' nx') H (H1.put p (.cells [v', vi nx'] none)) := by
  have hlt : p < H.next := AH.lt_cells h.1
  have hpb : p ∉ blkL v' := fun k => by
    rcases hb p (mem_blkL.1 k) with k | k
    · exact hp (mem_blkL.2 k)
    · omega
  refine ⟨o.put (.inl (by simp [tabR])) _, ⟨AH.get_put_self _ _ (Nat.lt_of_lt_of_le hlt o.1), g.keep fun b hb _ => AH.get_put_ne _ _ (by rintro rfl; exact hpb (mem_blkL.2 hb))⟩, fun b hb' => ?_, ?_⟩
  · simp only [tabR, List.mem_cons] at hb'
    rcases hb' with rfl | hb'
    · exact ⟨.inl (by simp [tabR]), Nat.lt_of_lt_of_le hlt o.1⟩
    · refine ⟨(hb b (mem_blkL.1 hb')).imp (fun k => by simp [tabR, mem_blkL.2 k]) id, g.blk_lt (mem_blkL.1 hb')⟩
  · simp only [tabR, List.nodup_cons]
    exact ⟨hpb, blkL_nodup v'⟩
end Go.AM
end
section
namespace Go.AM
variable {E : Sy} {H : AH} {Q : Value → AH → Prop}
theorem flatten_set {α : Type} {sz : Nat} : ∀ (rows : List (List α)), (∀ r ∈ rows, r.length = sz) → ∀ (i k : Nat) (x : α) (h : i < rows.length), k < sz → (rows.set i (rows[i].set k x)).flatten = rows.flatten.set (i * sz + k) x
  | [], _, i, k, x, h, _ => by simp at h
  | r :: rows, hl, 0, k, x, h, hk => by
    have h1 := hl r (by simp)
    simp only [List.set_cons_zero, List.getElem_cons_zero, List.flatten_cons, Nat.zero_mul, Nat.zero_add]
    rw [List.set_append_left _ _ (by omega)]
  | r :: rows, hl, i + 1, k, x, h, hk => by
    have h1 := hl r (by simp)
    have ih := flatten_set rows (fun y hy => hl y (by simp [hy])) i k x (by simpa using h) hk
    simp only [List.set_cons_succ, List.getElem_cons_succ, List.flatten_cons, ih, Nat.succ_mul]
    rw [List.set_append_right _ _ (by omega)]
    congr 2
    omega
theorem Grow.store {Z H : AH} {sz : Nat} {v : Value} {rows : List (List Value)} (h : Grow Z H sz v rows) {i k : Nat} (hi : i < rows.length) (hk : k < sz) (x : Value) (hx : plain1 x = true) :
    ∃ b o H', ixSlc sz v (vi i) = some (ptr b o) ∧ (H.get b).row o sz = some rows[i] ∧ store1 (ptr b (o + k)) x H = some H' ∧ Grow Z H' sz v (rows.set i (rows[i].set k x)) ∧ Only (blkL v) H H' := by
  have hr := h.toRows
  rcases h.2 with ⟨rfl, _⟩ | ⟨b, f, c, cs, g1, rfl, g3, g4, g5, g6, g7⟩
  · simp at hi
  · have hlt := AH.lt_cells g3
    have hle : (i + 1) * sz ≤ rows.length * sz := Nat.mul_le_mul_right _ hi
    have hle2 : rows.length * sz ≤ c * sz := Nat.mul_le_mul_right _ g4
    rw [Nat.succ_mul] at hle
    obtain ⟨b', o', e1, e2⟩ := hr.ix hi
    have e3 := ixSlc_slc sz b 0 rows.length c i hi
    rw [e3] at e1
    simp only [Option.some.injEq, Value.pointer.injEq, Addr.mk.injEq, and_true] at e1
    obtain ⟨rfl, rfl⟩ := e1
    refine ⟨b, 0 + i * sz, H.put b (.cells (cs.set (i * sz + k) x) f), e3, e2, ?_, ⟨?_, .inr ⟨b, f, c, _, g1, by simp, AH.get_put_self _ _ hlt, by simpa using g4, by simpa using g5, ?_, g7⟩⟩, (Only.refl _ _).put (.inl (by simp [blkL, blk])) _⟩
    · rw [store1_ptr, if_pos hx, g3]
      simp only
      rw [if_pos (by omega), Nat.zero_add]
    · intro r hr'
      rcases List.mem_or_eq_of_mem_set hr' with hr' | rfl
      · exact h.1 r hr'
      · obtain ⟨q1, q2⟩ := h.1 _ (List.getElem_mem hi)
        refine ⟨by simpa using q1, ?_⟩
        rw [List.all_eq_true] at q2 ⊢
        intro y hy
        rcases List.mem_or_eq_of_mem_set hy with hy | rfl
        · exact q2 y hy
        · exact hx
    · rw [List.length_set, List.take_set, g6, flatten_set rows (fun r hr => (h.1 r hr).1) i k x hi hk]
theorem S.slices_Delete_mount_Mount (hE : Fold E) (T : List MntD) (hT : T.length ≤ 1000) (v : Value) (h : Grow zH H 5 v (T.map MntD.cells)) (n : Nat) (hn : n < T.length)
    (hQ : ∀ v' H', Only (blkL v) H H' → blk v' = blk v → Grow zH H' 5 v' ((T.eraseIdx n).map MntD.cells) → Q v' H') : E.call (E.fid i.slices_Delete_mount_Mount) [v, vi n, vi ((n + 1 : Nat) : Int)] H Q := by
  apply hE.slices_Delete_mount_Mount
  have hrows := h.toRows
  have hl5 : ∀ r ∈ T.map MntD.cells, r.length = 5 := fun r hr => (h.1 r hr).1
  rcases h.2 with ⟨h0, _⟩ | ⟨b, f, c, cs, g1, rfl, g3, g4, g5, g6, g7⟩
  · simp at h0; subst h0; simp at hn
  · rw [List.length_map] at g4 g6
    simp only [List.length_map] at hrows hQ ⊢
    have hlt := AH.lt_cells g3
    have hfit : fits 5 (H.get b) = true := by rw [g3]; rcases g7 with rfl | rfl <;> rfl
    have hfl : (T.map MntD.cells).flatten.length = T.length * 5 := by rw [flatten_length _ hl5, List.length_map]
    -- the bounds
    have s1 : ∃ w, slSlc 5 (slc b 0 T.length c) (some (vi n)) (some (vi ((n + 1 : Nat) : Int))) (some (vi T.length)) H = some w := by
      simp only [slSlc, hfit, bnd, Option.isSome_some, Option.isNone_some, Bool.and_false, Bool.not_true, Bool.or_true, Bool.or_false, Bool.false_eq_true, if_false]
      rw [if_pos (by omega), Option.bind_some, if_pos (by omega), Option.bind_some, if_pos (by omega), Option.bind_some, if_pos (by omega)]
      exact ⟨_, rfl⟩
    obtain ⟨w, s1⟩ := s1
    have s2 : slSlc 5 (slc b 0 T.length c) none (some (vi n)) none H = some (slc b 0 n c) := by
      simp only [slSlc, hfit, bnd, Option.isSome_none, Bool.false_and, Bool.not_true, Bool.or_false, Bool.or_true, Bool.false_eq_true, if_false, Option.bind_some]
      rw [if_pos (by omega), Option.bind_some, if_pos (by omega)]
      have : (if c = 0 then (⟨b, 0, none⟩ : Addr) else (⟨b, 0, none⟩ : Addr).add (0 * 5)) = ⟨b, 0, none⟩ := by split <;> simp [Addr.add]
      rw [this]
      simp
    obtain ⟨s3, s4⟩ := Rows.slice' hrows (lo := some (vi ((n + 1 : Nat) : Int))) (hi := none) (i := n + 1) (j := (T.map MntD.cells).length) (.inl rfl) (.inr ⟨rfl, rfl⟩) (by rw [List.length_map]; omega) (Nat.le_refl _)
    rw [List.take_length] at s4
    have hnew := firstRow_rows s4
    have hlo := lenO_rows s4
    have hnl : ((T.map MntD.cells).drop (n + 1)).length = T.length - (n + 1) := by simp
    rw [hnl] at hnew hlo
    have hnf : ((T.map MntD.cells).drop (n + 1)).flatten.length = (T.length - (n + 1)) * 5 := by
      rw [flatten_length _ (fun r hr => hl5 r (List.mem_of_mem_drop hr)), hnl]
    have hpn : ((T.map MntD.cells).drop (n + 1)).flatten.all plain1 = true := all_flatten fun r hr => (h.1 r (List.mem_of_mem_drop hr)).2
    have hle : T.length * 5 ≤ c * 5 := Nat.mul_le_mul_right _ g4
    have s5 : AM.app 5 40 (slc b 0 n c) (sliceV 5 (slc b 0 T.length c) (n + 1) (T.map MntD.cells).length) H = some (slc b 0 (T.length - 1) c, H.put b (.cells (splice cs (n * 5) ((T.map MntD.cells).drop (n + 1)).flatten) f)) := by
      simp only [AM.app, hlo, hnew, Option.bind_some, hpn, Bool.not_true, Bool.false_eq_true, if_false]
      rw [if_pos (by omega)]
      simp only [Option.isSome_none, Bool.false_eq_true, if_false, g3]
      rw [if_pos (by rw [hnf]; omega), Nat.zero_add, show n + (T.length - (n + 1)) = T.length - 1 by omega]
    have hl := hrows.lenSlc
    rw [List.length_map] at hl s3 s5
    have hne : ¬ ((n : Int) = ((n + 1 : Nat) : Int)) := by omega
    generalize hcs1 : splice cs (n * 5) ((T.map MntD.cells).drop (n + 1)).flatten = cs1 at *
    have hc1 : cs1.length = c * 5 := by rw [← hcs1, splice_length (by rw [hnf]; omega)]; exact g5
    have g31 : (H.put b (.cells cs1 f)).get b = .cells cs1 f := AH.get_put_self _ _ hlt
    have hfit1 : fits 5 ((H.put b (.cells cs1 f)).get b) = true := by rw [g31]; rcases g7 with rfl | rfl <;> rfl
    have s6 : slSlc 5 (slc b 0 (T.length - 1) c) (some (vi ((T.length - 1 : Nat) : Int))) (some (vi T.length)) none (H.put b (.cells cs1 f)) = some (slc b ((T.length - 1) * 5) 1 (c - (T.length - 1))) := by
      simp only [slSlc, hfit1, bnd, Option.isSome_none, Bool.false_and, Bool.not_true, Bool.or_false, Bool.or_true, Bool.false_eq_true, if_false, Option.bind_some]
      rw [if_pos (by omega), Option.bind_some, if_pos (by omega), Option.bind_some, if_pos (by omega), if_neg (by omega)]
      have : (⟨b, 0, none⟩ : Addr).add (((T.length - 1 : Nat) : Int).toNat * 5) = ⟨b, (T.length - 1) * 5, none⟩ := by
        simp only [Addr.add, Int.toNat_natCast, Nat.zero_add]
        split <;> simp_all
      rw [this]
      simp only [Int.toNat_natCast]
      rw [show T.length - (T.length - 1) = 1 by omega]
    have hrep : repl (1 * 5) #[vi 0, vi 0, .int .u16 0, .int .u16 0, vi 0] = [vi 0, vi 0, .int .u16 0, .int .u16 0, vi 0] := by rw [repl_eq 1 5 #[vi 0, vi 0, .int .u16 0, .int .u16 0, vi 0] rfl]; rfl
    have s7 : clearS [vi 0, vi 0, .int .u16 0, .int .u16 0, vi 0] (slc b ((T.length - 1) * 5) 1 (c - (T.length - 1))) (H.put b (.cells cs1 f)) = some (H.put b (.cells (splice cs1 ((T.length - 1) * 5) [vi 0, vi 0, .int .u16 0, .int .u16 0, vi 0]) f)) := by
      simp only [clearS, g31]
      rw [if_neg (by decide)]
      simp only [List.length_cons, List.length_nil, Nat.zero_add, Nat.reduceAdd]
      rw [hrep, if_pos (by simp; omega), AH.put_put]
    simp only [F.slices_Delete_mount_Mount, hl, opt_some, s1, i64_eql, hne, decide_false, ifB_false, s2, s3, s5, opt2_some, lenSlc_slc, s6, s7]
    refine hQ _ _ ((Only.refl _ _).put (.inl (by simp [blkL, blk])) _) rfl ⟨?_, .inr ⟨b, f, c, _, g1, ?_, AH.get_put_self _ _ hlt, ?_, ?_, ?_, g7⟩⟩
    · intro r hr
      obtain ⟨x, hx, rfl⟩ := List.mem_map.1 hr
      exact ⟨rfl, rfl⟩
    · rw [List.length_map, List.length_eraseIdx_of_lt hn]
    · rw [List.length_map, List.length_eraseIdx_of_lt hn]; omega
    · rw [splice_length (by simp; omega)]; exact hc1
    · rw [List.length_map, List.length_eraseIdx_of_lt hn, ← hcs1]
      have e1 : (T.eraseIdx n).map MntD.cells = (T.map MntD.cells).take n ++ (T.map MntD.cells).drop (n + 1) := by
        rw [List.eraseIdx_eq_take_drop_succ, List.map_append, List.map_take, List.map_drop]
      have e2 : cs.take (n * 5) = ((T.map MntD.cells).take n).flatten := by
        have : n * 5 ≤ T.length * 5 := Nat.mul_le_mul_right _ (by omega)
        rw [← flatten_take _ hl5, ← g6, List.take_take, Nat.min_eq_left this]
      have e3 : (splice cs (n * 5) ((T.map MntD.cells).drop (n + 1)).flatten).take ((T.length - 1) * 5) = ((T.eraseIdx n).map MntD.cells).flatten := by
        have l1 : (cs.take (n * 5) ++ ((T.map MntD.cells).drop (n + 1)).flatten).length = (T.length - 1) * 5 := by
          rw [List.length_append, List.length_take, hnf, g5, Nat.min_eq_left (by omega)]; omega
        simp only [splice]
        rw [List.take_left' l1, e1, List.flatten_append, e2]
      have l2 : ((splice cs (n * 5) ((T.map MntD.cells).drop (n + 1)).flatten).take ((T.length - 1) * 5)).length = (T.length - 1) * 5 := by
        rw [List.length_take, hcs1, hc1, Nat.min_eq_left (by omega)]
      rw [splice, List.append_assoc, List.take_left' l2, e3]
end Go.AM
end
section
namespace Go.AM
variable {E : Sy} {H : AH} {Q : Value → AH → Prop}
def tab0 : List MntD := [⟨0, ⟨0, 0#16⟩, 1#16, 0⟩]
/-- What a resource new in a heap is. -/
def NewRes (r : Res) (H H' : AH) : Prop := Ext H H' ∧ r.P H' ∧ (∀ b ∈ r.fp, H.next ≤ b ∧ b < H'.next) ∧ r.fp.Nodup
theorem Has.addnew {H0 Z H H' : AH} {L : List Res} (h : Has H0 Z H L) {r : Res} (n : NewRes r H H') : Has H0 Z H' (L ++ [r]) := h.add r n.1 n.2.1 n.2.2.1 n.2.2.2
theorem S.mount_New (hE : Fold E) (hQ : ∀ p v H', NewRes (tabR p v tab0 1) H H' → Q (ptr p 0) H') : E.call (E.fid i.mount_New) [] H Q := by
  apply hE.mount_New
  simp [-buildS_eq, F.mount_New, splice]
  rw [buildS_one 5 [_, _, _, _, _] [vi 0, vi 0, u16 0#16, u16 1#16, vi 0] rfl rfl, mk_some, mkSlc_eq]
  simp [splice]
  refine hQ (H.next + 1) (slc H.next 0 1 1) _ ⟨((Ext.refl H).new _).new _, ⟨by rw [← AH.next_new, AH.get_new_self], Grow.made (zH_get _) (by simp [AH.get_new]; rfl) (.inl rfl) rfl (by simp [tab0, MntD.cells])⟩, ?_, ?_⟩
  · simp [tabR, blkL, blk]; omega
  · simp [tabR, blkL, blk]
/-- What a table is like. -/
structure TabOk (T : List MntD) (nx : Int) : Prop where
  older : Older T
  len : T.length ≤ 16
  nx0 : 0 ≤ nx
  nx1 : nx < 2 ^ 61
  held : ∀ m ∈ T, 0 ≤ m.held ∧ m.held < 2 ^ 61
structure Bound where
  T : List MntD
  nx : Int
  n : Int
  e : Int
def bindT (T : List MntD) (nx : Int) (root : BitVec 16) (p : PlaceD) : Bound :=
  if findT T p.m < 0 then ⟨T, nx, 0, 22⟩ else if seen T p ≠ p then ⟨T, nx, 0, 16⟩ else if 16 ≤ T.length then ⟨T, nx, 0, 28⟩ else ⟨T ++ [⟨nx, p, root, 0⟩], nx + 1, nx, 0⟩
theorem S.mount_Table_Bind (hE : Fold E) (p : Nat) (v : Value) (T : List MntD) (nx : Int) (hr : (tabR p v T nx).P H) (hnd : (tabR p v T nx).fp.Nodup) (ok : TabOk T nx) (root : BitVec 16) (q : PlaceD)
    (hQ : ∀ v' H', Upd (tabR p v T nx) (tabR p v' (bindT T nx root q).T (bindT T nx root q).nx) H H' → Q (.tuple #[vi (bindT T nx root q).n, vi (bindT T nx root q).e]) H') :
    E.call (E.fid i.mount_Table_Bind) [ptr p 0, u16 root, q.v] H Q := by
  apply hE.mount_Table_Bind
  have hlen := ok.len
  have hT := tabR.at_ hr (by omega)
  have hpv : p ∉ blkL v := by simp only [tabR, List.nodup_cons] at hnd; exact hnd.1
  have hfp : ∀ b ∈ (tabR p v T nx).fp, b < H.next := by
    intro b hb
    simp only [tabR, List.mem_cons] at hb
    rcases hb with rfl | hb
    · exact AH.lt_cells hr.1
    · exact hr.2.blk_lt (mem_blkL.1 hb)
  have same : ∀ H', Ext H H' → Upd (tabR p v T nx) (tabR p v T nx) H H' := fun H' e => (Upd.refl hr hfp hnd).ext e
  have x1 : Ext H (H.new (.cells q.cells none)) := (Ext.refl H).new _
  have hlp := AH.lt_cells hr.1
  simp [-buildS_eq, F.mount_Table_Bind]
  have k1 : (H.new (.cells q.cells none)).get H.next = .cells q.cells none := AH.get_new_self _ _
  have q0 : q.cells[0]? = some (vi q.m) := rfl
  have r2 := row_all q.cells none 2 rfl
  simp [-buildS_eq, q0]
  unfold bindT at hQ
  refine S.mount_Table_find hE p T nx q.m (hT.mono x1) fun H2 e2 => ?_
  have x2 := x1.trans e2
  have k2 := e2.cells k1
  by_cases hf : findT T q.m < 0
  · simp only [hf, if_true] at hQ
    simp [hf]
    exact hQ v _ (same _ x2)
  · simp only [hf, if_false] at hQ
    simp [-buildS_eq, hf, k2, r2]
    refine S.mount_Table_Seen hE p T nx q (hT.mono x2) ok.older fun H3 e3 => ?_
    have x3 := x2.trans e3
    have k3 := e3.cells k2
    have hpc : seen T q = q ↔ ((seen T q).m = q.m ∧ (seen T q).i = q.i) := place_eq _ _
    by_cases hs : seen T q = q
    · have hss := hpc.1 hs
      simp only [hs, ne_eq, not_true, if_false] at hQ
      obtain ⟨h0, v1, t1, t2⟩ := hT.mono x3
      have t1 := x3.cells hr.1
      have hlv := (hr.2.toRows.mono x3).lenSlc
      rw [List.length_map] at hlv
      simp [-buildS_eq, k3, r2, hss.1, hss.2, PlaceD.cells, t1, hlv]
      by_cases h16 : 16 ≤ T.length
      · have h16' : (16 : Int) ≤ T.length := by omega
        simp only [h16, if_true] at hQ
        simp [h16']
        exact hQ v _ (same _ x3)
      · have h16' : ¬ (16 : Int) ≤ T.length := by omega
        simp only [h16, if_false] at hQ
        have n0 := ok.nx0
        have n1 := ok.nx1
        have l3 := AH.lt_cells t1
        simp [-buildS_eq, h16', t1]
        rw [i64_add (by omega) (by omega), opt_some]
        simp [-buildS_eq, t1, l3]
        have hpk : H.next ≠ p := by omega
        simp only [PlaceD.cells] at k3
        have hg3 := hr.2.ext x3
        have hg4 : Grow zH (H3.put p (.cells [v, vi (nx + 1)] none)) 5 v (T.map MntD.cells) := hg3.keep fun b hb _ => AH.get_put_ne _ _ (by rintro rfl; exact hpv (mem_blkL.2 hb))
        obtain ⟨v', H6, a1, a2, a3, a4⟩ := hg4.app1 (Nat.zero_le _) (bytes := 40) (MntD.cells ⟨nx, q, root, 0⟩) rfl rfl (by omega) (by omega) (by simp; omega)
        have hpv6 : H6.get p = .cells [v, vi (nx + 1)] none := a3.cells (AH.get_put_self _ _ l3) hpv
        have l6 := AH.lt_cells hpv6
        have r2' := row_all [vi q.m, u16 q.i] none 2 rfl
        simp [-buildS_eq, AH.get_put_ne _ _ hpk, k3, r2', splice]
        rw [buildS_one 5 [_, _, _, _, _] [vi nx, vi q.m, u16 q.i, u16 root, vi 0] rfl rfl, mk_some, mkSlc_eq]
        simp only [MntD.cells] at a1
        rw [a1]
        simp [a2.plain, hpv6]
        refine hQ v' _ ?_
        have hO : Only (p :: blkL v) H H6 := by
          refine ((x3.only (F := p :: blkL v)).put (.inl (by simp)) _).trans a3 fun b hb => .inl (by simp [hb])
        refine Upd.put0 hr hpv hO (by simpa using a2) fun b hb => (a4 b hb).imp id fun h => ?_
        have := x3.1
        simp at h
        omega
    · have hss : ¬ ((seen T q).m = q.m ∧ (seen T q).i = q.i) := fun h => hs (hpc.2 h)
      simp only [hs, ne_eq, not_false_eq_true, if_true] at hQ
      simp [-buildS_eq, k3, r2]
      by_cases hm : (seen T q).m = q.m
      · have hi : ¬ (seen T q).i = q.i := fun h => hss ⟨hm, h⟩
        simp [PlaceD.cells, hm, hi]
        exact hQ v _ (same _ x3)
      · simp [PlaceD.cells, hm]
        exact hQ v _ (same _ x3)
end Go.AM
end
section
namespace Go.AM
variable {E : Sy} {H : AH} {Q : Value → AH → Prop}
theorem Upd.rows {p : Nat} {v : Value} {T T' : List MntD} {nx : Int} {H H1 : AH} (h : (tabR p v T nx).P H) (hnd : (tabR p v T nx).fp.Nodup) (o : Only (blkL v) H H1) (g : Grow zH H1 5 v (T'.map MntD.cells)) :
    Upd (tabR p v T nx) (tabR p v T' nx) H H1 := by
  have hlt : p < H.next := AH.lt_cells h.1
  have hp : p ∉ blkL v := by simp only [tabR, List.nodup_cons] at hnd; exact hnd.1
  refine ⟨o.mono fun b hb => .inl (by simp [tabR, hb]), ⟨o.cells h.1 hp, g⟩, fun b hb => ⟨.inl hb, ?_⟩, hnd⟩
  simp only [tabR, List.mem_cons] at hb
  rcases hb with rfl | hb
  · exact Nat.lt_of_lt_of_le hlt o.1
  · exact g.blk_lt (mem_blkL.1 hb)
def addHeld (k : Int) (m : MntD) : MntD := { m with held := m.held + k }
theorem tab_set (T : List MntD) (i : Nat) (hi : i < T.length) (k : Int) : (T.map MntD.cells).set i ((T[i]).cells.set 4 (vi (T[i].held + k))) = (T.set i (addHeld k T[i])).map MntD.cells := by
  rw [List.map_set]; rfl
def holdT (T : List MntD) (id : Int) (more : Bool) : List MntD × Int :=
  match T.findIdx? (fun m => decide (m.id = id)) with
  | none => (T, 2)
  | some i => if more then (T.set i (addHeld 1 (T.getD i zeroM)), 0) else if (T.getD i zeroM).held = 0 then (T, 22) else (T.set i (addHeld (-1) (T.getD i zeroM)), 0)
theorem tabR.fp_lt {p : Nat} {v : Value} {T : List MntD} {nx : Int} (hr : (tabR p v T nx).P H) : ∀ b ∈ (tabR p v T nx).fp, b < H.next := by
  intro b hb
  simp only [tabR, List.mem_cons] at hb
  rcases hb with rfl | hb
  · exact AH.lt_cells hr.1
  · exact hr.2.blk_lt (mem_blkL.1 hb)
theorem S.mount_Table_Hold (hE : Fold E) (p : Nat) (v : Value) (T : List MntD) (nx : Int) (hr : (tabR p v T nx).P H) (hnd : (tabR p v T nx).fp.Nodup) (ok : TabOk T nx) (id : Int) (more : Bool)
    (hQ : ∀ H', Upd (tabR p v T nx) (tabR p v (holdT T id more).1 nx) H H' → Q (vi (holdT T id more).2) H') : E.call (E.fid i.mount_Table_Hold) [ptr p 0, vi id, vb more] H Q := by
  apply hE.mount_Table_Hold
  have hlen := ok.len
  have hT := tabR.at_ hr (by omega)
  have same : ∀ H', Ext H H' → Upd (tabR p v T nx) (tabR p v T nx) H H' := fun H' e => (Upd.refl hr (tabR.fp_lt hr) hnd).ext e
  simp only [F.mount_Table_Hold]
  refine S.mount_Table_find hE p T nx id hT fun H1 e1 => ?_
  unfold holdT at hQ
  rcases ixOf_cases (fun m : MntD => decide (m.id = id)) T with ⟨h1, h2⟩ | ⟨j, hj, h1, h2, _, h3⟩
  · have h2 : findT T id = -1 := h2
    have h3 : T.findIdx? (fun m => decide (m.id = id)) = none := by
      rw [List.findIdx?_eq_none_iff]
      intro x hx
      simpa using List.find?_eq_none.1 h1 x hx
    rw [h3] at hQ
    simp [h2]
    exact hQ _ (same _ e1)
  · have h1 : findT T id = j := h1
    have hneg : ¬ ((j : Int) < 0) := by omega
    have k1 := e1.cells hr.1
    have g1 := hr.2.ext e1
    have hd : T.getD j zeroM = T[j] := by simp [hj]
    simp only [h3, hd] at hQ
    have hj' : j < (T.map MntD.cells).length := by simpa using hj
    have hh := ok.held T[j] (List.getElem_mem hj)
    have hcell : ∀ b o, (H1.get b).row o 5 = some (T.map MntD.cells)[j] → (H1.get b).cell (o + 4) = some (vi T[j].held) := by
      intro b o f2
      have := row_at f2 (j := 4) (by omega)
      rw [this]; simp [MntD.cells]
    cases more with
    | true =>
      simp only [if_true] at hQ
      obtain ⟨b, o, H2, s1, s2, s3, s4, s5⟩ := g1.store (i := j) (k := 4) hj' (by omega) (vi (T[j].held + 1)) rfl
      simp [-store1_ptr, h1, hneg, k1, s1, hcell _ _ s2]
      rw [i64_add (by omega) (by omega), opt_some, s3, opt_some]
      refine hQ _ (Upd.after e1 ?_)
      refine Upd.rows ⟨k1, g1⟩ hnd s5 ?_
      rw [← tab_set]
      simpa using s4
    | false =>
      simp only [Bool.false_eq_true, if_false] at hQ
      obtain ⟨b, o, H2, s1, s2, s3, s4, s5⟩ := g1.store (i := j) (k := 4) hj' (by omega) (vi (T[j].held + -1)) rfl
      by_cases h0 : T[j].held = 0
      · simp only [h0, if_true] at hQ
        have c := hcell _ _ s2
        rw [h0] at c
        simp [h1, hneg, k1, s1, c]
        exact hQ _ (same _ e1)
      · simp only [h0, if_false] at hQ
        simp [-store1_ptr, h1, hneg, k1, s1, hcell _ _ s2, h0]
        rw [i64_sub (by omega) (by omega), opt_some, show T[j].held - 1 = T[j].held + -1 by omega, s3, opt_some]
        refine hQ _ (Upd.after e1 ?_)
        refine Upd.rows ⟨k1, g1⟩ hnd s5 ?_
        rw [← tab_set]
        simpa using s4
def dropT (T : List MntD) (q : PlaceD) : List MntD × Int :=
  match downT T q, T.findIdx? (fun m => decide (m.id = q.m)) with
  | some _, some i => if 0 < (T.getD i zeroM).held ∨ T.any (standsIn q.m) = true then (T, 16) else (T.eraseIdx i, 0)
  | _, _ => (T, 22)
theorem S.mount_Table_Drop (hE : Fold E) (p : Nat) (v : Value) (T : List MntD) (nx : Int) (hr : (tabR p v T nx).P H) (hnd : (tabR p v T nx).fp.Nodup) (ok : TabOk T nx) (q : PlaceD)
    (hQ : ∀ v' H', Upd (tabR p v T nx) (tabR p v' (dropT T q).1 nx) H H' → Q (vi (dropT T q).2) H') : E.call (E.fid i.mount_Table_Drop) [ptr p 0, q.v] H Q := by
  apply hE.mount_Table_Drop
  have hlen := ok.len
  have hT := tabR.at_ hr (by omega)
  have hpv : p ∉ blkL v := by simp only [tabR, List.nodup_cons] at hnd; exact hnd.1
  have same : ∀ H', Ext H H' → Upd (tabR p v T nx) (tabR p v T nx) H H' := fun H' e => (Upd.refl hr (tabR.fp_lt hr) hnd).ext e
  have x1 : Ext H (H.new (.cells q.cells none)) := (Ext.refl H).new _
  have k1 : (H.new (.cells q.cells none)).get H.next = .cells q.cells none := AH.get_new_self _ _
  have r2 := row_all q.cells none 2 rfl
  have q0 : q.cells[0]? = some (vi q.m) := rfl
  simp [-buildS_eq, F.mount_Table_Drop, r2]
  refine S.mount_Table_Down hE p T nx q (hT.mono x1) fun H2 e2 => ?_
  have x2 := x1.trans e2
  have k2 := e2.cells k1
  have l2 := AH.lt_cells k2
  unfold dropT at hQ
  cases hd : downT T q with
  | none =>
    simp only [hd] at hQ
    simp [optP, PlaceD.cells, splice]
    exact hQ v _ (same _ (x2.new _))
  | some q' =>
    simp only [hd] at hQ
    have hne : ¬ H2.next = H.next := by omega
    simp [optP, PlaceD.cells, splice, AH.get_new, k2, q0, Nat.ne_of_lt l2]
    generalize hH3 : H2.new (.cells [vi q'.m, u16 q'.i] none) = H3
    have e3 : Ext H2 H3 := by subst hH3; exact (Ext.refl H2).new _
    clear hH3
    have x3 := x2.trans e3
    have k3 := e3.cells k2
    refine S.mount_Table_find hE p T nx q.m (hT.mono x3) fun H4 e4 => ?_
    have x4 := x3.trans e4
    have k4 := e4.cells k3
    have t4 := x4.cells hr.1
    have g4 := hr.2.ext x4
    have hex : ∃ (j : Nat) (hj : j < T.length), findT T q.m = j ∧ T.findIdx? (fun m => decide (m.id = q.m)) = some j := by
      rcases ixOf_cases (fun m : MntD => decide (m.id = q.m)) T with ⟨h1, h2⟩ | ⟨j, hj, h1, h2, _, h3⟩
      · have h1 : getT T q.m = none := h1
        simp [downT, h1] at hd
      · exact ⟨j, hj, h1, h3⟩
    obtain ⟨j, hj, h1, h3⟩ := hex
    have hdj : T.getD j zeroM = T[j] := by simp [hj]
    simp only [h3, hdj] at hQ
    obtain ⟨b, o, f1, f2⟩ := g4.toRows.ix (i := j) (by simpa using hj)
    have c4 := row_at f2 (j := 4) (by omega)
    simp only [List.getElem_map] at c4
    have hc : (H4.get b).cell (o + 4) = some (vi T[j].held) := by rw [c4]; simp [MntD.cells]
    simp [-store1_ptr, h1, t4, f1, hc]
    have busy : (0 < T[j].held ∨ T.any (standsIn q.m) = true) → ∀ H', Ext H4 H' → Q (vi 16) H' := by
      intro hb H' e
      rw [if_pos hb] at hQ
      exact hQ v _ (same _ (x4.trans e))
    have fin : ¬ (0 < T[j].held ∨ T.any (standsIn q.m) = true) → ∀ H5, Ext H4 H5 → E.call (E.fid i.slices_Clone_mount_Mount) [v] H5 (fun v29 H12 =>
        opt (binInt .add (vi j) (.int .i64 1)) fun v30 =>
        E.call (E.fid i.slices_Delete_mount_Mount) [v29, (vi j), v30] H12 fun v31 H13 =>
        opt (store1 (ptr p 0) v31 H13) fun H14 =>
        Q (.int .i64 0) H14) := by
      intro hb H5 e5
      rw [if_neg hb] at hQ
      have x5 := x4.trans e5
      refine S.slices_Clone_mount_Mount hE T (by omega) v (hr.2.ext x5).toRows fun v6 H6 e6 g6 b6 => ?_
      have x6 := x5.trans e6
      rw [i64_inc (by omega), opt_some]
      refine S.slices_Delete_mount_Mount hE T (by omega) v6 g6 j hj fun v7 H7 o7 b7 g7 => ?_
      have n5 := x5.1
      have hl := AH.lt_cells hr.1
      have o7' : Only (p :: blkL v) H H7 := (x6.only (F := p :: blkL v)).trans o7 fun b hb => .inr (by have := b6 b (mem_blkL.1 hb); omega)
      have hpv6 : p ∉ blkL v6 := fun k => by have := b6 p (mem_blkL.1 k); omega
      have t7 := o7.cells (x6.cells hr.1) hpv6
      have l7 := AH.lt_cells t7
      simp [t7, g7.plain]
      refine hQ v7 _ (Upd.put0 hr hpv o7' g7 fun b hb => .inr ?_)
      have := b6 b (by rw [← b7]; exact hb)
      omega
    by_cases hh : 0 < T[j].held
    · simp [hh]
      exact busy (.inl hh) _ (Ext.refl _)
    · simp [-store1_ptr, hh, t4]
      refine S.slices_ContainsFunc_mount_Mount hE T (by omega) v _ g4.toRows (standsIn q.m) (fun H' m K e _ hK => ?_) fun H5 e5 => ?_
      · simp
        exact S.mount_Table_Drop_1 hE m H.next q (e.cells k4) hK
      · by_cases ha : T.any (standsIn q.m) = true
        · simp [ha]
          exact busy (.inr ha) _ e5
        · have ha' : T.any (standsIn q.m) = false := by simpa using ha
          have t5 := e5.cells t4
          simp [-store1_ptr, ha', t5]
          simpa using fin (by simp [hh, ha']) H5 e5
end Go.AM
end
section
namespace Go.AM
variable {E : Sy} {H0 Z H : AH} {L : List Res} {Q : Value → AH → Prop}
theorem nodup_of : ∀ {L : List Res} (_ : (L.flatMap Res.fp).Nodup) {k : Nat} {r : Res} (_ : L[k]? = some r), r.fp.Nodup
  | [], _, k, r, h => by simp at h
  | x :: L, hn, k, r, h => by
    rw [List.flatMap_cons, List.nodup_append] at hn
    cases k with
    | zero => simp at h; subst h; exact hn.1
    | succ k => exact nodup_of hn.2.1 (by simpa using h)
theorem Has.nodup (h : Has H0 Z H L) {k : Nat} {r : Res} (hk : L[k]? = some r) : r.fp.Nodup := nodup_of h.nd hk
theorem Has.tab (h : Has H0 Z H L) {k p : Nat} {v : Value} {T : List MntD} {nx : Int} (hk : L[k]? = some (tabR p v T nx)) (hn : T.length < 2 ^ 62) : TabAt H p T nx := tabR.at_ (h.get hk) hn
section
variable {k p : Nat} {v : Value} {T : List MntD} {nx : Int}
theorem S.mount_Table_Bind' (hE : Fold E) (h : Has H0 Z H L) (hk : L[k]? = some (tabR p v T nx)) (ok : TabOk T nx) (root : BitVec 16) (q : PlaceD)
    (hQ : ∀ v' H', Has H0 Z H' (L.set k (tabR p v' (bindT T nx root q).T (bindT T nx root q).nx)) → Q (.tuple #[vi (bindT T nx root q).n, vi (bindT T nx root q).e]) H') :
    E.call (E.fid i.mount_Table_Bind) [ptr p 0, u16 root, q.v] H Q :=
  S.mount_Table_Bind hE p v T nx (h.get hk) (h.nodup hk) ok root q fun v' H' u => hQ v' H' (h.step hk u)
theorem S.mount_Table_Hold' (hE : Fold E) (h : Has H0 Z H L) (hk : L[k]? = some (tabR p v T nx)) (ok : TabOk T nx) (id : Int) (more : Bool)
    (hQ : ∀ H', Has H0 Z H' (L.set k (tabR p v (holdT T id more).1 nx)) → Q (vi (holdT T id more).2) H') : E.call (E.fid i.mount_Table_Hold) [ptr p 0, vi id, vb more] H Q :=
  S.mount_Table_Hold hE p v T nx (h.get hk) (h.nodup hk) ok id more fun H' u => hQ H' (h.step hk u)
theorem S.mount_Table_Drop' (hE : Fold E) (h : Has H0 Z H L) (hk : L[k]? = some (tabR p v T nx)) (ok : TabOk T nx) (q : PlaceD)
    (hQ : ∀ v' H', Has H0 Z H' (L.set k (tabR p v' (dropT T q).1 nx)) → Q (vi (dropT T q).2) H') : E.call (E.fid i.mount_Table_Drop) [ptr p 0, q.v] H Q :=
  S.mount_Table_Drop hE p v T nx (h.get hk) (h.nodup hk) ok q fun v' H' u => hQ v' H' (h.step hk u)
theorem S.mount_New' (hE : Fold E) (h : Has H0 Z H L) (hQ : ∀ p v H', Has H0 Z H' (L ++ [tabR p v tab0 1]) → Q (ptr p 0) H') : E.call (E.fid i.mount_New) [] H Q :=
  S.mount_New hE fun p v H' n => hQ p v H' (h.addnew n)
end
def PlaceD.zero : PlaceD := ⟨0, 0#16⟩
theorem PlaceD.ext_iff (x y : PlaceD) : x = y ↔ x.m = y.m ∧ x.i = y.i := place_eq x y
theorem splice0 {c vs : List Value} (h : c.length = vs.length) : splice c 0 vs = vs := by simp [splice, h]
@[simp] theorem PlaceD.cells_length (p : PlaceD) : p.cells.length = 2 := rfl
@[simp] theorem MntD.cells_length (m : MntD) : m.cells.length = 5 := rfl
@[simp] theorem place_plain (p : PlaceD) : p.cells.all plain1 = true := rfl
@[simp] theorem place_plain' (p : PlaceD) : (∀ x ∈ p.cells, plain1 x = true) = True := eq_true (by simp [PlaceD.cells, u16])
@[simp] theorem place_splice (a b : Value) (p : PlaceD) : splice [a, b] 0 p.cells = p.cells := rfl
@[simp] theorem place_splice' (q p : PlaceD) : splice q.cells 0 p.cells = p.cells := rfl
@[simp] theorem place_take (p : PlaceD) : p.cells.take 2 = p.cells := rfl
@[simp] theorem mnt_plain (p : MntD) : p.cells.all plain1 = true := rfl
@[simp] theorem mnt_plain' (p : MntD) : (∀ x ∈ p.cells, plain1 x = true) = True := eq_true (by simp [MntD.cells, u16])
@[simp] theorem mnt_splice (a b c d e : Value) (p : MntD) : splice [a, b, c, d, e] 0 p.cells = p.cells := rfl
@[simp] theorem mnt_take (p : MntD) : p.cells.take 5 = p.cells := rfl
theorem tabOk0 : TabOk tab0 1 := ⟨by unfold Older; simp [tab0], by simp [tab0], by omega, by omega, by simp [tab0]⟩
@[simp] theorem sameCells_place (p q : PlaceD) : sameCells [0, 0] p.cells q.cells = some (decide (p = q)) := by
  obtain ⟨a, b⟩ := p
  obtain ⟨c, d⟩ := q
  have hbd : ((b.toNat : Int) == (d.toNat : Int)) = decide (b = d) := by
    by_cases h : b = d
    · subst h; simp
    · have : ¬ b.toNat = d.toNat := fun e => h (BitVec.eq_of_toNat_eq e)
      simp [h]; omega
  simp [PlaceD.cells, sameCells, sameCell, u16, Bool.decide_and]
  simp [hbd, Bool.beq_eq_decide_eq]
@[simp] theorem place_eql (p q : PlaceD) : binAgg [0, 0] .eql p.v q.v = some (vb (decide (p = q))) := by simp [binAgg]
@[simp] theorem place_neq (p q : PlaceD) : binAgg [0, 0] .neq p.v q.v = some (vb (decide (p ≠ q))) := by simp [binAgg]
@[simp] theorem place_build (a : Int) (b : BitVec 16) : buildV [(0, 1), (1, 1)] #[.int .i64 0, .int .u16 0] [(0, vi a), (1, u16 b)] = some (PlaceD.v ⟨a, b⟩) := rfl
theorem S.pinfoldlaw17_Awake (hE : Fold E) (h : Has H0 Z H []) (hQ : ∀ H', Has H0 Z H' [] → Q (vb true) H') : E.call (E.fid i.pinfoldlaw17_Awake) [] H Q := by
  apply hE.pinfoldlaw17_Awake
  refine S.mount_New' hE h fun p v H1 h1 => ?_
  have e1 : (Value.int .u16 5) = u16 5#16 := rfl
  have e2 : (Value.int .u16 7) = u16 7#16 := rfl
  have e0 : (Value.int .i64 0) = vi 0 := rfl
  have e3 : (Value.int .i64 1) = vi 1 := rfl
  simp only [e0, e1, e2, e3, place_build, opt_some]
  refine S.mount_Table_Bind' hE h1 (k := 0) rfl tabOk0 5#16 ⟨0, 7#16⟩ fun v2 H2 h2 => ?_
  have hb : bindT tab0 1 5#16 ⟨0, 7#16⟩ = ⟨tab0 ++ [⟨1, ⟨0, 7#16⟩, 5#16, 0⟩], 2, 1, 0⟩ := rfl
  have hs : seen (tab0 ++ [⟨1, ⟨0, 7#16⟩, 5#16, 0⟩]) ⟨0, 7#16⟩ = ⟨1, 5#16⟩ := by decide
  rw [hb] at h2 ⊢
  simp
  refine S.mount_Table_Seen hE p _ 2 ⟨0, 7#16⟩ (h2.tab (k := 0) rfl (by simp [tab0])) (by unfold Older; simp [tab0]) fun H3 e3 => ?_
  rw [hs]
  simp
  exact hQ _ ((h2.grow e3).drop 0)
end Go.AM
end
section
/- Slices built anew of parts of another one. -/
namespace Go.AM
section
variable {Z H : AH} {sz bytes : Nat} {v : Value} {rows : List (List Value)}
theorem Grew'.ext {H H' H'' : AH} {v v' : Value} (g : Grew' H' H'' v v') (e : Ext H H') (hb : ∀ b, blk v = some b → H.next ≤ b) : Ext H H'' :=
  g.1.ext e fun b h => hb b (mem_blkL.1 h)
/-- A part of one, appended to what is new. -/
theorem newApp {H H' : AH} {w x : Value} {old new : List (List Value)} (e : Ext H H') (hw : Grow zH H' sz w old) (hb : ∀ b, blk w = some b → H.next ≤ b) (hx : Rows H' sz x new) (hp : ∀ r ∈ new, r.all plain1 = true) (hs : sz ≠ 0) (hy : bytes ≠ 0)
    (h1 : (old.length + new.length) * bytes ≤ 2 ^ 46) (h2 : old.length + new.length < 2 ^ 62) :
    ∃ w' H'', AM.app sz bytes w x H' = some (w', H'') ∧ Ext H H'' ∧ Grow zH H'' sz w' (old ++ new) ∧ ∀ b, blk w' = some b → H.next ≤ b := by
  obtain ⟨w', H'', a1, a2, a3⟩ := hw.app (Nat.zero_le _) hx hp hs hy h1 h2
  exact ⟨w', H'', a1, a3.ext e hb, a2, fun b k => (a3.2 b k).elim (hb b) fun h => Nat.le_trans e.1 h⟩
/-- One less. -/
theorem cutOut (hv : Rows H sz v rows) (hp : ∀ r ∈ rows, r.all plain1 = true) {i : Nat} (hi : i < rows.length) (hs : sz ≠ 0) (hy : bytes ≠ 0) (h1 : rows.length * bytes ≤ 2 ^ 46) (h2 : rows.length < 2 ^ 62) :
    ∃ v1 v2 w1 H6 w2 H7, slSlc sz v none (some (vi i)) none (H.new (.cells [] none)) = some v1 ∧ slSlc sz v (some (vi ((i + 1 : Nat) : Int))) none none (H.new (.cells [] none)) = some v2 ∧
      AM.app sz bytes (slc H.next 0 0 0) v1 (H.new (.cells [] none)) = some (w1, H6) ∧ Ext H H6 ∧ slSlc sz v (some (vi ((i + 1 : Nat) : Int))) none none H6 = some v2 ∧
      AM.app sz bytes w1 v2 H6 = some (w2, H7) ∧ Ext H H7 ∧ Grow zH H7 sz w2 (rows.eraseIdx i) ∧ ∀ b, blk w2 = some b → H.next ≤ b := by
  have x1 : Ext H (H.new (.cells [] none)) := (Ext.refl H).new _
  have hv1 := hv.mono x1
  obtain ⟨s1, r1⟩ := hv1.slice' (lo := none) (hi := some (vi i)) (i := 0) (j := i) (.inr ⟨rfl, rfl⟩) (.inl rfl) (Nat.zero_le _) (Nat.le_of_lt hi)
  obtain ⟨s2, r2⟩ := hv1.slice' (lo := some (vi ((i + 1 : Nat) : Int))) (hi := none) (i := i + 1) (j := rows.length) (.inl rfl) (.inr ⟨rfl, rfl⟩) hi (Nat.le_refl _)
  rw [List.drop_zero] at r1
  rw [List.take_length] at r2
  have hG0 : Grow zH (H.new (.cells [] none)) sz (slc H.next 0 0 0) [] := Grow.room (zH_get _) (AH.get_new_self _ _) (by simp)
  have hlt : (rows.take i).length = i := by rw [List.length_take]; omega
  have hld : (rows.drop (i + 1)).length = rows.length - (i + 1) := List.length_drop
  obtain ⟨w1, H6, a1, a2, a3, a4⟩ := newApp (bytes := bytes) x1 hG0 (fun b hb => by simp [blk] at hb; omega) r1 (fun r hr => hp r (List.mem_of_mem_take hr)) hs hy (by rw [hlt]; exact Nat.le_trans (Nat.mul_le_mul_right _ (by simp; omega)) h1) (by rw [hlt]; simp; omega)
  have hv6 := hv.mono a2
  obtain ⟨s3, r3⟩ := hv6.slice' (lo := some (vi ((i + 1 : Nat) : Int))) (hi := none) (i := i + 1) (j := rows.length) (.inl rfl) (.inr ⟨rfl, rfl⟩) hi (Nat.le_refl _)
  rw [List.take_length] at r3
  rw [List.nil_append] at a3
  obtain ⟨w2, H7, b1, b2, b3, b4⟩ := newApp (bytes := bytes) a2 a3 a4 r3 (fun r hr => hp r (List.mem_of_mem_drop hr)) hs hy (by rw [hlt, hld]; exact Nat.le_trans (Nat.mul_le_mul_right _ (by omega)) h1) (by rw [hlt, hld]; omega)
  refine ⟨_, _, w1, H6, w2, H7, s1, s2, a1, a2, s3, b1, b2, ?_, b4⟩
  rw [List.eraseIdx_eq_take_drop_succ]
  exact b3
end
end Go.AM
end
section
/- What follows a step isn't simplified ahead of the step. -/
namespace Go.AM
theorem nrf {α : Type} {a b : α} (h : a = b) : a = b := Eq.trans h rfl
def tk {α : Type} (x : α) : α := x
@[simp] theorem tk_eq {α : Type} (x : α) : tk x = x := Eq.trans (Eq.refl x) (Eq.refl x)
@[congr] theorem ifB_lazy {v v' : Value} {A B : Prop} (h : tk v = v') : ifB v A B = ifB v' A B := by rw [← h, tk_eq]
@[congr] theorem opt_lazy {α : Type} {o o' : Option α} {K : α → Prop} (h : tk o = o') : opt o K = opt o' K := by rw [← h, tk_eq]
@[congr] theorem opt2_lazy {α β : Type} {o o' : Option (α × β)} {K : α → β → Prop} (h : tk o = o') : opt2 o K = opt2 o' K := by rw [← h, tk_eq]
@[congr] theorem mk_lazy {o o' : Option (AObj × (Nat → Value))} {H : AH} {K : Value → AH → Prop} (h : tk o = o') : AM.mk o H K = AM.mk o' H K := by rw [← h, tk_eq]
@[congr] theorem call_lazy {E : Sy} {f f' : FuncId} {a a' : List Value} {H H' : AH} {K : Value → AH → Prop} (h1 : tk f = f') (h2 : tk a = a') (h3 : tk H = H') : E.call f a H K = E.call f' a' H' K := by rw [← h1, ← h2, ← h3]; rfl
@[congr] theorem callV_lazy {c : CallT} {f f' : Value} {a a' : List Value} {H H' : AH} {K : Value → AH → Prop} (h1 : tk f = f') (h2 : tk a = a') (h3 : tk H = H') : callV c f a H K = callV c f' a' H' K := by rw [← h1, ← h2, ← h3]; rfl
@[congr] theorem gd_lazy {v v' : Value} {b : Bool} {m : (Value → AH → Prop) → Prop} {H : AH} {K : Value → AH → Prop} (h : tk v = v') : gd v b m H K = gd v' b m H K := by rw [← h, tk_eq]
@[congr] theorem LoopL_lazy {B : List Value → AH → (List Value → AH → Prop) → Prop} {l l' : List Value} {H H' : AH} (h1 : tk l = l') (h2 : tk H = H') : LoopL B l H = LoopL B l' H' := by rw [← h1, ← h2]; rfl
/-! Steps that hold by reduction, told so that they aren't taken for that. -/
@[simp high] theorem zs_zero_z (v : Value) : zs 0 v = [] := nrf rfl
@[simp high] theorem mkPtr_eq_z (b : Nat) : mkPtr b = ptr b 0 := nrf rfl
@[simp high] theorem mkSlc_eq_z (n c b : Nat) : mkSlc n c b = slc b 0 n c := nrf rfl
@[simp high] theorem cell_cells_z (c : List Value) (f : Option Nat) (i : Nat) : (AObj.cells c f).cell i = c[i]? := nrf rfl
@[simp high] theorem row_cells_z (c : List Value) (f : Option Nat) (i n : Nat) : (AObj.cells c f).row i n = if i + n ≤ c.length then some ((c.drop i).take n) else none := nrf rfl
@[simp high] theorem boxO_agg_z (a : Array Value) : boxO (.agg a) = some (.cells a.toList none, mkPtr) := nrf rfl
@[simp high] theorem lenSlc_slc_z (o : Option Addr) (n c : Nat) : lenSlc (.slice o n c) = some (.int .i64 n) := nrf rfl
@[simp high] theorem lenStr_str_z (s : ByteArray) : lenStr (.string s) = some (.int .i64 s.size) := nrf rfl
@[simp high] theorem part1_agg_z (a : Array Value) (i : Nat) : part1 (.agg a) i = a[i]? := nrf rfl
@[simp high] theorem partN_agg_z (a : Array Value) (i n : Nat) : partN (.agg a) i n = some (.agg (a.extract i (i + n))) := nrf rfl
@[simp high] theorem gdC_skip_z (want : Bool) (c : Prop) : gdC skipV want c = True := nrf rfl
@[simp high] theorem un_not_z (b : Bool) : un .not (.bool b) = some (.bool !b) := nrf rfl
@[simp high] theorem pick_true_z (x y : Value) : pick (.bool true) x y = some x := nrf rfl
@[simp high] theorem pick_false_z (x y : Value) : pick (.bool false) x y = some y := nrf rfl
@[simp high] theorem binBool_eql_z (a b : Bool) : binBool .eql (.bool a) (.bool b) = some (.bool (a == b)) := nrf rfl
@[simp high] theorem binBool_neq_z (a b : Bool) : binBool .neq (.bool a) (.bool b) = some (.bool !(a == b)) := nrf rfl
@[simp high] theorem i64_max_z (a b : Int) : fold2 max2 [vi a, vi b] = some (vi (if b > a then b else a)) := nrf rfl
@[simp high] theorem i64_min_z (a b : Int) : fold2 min2 [vi a, vi b] = some (vi (if b < a then b else a)) := nrf rfl
@[simp high] theorem u8_lit0_z : (.int .u8 0 : Value) = u8 0#8 := nrf rfl
@[simp high] theorem u8_lit1_z : (.int .u8 1 : Value) = u8 1#8 := nrf rfl
@[simp high] theorem defd_u8_z (x : BitVec 8) : defd (u8 x) = true := nrf rfl
@[simp high] theorem plain1_u8_z (x : BitVec 8) : plain1 (u8 x) = true := nrf rfl
@[simp high] theorem cells_u8_z (x : BitVec 8) : (u8 x).cells = #[u8 x] := nrf rfl
@[simp high] theorem u16_lit0_z : (.int .u16 0 : Value) = u16 0#16 := nrf rfl
@[simp high] theorem u16_lit1_z : (.int .u16 1 : Value) = u16 1#16 := nrf rfl
@[simp high] theorem defd_u16_z (x : BitVec 16) : defd (u16 x) = true := nrf rfl
@[simp high] theorem plain1_u16_z (x : BitVec 16) : plain1 (u16 x) = true := nrf rfl
@[simp high] theorem cells_u16_z (x : BitVec 16) : (u16 x).cells = #[u16 x] := nrf rfl
@[simp high] theorem u32_lit0_z : (.int .u32 0 : Value) = u32 0#32 := nrf rfl
@[simp high] theorem u32_lit1_z : (.int .u32 1 : Value) = u32 1#32 := nrf rfl
@[simp high] theorem defd_u32_z (x : BitVec 32) : defd (u32 x) = true := nrf rfl
@[simp high] theorem plain1_u32_z (x : BitVec 32) : plain1 (u32 x) = true := nrf rfl
@[simp high] theorem cells_u32_z (x : BitVec 32) : (u32 x).cells = #[u32 x] := nrf rfl
@[simp high] theorem u64_lit0_z : (.int .u64 0 : Value) = u64 0#64 := nrf rfl
@[simp high] theorem u64_lit1_z : (.int .u64 1 : Value) = u64 1#64 := nrf rfl
@[simp high] theorem defd_u64_z (x : BitVec 64) : defd (u64 x) = true := nrf rfl
@[simp high] theorem plain1_u64_z (x : BitVec 64) : plain1 (u64 x) = true := nrf rfl
@[simp high] theorem cells_u64_z (x : BitVec 64) : (u64 x).cells = #[u64 x] := nrf rfl
@[simp high] theorem vcells_agg_z (a : Array Value) : vcells (.agg a) = a.toList := nrf rfl
@[simp high] theorem vcells_int_z (k : IntKind) (n : Int) : vcells (.int k n) = [.int k n] := nrf rfl
@[simp high] theorem vcells_bool_z (b : Bool) : vcells (.bool b) = [.bool b] := nrf rfl
@[simp high] theorem vcells_string_z (b : ByteArray) : vcells (.string b) = [.string b] := nrf rfl
@[simp high] theorem vcells_slice_z (o : Option Addr) (n c : Nat) : vcells (.slice o n c) = [.slice o n c] := nrf rfl
@[simp high] theorem vcells_pointer_z (o : Option Addr) : vcells (.pointer o) = [.pointer o] := nrf rfl
@[simp high] theorem vcells_map_z (o : Option Nat) : vcells (.map o) = [.map o] := nrf rfl
@[simp high] theorem vcells_func_z (g : Fn) (a b : Array Value) : vcells (.func g a b) = [.func g a b] := nrf rfl
@[simp high] theorem vcells_nilFunc_z : vcells .nilFunc = [.nilFunc] := nrf rfl
@[simp high] theorem vcells_iface_z (t : TypeId) (v : Value) : vcells (.iface t v) = [.iface t v] := nrf rfl
@[simp high] theorem vcells_nilIface_z : vcells .nilIface = [.nilIface] := nrf rfl
@[simp high] theorem vcells_u8_z (x : BitVec 8) : vcells (u8 x) = [u8 x] := nrf rfl
@[simp high] theorem vcells_u16_z (x : BitVec 16) : vcells (u16 x) = [u16 x] := nrf rfl
@[simp high] theorem vcells_u32_z (x : BitVec 32) : vcells (u32 x) = [u32 x] := nrf rfl
@[simp high] theorem vcells_u64_z (x : BitVec 64) : vcells (u64 x) = [u64 x] := nrf rfl
@[simp high] theorem defd_agg_z (a : Array Value) : defd (.agg a) = true := nrf rfl
@[simp high] theorem defd_int_z (k : IntKind) (n : Int) : defd (.int k n) = true := nrf rfl
@[simp high] theorem defd_bool_z (b : Bool) : defd (.bool b) = true := nrf rfl
@[simp high] theorem defd_string_z (b : ByteArray) : defd (.string b) = true := nrf rfl
@[simp high] theorem defd_slice_z (o : Option Addr) (n c : Nat) : defd (.slice o n c) = true := nrf rfl
@[simp high] theorem defd_pointer_z (o : Option Addr) : defd (.pointer o) = true := nrf rfl
@[simp high] theorem defd_map_z (o : Option Nat) : defd (.map o) = true := nrf rfl
@[simp high] theorem defd_func_z (g : Fn) (a b : Array Value) : defd (.func g a b) = true := nrf rfl
@[simp high] theorem defd_nilFunc_z : defd .nilFunc = true := nrf rfl
@[simp high] theorem defd_iface_z (t : TypeId) (v : Value) : defd (.iface t v) = true := nrf rfl
@[simp high] theorem defd_nilIface_z : defd .nilIface = true := nrf rfl
@[simp high] theorem plain1_int_z (k : IntKind) (n : Int) : plain1 (.int k n) = true := nrf rfl
@[simp high] theorem plain1_bool_z (b : Bool) : plain1 (.bool b) = true := nrf rfl
@[simp high] theorem plain1_string_z (b : ByteArray) : plain1 (.string b) = true := nrf rfl
@[simp high] theorem plain1_slice_z (o : Option Addr) (n c : Nat) : plain1 (.slice o n c) = true := nrf rfl
@[simp high] theorem plain1_pointer_z (o : Option Addr) : plain1 (.pointer o) = true := nrf rfl
@[simp high] theorem plain1_map_z (o : Option Nat) : plain1 (.map o) = true := nrf rfl
@[simp high] theorem plain1_func_z (g : Fn) (a b : Array Value) : plain1 (.func g a b) = true := nrf rfl
@[simp high] theorem plain1_nilFunc_z : plain1 .nilFunc = true := nrf rfl
@[simp high] theorem plain1_iface_z (t : TypeId) (v : Value) : plain1 (.iface t v) = true := nrf rfl
@[simp high] theorem plain1_nilIface_z : plain1 .nilIface = true := nrf rfl
@[simp high] theorem fillL_nil_z (place : Nat → Option (Nat × Nat)) (cells : List Value) : fillL place cells [] = some cells := nrf rfl
@[simp high] theorem str_lit_z (l : List UInt8) : (.string ⟨l.toArray⟩ : Value) = str l := nrf rfl
@[simp high] theorem defd_str_z (l : List UInt8) : defd (str l) = true := nrf rfl
@[simp high] theorem plain1_str_z (l : List UInt8) : plain1 (str l) = true := nrf rfl
@[simp high] theorem vcells_str_z (l : List UInt8) : vcells (str l) = [str l] := nrf rfl
@[simp high] theorem cells_str_z (l : List UInt8) : (str l).cells = #[str l] := nrf rfl
@[simp high] theorem sameCells_nil_z : sameCells [] [] [] = some true := nrf rfl
@[simp high] theorem sameCells_cons_z (k : Nat) (ks : List Nat) (x y : Value) (xs ys : List Value) : sameCells (k :: ks) (x :: xs) (y :: ys) = (sameCell k x y).bind fun b => (sameCells ks xs ys).map (b && ·) := nrf rfl
@[simp high] theorem nilp_some_z (a : Addr) : binNil eqPtr .eql (.pointer (some a)) (.pointer none) = some (.bool false) := nrf rfl
@[simp high] theorem nilp_none_z : binNil eqPtr .eql (.pointer none) (.pointer none) = some (.bool true) := nrf rfl
@[simp high] theorem nilp_some'_z (a : Addr) : binNil eqPtr .neq (.pointer (some a)) (.pointer none) = some (.bool true) := nrf rfl
@[simp high] theorem nilp_none'_z : binNil eqPtr .neq (.pointer none) (.pointer none) = some (.bool false) := nrf rfl
@[simp high] theorem nilCk_ptr_z (a : Addr) : nilCk (.pointer (some a)) = some (.pointer (some a)) := nrf rfl
@[simp high] theorem AH.next_put_z (H : AH) (b : Nat) (o : AObj) : (H.put b o).next = H.next := nrf rfl
@[simp high] theorem AH.next_new_z (H : AH) (o : AObj) : (H.new o).next = H.next + 1 := nrf rfl
theorem plain_defd {v : Value} (h : plain1 v = true) : defd v = true := by cases v <;> first | rfl | simp [plain1] at h
theorem plain_vcells {v : Value} (h : plain1 v = true) : vcells v = [v] := by cases v <;> first | rfl | simp [plain1] at h
theorem rows_ok {α : Type} {f : α → List Value} {P : α → Prop} : ∀ {rows : List (List Value)}, (∀ r ∈ rows, ∃ x, r = f x ∧ P x) → ∃ l : List α, rows = l.map f ∧ ∀ x ∈ l, P x
  | [], _ => ⟨[], rfl, by simp⟩
  | r :: rows, h => by
    obtain ⟨x, rfl, hx⟩ := h r (by simp)
    obtain ⟨l, rfl, hl⟩ := rows_ok (rows := rows) (fun r hr => h r (by simp [hr]))
    exact ⟨x :: l, rfl, by intro y hy; rcases List.mem_cons.1 hy with rfl | hy; exact hx; exact hl y hy⟩
theorem ArgSV.rowsOf {α : Type} {f : α → List Value} {P : α → Prop} {H : AH} {n : Nat} {e : Sh} {v : Value} (hf : ∀ r, SV H e r → ∃ x, r = f x ∧ P x) (h : ArgSV H (.slice n e) v) : ∃ l : List α, Rows H n v (l.map f) ∧ l.length ≤ 9223372036854775807 ∧ ∀ x ∈ l, P x := by
  obtain ⟨w, rows, e1, h1, h2, h3⟩ := (show SV H (.slice n e) [v] from h)
  obtain rfl : v = w := by simpa using e1
  obtain ⟨l, rfl, hl⟩ := rows_ok fun r hr => hf r (h3 r hr)
  exact ⟨l, h1, by simpa using h2, hl⟩
@[simp] theorem AH.get_new1 (H : AH) (a b : AObj) : ((H.new a).new b).get (H.next + 1) = b := AH.get_new_self (H.new a) b
@[simp] theorem AH.get_new2 (H : AH) (a b c : AObj) : (((H.new a).new b).new c).get (H.next + 1 + 1) = c := AH.get_new_self ((H.new a).new b) c
@[simp] theorem AH.get_new3 (H : AH) (a b c d : AObj) : ((((H.new a).new b).new c).new d).get (H.next + 1 + 1 + 1) = d := AH.get_new_self (((H.new a).new b).new c) d
end Go.AM
end
section
/- Structs as data: written by program (st.py). -/
namespace Go.AM
/-- pinfoldref16.Place -/
structure PlaceI where
  mount : Int
  inode : Int
  deriving DecidableEq
def PlaceI.cells (x : PlaceI) : List Value := [vi x.mount, vi x.inode]
abbrev PlaceI.v (x : PlaceI) : Value := .agg x.cells.toArray
def PlaceI.zero : PlaceI := ⟨0, 0⟩
@[simp high] theorem PlaceI.cells_length (x : PlaceI) : x.cells.length = 2 := nrf rfl
@[simp high] theorem PlaceI.splice (a0 a1 : Value) (x : PlaceI) : AM.splice [a0, a1] 0 x.cells = x.cells := nrf rfl
@[simp high] theorem PlaceI.splice_cells (y x : PlaceI) : AM.splice y.cells 0 x.cells = x.cells := nrf rfl
@[simp high] theorem PlaceI.take (x : PlaceI) : x.cells.take 2 = x.cells := nrf rfl
@[simp high] theorem PlaceI.plain (x : PlaceI) : x.cells.all plain1 = true := nrf rfl
@[simp] theorem PlaceI.plain' (x : PlaceI) : (∀ y ∈ x.cells, plain1 y = true) = True := eq_true (List.all_eq_true.1 (PlaceI.plain x))
@[simp high] theorem PlaceI.at0 (x : PlaceI) : x.cells[0]? = some (vi x.mount) := nrf rfl
@[simp high] theorem PlaceI.at1 (x : PlaceI) : x.cells[1]? = some (vi x.inode) := nrf rfl
@[simp high] theorem PlaceI.set0 (x : PlaceI) (p : Int) : x.cells.set 0 (vi p) = ({ x with mount := p } : PlaceI).cells := nrf rfl
@[simp high] theorem PlaceI.set1 (x : PlaceI) (p : Int) : x.cells.set 1 (vi p) = ({ x with inode := p } : PlaceI).cells := nrf rfl
theorem PlaceI.elem {H : AH} {v : Value} {l : List PlaceI} (h : Rows H 2 v (l.map PlaceI.cells)) {i : Nat} (hi : i < l.length) : ∃ b o, ixSlc 2 v (vi i) = some (ptr b o) ∧ (H.get b).row o 2 = some l[i].cells ∧ (H.get b).cell o = some (vi l[i].mount) ∧ (H.get b).cell (o + 1) = some (vi l[i].inode) := by
  obtain ⟨b, o, f1, f2⟩ := h.ix (i := i) (by simpa using hi)
  simp only [List.getElem_map] at f2
  exact ⟨b, o, f1, f2, by have := row_at f2 (j := 0) (by omega); simpa using this, by have := row_at f2 (j := 1) (by omega); simpa using this⟩
@[simp high] theorem PlaceI.build (p0 : Int) (p1 : Int)  : buildV [(0, 1), (1, 1)] [vi 0, vi 0].toArray [(0, vi p0), (1, vi p1)] = some (PlaceI.v ⟨p0, p1⟩) := by
  simp [PlaceI.cells, AM.splice]
@[simp high] theorem PlaceI.build0 : buildV [(0, 1), (1, 1)] [vi 0, vi 0].toArray [] = some (PlaceI.v PlaceI.zero) := by
  simp [PlaceI.zero, PlaceI.cells]
@[simp high] theorem PlaceI.build1 (x : PlaceI) : buildS 1 2 [vi 0, vi 0].toArray [(0, .agg x.cells.toArray)] = some (.cells x.cells none, mkSlc 1 1) := buildS_one 2 [vi 0, vi 0] x.cells rfl rfl
theorem PlaceI.buildS (xs : List PlaceI) : AM.buildS xs.length 2 [vi 0, vi 0].toArray ((List.range' 0 xs.length).zip (xs.map PlaceI.v)) = some (.cells (xs.map PlaceI.cells).flatten none, mkSlc xs.length xs.length) := by
  have := buildS_full xs.length 2 [vi 0, vi 0] ((List.range' 0 xs.length).zip (xs.map PlaceI.v)) (xs.map PlaceI.v) rfl (by simp) (by simp) (by rw [List.all_eq_true]; intro v hv; obtain ⟨x, _, rfl⟩ := List.mem_map.1 hv; rfl) (by intro v hv; obtain ⟨x, _, rfl⟩ := List.mem_map.1 hv; rfl)
  rw [this, List.flatMap_map]; rfl
theorem PlaceI.ext_iff (x y : PlaceI) : x = y ↔ x.mount = y.mount ∧ x.inode = y.inode := by
  cases x; cases y; simp
theorem PlaceI.same (x y : PlaceI) : sameCells [0, 0] x.cells y.cells = some (decide (x = y)) := by
  simp only [PlaceI.ext_iff, Bool.decide_and, PlaceI.cells, List.cons_append, List.nil_append, sameCells_cons, sameCells_nil, same_i64, same_str, same_bool, same_u8, same_u16, same_u32, same_u64, Option.bind_some, Option.map_some, Bool.and_true, Bool.and_assoc]
@[simp high] theorem PlaceI.eql (x y : PlaceI) : binAgg [0, 0] .eql (.agg x.cells.toArray) (.agg y.cells.toArray) = some (vb (decide (x = y))) := by rw [binAgg_eql, PlaceI.same]; rfl
@[simp high] theorem PlaceI.neq (x y : PlaceI) : binAgg [0, 0] .neq (.agg x.cells.toArray) (.agg y.cells.toArray) = some (vb (decide (x ≠ y))) := by rw [binAgg_neq, PlaceI.same]; simp
abbrev PlaceI.sh : Sh := .struct [.int .i64, .int .i64]
def PlaceI.ok (x : PlaceI) : Prop := (-9223372036854775808 ≤ x.mount ∧ x.mount < 9223372036854775808) ∧ (-9223372036854775808 ≤ x.inode ∧ x.inode < 9223372036854775808)
theorem PlaceI.ofSV {H : AH} {cs : List Value} (h : SV H PlaceI.sh cs) : ∃ d : PlaceI, cs = d.cells ∧ d.ok := by
  obtain ⟨c0, e0, rfl, h0, c1, e1, rfl, h1, rfl⟩ := h
  obtain ⟨x0, rfl, g0⟩ := h0.i64
  obtain ⟨x1, rfl, g1⟩ := h1.i64
  exact ⟨⟨x0, x1⟩, rfl, ⟨g0, g1⟩⟩
theorem PlaceI.ofSlice {H : AH} {v : Value} (h : ArgSV H (.slice 2 PlaceI.sh) v) : ∃ l : List PlaceI, Rows H 2 v (l.map PlaceI.cells) ∧ l.length ≤ 9223372036854775807 ∧ ∀ x ∈ l, x.ok := ArgSV.rowsOf (fun _ h => PlaceI.ofSV h) h
/-- pinfoldref16.Mount -/
structure MntI where
  id : Int
  root : Int
  at_ : PlaceI
  held : Int
  deriving DecidableEq
def MntI.cells (x : MntI) : List Value := [vi x.id, vi x.root] ++ x.at_.cells ++ [vi x.held]
abbrev MntI.v (x : MntI) : Value := .agg x.cells.toArray
def MntI.zero : MntI := ⟨0, 0, PlaceI.zero, 0⟩
@[simp high] theorem MntI.cells_length (x : MntI) : x.cells.length = 5 := nrf rfl
@[simp high] theorem MntI.splice (a0 a1 a2 a3 a4 : Value) (x : MntI) : AM.splice [a0, a1, a2, a3, a4] 0 x.cells = x.cells := nrf rfl
@[simp high] theorem MntI.splice_cells (y x : MntI) : AM.splice y.cells 0 x.cells = x.cells := nrf rfl
@[simp high] theorem MntI.take (x : MntI) : x.cells.take 5 = x.cells := nrf rfl
@[simp high] theorem MntI.plain (x : MntI) : x.cells.all plain1 = true := nrf rfl
@[simp] theorem MntI.plain' (x : MntI) : (∀ y ∈ x.cells, plain1 y = true) = True := eq_true (List.all_eq_true.1 (MntI.plain x))
@[simp high] theorem MntI.at0 (x : MntI) : x.cells[0]? = some (vi x.id) := nrf rfl
@[simp high] theorem MntI.at1 (x : MntI) : x.cells[1]? = some (vi x.root) := nrf rfl
@[simp high] theorem MntI.at2 (x : MntI) : x.cells[2]? = some (vi x.at_.mount) := nrf rfl
@[simp high] theorem MntI.at3 (x : MntI) : x.cells[3]? = some (vi x.at_.inode) := nrf rfl
@[simp high] theorem MntI.at4 (x : MntI) : x.cells[4]? = some (vi x.held) := nrf rfl
@[simp high] theorem MntI.set0 (x : MntI) (p : Int) : x.cells.set 0 (vi p) = ({ x with id := p } : MntI).cells := nrf rfl
@[simp high] theorem MntI.set1 (x : MntI) (p : Int) : x.cells.set 1 (vi p) = ({ x with root := p } : MntI).cells := nrf rfl
@[simp high] theorem MntI.put2 (x : MntI) (p : PlaceI) : AM.splice x.cells 2 p.cells = ({ x with at_ := p } : MntI).cells := nrf rfl
@[simp high] theorem MntI.set4 (x : MntI) (p : Int) : x.cells.set 4 (vi p) = ({ x with held := p } : MntI).cells := nrf rfl
@[simp high] theorem MntI.part2 (x : MntI) : (x.cells.drop 2).take 2 = x.at_.cells := nrf rfl
theorem MntI.elem {H : AH} {v : Value} {l : List MntI} (h : Rows H 5 v (l.map MntI.cells)) {i : Nat} (hi : i < l.length) : ∃ b o, ixSlc 5 v (vi i) = some (ptr b o) ∧ (H.get b).row o 5 = some l[i].cells ∧ (H.get b).cell o = some (vi l[i].id) ∧ (H.get b).cell (o + 1) = some (vi l[i].root) ∧ (H.get b).cell (o + 2) = some (vi l[i].at_.mount) ∧ (H.get b).cell (o + 3) = some (vi l[i].at_.inode) ∧ (H.get b).cell (o + 4) = some (vi l[i].held) ∧ (H.get b).row (o + 2) 2 = some l[i].at_.cells := by
  obtain ⟨b, o, f1, f2⟩ := h.ix (i := i) (by simpa using hi)
  simp only [List.getElem_map] at f2
  exact ⟨b, o, f1, f2, by have := row_at f2 (j := 0) (by omega); simpa using this, by have := row_at f2 (j := 1) (by omega); simpa using this, by have := row_at f2 (j := 2) (by omega); simpa using this, by have := row_at f2 (j := 3) (by omega); simpa using this, by have := row_at f2 (j := 4) (by omega); simpa using this, by have := row_part f2 (j := 2) (m := 2) (by omega); simpa using this⟩
@[simp high] theorem MntI.build_0_1_2 (p0 : Int) (p1 : Int) (p2 : PlaceI)  : buildV [(0, 1), (1, 1), (2, 2), (4, 1)] [vi 0, vi 0, vi 0, vi 0, vi 0].toArray [(0, vi p0), (1, vi p1), (2, .agg (p2).cells.toArray)] = some (MntI.v ⟨p0, p1, p2, 0⟩) := by
  simp [MntI.cells, MntI.zero, AM.splice, PlaceI.cells, PlaceI.zero]
@[simp high] theorem MntI.build_1 (p1 : Int)  : buildV [(0, 1), (1, 1), (2, 2), (4, 1)] [vi 0, vi 0, vi 0, vi 0, vi 0].toArray [(1, vi p1)] = some (MntI.v ⟨0, p1, PlaceI.zero, 0⟩) := by
  simp [MntI.cells, MntI.zero, AM.splice, PlaceI.cells, PlaceI.zero]
@[simp high] theorem MntI.build (p0 : Int) (p1 : Int) (p2 : PlaceI) (p3 : Int)  : buildV [(0, 1), (1, 1), (2, 2), (4, 1)] [vi 0, vi 0, vi 0, vi 0, vi 0].toArray [(0, vi p0), (1, vi p1), (2, .agg (p2).cells.toArray), (3, vi p3)] = some (MntI.v ⟨p0, p1, p2, p3⟩) := by
  simp [MntI.cells, AM.splice, PlaceI.cells]
@[simp high] theorem MntI.build0 : buildV [(0, 1), (1, 1), (2, 2), (4, 1)] [vi 0, vi 0, vi 0, vi 0, vi 0].toArray [] = some (MntI.v MntI.zero) := by
  simp [MntI.zero, MntI.cells, PlaceI.cells, PlaceI.zero]
@[simp high] theorem MntI.build1 (x : MntI) : buildS 1 5 [vi 0, vi 0, vi 0, vi 0, vi 0].toArray [(0, .agg x.cells.toArray)] = some (.cells x.cells none, mkSlc 1 1) := buildS_one 5 [vi 0, vi 0, vi 0, vi 0, vi 0] x.cells rfl rfl
theorem MntI.buildS (xs : List MntI) : AM.buildS xs.length 5 [vi 0, vi 0, vi 0, vi 0, vi 0].toArray ((List.range' 0 xs.length).zip (xs.map MntI.v)) = some (.cells (xs.map MntI.cells).flatten none, mkSlc xs.length xs.length) := by
  have := buildS_full xs.length 5 [vi 0, vi 0, vi 0, vi 0, vi 0] ((List.range' 0 xs.length).zip (xs.map MntI.v)) (xs.map MntI.v) rfl (by simp) (by simp) (by rw [List.all_eq_true]; intro v hv; obtain ⟨x, _, rfl⟩ := List.mem_map.1 hv; rfl) (by intro v hv; obtain ⟨x, _, rfl⟩ := List.mem_map.1 hv; rfl)
  rw [this, List.flatMap_map]; rfl
theorem MntI.ext_iff (x y : MntI) : x = y ↔ x.id = y.id ∧ x.root = y.root ∧ x.at_ = y.at_ ∧ x.held = y.held := by
  cases x; cases y; simp
theorem MntI.same (x y : MntI) : sameCells [0, 0, 0, 0, 0] x.cells y.cells = some (decide (x = y)) := by
  simp only [MntI.ext_iff, PlaceI.ext_iff, Bool.decide_and, MntI.cells, PlaceI.cells, List.cons_append, List.nil_append, sameCells_cons, sameCells_nil, same_i64, same_str, same_bool, same_u8, same_u16, same_u32, same_u64, Option.bind_some, Option.map_some, Bool.and_true, Bool.and_assoc]
@[simp high] theorem MntI.eql (x y : MntI) : binAgg [0, 0, 0, 0, 0] .eql (.agg x.cells.toArray) (.agg y.cells.toArray) = some (vb (decide (x = y))) := by rw [binAgg_eql, MntI.same]; rfl
@[simp high] theorem MntI.neq (x y : MntI) : binAgg [0, 0, 0, 0, 0] .neq (.agg x.cells.toArray) (.agg y.cells.toArray) = some (vb (decide (x ≠ y))) := by rw [binAgg_neq, MntI.same]; simp
abbrev MntI.sh : Sh := .struct [.int .i64, .int .i64, PlaceI.sh, .int .i64]
def MntI.ok (x : MntI) : Prop := (-9223372036854775808 ≤ x.id ∧ x.id < 9223372036854775808) ∧ (-9223372036854775808 ≤ x.root ∧ x.root < 9223372036854775808) ∧ x.at_.ok ∧ (-9223372036854775808 ≤ x.held ∧ x.held < 9223372036854775808)
theorem MntI.ofSV {H : AH} {cs : List Value} (h : SV H MntI.sh cs) : ∃ d : MntI, cs = d.cells ∧ d.ok := by
  obtain ⟨c0, e0, rfl, h0, c1, e1, rfl, h1, c2, e2, rfl, h2, c3, e3, rfl, h3, rfl⟩ := h
  obtain ⟨x0, rfl, g0⟩ := h0.i64
  obtain ⟨x1, rfl, g1⟩ := h1.i64
  obtain ⟨x2, rfl, g2⟩ := PlaceI.ofSV h2
  obtain ⟨x3, rfl, g3⟩ := h3.i64
  exact ⟨⟨x0, x1, x2, x3⟩, rfl, ⟨g0, g1, g2, g3⟩⟩
theorem MntI.ofSlice {H : AH} {v : Value} (h : ArgSV H (.slice 5 MntI.sh) v) : ∃ l : List MntI, Rows H 5 v (l.map MntI.cells) ∧ l.length ≤ 9223372036854775807 ∧ ∀ x ∈ l, x.ok := ArgSV.rowsOf (fun _ h => MntI.ofSV h) h
/-- pinfoldref16.Entry -/
structure EntryI where
  name_ : List UInt8
  inode : Int
  deriving DecidableEq
def EntryI.cells (x : EntryI) : List Value := [str x.name_, vi x.inode]
abbrev EntryI.v (x : EntryI) : Value := .agg x.cells.toArray
def EntryI.zero : EntryI := ⟨[], 0⟩
@[simp high] theorem EntryI.cells_length (x : EntryI) : x.cells.length = 2 := nrf rfl
@[simp high] theorem EntryI.splice (a0 a1 : Value) (x : EntryI) : AM.splice [a0, a1] 0 x.cells = x.cells := nrf rfl
@[simp high] theorem EntryI.splice_cells (y x : EntryI) : AM.splice y.cells 0 x.cells = x.cells := nrf rfl
@[simp high] theorem EntryI.take (x : EntryI) : x.cells.take 2 = x.cells := nrf rfl
@[simp high] theorem EntryI.plain (x : EntryI) : x.cells.all plain1 = true := nrf rfl
@[simp] theorem EntryI.plain' (x : EntryI) : (∀ y ∈ x.cells, plain1 y = true) = True := eq_true (List.all_eq_true.1 (EntryI.plain x))
@[simp high] theorem EntryI.at0 (x : EntryI) : x.cells[0]? = some (str x.name_) := nrf rfl
@[simp high] theorem EntryI.at1 (x : EntryI) : x.cells[1]? = some (vi x.inode) := nrf rfl
@[simp high] theorem EntryI.set0 (x : EntryI) (p : List UInt8) : x.cells.set 0 (str p) = ({ x with name_ := p } : EntryI).cells := nrf rfl
@[simp high] theorem EntryI.set1 (x : EntryI) (p : Int) : x.cells.set 1 (vi p) = ({ x with inode := p } : EntryI).cells := nrf rfl
theorem EntryI.elem {H : AH} {v : Value} {l : List EntryI} (h : Rows H 2 v (l.map EntryI.cells)) {i : Nat} (hi : i < l.length) : ∃ b o, ixSlc 2 v (vi i) = some (ptr b o) ∧ (H.get b).row o 2 = some l[i].cells ∧ (H.get b).cell o = some (str l[i].name_) ∧ (H.get b).cell (o + 1) = some (vi l[i].inode) := by
  obtain ⟨b, o, f1, f2⟩ := h.ix (i := i) (by simpa using hi)
  simp only [List.getElem_map] at f2
  exact ⟨b, o, f1, f2, by have := row_at f2 (j := 0) (by omega); simpa using this, by have := row_at f2 (j := 1) (by omega); simpa using this⟩
@[simp high] theorem EntryI.build (p0 : List UInt8) (p1 : Int)  : buildV [(0, 1), (1, 1)] [str [], vi 0].toArray [(0, str p0), (1, vi p1)] = some (EntryI.v ⟨p0, p1⟩) := by
  simp [EntryI.cells, AM.splice]
@[simp high] theorem EntryI.build0 : buildV [(0, 1), (1, 1)] [str [], vi 0].toArray [] = some (EntryI.v EntryI.zero) := by
  simp [EntryI.zero, EntryI.cells]
@[simp high] theorem EntryI.build1 (x : EntryI) : buildS 1 2 [str [], vi 0].toArray [(0, .agg x.cells.toArray)] = some (.cells x.cells none, mkSlc 1 1) := buildS_one 2 [str [], vi 0] x.cells rfl rfl
theorem EntryI.buildS (xs : List EntryI) : AM.buildS xs.length 2 [str [], vi 0].toArray ((List.range' 0 xs.length).zip (xs.map EntryI.v)) = some (.cells (xs.map EntryI.cells).flatten none, mkSlc xs.length xs.length) := by
  have := buildS_full xs.length 2 [str [], vi 0] ((List.range' 0 xs.length).zip (xs.map EntryI.v)) (xs.map EntryI.v) rfl (by simp) (by simp) (by rw [List.all_eq_true]; intro v hv; obtain ⟨x, _, rfl⟩ := List.mem_map.1 hv; rfl) (by intro v hv; obtain ⟨x, _, rfl⟩ := List.mem_map.1 hv; rfl)
  rw [this, List.flatMap_map]; rfl
theorem EntryI.ext_iff (x y : EntryI) : x = y ↔ x.name_ = y.name_ ∧ x.inode = y.inode := by
  cases x; cases y; simp
theorem EntryI.same (x y : EntryI) : sameCells [1, 0] x.cells y.cells = some (decide (x = y)) := by
  simp only [EntryI.ext_iff, Bool.decide_and, EntryI.cells, List.cons_append, List.nil_append, sameCells_cons, sameCells_nil, same_i64, same_str, same_bool, same_u8, same_u16, same_u32, same_u64, Option.bind_some, Option.map_some, Bool.and_true, Bool.and_assoc]
@[simp high] theorem EntryI.eql (x y : EntryI) : binAgg [1, 0] .eql (.agg x.cells.toArray) (.agg y.cells.toArray) = some (vb (decide (x = y))) := by rw [binAgg_eql, EntryI.same]; rfl
@[simp high] theorem EntryI.neq (x y : EntryI) : binAgg [1, 0] .neq (.agg x.cells.toArray) (.agg y.cells.toArray) = some (vb (decide (x ≠ y))) := by rw [binAgg_neq, EntryI.same]; simp
abbrev EntryI.sh : Sh := .struct [.str, .int .i64]
def EntryI.ok (x : EntryI) : Prop := x.name_.length ≤ 9223372036854775807 ∧ (-9223372036854775808 ≤ x.inode ∧ x.inode < 9223372036854775808)
theorem EntryI.ofSV {H : AH} {cs : List Value} (h : SV H EntryI.sh cs) : ∃ d : EntryI, cs = d.cells ∧ d.ok := by
  obtain ⟨c0, e0, rfl, h0, c1, e1, rfl, h1, rfl⟩ := h
  obtain ⟨x0, rfl, g0⟩ := h0
  obtain ⟨x1, rfl, g1⟩ := h1.i64
  exact ⟨⟨x0, x1⟩, rfl, ⟨g0, g1⟩⟩
theorem EntryI.ofSlice {H : AH} {v : Value} (h : ArgSV H (.slice 2 EntryI.sh) v) : ∃ l : List EntryI, Rows H 2 v (l.map EntryI.cells) ∧ l.length ≤ 9223372036854775807 ∧ ∀ x ∈ l, x.ok := ArgSV.rowsOf (fun _ h => EntryI.ofSV h) h
/-- pinfoldref16.Node -/
structure NodeI where
  kind : Int
  data_ : Value
  l : Value
  parent : Int
  text : List UInt8
  links : Int
  held : Int
def NodeI.cells (x : NodeI) : List Value := [vi x.kind, x.data_, x.l, vi x.parent, str x.text, vi x.links, vi x.held]
abbrev NodeI.v (x : NodeI) : Value := .agg x.cells.toArray
def NodeI.zero : NodeI := ⟨0, nilS, nilS, 0, [], 0, 0⟩
@[simp high] theorem NodeI.cells_length (x : NodeI) : x.cells.length = 7 := nrf rfl
@[simp high] theorem NodeI.splice (a0 a1 a2 a3 a4 a5 a6 : Value) (x : NodeI) : AM.splice [a0, a1, a2, a3, a4, a5, a6] 0 x.cells = x.cells := nrf rfl
@[simp high] theorem NodeI.splice_cells (y x : NodeI) : AM.splice y.cells 0 x.cells = x.cells := nrf rfl
@[simp high] theorem NodeI.take (x : NodeI) : x.cells.take 7 = x.cells := nrf rfl
theorem NodeI.plain (x : NodeI) (hdata_ : plain1 x.data_ = true) (hl : plain1 x.l = true) : x.cells.all plain1 = true := by
  simp only [NodeI.cells, List.all_append, List.all_cons, List.all_nil, hdata_, hl]; rfl
@[simp high] theorem NodeI.at0 (x : NodeI) : x.cells[0]? = some (vi x.kind) := nrf rfl
@[simp high] theorem NodeI.at1 (x : NodeI) : x.cells[1]? = some (x.data_) := nrf rfl
@[simp high] theorem NodeI.at2 (x : NodeI) : x.cells[2]? = some (x.l) := nrf rfl
@[simp high] theorem NodeI.at3 (x : NodeI) : x.cells[3]? = some (vi x.parent) := nrf rfl
@[simp high] theorem NodeI.at4 (x : NodeI) : x.cells[4]? = some (str x.text) := nrf rfl
@[simp high] theorem NodeI.at5 (x : NodeI) : x.cells[5]? = some (vi x.links) := nrf rfl
@[simp high] theorem NodeI.at6 (x : NodeI) : x.cells[6]? = some (vi x.held) := nrf rfl
@[simp high] theorem NodeI.set0 (x : NodeI) (p : Int) : x.cells.set 0 (vi p) = ({ x with kind := p } : NodeI).cells := nrf rfl
@[simp high] theorem NodeI.set1 (x : NodeI) (p : Value) : x.cells.set 1 (p) = ({ x with data_ := p } : NodeI).cells := nrf rfl
@[simp high] theorem NodeI.set2 (x : NodeI) (p : Value) : x.cells.set 2 (p) = ({ x with l := p } : NodeI).cells := nrf rfl
@[simp high] theorem NodeI.set3 (x : NodeI) (p : Int) : x.cells.set 3 (vi p) = ({ x with parent := p } : NodeI).cells := nrf rfl
@[simp high] theorem NodeI.set4 (x : NodeI) (p : List UInt8) : x.cells.set 4 (str p) = ({ x with text := p } : NodeI).cells := nrf rfl
@[simp high] theorem NodeI.set5 (x : NodeI) (p : Int) : x.cells.set 5 (vi p) = ({ x with links := p } : NodeI).cells := nrf rfl
@[simp high] theorem NodeI.set6 (x : NodeI) (p : Int) : x.cells.set 6 (vi p) = ({ x with held := p } : NodeI).cells := nrf rfl
theorem NodeI.elem {H : AH} {v : Value} {l : List NodeI} (h : Rows H 7 v (l.map NodeI.cells)) {i : Nat} (hi : i < l.length) : ∃ b o, ixSlc 7 v (vi i) = some (ptr b o) ∧ (H.get b).row o 7 = some l[i].cells ∧ (H.get b).cell o = some (vi l[i].kind) ∧ (H.get b).cell (o + 1) = some (l[i].data_) ∧ (H.get b).cell (o + 2) = some (l[i].l) ∧ (H.get b).cell (o + 3) = some (vi l[i].parent) ∧ (H.get b).cell (o + 4) = some (str l[i].text) ∧ (H.get b).cell (o + 5) = some (vi l[i].links) ∧ (H.get b).cell (o + 6) = some (vi l[i].held) := by
  obtain ⟨b, o, f1, f2⟩ := h.ix (i := i) (by simpa using hi)
  simp only [List.getElem_map] at f2
  exact ⟨b, o, f1, f2, by have := row_at f2 (j := 0) (by omega); simpa using this, by have := row_at f2 (j := 1) (by omega); simpa using this, by have := row_at f2 (j := 2) (by omega); simpa using this, by have := row_at f2 (j := 3) (by omega); simpa using this, by have := row_at f2 (j := 4) (by omega); simpa using this, by have := row_at f2 (j := 5) (by omega); simpa using this, by have := row_at f2 (j := 6) (by omega); simpa using this⟩
@[simp high] theorem NodeI.build_0_3_5 (p0 : Int) (p3 : Int) (p5 : Int)  : buildV [(0, 1), (1, 1), (2, 1), (3, 1), (4, 1), (5, 1), (6, 1)] [vi 0, nilS, nilS, vi 0, str [], vi 0, vi 0].toArray [(0, vi p0), (3, vi p3), (5, vi p5)] = some (NodeI.v ⟨p0, nilS, nilS, p3, [], p5, 0⟩) := by
  simp [NodeI.cells, NodeI.zero, AM.splice]
@[simp high] theorem NodeI.build (p0 : Int) (p1 : Value) (p2 : Value) (p3 : Int) (p4 : List UInt8) (p5 : Int) (p6 : Int) (h1 : plain1 p1 = true) (h2 : plain1 p2 = true) : buildV [(0, 1), (1, 1), (2, 1), (3, 1), (4, 1), (5, 1), (6, 1)] [vi 0, nilS, nilS, vi 0, str [], vi 0, vi 0].toArray [(0, vi p0), (1, p1), (2, p2), (3, vi p3), (4, str p4), (5, vi p5), (6, vi p6)] = some (NodeI.v ⟨p0, p1, p2, p3, p4, p5, p6⟩) := by
  simp [NodeI.cells, AM.splice, plain_defd h1, plain_vcells h1, plain_defd h2, plain_vcells h2]
@[simp high] theorem NodeI.build0 : buildV [(0, 1), (1, 1), (2, 1), (3, 1), (4, 1), (5, 1), (6, 1)] [vi 0, nilS, nilS, vi 0, str [], vi 0, vi 0].toArray [] = some (NodeI.v NodeI.zero) := by
  simp [NodeI.zero, NodeI.cells]
@[simp high] theorem NodeI.build1 (x : NodeI) : buildS 1 7 [vi 0, nilS, nilS, vi 0, str [], vi 0, vi 0].toArray [(0, .agg x.cells.toArray)] = some (.cells x.cells none, mkSlc 1 1) := buildS_one 7 [vi 0, nilS, nilS, vi 0, str [], vi 0, vi 0] x.cells rfl rfl
theorem NodeI.buildS (xs : List NodeI) : AM.buildS xs.length 7 [vi 0, nilS, nilS, vi 0, str [], vi 0, vi 0].toArray ((List.range' 0 xs.length).zip (xs.map NodeI.v)) = some (.cells (xs.map NodeI.cells).flatten none, mkSlc xs.length xs.length) := by
  have := buildS_full xs.length 7 [vi 0, nilS, nilS, vi 0, str [], vi 0, vi 0] ((List.range' 0 xs.length).zip (xs.map NodeI.v)) (xs.map NodeI.v) rfl (by simp) (by simp) (by rw [List.all_eq_true]; intro v hv; obtain ⟨x, _, rfl⟩ := List.mem_map.1 hv; rfl) (by intro v hv; obtain ⟨x, _, rfl⟩ := List.mem_map.1 hv; rfl)
  rw [this, List.flatMap_map]; rfl
/-- pinfoldref16.Tree -/
structure TreeI where
  n : Value
  limit : Int
  m : Value
  next : Int
  change : Int
def TreeI.cells (x : TreeI) : List Value := [x.n, vi x.limit, x.m, vi x.next, vi x.change]
abbrev TreeI.v (x : TreeI) : Value := .agg x.cells.toArray
def TreeI.zero : TreeI := ⟨nilS, 0, nilS, 0, 0⟩
@[simp high] theorem TreeI.cells_length (x : TreeI) : x.cells.length = 5 := nrf rfl
@[simp high] theorem TreeI.splice (a0 a1 a2 a3 a4 : Value) (x : TreeI) : AM.splice [a0, a1, a2, a3, a4] 0 x.cells = x.cells := nrf rfl
@[simp high] theorem TreeI.splice_cells (y x : TreeI) : AM.splice y.cells 0 x.cells = x.cells := nrf rfl
@[simp high] theorem TreeI.take (x : TreeI) : x.cells.take 5 = x.cells := nrf rfl
theorem TreeI.plain (x : TreeI) (hn : plain1 x.n = true) (hm : plain1 x.m = true) : x.cells.all plain1 = true := by
  simp only [TreeI.cells, List.all_append, List.all_cons, List.all_nil, hn, hm]; rfl
@[simp high] theorem TreeI.at0 (x : TreeI) : x.cells[0]? = some (x.n) := nrf rfl
@[simp high] theorem TreeI.at1 (x : TreeI) : x.cells[1]? = some (vi x.limit) := nrf rfl
@[simp high] theorem TreeI.at2 (x : TreeI) : x.cells[2]? = some (x.m) := nrf rfl
@[simp high] theorem TreeI.at3 (x : TreeI) : x.cells[3]? = some (vi x.next) := nrf rfl
@[simp high] theorem TreeI.at4 (x : TreeI) : x.cells[4]? = some (vi x.change) := nrf rfl
@[simp high] theorem TreeI.set0 (x : TreeI) (p : Value) : x.cells.set 0 (p) = ({ x with n := p } : TreeI).cells := nrf rfl
@[simp high] theorem TreeI.set1 (x : TreeI) (p : Int) : x.cells.set 1 (vi p) = ({ x with limit := p } : TreeI).cells := nrf rfl
@[simp high] theorem TreeI.set2 (x : TreeI) (p : Value) : x.cells.set 2 (p) = ({ x with m := p } : TreeI).cells := nrf rfl
@[simp high] theorem TreeI.set3 (x : TreeI) (p : Int) : x.cells.set 3 (vi p) = ({ x with next := p } : TreeI).cells := nrf rfl
@[simp high] theorem TreeI.set4 (x : TreeI) (p : Int) : x.cells.set 4 (vi p) = ({ x with change := p } : TreeI).cells := nrf rfl
theorem TreeI.elem {H : AH} {v : Value} {l : List TreeI} (h : Rows H 5 v (l.map TreeI.cells)) {i : Nat} (hi : i < l.length) : ∃ b o, ixSlc 5 v (vi i) = some (ptr b o) ∧ (H.get b).row o 5 = some l[i].cells ∧ (H.get b).cell o = some (l[i].n) ∧ (H.get b).cell (o + 1) = some (vi l[i].limit) ∧ (H.get b).cell (o + 2) = some (l[i].m) ∧ (H.get b).cell (o + 3) = some (vi l[i].next) ∧ (H.get b).cell (o + 4) = some (vi l[i].change) := by
  obtain ⟨b, o, f1, f2⟩ := h.ix (i := i) (by simpa using hi)
  simp only [List.getElem_map] at f2
  exact ⟨b, o, f1, f2, by have := row_at f2 (j := 0) (by omega); simpa using this, by have := row_at f2 (j := 1) (by omega); simpa using this, by have := row_at f2 (j := 2) (by omega); simpa using this, by have := row_at f2 (j := 3) (by omega); simpa using this, by have := row_at f2 (j := 4) (by omega); simpa using this⟩
@[simp high] theorem TreeI.build_0_1_2_3 (p0 : Value) (p1 : Int) (p2 : Value) (p3 : Int) (h0 : plain1 p0 = true) (h2 : plain1 p2 = true) : buildV [(0, 1), (1, 1), (2, 1), (3, 1), (4, 1)] [nilS, vi 0, nilS, vi 0, vi 0].toArray [(0, p0), (1, vi p1), (2, p2), (3, vi p3)] = some (TreeI.v ⟨p0, p1, p2, p3, 0⟩) := by
  simp [TreeI.cells, TreeI.zero, AM.splice, plain_defd h0, plain_vcells h0, plain_defd h2, plain_vcells h2]
@[simp high] theorem TreeI.build (p0 : Value) (p1 : Int) (p2 : Value) (p3 : Int) (p4 : Int) (h0 : plain1 p0 = true) (h2 : plain1 p2 = true) : buildV [(0, 1), (1, 1), (2, 1), (3, 1), (4, 1)] [nilS, vi 0, nilS, vi 0, vi 0].toArray [(0, p0), (1, vi p1), (2, p2), (3, vi p3), (4, vi p4)] = some (TreeI.v ⟨p0, p1, p2, p3, p4⟩) := by
  simp [TreeI.cells, AM.splice, plain_defd h0, plain_vcells h0, plain_defd h2, plain_vcells h2]
@[simp high] theorem TreeI.build0 : buildV [(0, 1), (1, 1), (2, 1), (3, 1), (4, 1)] [nilS, vi 0, nilS, vi 0, vi 0].toArray [] = some (TreeI.v TreeI.zero) := by
  simp [TreeI.zero, TreeI.cells]
@[simp high] theorem TreeI.build1 (x : TreeI) : buildS 1 5 [nilS, vi 0, nilS, vi 0, vi 0].toArray [(0, .agg x.cells.toArray)] = some (.cells x.cells none, mkSlc 1 1) := buildS_one 5 [nilS, vi 0, nilS, vi 0, vi 0] x.cells rfl rfl
theorem TreeI.buildS (xs : List TreeI) : AM.buildS xs.length 5 [nilS, vi 0, nilS, vi 0, vi 0].toArray ((List.range' 0 xs.length).zip (xs.map TreeI.v)) = some (.cells (xs.map TreeI.cells).flatten none, mkSlc xs.length xs.length) := by
  have := buildS_full xs.length 5 [nilS, vi 0, nilS, vi 0, vi 0] ((List.range' 0 xs.length).zip (xs.map TreeI.v)) (xs.map TreeI.v) rfl (by simp) (by simp) (by rw [List.all_eq_true]; intro v hv; obtain ⟨x, _, rfl⟩ := List.mem_map.1 hv; rfl) (by intro v hv; obtain ⟨x, _, rfl⟩ := List.mem_map.1 hv; rfl)
  rw [this, List.flatMap_map]; rfl
end Go.AM
end
section
namespace Go.AM
variable {E : Sy} {H : AH} {Q : Value → AH → Prop}
/-- The document's tree, as its mounts can be read. -/
def RefAt (H : AH) (p : Nat) (t : TreeI) (M : List MntI) : Prop := H.get p = .cells t.cells none ∧ M.length < 2 ^ 62 ∧ Rows H 5 t.m (M.map MntI.cells)
theorem RefAt.mono {H H' : AH} {p : Nat} {t : TreeI} {M : List MntI} (h : RefAt H p t M) (e : Ext H H') : RefAt H' p t M := ⟨e.cells h.1, h.2.1, h.2.2.mono e⟩
theorem RefAt.len {H : AH} {p : Nat} {t : TreeI} {M : List MntI} (h : RefAt H p t M) : lenSlc t.m = some (vi M.length) := by
  have := h.2.2.lenSlc
  simpa using this
theorem S.pinfoldref16_Tree_find (hE : Fold E) (p : Nat) (t : TreeI) (M : List MntI) (hT : RefAt H p t M) (id : Int) (hQ : Q (vi (ixOf (fun m : MntI => decide (m.id = id)) M)) H) : E.call (E.fid i.pinfoldref16_Tree_find) [ptr p 0, vi id] H Q := by
  apply hE.pinfoldref16_Tree_find
  have hl := hT.len
  have h0 := hT.2.1
  simp [F.pinfoldref16_Tree_find]
  refine LoopL.count M.length (fun j s H' => s = [ptr p 0, vi id, vi j] ∧ H' = H ∧ ∀ i (hi : i < M.length), i < j → ¬ M[i].id = id) ?_ ⟨rfl, rfl, fun i _ h => by omega⟩
  rintro j _ _ X hj hX ⟨rfl, rfl, hn⟩
  simp only [F.pinfoldref16_Tree_find_l1, nth_0, nth_s]
  simp [hT.1, hl]
  refine ifB_split (fun h => ?_) (fun h => ?_)
  · have hjl : j < M.length := by omega
    obtain ⟨b, o, f1, f2, f3, _⟩ := MntI.elem hT.2.2 hjl
    simp [hT.1, f1, f3]
    refine ifB_split (fun h => ?_) (fun h => ?_)
    · have : ixOf (fun m : MntI => decide (m.id = id)) M = (j : Int) := by
        have : M.findIdx? (fun m : MntI => decide (m.id = id)) = some j := List.findIdx?_eq_some_iff_getElem.2 ⟨hjl, by simpa using h, fun i hi => by simpa using hn i (by omega) hi⟩
        simp [ixOf, this]
      rw [← this]
      exact hQ
    · rw [i64_inc (by omega), opt_some]
      refine hX hjl _ _ ⟨rfl, rfl, fun i hi hij => ?_⟩
      by_cases e : i = j
      · subst e; exact h
      · exact hn i hi (by omega)
  · have : j = M.length := by omega
    subst this
    have : ixOf (fun m : MntI => decide (m.id = id)) M = -1 := by
      have : M.findIdx? (fun m : MntI => decide (m.id = id)) = none := by
        rw [List.findIdx?_eq_none_iff]
        intro x hx
        obtain ⟨i, hi, rfl⟩ := List.getElem_of_mem hx
        simpa using hn i hi hi
      simp [ixOf, this]
    rw [← this]
    exact hQ
/-- The last mount that stands at a place. -/
def standsI (p : PlaceI) (m : MntI) : Bool := decide (m.id ≠ 0) && decide (m.at_ = p)
def lastIx {α : Type} (P : α → Bool) (l : List α) : Int := match (List.range l.length).reverse.find? (fun i => (l[i]?).any P) with | some i => (i : Int) | none => -1
theorem lastIx_snoc {α : Type} (P : α → Bool) (l : List α) (x : α) : lastIx P (l ++ [x]) = if P x then (l.length : Int) else lastIx P l := by
  unfold lastIx
  rw [List.length_append, List.length_singleton, List.range_succ, List.reverse_append, List.reverse_singleton, List.singleton_append, List.find?_cons]
  have h0 : ((l ++ [x])[l.length]?).any P = P x := by simp
  rw [h0]
  cases P x with
  | true => simp
  | false =>
    simp only [Bool.false_eq_true, if_false]
    have : ∀ (L : List Nat), (∀ i ∈ L, i < l.length) → L.find? (fun i => ((l ++ [x])[i]?).any P) = L.find? (fun i => (l[i]?).any P) := by
      intro L hL
      induction L with
      | nil => rfl
      | cons a L ih =>
        have ha := hL a (by simp)
        rw [List.find?_cons, List.find?_cons, List.getElem?_append_left ha, ih fun i hi => hL i (by simp [hi])]
    rw [this _ (fun i hi => by simpa using hi)]
theorem lastIx_nil {α : Type} (P : α → Bool) : lastIx P ([] : List α) = -1 := rfl
theorem lastIx_cases {α : Type} (P : α → Bool) (l : List α) : (lastIx P l = -1 ∧ ∀ x ∈ l, P x = false) ∨ ∃ (i : Nat) (hi : i < l.length), lastIx P l = i ∧ P l[i] = true := by
  unfold lastIx
  cases h : (List.range l.length).reverse.find? (fun i => (l[i]?).any P) with
  | none =>
    refine .inl ⟨rfl, fun x hx => ?_⟩
    obtain ⟨i, hi, rfl⟩ := List.getElem_of_mem hx
    have := List.find?_eq_none.1 h i (by simpa using hi)
    simpa [hi] using this
  | some i =>
    have h1 := List.find?_some h
    have h2 := List.mem_of_find?_eq_some h
    have hi : i < l.length := by simpa using h2
    exact .inr ⟨i, hi, rfl, by simpa [hi] using h1⟩
def seenI (M : List MntI) : Nat → PlaceI → PlaceI
  | 0, p => p
  | n + 1, p => if h : 0 ≤ lastIx (standsI p) M ∧ (lastIx (standsI p) M).toNat < M.length then seenI M n ⟨(M[(lastIx (standsI p) M).toNat]'h.2).id, (M[(lastIx (standsI p) M).toNat]'h.2).root⟩ else p
theorem S.pinfoldref16_Tree_Seen (hE : Fold E) (p : Nat) (t : TreeI) (M : List MntI) (hT : RefAt H p t M) (q : PlaceI) (hQ : ∀ H', Ext H H' → Q (seenI M 20 q).v H') : E.call (E.fid i.pinfoldref16_Tree_Seen) [ptr p 0, q.v] H Q := by
  apply hE.pinfoldref16_Tree_Seen
  have hl := hT.len
  have h0 := hT.2.1
  simp [F.pinfoldref16_Tree_Seen]
  generalize hH2 : (H.new _).new _ = H2
  have x2 : Ext H H2 := by subst hH2; exact ((Ext.refl H).new _).new _
  have k1 : H2.get H.next = .cells q.cells none := by subst hH2; simp [AH.get_new]
  have k2 : H2.get (H.next + 1) = .cells [vi 0, vi 0] none := by subst hH2; simp [AH.get_new]
  clear hH2
  refine LoopL.count 20 (fun k s H' => ∃ r, s = [ptr p 0, ptr H.next 0, ptr (H.next + 1) 0, vi k] ∧ Ext H H' ∧ seenI M (20 - k) r = seenI M 20 q ∧ H'.get H.next = .cells r.cells none ∧ H'.get (H.next + 1) = .cells [vi 0, vi 0] none) ?_ ⟨q, rfl, x2, rfl, k1, k2⟩
  rintro k _ H' X hk hX ⟨r, rfl, e1, hs, m1, m2⟩
  have hT1 := hT.mono e1
  have l1 := AH.lt_cells m1
  have l2 := AH.lt_cells m2
  have leave : seenI M 20 q = r → Q (seenI M 20 q).v (H'.put (H.next + 1) (.cells r.cells none)) := by
    intro h
    exact hQ _ (e1.put (b := H.next + 1) (by omega) _)
  simp only [F.pinfoldref16_Tree_Seen_l1, nth_0, nth_s]
  simp
  by_cases hk20 : (k : Int) < 20
  · simp [hk20]
    refine LoopL.count M.length (fun j s H'' => s = [ptr p 0, ptr H.next 0, ptr (H.next + 1) 0, vi k, vi (lastIx (standsI r) (M.take j)), vi j] ∧ H'' = H') ?_ ⟨rfl, rfl⟩
    rintro j _ _ X1 hj hX1 ⟨rfl, rfl⟩
    simp only [F.pinfoldref16_Tree_Seen_l2, nth_0, nth_s]
    simp [hT1.1, hl]
    refine ifB_split (fun h => ?_) (fun h => ?_)
    · have hjl : j < M.length := by omega
      obtain ⟨b, o, f1, f2, f3, f4, f5, f6, f7, f8⟩ := MntI.elem hT1.2.2 hjl
      have htk : M.take (j + 1) = M.take j ++ [M[j]] := by rw [List.take_succ, List.getElem?_eq_getElem hjl]; rfl
      have hln : (M.take j).length = j := by rw [List.length_take]; omega
      by_cases hid : M[j].id = 0
      · simp [hT1.1, f1, f3, hid]
        rw [i64_inc (by omega), opt_some]
        refine hX1 hjl _ _ ⟨?_, rfl⟩
        rw [htk, lastIx_snoc]
        simp [standsI, hid]
      · by_cases hat : M[j].at_ = r
        · simp [hT1.1, f1, f3, hid, m1, f8, hat]
          rw [i64_inc (by omega), opt_some]
          refine hX1 hjl _ _ ⟨?_, rfl⟩
          rw [htk, lastIx_snoc, hln]
          simp [standsI, hid, hat]
        · simp [hT1.1, f1, f3, hid, m1, f8, hat]
          rw [i64_inc (by omega), opt_some]
          refine hX1 hjl _ _ ⟨?_, rfl⟩
          rw [htk, lastIx_snoc]
          simp [standsI, hid, hat]
    · have : j = M.length := by omega
      subst this
      rw [List.take_length]
      have hstep : seenI M (20 - k) r = if h : 0 ≤ lastIx (standsI r) M ∧ (lastIx (standsI r) M).toNat < M.length then seenI M (20 - (k + 1)) ⟨(M[(lastIx (standsI r) M).toNat]'h.2).id, (M[(lastIx (standsI r) M).toNat]'h.2).root⟩ else r := by
        rw [show 20 - k = (20 - (k + 1)) + 1 by omega]
        rfl
      rcases lastIx_cases (standsI r) M with ⟨h1, _⟩ | ⟨i, hi, h1, _⟩
      · rw [h1] at hstep
        simp at hstep
        simp [h1, m1, m2]
        have := leave (by rw [← hs, hstep])
        rw [← hs, hstep] at this
        simpa [l2] using this
      · rw [h1] at hstep
        simp [hi] at hstep
        have hneg : ¬ ((i : Int) < 0) := by omega
        obtain ⟨b, o, f1, f2, f3, f4, f5, f6, f7, f8⟩ := MntI.elem hT1.2.2 hi
        simp [hT1.1, h1, hneg, f1, f3, f4, m1]
        rw [i64_inc (by omega), opt_some]
        refine hX (by omega) _ _ ⟨⟨M[i].id, M[i].root⟩, rfl, e1.put (b := H.next) (by omega) _, by rw [← hs, hstep, show 20 - (k + 1) = 19 - k by omega], ?_, ?_⟩
        · simp [l1]
        · rw [AH.get_put_ne _ _ (by omega)]; exact m2
  · have : k = 20 := by omega
    subst this
    simp at hs
    simp [m1, m2]
    have := leave (by rw [← hs]; rfl)
    rw [← hs] at this
    simpa [l2, seenI] using this
end Go.AM
end
section
namespace Go.AM
variable {E : Sy} {H : AH} {Q : Value → AH → Prop}
def usesI (n : Int) (m : MntI) : Bool := decide (m.root = n) || (decide (m.id ≠ 0) && decide (m.at_.inode = n))
theorem any_take_succ {α : Type} {P : α → Bool} {l : List α} {j : Nat} (hj : j < l.length) (h : (l.take j).any P = false) : (l.take (j + 1)).any P = P l[j] := by
  rw [List.take_add_one, List.getElem?_eq_getElem hj, List.any_append, h]
  simp
theorem S.pinfoldref16_Tree_Used (hE : Fold E) (p : Nat) (t : TreeI) (M : List MntI) (hT : RefAt H p t M) (n : Int) (hQ : Q (vb (M.any (usesI n))) H) : E.call (E.fid i.pinfoldref16_Tree_Used) [ptr p 0, vi n] H Q := by
  apply hE.pinfoldref16_Tree_Used
  have hl := hT.len
  have h0 := hT.2.1
  simp only [F.pinfoldref16_Tree_Used]
  refine LoopL.count M.length (fun j s H' => s = [ptr p 0, vi n, vi j] ∧ H' = H ∧ (M.take j).any (usesI n) = false) ?_ ⟨rfl, rfl, rfl⟩
  rintro j _ H1 X hj hX ⟨rfl, rfl, hn⟩
  simp only [F.pinfoldref16_Tree_Used_l1, nth_0, nth_s]
  simp [hT.1, hl]
  refine ifB_split (fun h => ?_) (fun h => ?_)
  · have hjl : j < M.length := by omega
    obtain ⟨b, o, f1, f2, f3, f4, f5, f6, f7, f8⟩ := MntI.elem hT.2.2 hjl
    have htk := any_take_succ hjl hn
    have no : usesI n M[j] = false → X [ptr p 0, vi n, vi ((j + 1 : Nat) : Int)] H1 := fun h => hX hjl _ _ ⟨rfl, rfl, by rw [htk]; exact h⟩
    have yes : usesI n M[j] = true → Q (vb true) H1 := by
      intro h
      have : M.any (usesI n) = true := List.any_eq_true.2 ⟨_, List.getElem_mem hjl, h⟩
      rw [← this]; exact hQ
    by_cases hr : M[j].root = n
    · simp [hT.1, f1, f4, hr]
      exact yes (by simp [usesI, hr])
    · by_cases hi : M[j].id = 0
      · simp [hT.1, f1, f3, f4, hr, hi]
        rw [i64_inc (by omega), opt_some]
        exact no (by simp [usesI, hr, hi])
      · by_cases ha : M[j].at_.inode = n
        · simp [hT.1, f1, f3, f4, f6, hr, hi, ha]
          exact yes (by simp [usesI, hi, ha])
        · simp [hT.1, f1, f3, f4, f6, hr, hi, ha]
          rw [i64_inc (by omega), opt_some]
          exact no (by simp [usesI, hr, hi, ha])
  · have : j = M.length := by omega
    subst this
    rw [List.take_length] at hn
    rw [← hn]; exact hQ
def getI (M : List MntI) (id : Int) : Option MntI := M.find? fun m => decide (m.id = id)
def downI (M : List MntI) (p : PlaceI) : Option PlaceI := match getI M p.mount with
  | none => none
  | some m => if p.mount = 0 ∨ m.root ≠ p.inode then none else some m.at_
theorem S.pinfoldref16_Tree_Down (hE : Fold E) (p : Nat) (t : TreeI) (M : List MntI) (hT : RefAt H p t M) (q : PlaceI) (hQ : ∀ H', Ext H H' → Q (.tuple #[((downI M q).getD PlaceI.zero).v, vb (downI M q).isSome]) H') : E.call (E.fid i.pinfoldref16_Tree_Down) [ptr p 0, q.v] H Q := by
  apply hE.pinfoldref16_Tree_Down
  simp [F.pinfoldref16_Tree_Down]
  generalize hH2 : (H.new _).new _ = H2
  have x2 : Ext H H2 := by subst hH2; exact ((Ext.refl H).new _).new _
  have k1 : H2.get H.next = .cells q.cells none := by subst hH2; simp [AH.get_new]
  have k2 : H2.get (H.next + 1) = .cells [vi 0, vi 0] none := by subst hH2; simp [AH.get_new]
  clear hH2
  have l2 := AH.lt_cells k2
  have hT2 := hT.mono x2
  simp [k1]
  refine S.pinfoldref16_Tree_find hE p t M hT2 q.mount ?_
  have fin : downI M q = none → Q (.tuple #[PlaceI.zero.v, vb false]) (H2.put (H.next + 1) (.cells PlaceI.zero.cells none)) := by
    intro h
    rw [h] at hQ
    exact hQ _ (x2.put (b := H.next + 1) (by omega) _)
  rcases ixOf_cases (fun m : MntI => decide (m.id = q.mount)) M with ⟨h1, h2⟩ | ⟨j, hj, h1, h2, h4, _⟩
  · have h1 : getI M q.mount = none := h1
    simp [h2, k2]
    simpa [l2] using fin (by simp [downI, h1])
  · have h2 : getI M q.mount = some M[j] := h2
    have hneg : ¬ ((j : Int) < 0) := by omega
    obtain ⟨b, o, f1, f2, f3, f4, f5, f6, f7, f8⟩ := MntI.elem hT2.2.2 hj
    rw [h1]
    by_cases hm : q.mount = 0
    · simp [hneg, k1, k2, hm]
      simpa [l2] using fin (by simp only [downI, hm, true_or, if_true]; split <;> rfl)
    · by_cases hr : M[j].root = q.inode
      · simp [hneg, k1, k2, hm, hT2.1, f1, f4, f8, hr]
        have hd : downI M q = some M[j].at_ := by simp [downI, h2, hm, hr]
        rw [hd] at hQ
        simpa [l2] using hQ _ (x2.put (b := H.next + 1) (by omega) _)
      · simp [hneg, k1, k2, hm, hT2.1, f1, f4, f8, hr]
        simpa [l2] using fin (by simp [downI, h2, hr])
/-! ### what changes it -/
def refR (p : Nat) (t : TreeI) (N : List NodeI) (M : List MntI) : Res := ⟨p :: (blkL t.n ++ blkL t.m), fun H => H.get p = .cells t.cells none ∧ Grow zH H 7 t.n (N.map NodeI.cells) ∧ Grow zH H 5 t.m (M.map MntI.cells),
  fun h e => ⟨by rw [e _ (by simp)]; exact h.1, h.2.1.keep fun b hb _ => e b (by simp [mem_blkL.2 hb]), h.2.2.keep fun b hb _ => e b (by simp [mem_blkL.2 hb])⟩⟩
section
variable {p : Nat} {t : TreeI} {N : List NodeI} {M M' : List MntI} {H1 : AH} {v' : Value}
theorem refR.at_ (h : (refR p t N M).P H) (hn : M.length < 2 ^ 62) : RefAt H p t M := ⟨h.1, hn, h.2.2.toRows⟩
theorem refR.nodup (hnd : (refR p t N M).fp.Nodup) : p ∉ blkL t.n ∧ p ∉ blkL t.m ∧ ∀ b ∈ blkL t.n, b ∉ blkL t.m := by
  simp only [refR, List.nodup_cons, List.mem_append, List.nodup_append, not_or] at hnd
  obtain ⟨⟨h1, h2⟩, h3, h4, h5⟩ := hnd
  exact ⟨h1, h2, fun b hb hm => h5 b hb b hm rfl⟩
theorem refR.fp_lt (hr : (refR p t N M).P H) : ∀ b ∈ (refR p t N M).fp, b < H.next := by
  intro b hb
  simp only [refR, List.mem_cons, List.mem_append] at hb
  rcases hb with rfl | hb | hb
  · exact AH.lt_cells hr.1
  · exact hr.2.1.blk_lt (mem_blkL.1 hb)
  · exact hr.2.2.blk_lt (mem_blkL.1 hb)
/-- The mounts' slice is another one. -/
theorem refR.updM (h : (refR p t N M).P H) (hnd : (refR p t N M).fp.Nodup) (o : Only (p :: blkL t.m) H H1) (g : Grow zH H1 5 v' (M'.map MntI.cells)) (hb : ∀ b, blk v' = some b → blk t.m = some b ∨ H.next ≤ b) (nx : Int) :
    Upd (refR p t N M) (refR p { t with m := v', next := nx } N M') H (H1.put p (.cells ({ t with m := v', next := nx } : TreeI).cells none)) := by
  obtain ⟨n1, n2, n3⟩ := refR.nodup hnd
  have hlt : p < H.next := AH.lt_cells h.1
  have hpb : p ∉ blkL v' := fun k => by
    rcases hb p (mem_blkL.1 k) with k | k
    · exact n2 (mem_blkL.2 k)
    · omega
  have hN : ∀ b, blk t.n = some b → b < H.next := fun b hb => h.2.1.blk_lt hb
  have hNn : ∀ b, blk t.n = some b → b ∉ blkL v' := fun b hbn k => by
    rcases hb b (mem_blkL.1 k) with k | k
    · exact n3 b (mem_blkL.2 hbn) (mem_blkL.2 k)
    · have := hN b hbn; omega
  refine ⟨(o.put (.inl (by simp)) _).mono fun b hb => .inl ?_, ⟨AH.get_put_self _ _ (Nat.lt_of_lt_of_le hlt o.1), ?_, ?_⟩, fun b hb' => ?_, ?_⟩
  · simp only [List.mem_cons, refR, List.mem_append] at hb ⊢
    exact hb.imp id .inr
  · refine h.2.1.keep fun b hb _ => ?_
    have hbp : b ≠ p := by rintro rfl; exact n1 (mem_blkL.2 hb)
    rw [AH.get_put_ne _ _ hbp]
    exact o.get (hN b hb) (by simp only [List.mem_cons, not_or]; exact ⟨hbp, n3 b (mem_blkL.2 hb)⟩)
  · exact g.keep fun b hb _ => AH.get_put_ne _ _ (by rintro rfl; exact hpb (mem_blkL.2 hb))
  · simp only [refR, List.mem_cons, List.mem_append] at hb' ⊢
    rcases hb' with rfl | hb' | hb'
    · exact ⟨.inl (by simp), Nat.lt_of_lt_of_le hlt o.1⟩
    · exact ⟨.inl (by simp [hb']), Nat.lt_of_lt_of_le (hN b (mem_blkL.1 hb')) o.1⟩
    · exact ⟨(hb b (mem_blkL.1 hb')).imp (fun k => by simp [mem_blkL.2 k]) id, g.blk_lt (mem_blkL.1 hb')⟩
  · simp only [refR, List.nodup_cons, List.mem_append, not_or, List.nodup_append]
    exact ⟨⟨n1, hpb⟩, blkL_nodup _, blkL_nodup _, fun a ha b hb' e => hNn a (mem_blkL.1 ha) (e ▸ hb')⟩
theorem refR.rowsM (h : (refR p t N M).P H) (hnd : (refR p t N M).fp.Nodup) (o : Only (blkL t.m) H H1) (g : Grow zH H1 5 t.m (M'.map MntI.cells)) : Upd (refR p t N M) (refR p t N M') H H1 := by
  obtain ⟨n1, n2, n3⟩ := refR.nodup hnd
  have hlt : p < H.next := AH.lt_cells h.1
  refine ⟨o.mono fun b hb => .inl (by simp [refR, hb]), ⟨o.cells h.1 n2, h.2.1.only o fun b hb => n3 b (mem_blkL.2 hb), g⟩, fun b hb => ⟨.inl hb, Nat.lt_of_lt_of_le (refR.fp_lt h b hb) o.1⟩, hnd⟩
end
def addHeldI (k : Int) (m : MntI) : MntI := { m with held := m.held + k }
def holdI (M : List MntI) (id : Int) (more : Bool) : List MntI × Int :=
  match M.findIdx? (fun m => decide (m.id = id)) with
  | none => (M, 2)
  | some i => if more then (M.set i (addHeldI 1 (M.getD i MntI.zero)), 0) else if (M.getD i MntI.zero).held = 0 then (M, 22) else (M.set i (addHeldI (-1) (M.getD i MntI.zero)), 0)
theorem mi_set (T : List MntI) (i : Nat) (hi : i < T.length) (k : Int) : (T.map MntI.cells).set i ((T[i]).cells.set 4 (vi (T[i].held + k))) = (T.set i (addHeldI k T[i])).map MntI.cells := by
  rw [List.map_set]; rfl
theorem findIdx_none {α : Type} {P : α → Bool} {l : List α} (h : l.find? P = none) : l.findIdx? P = none := by
  rw [List.findIdx?_eq_none_iff]
  intro x hx
  simpa using List.find?_eq_none.1 h x hx
theorem S.pinfoldref16_Tree_HoldMount (hE : Fold E) (p : Nat) (t : TreeI) (N : List NodeI) (M : List MntI) (hr : (refR p t N M).P H) (hnd : (refR p t N M).fp.Nodup) (hn : M.length < 2 ^ 62) (hh : ∀ m ∈ M, 0 ≤ m.held ∧ m.held < 2 ^ 61) (id : Int) (more : Bool)
    (hQ : ∀ H', Upd (refR p t N M) (refR p t N (holdI M id more).1) H H' → Q (vi (holdI M id more).2) H') : E.call (E.fid i.pinfoldref16_Tree_HoldMount) [ptr p 0, vi id, vb more] H Q := by
  apply hE.pinfoldref16_Tree_HoldMount
  have hT := refR.at_ hr hn
  have same : Upd (refR p t N M) (refR p t N M) H H := Upd.refl hr (refR.fp_lt hr) hnd
  simp only [F.pinfoldref16_Tree_HoldMount]
  refine S.pinfoldref16_Tree_find hE p t M hT id ?_
  unfold holdI at hQ
  rcases ixOf_cases (fun m : MntI => decide (m.id = id)) M with ⟨h1, h2⟩ | ⟨j, hj, h1, h2, _, h3⟩
  · rw [findIdx_none h1] at hQ
    simp [h2]
    exact hQ _ same
  · have hneg : ¬ ((j : Int) < 0) := by omega
    have hd : M.getD j MntI.zero = M[j] := by simp [hj]
    simp only [h3, hd] at hQ
    have hj' : j < (M.map MntI.cells).length := by simpa using hj
    have hhj := hh M[j] (List.getElem_mem hj)
    obtain ⟨b0, o0, f1, f2, f3, f4, f5, f6, f7, f8⟩ := MntI.elem hT.2.2 hj
    cases more with
    | true =>
      simp only [if_true] at hQ
      obtain ⟨b, o, H2, s1, s2, s3, s4, s5⟩ := hr.2.2.store (i := j) (k := 4) hj' (by omega) (vi (M[j].held + 1)) rfl
      rw [f1] at s1
      simp only [Option.some.injEq, Value.pointer.injEq, Addr.mk.injEq, and_true] at s1
      obtain ⟨rfl, rfl⟩ := s1
      simp [-store1_ptr, h1, hneg, hT.1, f1, f7]
      rw [i64_add (by omega) (by omega), opt_some]
      simp [-store1_ptr, h1, f1, s3]
      refine hQ _ (refR.rowsM hr hnd s5 ?_)
      rw [← mi_set]
      simpa using s4
    | false =>
      simp only [Bool.false_eq_true, if_false] at hQ
      obtain ⟨b, o, H2, s1, s2, s3, s4, s5⟩ := hr.2.2.store (i := j) (k := 4) hj' (by omega) (vi (M[j].held + -1)) rfl
      rw [f1] at s1
      simp only [Option.some.injEq, Value.pointer.injEq, Addr.mk.injEq, and_true] at s1
      obtain ⟨rfl, rfl⟩ := s1
      by_cases h0 : M[j].held = 0
      · simp only [h0, if_true] at hQ
        simp [-store1_ptr, h1, hneg, hT.1, f1, f7, h0]
        exact hQ _ same
      · simp only [h0, if_false] at hQ
        simp [-store1_ptr, h1, hneg, hT.1, f1, f7, h0]
        rw [i64_sub (by omega) (by omega), opt_some, show M[j].held - 1 = M[j].held + -1 by omega]
        simp [-store1_ptr, h1, f1, s3]
        refine hQ _ (refR.rowsM hr hnd s5 ?_)
        rw [← mi_set]
        simpa using s4
end Go.AM
end
section
namespace Go.AM
variable {E : Sy} {H : AH} {Q : Value → AH → Prop}
structure BoundI where
  M : List MntI
  nx : Int
  n : Int
  e : Int
def bindI (M : List MntI) (nx root : Int) (q : PlaceI) : BoundI :=
  if ixOf (fun m : MntI => decide (m.id = q.mount)) M < 0 then ⟨M, nx, 0, 22⟩ else if seenI M 20 q ≠ q then ⟨M, nx, 0, 16⟩ else if 16 ≤ M.length then ⟨M, nx, 0, 28⟩ else ⟨M ++ [⟨nx, root, q, 0⟩], nx + 1, nx, 0⟩
theorem S.pinfoldref16_Tree_Bind (hE : Fold E) (p : Nat) (t : TreeI) (N : List NodeI) (M : List MntI) (hr : (refR p t N M).P H) (hnd : (refR p t N M).fp.Nodup) (hn : M.length < 2 ^ 20) (hx : 0 ≤ t.next ∧ t.next < 2 ^ 61) (root : Int) (q : PlaceI)
    (hQ : ∀ t' H', t'.next = (bindI M t.next root q).nx → Upd (refR p t N M) (refR p t' N (bindI M t.next root q).M) H H' → Q (.tuple #[vi (bindI M t.next root q).n, vi (bindI M t.next root q).e]) H') : E.call (E.fid i.pinfoldref16_Tree_Bind) [ptr p 0, vi root, q.v] H Q := by
  apply hE.pinfoldref16_Tree_Bind
  have hT := refR.at_ hr (by omega)
  have same : ∀ H', Ext H H' → Upd (refR p t N M) (refR p t N M) H H' := fun H' e => (Upd.refl hr (refR.fp_lt hr) hnd).ext e
  have x1 : Ext H (H.new (.cells q.cells none)) := (Ext.refl H).new _
  have k1 : (H.new (.cells q.cells none)).get H.next = .cells q.cells none := AH.get_new_self _ _
  obtain ⟨n1, n2, n3⟩ := refR.nodup hnd
  have hlp := AH.lt_cells hr.1
  simp [F.pinfoldref16_Tree_Bind]
  refine S.pinfoldref16_Tree_find hE p t M (hT.mono x1) q.mount ?_
  unfold bindI at hQ
  by_cases hf : ixOf (fun m : MntI => decide (m.id = q.mount)) M < 0
  · simp only [hf, if_true] at hQ
    simp [hf]
    exact hQ t _ rfl (same _ x1)
  · simp only [hf, if_false] at hQ
    simp [hf]
    refine S.pinfoldref16_Tree_Seen hE p t M (hT.mono x1) q fun H3 e3 => ?_
    have x3 := x1.trans e3
    have k3 := e3.cells k1
    simp [k3]
    by_cases hs : seenI M 20 q = q
    · simp only [hs, ne_eq, not_true, if_false] at hQ
      have hT3 := hT.mono x3
      simp [hs, hT3.1, hT3.len]
      by_cases h16 : 16 ≤ M.length
      · simp only [h16, if_true] at hQ
        have h16' : (16 : Int) ≤ M.length := by omega
        simp [h16']
        exact hQ t _ rfl (same _ x3)
      · simp only [h16, if_false] at hQ
        have h16' : ¬ (16 : Int) ≤ M.length := by omega
        have l3 := AH.lt_cells hT3.1
        simp [h16', hT3.1]
        rw [i64_add (by omega) (by omega), opt_some]
        simp [hT3.1, l3]
        have hpk : H.next ≠ p := by omega
        have k4 : (H3.put p (.cells ({ t with next := t.next + 1 } : TreeI).cells none)).get H.next = .cells q.cells none := by rw [AH.get_put_ne _ _ hpk]; exact k3
        have hg3 := hr.2.2.ext x3
        have hg4 : Grow zH (H3.put p (.cells ({ t with next := t.next + 1 } : TreeI).cells none)) 5 t.m (M.map MntI.cells) := hg3.keep fun b hb _ => AH.get_put_ne _ _ (by rintro rfl; exact n2 (mem_blkL.2 hb))
        obtain ⟨v', H6, a1, a2, a3, a4⟩ := hg4.app1 (Nat.zero_le _) (bytes := 40) (MntI.cells ⟨t.next, root, q, 0⟩) rfl rfl (by omega) (by omega) (by simp; omega)
        have hpv6 : H6.get p = .cells ({ t with next := t.next + 1 } : TreeI).cells none := a3.cells (AH.get_put_self _ _ l3) n2
        have l6 := AH.lt_cells hpv6
        simp only [AH.next_put] at a1
        simp [k4]
        rw [a1]
        simp [a2.plain, hpv6]
        refine hQ { t with m := v', next := t.next + 1 } _ rfl ?_
        have hO : Only (p :: blkL t.m) H H6 := by
          refine ((x3.only (F := p :: blkL t.m)).put (.inl (by simp)) _).trans a3 fun b hb => .inl (by simp [hb])
        exact refR.updM hr hnd hO (by simpa using a2) (fun b hb => (a4 b hb).imp id fun h => by have := x3.1; simp at h; omega) _
    · simp only [hs, ne_eq, not_false_eq_true, if_true] at hQ
      simp [hs]
      exact hQ t _ rfl (same _ x3)
def standsInI (k : Int) (m : MntI) : Bool := decide (m.id ≠ 0) && decide (m.at_.mount = k)
def unmountI (M : List MntI) (q : PlaceI) : List MntI × Int :=
  match downI M q, M.findIdx? (fun m => decide (m.id = q.mount)) with
  | some _, some i => if 0 < (M.getD i MntI.zero).held ∨ M.any (standsInI q.mount) = true then (M, 16) else (M.eraseIdx i, 0)
  | _, _ => (M, 22)
theorem S.pinfoldref16_Tree_Unmount (hE : Fold E) (p : Nat) (t : TreeI) (N : List NodeI) (M : List MntI) (hr : (refR p t N M).P H) (hnd : (refR p t N M).fp.Nodup) (hn : M.length < 2 ^ 20) (q : PlaceI)
    (hQ : ∀ t' H', t'.next = t.next → Upd (refR p t N M) (refR p t' N (unmountI M q).1) H H' → Q (vi (unmountI M q).2) H') : E.call (E.fid i.pinfoldref16_Tree_Unmount) [ptr p 0, q.v] H Q := by
  apply hE.pinfoldref16_Tree_Unmount
  have hT := refR.at_ hr (by omega)
  have same : ∀ H', Ext H H' → Upd (refR p t N M) (refR p t N M) H H' := fun H' e => (Upd.refl hr (refR.fp_lt hr) hnd).ext e
  have x1 : Ext H (H.new (.cells q.cells none)) := (Ext.refl H).new _
  have k1 : (H.new (.cells q.cells none)).get H.next = .cells q.cells none := AH.get_new_self _ _
  obtain ⟨n1, n2, n3⟩ := refR.nodup hnd
  have hlp := AH.lt_cells hr.1
  simp [F.pinfoldref16_Tree_Unmount]
  refine S.pinfoldref16_Tree_Down hE p t M (hT.mono x1) q fun H2 e2 => ?_
  have x2 := x1.trans e2
  have k2 := e2.cells k1
  have l2 := AH.lt_cells k2
  unfold unmountI at hQ
  cases hd : downI M q with
  | none =>
    simp only [hd] at hQ
    simp
    exact hQ t _ rfl (same _ (x2.new _))
  | some q' =>
    simp only [hd] at hQ
    simp [AH.get_new, Nat.ne_of_lt l2, k2]
    generalize hH3 : H2.new _ = H3
    have e3 : Ext H2 H3 := by subst hH3; exact (Ext.refl H2).new _
    clear hH3
    have x3 := x2.trans e3
    have k3 := e3.cells k2
    have hT3 := hT.mono x3
    refine S.pinfoldref16_Tree_find hE p t M hT3 q.mount ?_
    have hex : ∃ (j : Nat) (hj : j < M.length), ixOf (fun m : MntI => decide (m.id = q.mount)) M = j ∧ M.findIdx? (fun m => decide (m.id = q.mount)) = some j := by
      rcases ixOf_cases (fun m : MntI => decide (m.id = q.mount)) M with ⟨h1, h2⟩ | ⟨j, hj, h1, h2, _, h3⟩
      · have h1 : getI M q.mount = none := h1
        simp [downI, h1] at hd
      · exact ⟨j, hj, h1, h3⟩
    obtain ⟨j, hj, h1, h3⟩ := hex
    have hdj : M.getD j MntI.zero = M[j] := by simp [hj]
    simp only [h3, hdj] at hQ
    rw [h1]
    obtain ⟨b, o, f1, f2, f3, f4, f5, f6, f7, f8⟩ := MntI.elem hT3.2.2 hj
    simp [hT3.1, f1, f7]
    have busy : (0 < M[j].held ∨ M.any (standsInI q.mount) = true) → ∀ H', Ext H3 H' → Q (vi 16) H' := by
      intro hb H' e
      rw [if_pos hb] at hQ
      exact hQ t _ rfl (same _ (x3.trans e))
    by_cases hh : 0 < M[j].held
    · simp [hh]
      exact busy (.inl hh) _ (Ext.refl _)
    · simp [hh]
      refine LoopL.count M.length (fun c s H' => s = [ptr p 0, ptr H.next 0, vi j, vi c] ∧ H' = H3 ∧ (M.take c).any (standsInI q.mount) = false) ?_ ⟨rfl, rfl, rfl⟩
      rintro c _ H4 X hc hX ⟨rfl, rfl, hcn⟩
      simp only [F.pinfoldref16_Tree_Unmount_l1, nth_0, nth_s]
      simp [hT3.1, hT3.len]
      refine ifB_split (fun h => ?_) (fun h => ?_)
      · have hcl : c < M.length := by omega
        obtain ⟨b, o, f1, f2, f3, f4, f5, f6, f7, f8⟩ := MntI.elem hT3.2.2 hcl
        have htk := any_take_succ hcl hcn
        have no : standsInI q.mount M[c] = false → X [ptr p 0, ptr H.next 0, vi j, vi ((c + 1 : Nat) : Int)] H4 := fun h => hX hcl _ _ ⟨rfl, rfl, by rw [htk]; exact h⟩
        by_cases hi : M[c].id = 0
        · simp [hT3.1, f1, f3, hi]
          rw [i64_inc (by omega), opt_some]
          exact no (by simp [standsInI, hi])
        · by_cases ha : M[c].at_.mount = q.mount
          · simp [hT3.1, f1, f3, f5, hi, k3, ha]
            refine busy (.inr (List.any_eq_true.2 ⟨_, List.getElem_mem hcl, ?_⟩)) _ (Ext.refl _)
            simp [standsInI, hi, ha]
          · simp [hT3.1, f1, f3, f5, hi, k3, ha]
            rw [i64_inc (by omega), opt_some]
            exact no (by simp [standsInI, hi, ha])
      · have : c = M.length := by omega
        subst this
        rw [List.take_length] at hcn
        rw [if_neg (by simp [hh, hcn])] at hQ
        have hlm : (M.map MntI.cells).length = M.length := List.length_map _
        have hpl : ∀ r ∈ M.map MntI.cells, r.all plain1 = true := by
          intro r hr
          obtain ⟨x, _, rfl⟩ := List.mem_map.1 hr
          exact MntI.plain x
        obtain ⟨v1, v2, w1, H6, w2, H7, c1, c2, c3, c4, c5, c6, c7, c8, c9⟩ := cutOut (bytes := 40) hT3.2.2 hpl (i := j) (by rw [hlm]; exact hj) (by omega) (by omega) (by rw [hlm]; omega) (by rw [hlm]; omega)
        have g5 := ((Ext.refl H4).new (.cells [] none)).cells hT3.1
        have g6 := c4.cells hT3.1
        have g7 := c7.cells hT3.1
        have l7 := AH.lt_cells g7
        simp [g5, c1]
        rw [i64_inc (by omega), opt_some, c2, opt_some, c3, opt2_some]
        simp [c5, c2, g6, g5]
        rw [c6, opt2_some]
        simp [c8.plain, g7]
        have e7 := x3.trans c7
        have := refR.updM (v' := w2) (M' := M.eraseIdx j) hr hnd e7.only (by rw [List.eraseIdx_eq_take_drop_succ] at c8 ⊢; simpa using c8) (fun b hb => .inr (by have := c9 b hb; have := x3.1; omega)) t.next
        exact ⟨by simpa using c5, hQ { t with m := w2, next := t.next } _ rfl this⟩
end Go.AM
end
section
/- Structs as data: written by program (st.py). -/
namespace Go.AM
abbrev PlaceD.sh : Sh := .struct [.int .i64, .int .u16]
def PlaceD.ok (x : PlaceD) : Prop := (-9223372036854775808 ≤ x.m ∧ x.m < 9223372036854775808)
theorem PlaceD.ofSV {H : AH} {cs : List Value} (h : SV H PlaceD.sh cs) : ∃ d : PlaceD, cs = d.cells ∧ d.ok := by
  obtain ⟨c0, e0, rfl, h0, c1, e1, rfl, h1, rfl⟩ := h
  obtain ⟨x0, rfl, g0⟩ := h0.i64
  obtain ⟨x1, rfl⟩ := h1.u16
  exact ⟨⟨x0, x1⟩, rfl, g0⟩
theorem PlaceD.ofSlice {H : AH} {v : Value} (h : ArgSV H (.slice 2 PlaceD.sh) v) : ∃ l : List PlaceD, Rows H 2 v (l.map PlaceD.cells) ∧ l.length ≤ 9223372036854775807 ∧ ∀ x ∈ l, x.ok := ArgSV.rowsOf (fun _ h => PlaceD.ofSV h) h
/-- pinfoldlaw17.Act -/
structure ActM where
  kind : BitVec 8
  root : BitVec 8
  mount : BitVec 8
  inode : BitVec 8
  any : PlaceD
  more : Bool
  raw : Bool
  deriving DecidableEq
def ActM.cells (x : ActM) : List Value := [u8 x.kind, u8 x.root, u8 x.mount, u8 x.inode] ++ x.any.cells ++ [vb x.more, vb x.raw]
abbrev ActM.v (x : ActM) : Value := .agg x.cells.toArray
def ActM.zero : ActM := ⟨0#8, 0#8, 0#8, 0#8, PlaceD.zero, false, false⟩
@[simp high] theorem ActM.cells_length (x : ActM) : x.cells.length = 8 := nrf rfl
@[simp high] theorem ActM.splice (a0 a1 a2 a3 a4 a5 a6 a7 : Value) (x : ActM) : AM.splice [a0, a1, a2, a3, a4, a5, a6, a7] 0 x.cells = x.cells := nrf rfl
@[simp high] theorem ActM.splice_cells (y x : ActM) : AM.splice y.cells 0 x.cells = x.cells := nrf rfl
@[simp high] theorem ActM.take (x : ActM) : x.cells.take 8 = x.cells := nrf rfl
@[simp high] theorem ActM.plain (x : ActM) : x.cells.all plain1 = true := nrf rfl
@[simp] theorem ActM.plain' (x : ActM) : (∀ y ∈ x.cells, plain1 y = true) = True := eq_true (List.all_eq_true.1 (ActM.plain x))
@[simp high] theorem ActM.at0 (x : ActM) : x.cells[0]? = some (u8 x.kind) := nrf rfl
@[simp high] theorem ActM.at1 (x : ActM) : x.cells[1]? = some (u8 x.root) := nrf rfl
@[simp high] theorem ActM.at2 (x : ActM) : x.cells[2]? = some (u8 x.mount) := nrf rfl
@[simp high] theorem ActM.at3 (x : ActM) : x.cells[3]? = some (u8 x.inode) := nrf rfl
@[simp high] theorem ActM.at4 (x : ActM) : x.cells[4]? = some (vi x.any.m) := nrf rfl
@[simp high] theorem ActM.at5 (x : ActM) : x.cells[5]? = some (u16 x.any.i) := nrf rfl
@[simp high] theorem ActM.at6 (x : ActM) : x.cells[6]? = some (vb x.more) := nrf rfl
@[simp high] theorem ActM.at7 (x : ActM) : x.cells[7]? = some (vb x.raw) := nrf rfl
@[simp high] theorem ActM.set0 (x : ActM) (p : BitVec 8) : x.cells.set 0 (u8 p) = ({ x with kind := p } : ActM).cells := nrf rfl
@[simp high] theorem ActM.set1 (x : ActM) (p : BitVec 8) : x.cells.set 1 (u8 p) = ({ x with root := p } : ActM).cells := nrf rfl
@[simp high] theorem ActM.set2 (x : ActM) (p : BitVec 8) : x.cells.set 2 (u8 p) = ({ x with mount := p } : ActM).cells := nrf rfl
@[simp high] theorem ActM.set3 (x : ActM) (p : BitVec 8) : x.cells.set 3 (u8 p) = ({ x with inode := p } : ActM).cells := nrf rfl
@[simp high] theorem ActM.put4 (x : ActM) (p : PlaceD) : AM.splice x.cells 4 p.cells = ({ x with any := p } : ActM).cells := nrf rfl
@[simp high] theorem ActM.set6 (x : ActM) (p : Bool) : x.cells.set 6 (vb p) = ({ x with more := p } : ActM).cells := nrf rfl
@[simp high] theorem ActM.set7 (x : ActM) (p : Bool) : x.cells.set 7 (vb p) = ({ x with raw := p } : ActM).cells := nrf rfl
@[simp high] theorem ActM.part4 (x : ActM) : (x.cells.drop 4).take 2 = x.any.cells := nrf rfl
theorem ActM.elem {H : AH} {v : Value} {l : List ActM} (h : Rows H 8 v (l.map ActM.cells)) {i : Nat} (hi : i < l.length) : ∃ b o, ixSlc 8 v (vi i) = some (ptr b o) ∧ (H.get b).row o 8 = some l[i].cells ∧ (H.get b).cell o = some (u8 l[i].kind) ∧ (H.get b).cell (o + 1) = some (u8 l[i].root) ∧ (H.get b).cell (o + 2) = some (u8 l[i].mount) ∧ (H.get b).cell (o + 3) = some (u8 l[i].inode) ∧ (H.get b).cell (o + 4) = some (vi l[i].any.m) ∧ (H.get b).cell (o + 5) = some (u16 l[i].any.i) ∧ (H.get b).cell (o + 6) = some (vb l[i].more) ∧ (H.get b).cell (o + 7) = some (vb l[i].raw) ∧ (H.get b).row (o + 4) 2 = some l[i].any.cells := by
  obtain ⟨b, o, f1, f2⟩ := h.ix (i := i) (by simpa using hi)
  simp only [List.getElem_map] at f2
  exact ⟨b, o, f1, f2, by have := row_at f2 (j := 0) (by omega); simpa using this, by have := row_at f2 (j := 1) (by omega); simpa using this, by have := row_at f2 (j := 2) (by omega); simpa using this, by have := row_at f2 (j := 3) (by omega); simpa using this, by have := row_at f2 (j := 4) (by omega); simpa using this, by have := row_at f2 (j := 5) (by omega); simpa using this, by have := row_at f2 (j := 6) (by omega); simpa using this, by have := row_at f2 (j := 7) (by omega); simpa using this, by have := row_part f2 (j := 4) (m := 2) (by omega); simpa using this⟩
@[simp high] theorem ActM.build (p0 : BitVec 8) (p1 : BitVec 8) (p2 : BitVec 8) (p3 : BitVec 8) (p4 : PlaceD) (p5 : Bool) (p6 : Bool)  : buildV [(0, 1), (1, 1), (2, 1), (3, 1), (4, 2), (6, 1), (7, 1)] [u8 0#8, u8 0#8, u8 0#8, u8 0#8, vi 0, u16 0#16, vb false, vb false].toArray [(0, u8 p0), (1, u8 p1), (2, u8 p2), (3, u8 p3), (4, .agg (p4).cells.toArray), (5, vb p5), (6, vb p6)] = some (ActM.v ⟨p0, p1, p2, p3, p4, p5, p6⟩) := by
  simp [ActM.cells, AM.splice, PlaceD.cells]
@[simp high] theorem ActM.build0 : buildV [(0, 1), (1, 1), (2, 1), (3, 1), (4, 2), (6, 1), (7, 1)] [u8 0#8, u8 0#8, u8 0#8, u8 0#8, vi 0, u16 0#16, vb false, vb false].toArray [] = some (ActM.v ActM.zero) := by
  simp [ActM.zero, ActM.cells, PlaceD.cells, PlaceD.zero]
@[simp high] theorem ActM.build1 (x : ActM) : buildS 1 8 [u8 0#8, u8 0#8, u8 0#8, u8 0#8, vi 0, u16 0#16, vb false, vb false].toArray [(0, .agg x.cells.toArray)] = some (.cells x.cells none, mkSlc 1 1) := buildS_one 8 [u8 0#8, u8 0#8, u8 0#8, u8 0#8, vi 0, u16 0#16, vb false, vb false] x.cells rfl rfl
theorem ActM.buildS (xs : List ActM) : AM.buildS xs.length 8 [u8 0#8, u8 0#8, u8 0#8, u8 0#8, vi 0, u16 0#16, vb false, vb false].toArray ((List.range' 0 xs.length).zip (xs.map ActM.v)) = some (.cells (xs.map ActM.cells).flatten none, mkSlc xs.length xs.length) := by
  have := buildS_full xs.length 8 [u8 0#8, u8 0#8, u8 0#8, u8 0#8, vi 0, u16 0#16, vb false, vb false] ((List.range' 0 xs.length).zip (xs.map ActM.v)) (xs.map ActM.v) rfl (by simp) (by simp) (by rw [List.all_eq_true]; intro v hv; obtain ⟨x, _, rfl⟩ := List.mem_map.1 hv; rfl) (by intro v hv; obtain ⟨x, _, rfl⟩ := List.mem_map.1 hv; rfl)
  rw [this, List.flatMap_map]; rfl
theorem ActM.ext_iff (x y : ActM) : x = y ↔ x.kind = y.kind ∧ x.root = y.root ∧ x.mount = y.mount ∧ x.inode = y.inode ∧ x.any = y.any ∧ x.more = y.more ∧ x.raw = y.raw := by
  cases x; cases y; simp
theorem ActM.same (x y : ActM) : sameCells [0, 0, 0, 0, 0, 0, 2, 2] x.cells y.cells = some (decide (x = y)) := by
  simp only [ActM.ext_iff, PlaceD.ext_iff, Bool.decide_and, ActM.cells, PlaceD.cells, List.cons_append, List.nil_append, sameCells_cons, sameCells_nil, same_i64, same_str, same_bool, same_u8, same_u16, same_u32, same_u64, Option.bind_some, Option.map_some, Bool.and_true, Bool.and_assoc]
@[simp high] theorem ActM.eql (x y : ActM) : binAgg [0, 0, 0, 0, 0, 0, 2, 2] .eql (.agg x.cells.toArray) (.agg y.cells.toArray) = some (vb (decide (x = y))) := by rw [binAgg_eql, ActM.same]; rfl
@[simp high] theorem ActM.neq (x y : ActM) : binAgg [0, 0, 0, 0, 0, 0, 2, 2] .neq (.agg x.cells.toArray) (.agg y.cells.toArray) = some (vb (decide (x ≠ y))) := by rw [binAgg_neq, ActM.same]; simp
abbrev ActM.sh : Sh := .struct [.int .u8, .int .u8, .int .u8, .int .u8, PlaceD.sh, .bool, .bool]
def ActM.ok (x : ActM) : Prop := x.any.ok
theorem ActM.ofSV {H : AH} {cs : List Value} (h : SV H ActM.sh cs) : ∃ d : ActM, cs = d.cells ∧ d.ok := by
  obtain ⟨c0, e0, rfl, h0, c1, e1, rfl, h1, c2, e2, rfl, h2, c3, e3, rfl, h3, c4, e4, rfl, h4, c5, e5, rfl, h5, c6, e6, rfl, h6, rfl⟩ := h
  obtain ⟨x0, rfl⟩ := h0.u8
  obtain ⟨x1, rfl⟩ := h1.u8
  obtain ⟨x2, rfl⟩ := h2.u8
  obtain ⟨x3, rfl⟩ := h3.u8
  obtain ⟨x4, rfl, g4⟩ := PlaceD.ofSV h4
  obtain ⟨x5, rfl⟩ := h5
  obtain ⟨x6, rfl⟩ := h6
  exact ⟨⟨x0, x1, x2, x3, x4, x5, x6⟩, rfl, g4⟩
theorem ActM.ofSlice {H : AH} {v : Value} (h : ArgSV H (.slice 8 ActM.sh) v) : ∃ l : List ActM, Rows H 8 v (l.map ActM.cells) ∧ l.length ≤ 9223372036854775807 ∧ ∀ x ∈ l, x.ok := ArgSV.rowsOf (fun _ h => ActM.ofSV h) h
end Go.AM
end
section
namespace Go.AM
variable {E : Sy} {H0 Z H : AH} {L : List Res} {Q : Value → AH → Prop}
def PlaceD.toI (p : PlaceD) : PlaceI := ⟨p.m, p.i.toNat⟩
def MntD.toI (m : MntD) : MntI := ⟨m.id, m.root.toNat, m.at_.toI, m.held⟩
theorem toI_inj (p q : PlaceD) : p.toI = q.toI ↔ p = q := by
  simp only [PlaceD.toI, PlaceI.ext_iff, PlaceD.ext_iff]
  constructor
  · rintro ⟨h1, h2⟩; exact ⟨h1, BitVec.eq_of_toNat_eq (by omega)⟩
  · rintro ⟨h1, h2⟩; rw [h2]; exact ⟨h1, rfl⟩
theorem toNat_inj (a b : BitVec 16) : ((a.toNat : Int) = b.toNat) ↔ a = b := by
  constructor
  · intro h; exact BitVec.eq_of_toNat_eq (by omega)
  · rintro rfl; rfl
def refN : List NodeI := [NodeI.zero, ⟨2, nilS, nilS, 1, [], 1, 0⟩]
theorem S.pinfoldref16_New (hE : Fold E) (h : Has H0 Z H L) (n : Int) (hQ : ∀ p t H', t.next = 1 → t.limit = min (max n 1) 256 → t.change = 0 → Has H0 Z H' (L ++ [refR p t refN [⟨0, 1, PlaceI.zero, 0⟩]]) → Q (ptr p 0) H') : E.call (E.fid i.pinfoldref16_New) [vi n] H Q := by
  apply hE.pinfoldref16_New
  simp [-buildS_eq, F.pinfoldref16_New]
  have hb : buildS 2 7 [vi 0, nilS, nilS, vi 0, str [], vi 0, vi 0].toArray [(0, NodeI.zero.v), (1, NodeI.v ⟨2, nilS, nilS, 1, [], 1, 0⟩)] = some (.cells (refN.map NodeI.cells).flatten none, mkSlc 2 2) := NodeI.buildS refN
  rw [hb]
  simp
  have hlim : (if 256 < if n < 1 then 1 else n then 256 else if n < 1 then 1 else n) = min (max n 1) 256 := by
    simp only [Int.min_def, Int.max_def]; split <;> split <;> split <;> split <;> omega
  rw [hlim]
  refine hQ (H.next + 1 + 1) ⟨slc H.next 0 2 2, min (max n 1) 256, slc (H.next + 1) 0 1 1, 1, 0⟩ _ rfl rfl rfl ?_
  refine h.add (refR (H.next + 1 + 1) ⟨slc H.next 0 2 2, min (max n 1) 256, slc (H.next + 1) 0 1 1, 1, 0⟩ refN [⟨0, 1, PlaceI.zero, 0⟩]) ((((Ext.refl H).new _).new _).new _) ⟨?_, ?_, ?_⟩ ?_ ?_
  · simp [AH.get_new]
  · exact Grow.made (f := none) (zH_get _) (by simp [AH.get_new]; intro h; omega) (.inl rfl) rfl (by intro r hr; obtain ⟨x, hx, rfl⟩ := List.mem_map.1 hr; simp [refN] at hx; rcases hx with rfl | rfl <;> exact ⟨rfl, rfl⟩)
  · exact Grow.made (f := none) (zH_get _) (by simp [AH.get_new]) (.inl rfl) rfl (by intro r hr; simp at hr; subst hr; exact ⟨rfl, rfl⟩)
  · simp [refR, blkL, blk]; omega
  · simp [refR, blkL, blk]; omega
theorem S.pinfoldlaw17_Ref (hE : Fold E) (q : PlaceD) (hQ : ∀ H', Ext H H' → Q q.toI.v H') : E.call (E.fid i.pinfoldlaw17_Ref) [q.v] H Q := by
  apply hE.pinfoldlaw17_Ref
  simp [F.pinfoldlaw17_Ref, AH.get_new, PlaceD.cells]
  exact hQ _ (((Ext.refl H).new _).new _)
/-! ### the table and the document's one -/
theorem ix_toI (T : List MntD) (k : Int) : ixOf (fun m : MntI => decide (m.id = k)) (T.map MntD.toI) = findT T k := by
  unfold findT ixOf
  rw [List.findIdx?_map]; rfl
theorem fix_toI (T : List MntD) (k : Int) : (T.map MntD.toI).findIdx? (fun m : MntI => decide (m.id = k)) = T.findIdx? (fun m : MntD => decide (m.id = k)) := by
  rw [List.findIdx?_map]; rfl
theorem get_toI (T : List MntD) (k : Int) : getI (T.map MntD.toI) k = (getT T k).map MntD.toI := by
  unfold getI getT
  rw [List.find?_map]; rfl
theorem stands_toI (p : PlaceD) (m : MntD) : standsI p.toI m.toI = standsAt p m := by
  simp only [standsI, standsAt, MntD.toI, toI_inj]
  congr
theorem down_toI (T : List MntD) (p : PlaceD) : downI (T.map MntD.toI) p.toI = (downT T p).map PlaceD.toI := by
  unfold downI downT
  have h0 : p.toI.mount = p.m := rfl
  rw [h0, get_toI]
  cases hg : getT T p.m with
  | none => rfl
  | some m =>
    have hm : m.id = p.m := by have := List.find?_some hg; simpa using this
    have h1 : (m.toI.root ≠ p.toI.inode) ↔ m.root ≠ p.i := not_congr (toNat_inj m.root p.i)
    simp only [Option.map_some, h1, hm]
    split <;> rfl
/-- What is kept of a table. -/
structure PInv (T : List MntD) (nx k : Int) : Prop where
  older : Older T
  uniq : ∀ a ∈ T, ∀ b ∈ T, a.id ≠ 0 → b.id ≠ 0 → a.at_ = b.at_ → a.id = b.id
  nodup : (T.map MntD.id).Nodup
  len : T.length ≤ 16
  ids : ∀ m ∈ T, 0 ≤ m.id ∧ m.id < nx
  nx0 : 1 ≤ nx
  nx1 : nx ≤ 1 + k
  held : ∀ m ∈ T, 0 ≤ m.held ∧ m.held ≤ k
theorem PInv.ok {T : List MntD} {nx k : Int} (h : PInv T nx k) (hk : k ≤ 1000) : TabOk T nx :=
  ⟨h.older, h.len, by have := h.nx0; omega, by have := h.nx1; omega, fun m hm => by have := h.held m hm; omega⟩
theorem PInv.mono {T : List MntD} {nx k k' : Int} (h : PInv T nx k) (hk : k ≤ k') : PInv T nx k' :=
  { h with nx1 := by have := h.nx1; omega, held := fun m hm => by have := h.held m hm; omega }
theorem pinv0 : PInv tab0 1 0 := ⟨by unfold Older; simp [tab0], by simp [tab0], by simp [tab0], by simp [tab0], by simp [tab0], by omega, by omega, by simp [tab0]⟩
theorem PInv.inj {T : List MntD} {nx k : Int} (h : PInv T nx k) {i j : Nat} (hi : i < T.length) (hj : j < T.length) (e : T[i].id = T[j].id) : i = j := by
  have h1 : i < (T.map MntD.id).length := by simpa using hi
  have h2 : j < (T.map MntD.id).length := by simpa using hj
  have key := List.pairwise_iff_getElem.1 h.nodup
  rcases Nat.lt_trichotomy i j with g | g | g
  · exact absurd (by simpa using e) (key i j h1 h2 g)
  · exact g
  · exact absurd (by simpa using e.symm) (key j i h2 h1 g)
theorem PInv.getT {T : List MntD} {nx k : Int} (h : PInv T nx k) {j : Nat} (hj : j < T.length) : AM.getT T T[j].id = some T[j] := by
  unfold AM.getT
  refine List.find?_eq_some_iff_getElem.2 ⟨by simp, j, hj, rfl, fun i hi => ?_⟩
  simp only [Bool.not_eq_eq_eq_not, Bool.not_true, decide_eq_false_iff_not]
  intro e
  have := h.inj (by omega) hj e
  omega
theorem last_toI {T : List MntD} {nx k : Int} (h : PInv T nx k) (p : PlaceD) : lastIx (standsI p.toI) (T.map MntD.toI) = ixOf (standsAt p) T := by
  have hs : ∀ i (hi : i < T.length), standsI p.toI ((T.map MntD.toI)[i]'(by simpa using hi)) = standsAt p T[i] := fun i hi => by rw [List.getElem_map, stands_toI]
  rcases lastIx_cases (standsI p.toI) (T.map MntD.toI) with ⟨h1, h2⟩ | ⟨i, hi, h1, h2⟩ <;> rcases ixOf_cases (standsAt p) T with ⟨g1, g2⟩ | ⟨j, hj, g1, _, g3, _⟩
  · rw [h1, g2]
  · have := h2 _ (List.getElem_mem (by simpa using hj))
    rw [hs j hj, g3] at this
    simp at this
  · have hi' : i < T.length := by simpa using hi
    rw [hs i hi'] at h2
    have := List.find?_eq_none.1 g1 _ (List.getElem_mem hi')
    exact absurd h2 this
  · have hi' : i < T.length := by simpa using hi
    rw [hs i hi'] at h2
    simp only [standsAt, Bool.and_eq_true, decide_eq_true_eq] at h2 g3
    have := h.inj hi' hj (h.uniq _ (List.getElem_mem hi') _ (List.getElem_mem hj) h2.1 g3.1 (h2.2.trans g3.2.symm))
    subst this
    rw [h1, g1]
theorem seenI_toI {T : List MntD} {nx k : Int} (h : PInv T nx k) : ∀ (n : Nat) (p : PlaceD), seenI (T.map MntD.toI) n p.toI = (seenN T n p).toI
  | 0, p => rfl
  | n + 1, p => by
    simp only [seenI, seenN, last_toI h]
    rcases ixOf_cases (standsAt p) T with ⟨g1, g2⟩ | ⟨j, hj, g1, g2, g3, _⟩
    · simp [g2, g1]
    · simp only [g1, g2, List.length_map]
      rw [dif_pos ⟨by omega, by simpa using hj⟩]
      have := seenI_toI h n ⟨T[j].id, T[j].root⟩
      simp only [List.getElem_map]
      exact this
theorem seen20 {T : List MntD} {nx k : Int} (h : PInv T nx k) (p : PlaceD) : seenI (T.map MntD.toI) 20 p.toI = (seen T p).toI := by
  rw [seenI_toI h]
  have h1 := h.len
  have h2 := above_le T p
  have := seenN_enough h.older p (20 - T.length) T.length h2
  rw [show T.length + (20 - T.length) = 20 by omega] at this
  rw [this]; rfl
theorem seenN_ge {T : List MntD} (h : Older T) : ∀ (n : Nat) (p : PlaceD), p.m ≤ (seenN T n p).m
  | 0, p => by simp [seenN]
  | n + 1, p => by
    rw [seenN]
    cases hf : T.find? (standsAt p) with
    | none => simp
    | some m =>
      have h1 := List.find?_some hf
      have h2 := List.mem_of_find?_eq_some hf
      simp only [standsAt, Bool.and_eq_true, decide_eq_true_eq] at h1
      have h3 := h m h2 h1.1
      have h4 := seenN_ge h n ⟨m.id, m.root⟩
      rw [h1.2] at h3
      simp only at h4 ⊢
      omega
theorem seen_fix {T : List MntD} (h : Older T) {p : PlaceD} (e : seen T p = p) : T.find? (standsAt p) = none := by
  cases hf : T.find? (standsAt p) with
  | none => rfl
  | some m =>
    have h1 := List.find?_some hf
    have h2 := List.mem_of_find?_eq_some hf
    simp only [standsAt, Bool.and_eq_true, decide_eq_true_eq] at h1
    have h3 := h m h2 h1.1
    have h4 := seenN_ge h T.length ⟨m.id, m.root⟩
    have h5 := seen_some h hf
    rw [e] at h5
    unfold seen at h5
    rw [← h5] at h4
    rw [h1.2] at h3
    simp only at h4
    omega
theorem bind_toI {T : List MntD} {nx k : Int} (h : PInv T nx k) (r : BitVec 16) (p : PlaceD) : (bindI (T.map MntD.toI) nx r.toNat p.toI).M = (bindT T nx r p).T.map MntD.toI ∧ (bindI (T.map MntD.toI) nx r.toNat p.toI).nx = (bindT T nx r p).nx ∧
    (bindI (T.map MntD.toI) nx r.toNat p.toI).n = (bindT T nx r p).n ∧ (bindI (T.map MntD.toI) nx r.toNat p.toI).e = (bindT T nx r p).e := by
  unfold bindI bindT
  have h0 : p.toI.mount = p.m := rfl
  rw [h0, ix_toI, seen20 h, List.length_map]
  simp only [ne_eq, toI_inj]
  split
  · simp
  · split
    · simp
    · split
      · simp
      · simp [MntD.toI]
theorem PInv.bind {T : List MntD} {nx k : Int} (h : PInv T nx k) (r : BitVec 16) (p : PlaceD) : PInv (bindT T nx r p).T (bindT T nx r p).nx (k + 1) := by
  have hk : PInv T nx (k + 1) := h.mono (by omega)
  unfold bindT
  split
  · exact hk
  · rename_i hf
    split
    · exact hk
    · rename_i hs
      split
      · exact hk
      · rename_i hl
        have hs : seen T p = p := Classical.not_not.1 hs
        have hno := seen_fix h.older hs
        have hpm : p.m < nx := by
          rcases ixOf_cases (fun m : MntD => decide (m.id = p.m)) T with ⟨h1, h2⟩ | ⟨j, hj, h1, h2, h3, _⟩
          · have h2 : findT T p.m = -1 := h2
            omega
          · have := (h.ids _ (List.getElem_mem hj)).2
            simp only [decide_eq_true_eq] at h3
            omega
        have hnx := h.nx0
        refine ⟨fun m hm h0 => ?_, fun a ha b hb a0 b0 e => ?_, ?_, by simp; omega, fun m hm => ?_, by simp only; omega, by have := h.nx1; simp only; omega, fun m hm => ?_⟩
        · rcases List.mem_append.1 hm with hm | hm
          · exact h.older m hm h0
          · simp only [List.mem_singleton] at hm; subst hm; exact hpm
        · rcases List.mem_append.1 ha with ha | ha <;> rcases List.mem_append.1 hb with hb | hb
          · exact h.uniq a ha b hb a0 b0 e
          · simp only [List.mem_singleton] at hb; subst hb
            exact absurd (by simp only [standsAt, Bool.and_eq_true, decide_eq_true_eq]; exact ⟨a0, e⟩) (List.find?_eq_none.1 hno a ha)
          · simp only [List.mem_singleton] at ha; subst ha
            exact absurd (by simp only [standsAt, Bool.and_eq_true, decide_eq_true_eq]; exact ⟨b0, e.symm⟩) (List.find?_eq_none.1 hno b hb)
          · simp only [List.mem_singleton] at ha hb; subst ha hb; rfl
        · rw [List.map_append, List.nodup_append]
          refine ⟨h.nodup, by simp, fun a ha b hb => ?_⟩
          obtain ⟨m, hm, rfl⟩ := List.mem_map.1 ha
          simp at hb; subst hb
          have := (h.ids m hm).2
          omega
        · rcases List.mem_append.1 hm with hm | hm
          · have := h.ids m hm; simp only; omega
          · simp only [List.mem_singleton] at hm; subst hm; simp only; omega
        · rcases List.mem_append.1 hm with hm | hm
          · have := h.held m hm; omega
          · simp only [List.mem_singleton] at hm; subst hm; simp only; have := h.nx1; omega
theorem hold_toI (T : List MntD) (id : Int) (more : Bool) : holdI (T.map MntD.toI) id more = ((holdT T id more).1.map MntD.toI, (holdT T id more).2) := by
  unfold holdI holdT
  rw [fix_toI]
  cases hf : T.findIdx? (fun m : MntD => decide (m.id = id)) with
  | none => rfl
  | some i =>
    obtain ⟨hi, _⟩ := List.findIdx?_eq_some_iff_getElem.1 hf
    have e1 : (T.map MntD.toI).getD i MntI.zero = T[i].toI := by simp [hi]
    have e2 : T.getD i zeroM = T[i] := by simp [hi]
    have hh : T[i].toI.held = T[i].held := rfl
    have ha : ∀ k, addHeldI k T[i].toI = (addHeld k T[i]).toI := fun k => rfl
    simp only [e1, e2, hh, ha]
    split
    · simp [List.map_set]
    · split
      · rfl
      · simp [List.map_set]
theorem PInv.set {T : List MntD} {nx k : Int} (h : PInv T nx k) {i : Nat} (hi : i < T.length) (d : Int) (hd : 0 ≤ T[i].held + d ∧ d ≤ 1) : PInv (T.set i (addHeld d T[i])) nx (k + 1) := by
  have hmem : ∀ m ∈ T.set i (addHeld d T[i]), ∃ m' ∈ T, m.id = m'.id ∧ m.at_ = m'.at_ ∧ 0 ≤ m.held ∧ m.held ≤ k + 1 := by
    intro m hm
    rcases List.mem_or_eq_of_mem_set hm with hm | rfl
    · have := h.held m hm
      exact ⟨m, hm, rfl, rfl, by omega, by omega⟩
    · have := h.held _ (List.getElem_mem hi)
      exact ⟨_, List.getElem_mem hi, rfl, rfl, by simp only [addHeld]; omega, by simp only [addHeld]; omega⟩
  refine ⟨fun m hm h0 => ?_, fun a ha b hb a0 b0 e => ?_, ?_, by rw [List.length_set]; exact h.len, fun m hm => ?_, h.nx0, by have := h.nx1; omega, fun m hm => ?_⟩
  · obtain ⟨m', g1, g2, g3, _⟩ := hmem m hm
    rw [g3, g2]; exact h.older m' g1 (g2 ▸ h0)
  · obtain ⟨a', g1, g2, g3, _⟩ := hmem a ha
    obtain ⟨b', f1, f2, f3, _⟩ := hmem b hb
    rw [g2, f2]; exact h.uniq a' g1 b' f1 (g2 ▸ a0) (f2 ▸ b0) (by rw [← g3, ← f3]; exact e)
  · have : (T.set i (addHeld d T[i])).map MntD.id = T.map MntD.id := by
      refine List.ext_getElem (by simp) fun j h1 h2 => ?_
      simp only [List.getElem_map, List.getElem_set]
      split
      · rename_i e; subst e; rfl
      · rfl
    rw [this]; exact h.nodup
  · obtain ⟨m', g1, g2, _⟩ := hmem m hm
    rw [g2]; exact h.ids m' g1
  · obtain ⟨m', _, _, _, g4, g5⟩ := hmem m hm
    exact ⟨g4, g5⟩
theorem PInv.hold {T : List MntD} {nx k : Int} (h : PInv T nx k) (id : Int) (more : Bool) : PInv (holdT T id more).1 nx (k + 1) := by
  have hk : PInv T nx (k + 1) := h.mono (by omega)
  unfold holdT
  cases hf : T.findIdx? (fun m : MntD => decide (m.id = id)) with
  | none => exact hk
  | some i =>
    obtain ⟨hi, _⟩ := List.findIdx?_eq_some_iff_getElem.1 hf
    have e2 : T.getD i zeroM = T[i] := by simp [hi]
    have := h.held _ (List.getElem_mem hi)
    simp only [e2]
    split
    · exact h.set hi 1 (by omega)
    · split
      · exact hk
      · exact h.set hi (-1) (by omega)
theorem drop_toI (T : List MntD) (p : PlaceD) : unmountI (T.map MntD.toI) p.toI = ((dropT T p).1.map MntD.toI, (dropT T p).2) := by
  unfold unmountI dropT
  have h0 : p.toI.mount = p.m := rfl
  rw [down_toI, h0, fix_toI]
  cases hd : downT T p with
  | none => rfl
  | some q =>
    cases hf : T.findIdx? (fun m : MntD => decide (m.id = p.m)) with
    | none => rfl
    | some i =>
      obtain ⟨hi, _⟩ := List.findIdx?_eq_some_iff_getElem.1 hf
      have e1 : (T.map MntD.toI).getD i MntI.zero = T[i].toI := by simp [hi]
      have e2 : T.getD i zeroM = T[i] := by simp [hi]
      have hh : T[i].toI.held = T[i].held := rfl
      have ha : (T.map MntD.toI).any (standsInI p.m) = T.any (standsIn p.m) := by rw [List.any_map]; rfl
      simp only [Option.map_some, e1, e2, hh, ha]
      split
      · rfl
      · simp [List.eraseIdx_eq_take_drop_succ]
theorem PInv.drop {T : List MntD} {nx k : Int} (h : PInv T nx k) (p : PlaceD) : PInv (dropT T p).1 nx (k + 1) := by
  have hk : PInv T nx (k + 1) := h.mono (by omega)
  unfold dropT
  split
  · rename_i q i _ _
    split
    · exact hk
    · have hs : ∀ m ∈ T.eraseIdx i, m ∈ T := fun m hm => List.mem_of_mem_eraseIdx hm
      refine ⟨fun m hm => hk.older m (hs m hm), fun a ha b hb => hk.uniq a (hs a ha) b (hs b hb), ?_, Nat.le_trans (List.length_eraseIdx_le _ _) hk.len, fun m hm => hk.ids m (hs m hm), hk.nx0, hk.nx1, fun m hm => hk.held m (hs m hm)⟩
      have : (T.eraseIdx i).map MntD.id = (T.map MntD.id).eraseIdx i := by simp [List.eraseIdx_eq_take_drop_succ]
      rw [this]
      exact h.nodup.sublist (List.eraseIdx_sublist _ _)
  · exact hk
theorem used_toI (T : List MntD) (n : BitVec 16) : (T.map MntD.toI).any (usesI n.toNat) = T.any (uses n) := by
  rw [List.any_map]
  congr 1
  funext m
  have h1 : (m.toI.root = (n.toNat : Int)) ↔ m.root = n := toNat_inj _ _
  have h2 : (m.toI.at_.inode = (n.toNat : Int)) ↔ m.at_.i = n := toNat_inj _ _
  have h3 : m.toI.id = m.id := rfl
  simp only [Function.comp_apply, usesI, uses, h1, h2, h3]
end Go.AM
end
section
namespace Go.AM
variable {E : Sy} {H0 Z H : AH} {L : List Res} {Q : Value → AH → Prop}
theorem Has.refAt (h : Has H0 Z H L) {k p : Nat} {t : TreeI} {N : List NodeI} {M : List MntI} (hk : L[k]? = some (refR p t N M)) (hn : M.length < 2 ^ 62) : RefAt H p t M := refR.at_ (h.get hk) hn
theorem MntD.elem {H : AH} {v : Value} {l : List MntD} (h : Rows H 5 v (l.map MntD.cells)) {i : Nat} (hi : i < l.length) : ∃ b o, ixSlc 5 v (vi i) = some (ptr b o) ∧ (H.get b).row o 5 = some l[i].cells := by
  obtain ⟨b, o, f1, f2⟩ := h.ix (i := i) (by simpa using hi)
  simp only [List.getElem_map] at f2
  exact ⟨b, o, f1, f2⟩
theorem MntD.ext_iff (x y : MntD) : x = y ↔ x.id = y.id ∧ x.at_ = y.at_ ∧ x.root = y.root ∧ x.held = y.held := by cases x; cases y; simp
theorem MntD.same (x y : MntD) : sameCells [0, 0, 0, 0, 0] x.cells y.cells = some (decide (x = y)) := by
  simp only [MntD.ext_iff, PlaceD.ext_iff, Bool.decide_and, MntD.cells, sameCells_cons, sameCells_nil, same_i64, same_u16, Option.bind_some, Option.map_some, Bool.and_true, Bool.and_assoc]
@[simp high] theorem MntD.neq (x y : MntD) : binAgg [0, 0, 0, 0, 0] .neq (.agg x.cells.toArray) (.agg y.cells.toArray) = some (vb (decide (x ≠ y))) := by rw [binAgg_neq, MntD.same]; simp
@[simp high] theorem MntD.at0 (x : MntD) : x.cells[0]? = some (vi x.id) := nrf rfl
@[simp high] theorem MntD.at3 (x : MntD) : x.cells[3]? = some (u16 x.root) := nrf rfl
@[simp high] theorem MntD.at4 (x : MntD) : x.cells[4]? = some (vi x.held) := nrf rfl
@[simp high] theorem MntD.part1 (x : MntD) : (x.cells.drop 1).take 2 = x.at_.cells := nrf rfl
@[simp high] theorem PlaceD.at0 (x : PlaceD) : x.cells[0]? = some (vi x.m) := nrf rfl
@[simp high] theorem PlaceD.at1 (x : PlaceD) : x.cells[1]? = some (u16 x.i) := nrf rfl
@[simp high] theorem PlaceD.build (a : Int) (b : BitVec 16) : buildV [(0, 1), (1, 1)] #[vi 0, u16 0#16] [(0, vi a), (1, u16 b)] = some (PlaceD.v ⟨a, b⟩) := nrf rfl
@[simp high] theorem PlaceD.build0 : buildV [(0, 1), (1, 1)] #[vi 0, u16 0#16] [] = some (PlaceD.v ⟨0, 0#16⟩) := nrf rfl
section
variable {X0 : List Value → AH → Prop} {t1 t35 t36 : Value} {pt pr : Nat} {v : Value} {T : List MntD} {t : TreeI} {k : Int}
theorem S.MountPlays_j3 (hE : Fold E) (h : Has H0 Z H [tabR pt v T t.next, refR pr t refN (T.map MntD.toI)]) (ok : PInv T t.next k) (hk : k ≤ 1000) (i : Int) (hi : 0 ≤ i ∧ i < 2 ^ 62)
    (hX : ∀ H', Has H0 Z H' [tabR pt v T t.next, refR pr t refN (T.map MntD.toI)] → X0 [t1, ptr pt 0, ptr pr 0, t35, t36, vi (i + 1)] H') :
    F.pinfoldlaw17_MountPlays_j3 E Q X0 t1 (ptr pt 0) (ptr pr 0) t35 t36 (vi i) H := by
  have hlen := ok.len
  simp only [F.pinfoldlaw17_MountPlays_j3]
  refine S.mount_Table_List hE pt T _ (h.tab (k := 0) rfl (by omega)) (by omega) fun vl H1 e1 r1 => ?_
  have h1 := h.grow e1
  have hr1 := h1.refAt (k := 1) rfl (by rw [List.length_map]; omega)
  have hl1 := r1.lenSlc
  rw [List.length_map] at hl1
  have hl2 := hr1.len
  rw [List.length_map] at hl2
  simp [hl1, hr1.1, hl2]
  refine LoopL.count T.length (fun j s H' => s = [t1, ptr pt 0, ptr pr 0, t35, t36, vi i, vl, vi T.length, vi j] ∧ Ext H1 H') ?_ ⟨rfl, Ext.refl _⟩
  rintro j _ H2 X hj hX2 ⟨rfl, e2⟩
  simp only [F.pinfoldlaw17_MountPlays_l3, nth_0, nth_s]
  simp
  refine ifB_split (fun hlt => ?_) (fun hlt => ?_)
  · have hjl : j < T.length := by omega
    obtain ⟨b, o, f1, f2⟩ := MntD.elem (r1.mono e2) hjl
    have hget := ok.getT hjl
    generalize hm : T[j] = m at *
    have h2 := (h1.grow e2).newbox m.cells
    simp [f1, f2]
    refine S.mount_Table_Get hE pt T _ m.id (h2.tab (k := 0) rfl (by omega)) fun H3 e3 => ?_
    rw [hget]
    have h3 := (h2.grow e3).newbox m.cells
    have hr3 := h3.refAt (k := 1) rfl (by rw [List.length_map]; omega)
    obtain ⟨b5, o5, q1, q2, q3, q4, q5, q6, q7, q8⟩ := MntI.elem hr3.2.2 (i := j) (by simpa using hjl)
    simp only [List.getElem_map, hm] at q2 q3 q4 q5 q6 q7 q8
    simp [optM, hr3.1, q1, q2]
    have h4 := h3.newbox m.toI.cells
    have b2 := h4.box (k := 2) rfl
    have b3 := h4.box (k := 3) rfl
    have b4 := h4.box (k := 4) rfl
    have x4 : Ext H3 ((H3.new (.cells m.cells none)).new (.cells m.toI.cells none)) := ((Ext.refl H3).new _).new _
    generalize hH4 : (H3.new _).new _ = H4 at *
    have hid : m.toI.id = m.id := rfl
    have hroot : m.toI.root = m.root.toNat := rfl
    have hat : m.toI.at_ = m.at_.toI := rfl
    have hheld : m.toI.held = m.held := rfl
    simp at b2 b3 b4
    simp [b2, b3, b4, hid, hroot]
    refine S.pinfoldlaw17_Ref hE m.at_ fun H5 e5 => ?_
    have c2 := e5.cells b2
    have c4 := e5.cells b4
    simp [c2, c4, hat, hheld]
    refine ⟨by simp [b4, hat], ?_⟩
    rw [i64_inc (by omega), opt_some]
    exact hX2 hjl _ _ ⟨rfl, (((e2.new _).trans e3).trans x4).trans e5⟩
  · have : j = T.length := by omega
    subst this
    rw [i64_add (by omega) (by omega), opt_some]
    exact hX _ (h1.grow e2)
theorem S.MountPlays_j2 (hE : Fold E) (a : ActM) (q : PlaceD) (pa pq : Nat) (h : Has H0 Z H [tabR pt v T t.next, refR pr t refN (T.map MntD.toI), boxR pa a.cells, boxR pq q.cells]) (ok : PInv T t.next k) (hk : k ≤ 990) (i : Int) (hi : 0 ≤ i ∧ i < 2 ^ 62)
    (hX : ∀ H' v' T' t', PInv T' t'.next (k + 1) → Has H0 Z H' [tabR pt v' T' t'.next, refR pr t' refN (T'.map MntD.toI)] → X0 [t1, ptr pt 0, ptr pr 0, t35, t36, vi (i + 1)] H') :
    F.pinfoldlaw17_MountPlays_j2 E Q X0 t1 (ptr pt 0) (ptr pr 0) (ptr pa 0) (ptr pq 0) t35 t36 (vi i) H := by
  have hlen := ok.len
  have okT := ok.ok (by omega)
  have ba := h.box (k := 2) rfl
  have bq := h.box (k := 3) rfl
  have hnx := ok.nx1
  have hnx0 := ok.nx0
  have next : ∀ (H' : AH) (v' : Value) (T' : List MntD) (t' : TreeI), PInv T' t'.next (k + 1) → Has H0 Z H' [tabR pt v' T' t'.next, refR pr t' refN (T'.map MntD.toI)] → F.pinfoldlaw17_MountPlays_j3 E Q X0 t1 (ptr pt 0) (ptr pr 0) t35 t36 (vi i) H' :=
    fun H' v' T' t' ok' h' => S.MountPlays_j3 hE h' ok' (by omega) i hi fun H'' h'' => hX H'' v' T' t' ok' h''
  have hMl : (T.map MntD.toI).length < 2 ^ 20 := by rw [List.length_map]; omega
  have hMh : ∀ m ∈ T.map MntD.toI, 0 ≤ m.held ∧ m.held < 2 ^ 61 := by
    intro m hm
    obtain ⟨x, hx, rfl⟩ := List.mem_map.1 hm
    have := ok.held x hx
    have hh : x.toI.held = x.held := rfl
    omega
  simp only [F.pinfoldlaw17_MountPlays_j2]
  simp [ba]
  generalize hr : (BitVec.setWidth 16 (1#8 + a.root % 6#8)) = r
  by_cases c1 : a.kind.toNat % 8 < 4
  · simp [c1, bq]
    refine S.mount_Table_Bind' hE h (k := 0) rfl okT r q fun v1 H1 h1 => ?_
    simp only [List.set_cons_zero] at h1
    have b1 := h1.box (k := 3) rfl
    simp [b1]
    refine S.pinfoldlaw17_Ref hE q fun H2 e2 => ?_
    have h2 := h1.grow e2
    refine S.pinfoldref16_Tree_Bind hE pr t refN (T.map MntD.toI) (h2.get (k := 1) rfl) (h2.nodup (k := 1) rfl) hMl (by omega) _ _ fun t' H3 e3 u3 => ?_
    have h3 := h2.step (k := 1) rfl u3
    obtain ⟨g1, g2, g3, g4⟩ := bind_toI ok r q
    rw [g1] at h3
    rw [g2] at e3
    rw [g3, g4]
    simp
    refine next H3 v1 _ t' (e3 ▸ ok.bind r q) ?_
    rw [e3]
    exact (h3.drop 3).drop 2
  · simp [c1]
    by_cases c2 : a.kind.toNat % 8 < 6
    · simp [c2, bq]
      refine S.mount_Table_Drop' hE h (k := 0) rfl okT q fun v1 H1 h1 => ?_
      simp only [List.set_cons_zero] at h1
      have b1 := h1.box (k := 3) rfl
      simp [b1]
      refine ⟨by simp [bq], ?_⟩
      refine S.pinfoldlaw17_Ref hE q fun H2 e2 => ?_
      have h2 := h1.grow e2
      refine S.pinfoldref16_Tree_Unmount hE pr t refN (T.map MntD.toI) (h2.get (k := 1) rfl) (h2.nodup (k := 1) rfl) hMl _ fun t' H3 e3 u3 => ?_
      have h3 := h2.step (k := 1) rfl u3
      rw [drop_toI] at h3 ⊢
      simp
      refine next H3 v1 _ t' (e3 ▸ ok.drop q) ?_
      rw [e3]
      exact (h3.drop 3).drop 2
    · simp [c2, bq, ba]
      refine S.mount_Table_Hold' hE h (k := 0) rfl okT q.m a.more fun H1 h1 => ?_
      simp only [List.set_cons_zero] at h1
      have b1 := h1.box (k := 3) rfl
      have b2 := h1.box (k := 2) rfl
      simp [b1, b2]
      refine ⟨by simp [ba], by simp [bq], ?_⟩
      refine S.pinfoldref16_Tree_HoldMount hE pr t refN (T.map MntD.toI) (h1.get (k := 1) rfl) (h1.nodup (k := 1) rfl) (by omega) hMh _ _ fun H3 u3 => ?_
      have h3 := h1.step (k := 1) rfl u3
      rw [hold_toI] at h3 ⊢
      simp
      exact next H3 v _ t (ok.hold q.m a.more) ((h3.drop 3).drop 2)
theorem S.MountPlays_j1 (hE : Fold E) (h : Has H0 Z H [tabR pt v T t.next, refR pr t refN (T.map MntD.toI)]) (ok : PInv T t.next k) (hk : k ≤ 1000) (look : List PlaceD) (vl : Value) (hv : Rows H 2 vl (look.map PlaceD.cells)) (hl : look.length ≤ 20)
    (hQ : ∀ H', Q (vb true) H') : F.pinfoldlaw17_MountPlays_j1 E Q vl (ptr pt 0) (ptr pr 0) H := by
  have hlen := ok.len
  have okT := ok.ok hk
  simp only [F.pinfoldlaw17_MountPlays_j1]
  simp [-buildS_eq]
  have hb : buildS 4 2 #[vi 0, u16 0#16] [(0, PlaceD.v ⟨0, 0#16⟩), (1, PlaceD.v ⟨0, 3#16⟩), (2, PlaceD.v ⟨1, 2#16⟩), (3, PlaceD.v ⟨2, 1#16⟩)] = some (.cells (([⟨0, 0#16⟩, ⟨0, 3#16⟩, ⟨1, 2#16⟩, ⟨2, 1#16⟩] : List PlaceD).map PlaceD.cells).flatten none, mkSlc 4 4) :=
    buildS_full 4 2 [vi 0, u16 0#16] _ [PlaceD.v ⟨0, 0#16⟩, PlaceD.v ⟨0, 3#16⟩, PlaceD.v ⟨1, 2#16⟩, PlaceD.v ⟨2, 1#16⟩] rfl rfl rfl rfl (by simp)
  rw [hb, mk_some, mkSlc_eq]
  have x1 : Ext H (H.new (.cells (([⟨0, 0#16⟩, ⟨0, 3#16⟩, ⟨1, 2#16⟩, ⟨2, 1#16⟩] : List PlaceD).map PlaceD.cells).flatten none)) := (Ext.refl H).new _
  have g0 : Grow zH (H.new (.cells (([⟨0, 0#16⟩, ⟨0, 3#16⟩, ⟨1, 2#16⟩, ⟨2, 1#16⟩] : List PlaceD).map PlaceD.cells).flatten none)) 2 (slc H.next 0 4 4) (([⟨0, 0#16⟩, ⟨0, 3#16⟩, ⟨1, 2#16⟩, ⟨2, 1#16⟩] : List PlaceD).map PlaceD.cells) :=
    Grow.made (f := none) (zH_get _) (AH.get_new_self _ _) (.inl rfl) rfl (by intro r hr; obtain ⟨x, _, rfl⟩ := List.mem_map.1 hr; exact ⟨rfl, rfl⟩)
  generalize hH1 : H.new (.cells (([⟨0, 0#16⟩, ⟨0, 3#16⟩, ⟨1, 2#16⟩, ⟨2, 1#16⟩] : List PlaceD).map PlaceD.cells).flatten none) = H1 at *
  generalize hfs : ([⟨0, 0#16⟩, ⟨0, 3#16⟩, ⟨1, 2#16⟩, ⟨2, 1#16⟩] : List PlaceD) = fs at *
  have hfl : fs.length = 4 := by rw [← hfs]; rfl
  obtain ⟨w, H2, a1, x2, g2, _⟩ := newApp (bytes := 16) x1 g0 (fun b hb => by simp [blk] at hb; omega) (hv.mono x1) (by intro r hr; obtain ⟨x, _, rfl⟩ := List.mem_map.1 hr; rfl) (by omega) (by omega) (by simp; omega) (by simp; omega)
  rw [a1, opt2_some, ← List.map_append] at *
  have h2 := h.grow x2
  have r2 := g2.toRows
  have hl2 := r2.lenSlc
  rw [List.length_map] at hl2
  have hpl : (fs ++ look).length ≤ 24 := by simp; omega
  generalize fs ++ look = ps at *
  simp [hl2]
  refine LoopL.count ps.length (fun j s H' => s = [ptr pt 0, ptr pr 0, w, vi ps.length, vi j] ∧ Ext H2 H') ?_ ⟨rfl, Ext.refl _⟩
  rintro j _ H3 X hj hX ⟨rfl, e3⟩
  simp only [F.pinfoldlaw17_MountPlays_l1, nth_0, nth_s]
  simp
  refine ifB_split (fun hlt => ?_) (fun hlt => ?_)
  · have hjl : j < ps.length := by omega
    obtain ⟨b, o, f1, f2⟩ := (r2.mono e3).ix (i := j) (by simpa using hjl)
    simp only [List.getElem_map] at f2
    generalize ps[j] = q at *
    have h3 := (h2.grow e3).newbox q.cells
    have b3 := h3.box (k := 2) rfl
    simp [f1, f2]
    refine S.mount_Table_Down hE pt T _ q (h3.tab (k := 0) rfl (by omega)) fun H4 e4 => ?_
    have h4 := (h3.grow e4).newbox ((downT T q).getD ⟨0, 0#16⟩).cells
    have b4 := h4.box (k := 2) rfl
    simp [optP, b4]
    refine S.pinfoldlaw17_Ref hE q fun H5 e5 => ?_
    have h5 := h4.grow e5
    refine S.pinfoldref16_Tree_Down hE pr t _ (h5.refAt (k := 1) rfl (by rw [List.length_map]; omega)) q.toI fun H6 e6 => ?_
    rw [down_toI]
    have h6 := (h5.grow e6).newbox (((downT T q).map PlaceD.toI).getD PlaceI.zero).cells
    have b62 := h6.box (k := 2) rfl
    have b63 := h6.box (k := 3) rfl
    have b64 := h6.box (k := 4) rfl
    simp [b62]
    refine S.mount_Table_Seen hE pt T _ q (h6.tab (k := 0) rfl (by omega)) ok.older fun H7 e7 => ?_
    have h7 := h6.grow e7
    have b72 := h7.box (k := 2) rfl
    simp [b72, b62]
    refine S.pinfoldlaw17_Ref hE (seen T q) fun H8 e8 => ?_
    have h8 := h7.grow e8
    have b82 := h8.box (k := 2) rfl
    simp [b82, b62]
    refine S.pinfoldlaw17_Ref hE q fun H9 e9 => ?_
    have h9 := h8.grow e9
    refine S.pinfoldref16_Tree_Seen hE pr t _ (h9.refAt (k := 1) rfl (by rw [List.length_map]; omega)) q.toI fun H10 e10 => ?_
    rw [seen20 ok]
    have h10 := h9.grow e10
    have b102 := h10.box (k := 2) rfl
    have b103 := h10.box (k := 3) rfl
    have b104 := h10.box (k := 4) rfl
    try simp at b103 b104
    simp [b103, b104]
    refine S.pinfoldlaw17_Ref hE _ fun H11 e11 => ?_
    have h11 := h10.grow e11
    have b112 := h11.box (k := 2) rfl
    have b114 := h11.box (k := 4) rfl
    try simp at b114
    have hsm : ((downT T q).getD ⟨0, 0#16⟩).toI = ((downT T q).map PlaceD.toI).getD PlaceI.zero := by cases downT T q <;> rfl
    simp [b112, b114, b104, hsm]
    refine S.mount_Table_Used hE pt T _ q.i (h11.tab (k := 0) rfl (by omega)) fun H12 e12 => ?_
    have h12 := h11.grow e12
    have b122 := h12.box (k := 2) rfl
    simp [b122, b112]
    refine S.pinfoldref16_Tree_Used hE pr t _ (h12.refAt (k := 1) rfl (by rw [List.length_map]; omega)) q.i.toNat ?_
    rw [used_toI]
    simp
    rw [i64_inc (by omega), opt_some]
    exact hX hjl _ _ ⟨rfl, (((((((((((e3.new _).trans e4).new _).trans e5).trans e6).new _).trans e7).trans e8).trans e9).trans e10).trans e11).trans e12⟩
  · refine S.mount_Top hE fun H4 e4 => ?_
    simp
    exact hQ _
theorem S.pinfoldlaw17_MountPlays (hE : Fold E) (acts : List ActM) (look : List PlaceD) (va vl : Value) (hva : Rows H 8 va (acts.map ActM.cells)) (hvl : Rows H 2 vl (look.map PlaceD.cells)) (hQ : ∀ H', Q (vb true) H') : E.call (E.fid i.pinfoldlaw17_MountPlays) [va, vl] H Q := by
  apply hE.pinfoldlaw17_MountPlays
  refine S.pinfoldlaw17_Awake hE (Has.start (Ext.refl H)) fun H1 h1 => ?_
  have hl1 := hvl.lenSlc
  have hl2 := hva.lenSlc
  rw [List.length_map] at hl1 hl2
  simp [hl1]
  refine ifB_split (fun h => ?_) (fun h => ?_)
  · exact hQ _
  refine S.mount_New' hE h1 fun pt v0 H2 h2 => ?_
  simp only [List.nil_append] at h2
  have e1 : (Value.int .i64 1) = vi 1 := rfl
  rw [e1]
  refine S.pinfoldref16_New hE h2 1 fun pr t0 H3 n0 _ _ h3 => ?_
  simp only [List.singleton_append] at h3
  simp [hl2]
  have fin : ∀ (H' : AH) (v : Value) (T : List MntD) (t : TreeI) (k : Int), k ≤ 1000 → PInv T t.next k → Has H H H' [tabR pt v T t.next, refR pr t refN (T.map MntD.toI)] → F.pinfoldlaw17_MountPlays_j1 E Q vl (ptr pt 0) (ptr pr 0) H' := by
    intro H' v T t k hk ok h'
    exact S.MountPlays_j1 hE h' ok hk look vl (hvl.sub h'.sub) (by omega) hQ
  have hT0 : ([⟨0, 1, PlaceI.zero, 0⟩] : List MntI) = tab0.map MntD.toI := rfl
  rw [hT0] at h3
  have h3' : Has H H H3 [tabR pt v0 tab0 t0.next, refR pr t0 refN (tab0.map MntD.toI)] := by rw [n0]; exact h3
  refine LoopL.count acts.length (fun i s H' => s = [vl, ptr pt 0, ptr pr 0, va, vi acts.length, vi i] ∧ i ≤ 80 ∧ ∃ v T t, PInv T t.next i ∧ Has H H H' [tabR pt v T t.next, refR pr t refN (T.map MntD.toI)]) ?_ ⟨rfl, by omega, v0, tab0, t0, by rw [n0]; exact pinv0, h3'⟩
  rintro i _ H4 X hi hX ⟨rfl, hi80, v, T, t, ok, h4⟩
  simp only [F.pinfoldlaw17_MountPlays_l2, nth_0, nth_s]
  simp
  refine ifB_split (fun h => ?_) (fun h => ?_)
  · have hil : i < acts.length := by omega
    obtain ⟨b, o, f1, f2, _⟩ := ActM.elem (hva.sub h4.sub) hil
    generalize acts[i] = a at *
    simp [f1, f2]
    refine ifB_split (fun h => ?_) (fun h => ?_)
    · exact fin _ v T t i (by omega) ok (h4.new _)
    have step : ∀ (q : PlaceD) (H5 : AH), Has H H H5 [tabR pt v T t.next, refR pr t refN (T.map MntD.toI), boxR H4.next a.cells, boxR (H4.next + 1) q.cells] → F.pinfoldlaw17_MountPlays_j2 E Q X vl (ptr pt 0) (ptr pr 0) (ptr H4.next 0) (ptr (H4.next + 1) 0) va (vi acts.length) (vi i) H5 := by
      intro q H5 h5
      refine S.MountPlays_j2 hE a q _ _ h5 ok (by omega) i (by omega) fun H6 v' T' t' ok' h6 => ?_
      exact hX hil _ _ ⟨by simp, by omega, v', T', t', by simpa using ok', h6⟩
    have h5 := (h4.newbox a.cells).newbox (PlaceD.cells ⟨(a.mount.toNat : Int) % 6, BitVec.setWidth 16 (1#8 + a.inode % 6#8)⟩)
    simp
    simp at h5
    have b5 := h5.box (k := 2) rfl
    simp [b5]
    cases hraw : a.raw with
    | false =>
      simp
      exact step _ _ h5
    | true =>
      have h6 := h5.put (k := 3) rfl a.any.cells
      simp
      exact step _ _ (by simpa using (h4.newbox a.cells).newbox a.any.cells)
  · exact fin _ v T t i (by omega) ok h4
theorem S.law_MountPlays (hE : Fold E) (args : List Value) (ha : ArgsSV H [.slice 8 (.struct [.int .u8, .int .u8, .int .u8, .int .u8, .struct [.int .i64, .int .u16], .bool, .bool]), .slice 2 (.struct [.int .i64, .int .u16])] args) (hQ : ∀ H', Q (vb true) H') : E.call (E.fid i.pinfoldlaw17_MountPlays) args H Q := by
  obtain ⟨v1, _, rfl, h1, ha⟩ := ha.cons_inv
  obtain ⟨v2, _, rfl, h2, ha⟩ := ha.cons_inv
  obtain rfl := ha.nil_inv
  obtain ⟨l1, g1, _⟩ := ActM.ofSlice h1
  obtain ⟨l2, g2, _⟩ := PlaceD.ofSlice h2
  exact S.pinfoldlaw17_MountPlays hE l1 l2 v1 v2 g1 g2 hQ
end
end Go.AM
end
