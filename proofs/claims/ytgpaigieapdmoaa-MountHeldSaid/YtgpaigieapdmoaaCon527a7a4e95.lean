/- CONTRACTS ON THE PRINTED FUNCTIONS: Base, Res, Mount1, Mount2, Mount3, Mount4, Mount5, Mount6, Mount7, LawMountBack, LawMountHeld. -/
import Derived.Test.YtgpaigieapdmoaaF
import Derived.Test.YtgpaigieapdmoaaAmD
set_option linter.all false
section
/- words for heaps that change: what stays, what is frozen, slices that grow, maps -/
namespace Go.AM
/-! ### what else stays -/
def Only (F : List Nat) (H H' : AH) : Prop := H.next ≤ H'.next ∧ ∀ b, b < H.next → b ∉ F → H'.get b = H.get b
theorem Only.refl (F : List Nat) (H : AH) : Only F H H := ⟨Nat.le_refl _, fun _ _ _ => rfl⟩
theorem Only.trans {F F' : List Nat} {H H' H'' : AH} (h : Only F H H') (h' : Only F' H' H'') (hs : ∀ b ∈ F', b ∈ F ∨ H.next ≤ b) : Only F H H'' :=
  ⟨Nat.le_trans h.1 h'.1, fun b hb hf => by
    rw [h'.2 b (Nat.lt_of_lt_of_le hb h.1) (fun k => (hs b k).elim hf (fun k => by omega)), h.2 b hb hf]⟩
theorem Only.trans' {F : List Nat} {H H' H'' : AH} (h : Only F H H') (h' : Only F H' H'') : Only F H H'' := h.trans h' fun _ k => .inl k
theorem Only.new {F : List Nat} {H H' : AH} (h : Only F H H') (o : AObj) : Only F H (H'.new o) :=
  ⟨Nat.le_succ_of_le h.1, fun b hb hf => by rw [AH.get_new_lt _ _ (Nat.lt_of_lt_of_le hb h.1)]; exact h.2 b hb hf⟩
theorem Only.put {F : List Nat} {H H' : AH} (h : Only F H H') {b : Nat} (hb : b ∈ F ∨ H.next ≤ b) (o : AObj) : Only F H (H'.put b o) :=
  ⟨h.1, fun x hx hf => by rw [AH.get_put_ne _ _ (by rintro rfl; exact hb.elim hf (fun k => by omega))]; exact h.2 x hx hf⟩
theorem Ext.only {F : List Nat} {H H' : AH} (h : Ext H H') : Only F H H' := ⟨h.1, fun b hb _ => h.2 b hb⟩
theorem Only.get {F : List Nat} {H H' : AH} (h : Only F H H') {b : Nat} (hb : b < H.next) (hf : b ∉ F) : H'.get b = H.get b := h.2 b hb hf
theorem Only.obj {F : List Nat} {H H' : AH} (h : Only F H H') {b : Nat} {o : AObj} (ho : o ≠ .dead) (hg : H.get b = o) (hf : b ∉ F) : H'.get b = o := by
  rw [h.2 b (AH.lt_of_get (by rw [hg]; exact ho)) hf, hg]
theorem Only.cells {F : List Nat} {H H' : AH} (h : Only F H H') {b : Nat} {c : List Value} {f : Option Nat} (hg : H.get b = .cells c f) (hf : b ∉ F) : H'.get b = .cells c f := h.obj (by simp) hg hf
theorem Only.mono {F F' : List Nat} {H H' : AH} (h : Only F H H') (hs : ∀ b ∈ F, b ∈ F' ∨ H.next ≤ b) : Only F' H H' :=
  ⟨h.1, fun b hb hf => h.2 b hb fun k => (hs b k).elim hf (fun k => by omega)⟩
theorem Only.ext {F : List Nat} {H0 H H' : AH} (h : Only F H H') (e : Ext H0 H) (hs : ∀ b ∈ F, H0.next ≤ b) : Ext H0 H' :=
  ⟨Nat.le_trans e.1 h.1, fun b hb => by rw [h.2 b (Nat.lt_of_lt_of_le hb e.1) (fun k => by have := hs b k; omega)]; exact e.2 b hb⟩
/-! ### what is frozen -/
def Sub (Z H : AH) : Prop := Z.next ≤ H.next ∧ ∀ b, Z.get b ≠ .dead → H.get b = Z.get b
theorem Sub.refl (H : AH) : Sub H H := ⟨Nat.le_refl _, fun _ _ => rfl⟩
theorem Ext.sub {H H' : AH} (e : Ext H H') : Sub H H' := ⟨e.1, fun _ hb => e.get (AH.lt_of_get hb)⟩
theorem Sub.trans {A B C : AH} (h : Sub A B) (h' : Sub B C) : Sub A C := ⟨Nat.le_trans h.1 h'.1, fun b hb => by rw [h'.2 b (by rw [h.2 b hb]; exact hb), h.2 b hb]⟩
theorem Sub.ext {Z H H' : AH} (h : Sub Z H) (e : Ext H H') : Sub Z H' := h.trans e.sub
theorem Sub.new {Z H : AH} (h : Sub Z H) (o : AObj) : Sub Z (H.new o) := h.ext ((Ext.refl H).new o)
theorem Sub.put {Z H : AH} (h : Sub Z H) {b : Nat} (hb : Z.get b = .dead) (o : AObj) : Sub Z (H.put b o) :=
  ⟨h.1, fun x hx => by rw [AH.get_put_ne _ _ (by rintro rfl; exact hx hb)]; exact h.2 x hx⟩
theorem Sub.only {Z H H' : AH} {F : List Nat} (h : Sub Z H) (o : Only F H H') (hF : ∀ b ∈ F, Z.get b = .dead) : Sub Z H' :=
  ⟨Nat.le_trans h.1 o.1, fun b hb => by
    have h1 := h.2 b hb
    rw [o.2 b (AH.lt_of_get (by rw [h1]; exact hb)) (fun k => hb (hF b k)), h1]⟩
theorem Sub.cells {Z H : AH} (h : Sub Z H) {b : Nat} {c : List Value} {f : Option Nat} (hb : Z.get b = .cells c f) : H.get b = .cells c f := by
  rw [h.2 b (by rw [hb]; simp), hb]
theorem AH.get_ge (H : AH) {b : Nat} (h : H.next ≤ b) : H.get b = .dead := by simp [AH.get, Nat.not_lt.2 h]
theorem Rows.sub {Z H : AH} {sz : Nat} {v : Value} {rows : List (List Value)} (h : Rows Z sz v rows) (e : Sub Z H) : Rows H sz v rows := by
  refine ⟨h.len, ?_⟩
  rcases h.at_ with h | ⟨b, o, c, h1, h2, h3, h4⟩
  · exact .inl h
  · have := e.2 b (row_notdead h4)
    exact .inr ⟨b, o, c, h1, h2, by rw [this]; exact h3, by rw [this]; exact h4⟩
/-- One block more is frozen. -/
def AH.freeze (Z : AH) (n b : Nat) (o : AObj) : AH := { next := n, raw := fun x => if x = b then o else Z.get x }
theorem AH.get_freeze (Z : AH) (n b : Nat) (o : AObj) (x : Nat) (hn : Z.next ≤ n) (hb : b < n) : (Z.freeze n b o).get x = if x = b then o else Z.get x := by
  by_cases h : x = b
  · subst h; simp [AH.get, AH.freeze, hb]
  · by_cases k : x < n
    · simp [AH.get, AH.freeze, h, k]
    · have : ¬ x < Z.next := by omega
      simp [AH.get, AH.freeze, h, k, this]
theorem Sub.freeze {Z H : AH} (h : Sub Z H) {b : Nat} (hb : b < H.next) : Sub (Z.freeze H.next b (H.get b)) H :=
  ⟨Nat.le_refl _, fun x hx => by
    rw [AH.get_freeze _ _ _ _ _ h.1 hb] at hx ⊢
    split
    · rename_i e; rw [e]
    · rename_i e; rw [if_neg e] at hx; exact h.2 x hx⟩
theorem Sub.to_freeze {Z H : AH} (h : Sub Z H) {b : Nat} (hb : b < H.next) : Sub Z (Z.freeze H.next b (H.get b)) :=
  ⟨h.1, fun x hx => by
    rw [AH.get_freeze _ _ _ _ _ h.1 hb]
    split
    · rename_i e; rw [← h.2 x hx, e]
    · rfl⟩
/-! ### slices that grow -/
def Grow (Z H : AH) (sz : Nat) (v : Value) (rows : List (List Value)) : Prop :=
  (∀ r ∈ rows, r.length = sz ∧ r.all plain1 = true) ∧ ((rows = [] ∧ v = nilS) ∨ ∃ b f c cs, Z.get b = .dead ∧ v = slc b 0 rows.length c ∧ H.get b = .cells cs f ∧ rows.length ≤ c ∧ cs.length = c * sz ∧ cs.take (rows.length * sz) = rows.flatten ∧
    (f = none ∨ f = some sz))
section
variable {Z H H' : AH} {sz : Nat} {v : Value} {rows : List (List Value)}
theorem Grow.nil (Z H : AH) (sz : Nat) : Grow Z H sz nilS [] := ⟨by simp, .inl ⟨rfl, rfl⟩⟩
theorem Grow.made {b n : Nat} {f : Option Nat} (hb : Z.get b = .dead) (hg : H.get b = .cells rows.flatten f) (hf : f = none ∨ f = some sz) (hn : rows.length = n) (hr : ∀ r ∈ rows, r.length = sz ∧ r.all plain1 = true) : Grow Z H sz (slc b 0 n n) rows := by
  subst hn
  have hfl := flatten_length rows fun r h => (hr r h).1
  exact ⟨hr, .inr ⟨b, f, rows.length, rows.flatten, hb, rfl, hg, Nat.le_refl _, hfl, by rw [← hfl, List.take_length], hf⟩⟩
theorem Grow.room {b c : Nat} {cs : List Value} (hb : Z.get b = .dead) (hg : H.get b = .cells cs none) (hc : cs.length = c * sz) : Grow Z H sz (slc b 0 0 c) [] :=
  ⟨by simp, .inr ⟨b, none, c, cs, hb, rfl, hg, Nat.zero_le _, hc, by simp, .inl rfl⟩⟩
theorem Grow.toRows (h : Grow Z H sz v rows) : Rows H sz v rows := by
  rcases h.2 with ⟨rfl, rfl⟩ | ⟨b, f, c, cs, h1, rfl, h3, h4, h5, h6, h7⟩
  · exact Rows.nil _ _ none
  · refine ⟨fun r hr => (h.1 r hr).1, .inr ⟨b, 0, c, rfl, h4, ?_, ?_⟩⟩
    · rw [h3]; rcases h7 with rfl | rfl <;> simp [fits]
    · have : rows.length * sz ≤ c * sz := Nat.mul_le_mul_right _ h4
      rw [h3, row_cells, if_pos (by omega), List.drop_zero, h6]
theorem Grow.plain (h : Grow Z H sz v rows) : plain1 v = true := by
  rcases h.2 with ⟨_, rfl⟩ | ⟨b, f, c, cs, h1, rfl, _⟩ <;> rfl
theorem Grow.keep (h : Grow Z H sz v rows) (e : ∀ b, blk v = some b → b < H.next → H'.get b = H.get b) : Grow Z H' sz v rows := by
  refine ⟨h.1, ?_⟩
  rcases h.2 with h | ⟨b, f, c, cs, h1, rfl, h3, h4⟩
  · exact .inl h
  · exact .inr ⟨b, f, c, cs, h1, rfl, by rw [e b rfl (AH.lt_cells h3)]; exact h3, h4⟩
theorem Grow.ext (h : Grow Z H sz v rows) (e : Ext H H') : Grow Z H' sz v rows := h.keep fun b _ hb => e.get hb
theorem Grow.only {F : List Nat} (h : Grow Z H sz v rows) (e : Only F H H') (hf : ∀ b, blk v = some b → b ∉ F) : Grow Z H' sz v rows := h.keep fun b k hb => e.get hb (hf b k)
theorem Grow.blk_dead (h : Grow Z H sz v rows) {b : Nat} (hb : blk v = some b) : Z.get b = .dead := by
  rcases h.2 with ⟨_, rfl⟩ | ⟨b', f, c, cs, h1, rfl, _⟩
  · simp [blk] at hb
  · simp [blk] at hb; subst hb; exact h1
theorem Grow.blk_lt (h : Grow Z H sz v rows) {b : Nat} (hb : blk v = some b) : b < H.next := by
  rcases h.2 with ⟨_, rfl⟩ | ⟨b', f, c, cs, h1, rfl, h3, _⟩
  · simp [blk] at hb
  · simp [blk] at hb; subst hb; exact AH.lt_cells h3
theorem Grow.refreeze {Z' : AH} (h : Grow Z H sz v rows) (hz : ∀ b, blk v = some b → Z'.get b = .dead) : Grow Z' H sz v rows := by
  refine ⟨h.1, ?_⟩
  rcases h.2 with h | ⟨b, f, c, cs, h1, rfl, h3⟩
  · exact .inl h
  · exact .inr ⟨b, f, c, cs, hz b rfl, rfl, h3⟩
def blkL (v : Value) : List Nat := match blk v with | some b => [b] | none => []
theorem mem_blkL {v : Value} {b : Nat} : b ∈ blkL v ↔ blk v = some b := by
  unfold blkL
  cases blk v <;> simp [eq_comm]
/-- A slice that grew is frozen. -/
theorem Grow.freeze (h : Grow Z H sz v rows) (hz : Sub Z H) : ∃ Z', Sub Z Z' ∧ Sub Z' H ∧ Rows Z' sz v rows ∧ ∀ b, blk v ≠ some b → Z'.get b = Z.get b := by
  have hr := h.toRows
  rcases h.2 with ⟨rfl, rfl⟩ | ⟨b, f, c, cs, h1, rfl, h3, h4, h5, h6, h7⟩
  · exact ⟨Z, Sub.refl _, hz, Rows.nil _ _ none, fun _ _ => rfl⟩
  · have hlt := AH.lt_cells h3
    have hg : ∀ x, (Z.freeze H.next b (H.get b)).get x = if x = b then H.get b else Z.get x := fun x => AH.get_freeze _ _ _ _ _ hz.1 hlt
    refine ⟨Z.freeze H.next b (H.get b), hz.to_freeze hlt, hz.freeze hlt, ?_, fun x hx => ?_⟩
    · refine ⟨hr.len, ?_⟩
      rcases hr.at_ with ⟨g1, a, g2⟩ | ⟨b', o, c', g1, g2, g3, g4⟩
      · exact .inl ⟨g1, a, g2⟩
      · simp only [Value.slice.injEq, Option.some.injEq, Addr.mk.injEq] at g1
        obtain ⟨⟨rfl, rfl, _⟩, _, rfl⟩ := g1
        exact .inr ⟨b, 0, c, rfl, g2, by rw [hg, if_pos rfl]; exact g3, by rw [hg, if_pos rfl]; exact g4⟩
    · rw [hg, if_neg (by rintro rfl; exact hx rfl)]
def Grew' (H H' : AH) (v v' : Value) : Prop := Only (blkL v) H H' ∧ ∀ b, blk v' = some b → blk v = some b ∨ H.next ≤ b
theorem Grow.app (h : Grow Z H sz v rows) (hZ : Z.next ≤ H.next) {bytes : Nat} {x : Value} {new : List (List Value)} (hx : Rows H sz x new) (hp : ∀ r ∈ new, r.all plain1 = true)
    (hs : sz ≠ 0) (hb : bytes ≠ 0) (h1 : (rows.length + new.length) * bytes ≤ 2 ^ 46) (h2 : rows.length + new.length < 2 ^ 62) :
    ∃ v' H', AM.app sz bytes v x H = some (v', H') ∧ Grow Z H' sz v' (rows ++ new) ∧ Grew' H H' v v' := by
  have hrows := h.toRows
  have hall : ∀ r ∈ rows ++ new, r.length = sz ∧ r.all plain1 = true := by
    intro r hr
    rcases List.mem_append.1 hr with hr | hr
    · exact h.1 r hr
    · exact ⟨hx.len r hr, hp r hr⟩
  have hpn : new.flatten.all plain1 = true := all_flatten hp
  have hpo : rows.flatten.all plain1 = true := all_flatten fun r hr => (h.1 r hr).2
  have hfn := flatten_length new hx.len
  have hfo := flatten_length rows fun r hr => (h.1 r hr).1
  have hnew : srcRow sz new.length x H = some new.flatten := firstRow_rows hx
  rcases h.2 with ⟨rfl, rfl⟩ | ⟨b, f, c, cs, g1, rfl, g3, g4, g5, g6, g7⟩
  · by_cases hn : new = []
    · subst hn
      refine ⟨nilS, H, ?_, ⟨by simp, .inl ⟨rfl, rfl⟩⟩, Only.refl _ _, fun b hb => .inl hb⟩
      have e := lenO_rows hx
      simp at e hnew
      simp [AM.app, e, hnew]
    · have hpos : 0 < new.length := List.length_pos_iff.2 hn
      refine ⟨slc H.next 0 new.length new.length, H.new (.cells new.flatten (some sz)), ?_, Grow.made (AH.get_ge _ hZ) (AH.get_new_self _ _) (.inr rfl) (by simp) (by simpa using hall), (Only.refl _ _).new _, fun b hb => .inr (by simp [blk] at hb; omega)⟩
      simp only [AM.app, lenO_rows hx, hnew, Option.bind_some, hpn, Bool.not_true, Bool.false_eq_true, if_false]
      simp at h1 h2
      rw [if_neg (by omega), if_neg (by simp; omega)]
      simp [firstRow]
  · have hlt := AH.lt_cells g3
    have hbl : blkL (slc b 0 rows.length c) = [b] := rfl
    have hmul : (rows.length + new.length) * sz = rows.length * sz + new.length * sz := Nat.add_mul _ _ _
    by_cases hcap : rows.length + new.length ≤ c
    · have hle : (rows.length + new.length) * sz ≤ c * sz := Nat.mul_le_mul_right _ hcap
      refine ⟨slc b 0 (rows.length + new.length) c, H.put b (.cells (splice cs (rows.length * sz) new.flatten) f), ?_, ⟨hall, .inr ⟨b, f, c, _, g1, by simp, AH.get_put_self _ _ hlt, by simpa using hcap, ?_, ?_, ?_⟩⟩, (Only.refl _ _).put (.inl (by simp [hbl])) _, fun b' hb' => .inl (by simpa [blk] using hb')⟩
      · simp only [AM.app, lenO_rows hx, hnew, Option.bind_some, hpn, Bool.not_true, Bool.false_eq_true, if_false]
        rw [if_pos hcap]
        simp only [Option.isSome_none, Bool.false_eq_true, if_false, g3]
        rw [if_pos (by omega), Nat.zero_add]
      · rw [splice_length (by omega)]; exact g5
      · simp only [List.length_append, List.flatten_append, hmul, splice]
        rw [List.take_append_of_le_length (by rw [List.length_append, List.length_take, hfn]; omega), List.take_of_length_le (by rw [List.length_append, List.length_take, hfn]; omega), g6]
      · exact g7
    · have hold : firstRow sz rows.length (slc b 0 rows.length c) H = some rows.flatten := by
        have : rows.length * sz ≤ c * sz := Nat.mul_le_mul_right _ g4
        simp only [firstRow, Option.isSome_none, Bool.false_eq_true, if_false, g3, row_cells]
        rw [if_pos (by omega), List.drop_zero, g6]
      have hfin : ∀ H1 : AH, H1.next = H.next → AM.app sz bytes (slc b 0 rows.length c) x H = some (mkSlc (rows.length + new.length) (rows.length + new.length) H.next, H1.new (.cells (rows.flatten ++ new.flatten) (some sz))) →
          Only [b] H H1 →
          ∃ v' H', AM.app sz bytes (slc b 0 rows.length c) x H = some (v', H') ∧ Grow Z H' sz v' (rows ++ new) ∧ Grew' H H' (slc b 0 rows.length c) v' := by
        intro H1 e1 e2 e3
        exact ⟨_, _, e2, Grow.made (AH.get_ge _ hZ) (by rw [← e1, AH.get_new_self, List.flatten_append]) (.inr rfl) (by simp) hall, by rw [hbl]; exact e3.new _, fun b' hb' => .inr (by simp [blk] at hb'; omega)⟩
      have pre : AM.app sz bytes (slc b 0 rows.length c) x H = (match f with
          | none => some (mkSlc (rows.length + new.length) (rows.length + new.length) H.next, H.new (.cells (rows.flatten ++ new.flatten) (some sz)))
          | some e => if e = sz then some (mkSlc (rows.length + new.length) (rows.length + new.length) H.next, (H.put b .dead).new (.cells (rows.flatten ++ new.flatten) (some sz))) else none) := by
        simp only [AM.app, lenO_rows hx, hnew, Option.bind_some, hpn, Bool.not_true, Bool.false_eq_true, if_false]
        rw [if_neg hcap, if_neg (by omega), hold]
        simp only [Option.bind_some, hpo, Bool.not_true, Bool.false_eq_true, if_false, g3]
        cases f <;> rfl
      rcases g7 with rfl | rfl
      · exact hfin H rfl pre (Only.refl _ _)
      · exact hfin (H.put b .dead) rfl (by rw [pre]; simp) ((Only.refl _ _).put (.inl (by simp)) _)
/-- One element more, as the code makes it: a slice of one, appended. -/
theorem Grow.app1 (h : Grow Z H sz v rows) (hZ : Z.next ≤ H.next) {bytes : Nat} (new : List Value) (hl : new.length = sz) (hp : new.all plain1 = true) (hs : sz ≠ 0) (hb : bytes ≠ 0) (h1 : (rows.length + 1) * bytes ≤ 2 ^ 46) :
    ∃ v' H', AM.app sz bytes v (slc H.next 0 1 1) (H.new (.cells new none)) = some (v', H') ∧ Grow Z H' sz v' (rows ++ [new]) ∧ Grew' H H' v v' := by
  have hb1 : 1 ≤ bytes := by omega
  have h2 : (rows.length + 1) * 1 ≤ (rows.length + 1) * bytes := Nat.mul_le_mul_left _ hb1
  obtain ⟨v', H', a1, a2, a3, a4⟩ := (h.ext ((Ext.refl H).new (.cells new none))).app (Nat.le_succ_of_le hZ) (bytes := bytes) (x := slc H.next 0 1 1) (new := [new]) (Rows.made (f := none) (by rw [AH.get_new_self]; simp) (.inl rfl) rfl (by simpa using hl)) (by simpa using hp) hs hb h1 (by simp at *; omega)
  refine ⟨v', H', a1, a2, ⟨by have := a3.1; simp at this; omega, fun b hb hf => ?_⟩, fun b hb => (a4 b hb).imp id fun k => by simp at k; omega⟩
  rw [a3.2 b (by simp; omega) hf, AH.get_new_lt _ _ hb]
end
theorem row_all (c : List Value) (f : Option Nat) (n : Nat) (h : c.length = n) : (AObj.cells c f).row 0 n = some c := by
  rw [row_cells, if_pos (by omega), List.drop_zero, List.take_of_length_le (by omega)]
/-! ### tables -/
theorem splice_mid (a b c v : List Value) (h : b.length = v.length) : splice (a ++ b ++ c) a.length v = a ++ v ++ c := by
  have h1 : (a ++ b ++ c).take a.length = a := by rw [List.append_assoc, List.take_left' rfl]
  have h2 : (a ++ b ++ c).drop (a.length + v.length) = c := by rw [← h, ← List.length_append, List.drop_left' rfl]
  simp only [splice, h1, h2]
theorem fillL_full (size : Nat) : ∀ (vs : List Value) (k : Nat) (pre post : List Value), pre.length = k * size → post.length = vs.length * size → (∀ v ∈ vs, (vcells v).length = size) →
    fillL (fun i => some (i * size, size)) (pre ++ post) ((List.range' k vs.length).zip vs) = some (pre ++ vs.flatMap vcells)
  | [], k, pre, post, _, h2, _ => by
    simp at h2
    simp [h2]
  | v :: vs, k, pre, post, h1, h2, h3 => by
    have hv := h3 v (by simp)
    have e : post = post.take size ++ post.drop size := (List.take_append_drop _ _).symm
    have hl : (post.take size).length = size := by rw [List.length_take, h2, List.length_cons, Nat.succ_mul]; omega
    have hs : splice (pre ++ post) (k * size) (vcells v) = (pre ++ vcells v) ++ post.drop size := by
      conv => lhs; rw [e]
      rw [← h1, ← List.append_assoc, splice_mid _ _ _ _ (by omega)]
    simp only [List.length_cons, List.range'_succ, List.zip_cons_cons, fillL_cons]
    rw [hv, hs]
    have ih := fillL_full size vs (k + 1) (pre ++ vcells v) (post.drop size) (by rw [List.length_append, h1, hv, Nat.succ_mul]) (by rw [List.length_drop, h2, List.length_cons, Nat.succ_mul]; omega) (fun x hx => h3 x (by simp [hx]))
    rw [ih]
    have hle : k * size + size ≤ pre.length + post.length := by rw [h1, h2, List.length_cons, Nat.succ_mul]; omega
    simp [hle]
/-- A slice made of as many parts as it has elements. -/
theorem buildS_full (len size : Nat) (zero : List Value) (parts : List (Nat × Value)) (vs : List Value) (hz : zero.length = size) (hp : parts = (List.range' 0 vs.length).zip vs) (hn : vs.length = len) (hd : vs.all defd = true) (hl : ∀ v ∈ vs, (vcells v).length = size) :
    buildS len size zero.toArray parts = some (.cells (vs.flatMap vcells) none, mkSlc len len) := by
  subst hp hn
  rw [buildS_eq _ _ _ _ hz]
  have h1 : ((List.range' 0 vs.length).zip vs).all (fun p => defd p.2) = true := by
    rw [List.all_eq_true] at hd ⊢
    intro p hp
    exact hd _ (List.of_mem_zip hp).2
  have := fillL_full size vs 0 [] (List.replicate vs.length zero).flatten (by simp) (by simp [hz]) hl
  simp only [List.nil_append] at this
  simp [h1, this]
  rfl
theorem buildS_one (size : Nat) (zero cs : List Value) (hz : zero.length = size) (h : cs.length = size) : buildS 1 size zero.toArray [(0, .agg cs.toArray)] = some (.cells cs none, mkSlc 1 1) := by
  have := buildS_full 1 size zero [(0, .agg cs.toArray)] [.agg cs.toArray] hz rfl rfl rfl (by simpa using h)
  simpa using this
theorem buildS_val (zero x : Value) (h : vcells x = [x]) (hd : defd x = true) : buildS 1 1 #[zero] [(0, x)] = some (.cells [x] none, mkSlc 1 1) := by
  have := buildS_full 1 1 [zero] [(0, x)] [x] rfl rfl rfl (by simp [hd]) (by simp [h])
  simpa [h] using this
@[simp] theorem callV_func (c : CallT) (g : FuncId) (a b : Array Value) (args : List Value) (H : AH) (K : Value → AH → Prop) : callV c (.func (.func g) a b) args H K = c g (a.toList ++ args ++ b.toList) H K := nrfl rfl
theorem nodup_le {α : Type} [DecidableEq α] : ∀ (l m : List α), l.Nodup → (∀ x ∈ l, x ∈ m) → l.length ≤ m.length
  | [], m, _, _ => Nat.zero_le _
  | x :: l, m, hn, hs => by
    have hx := hs x (by simp)
    rw [List.nodup_cons] at hn
    have := nodup_le l (m.erase x) hn.2 fun y hy => (List.mem_erase_of_ne (by rintro rfl; exact hn.1 hy)).2 (hs y (by simp [hy]))
    rw [List.length_erase_of_mem hx] at this
    have := List.length_pos_of_mem hx
    simp only [List.length_cons]
    omega
theorem lookup_set {K : Type} [DecidableEq K] {V : Type} (k : K) : ∀ l : List (K × V), (l.map fun p => (p.1, true)).lookup k = if k ∈ l.map Prod.fst then some true else none
  | [] => rfl
  | p :: l => by
    have ih := lookup_set k l
    by_cases e : k = p.1
    · simp [e, List.lookup]
    · have e' : (k == p.1) = false := by simpa using e
      simp only [List.map_cons, List.lookup, e', ih, List.mem_cons, e, false_or]
/-! ### numbers -/
theorem i64_rem_nat (a b : Nat) (hb : b ≠ 0) : binInt .rem (vi a) (vi b) = some (vi ((a % b : Nat) : Int)) := by
  rw [binInt_rem _ _ _ (by omega)]
  simp [Int.tmod]
theorem i64_quo_nat (a b : Nat) (hb : b ≠ 0) (ha : a < 2 ^ 63) : binInt .quo (vi a) (vi b) = some (vi ((a / b : Nat) : Int)) := by
  have h1 : a / b ≤ a := Nat.div_le_self _ _
  rw [binInt_quo _ _ _ (by omega)]
  have e : (a : Int).tdiv b = ((a / b : Nat) : Int) := by simp [Int.tdiv]
  rw [e]
  generalize a / b = q at *
  rw [wrap_i64 (by omega) (by omega)]
theorem i64_add_nat (a b : Nat) (h : a + b < 2 ^ 63) : binInt .add (vi a) (vi b) = some (vi ((a + b : Nat) : Int)) := by
  rw [i64_add (by omega) (by omega)]; simp
theorem i64_rem_num (a n : Nat) (hn : n ≠ 0) : binInt .rem (vi a) (vi (no_index (OfNat.ofNat n))) = some (vi ((a % n : Nat) : Int)) := i64_rem_nat a n hn
theorem i64_quo_num (a n : Nat) (hn : n ≠ 0) (ha : a < 2 ^ 63) : binInt .quo (vi a) (vi (no_index (OfNat.ofNat n))) = some (vi ((a / n : Nat) : Int)) := i64_quo_nat a n hn ha
/-! ### maps -/
/-- A map's entries, in the order in which they came. -/
def MapAt {K V : Type} (fk : K → Value) (fv : V → Value) (H : AH) (r : Nat) (l : List (K × V)) : Prop :=
  ∃ es clock, H.get r = .map es clock true ∧ es.map (fun e => (e.key, e.val)) = l.map fun p => (fk p.1, fv p.2)
def aset {K V : Type} [DecidableEq K] (k : K) (v : V) : List (K × V) → List (K × V)
  | [] => [(k, v)]
  | p :: l => if p.1 = k then (k, v) :: l else p :: aset k v l
section
variable {K V : Type} [DecidableEq K] {fk : K → Value} {fv : V → Value} {H : AH} {r kd : Nat}
theorem MapAt.lt {l : List (K × V)} (h : MapAt fk fv H r l) : r < H.next := by
  obtain ⟨es, clock, h1, _⟩ := h
  exact AH.lt_of_get (by rw [h1]; simp)
theorem MapAt.keep {H' : AH} {l : List (K × V)} (h : MapAt fk fv H r l) (e : H'.get r = H.get r) : MapAt fk fv H' r l := by
  obtain ⟨es, clock, h1, h2⟩ := h
  exact ⟨es, clock, by rw [e]; exact h1, h2⟩
theorem MapAt.new (H : AH) : MapAt fk fv (H.new (.map [] 0 true)) H.next ([] : List (K × V)) := ⟨[], 0, AH.get_new_self _ _, rfl⟩
theorem findE_told (hk : ∀ a b, sameCell kd (fk a) (fk b) = some (decide (a = b))) (k : K) : ∀ (es : List MapEntry) (l : List (K × V)), es.map (fun e => (e.key, e.val)) = l.map (fun p => (fk p.1, fv p.2)) →
    findE kd (fk k) es = some ((l.findIdx? fun p => decide (k = p.1)).bind fun i => (l[i]?).map fun p => (i, fv p.2))
  | [], [], _ => rfl
  | [], _ :: _, h => by simp at h
  | _ :: _, [], h => by simp at h
  | e :: es, p :: l, h => by
    simp only [List.map_cons, List.cons.injEq, Prod.mk.injEq] at h
    obtain ⟨⟨h1, h2⟩, h3⟩ := h
    have ih := findE_told hk k es l h3
    simp only [findE, h1, hk, Option.bind_some]
    by_cases e : k = p.1
    · simp [e, h2, List.findIdx?_cons]
    · simp only [e, decide_false, ih, Option.map_some, List.findIdx?_cons, if_false, Bool.false_eq_true]
      congr 1
      cases l.findIdx? fun p => decide (k = p.1) <;> simp
      rename_i i
      cases l[i]? <;> rfl
theorem lookup_findIdx (k : K) : ∀ l : List (K × V), (l.findIdx? fun p => decide (k = p.1)).bind (fun i => (l[i]?).map fun p => (i, fv p.2)) = (l.findIdx? fun p => decide (k = p.1)).bind (fun i => (l.lookup k).map fun v => (i, fv v))
  | [] => rfl
  | p :: l => by
    have ih := lookup_findIdx k l
    by_cases e : k = p.1
    · subst e
      simp [List.findIdx?_cons, List.lookup]
    · have e' : (k == p.1) = false := by simpa using e
      simp only [List.findIdx?_cons, e, decide_false, Bool.false_eq_true, if_false, List.lookup, e']
      cases hf : l.findIdx? fun p => decide (k = p.1) with
      | none => simp
      | some i =>
        rw [hf] at ih
        simp at ih ⊢
        cases h1 : l[i]? <;> cases h2 : l.lookup k <;> simp [h1, h2] at ih ⊢
        exact ih
theorem findIdx_lookup (k : K) : ∀ l : List (K × V), (l.findIdx? fun p => decide (k = p.1)) = none ↔ l.lookup k = none
  | [] => by simp
  | p :: l => by
    have ih := findIdx_lookup k l
    by_cases e : k = p.1
    · subst e; simp [List.findIdx?_cons, List.lookup]
    · have e' : (k == p.1) = false := by simpa using e
      simp only [List.findIdx?_cons, e, decide_false, Bool.false_eq_true, if_false, List.lookup, e']
      rw [Option.map_eq_none_iff]
      exact ih
theorem MapAt.look {l : List (K × V)} (h : MapAt fk fv H r l) (hk : ∀ a b, sameCell kd (fk a) (fk b) = some (decide (a = b))) (k : K) (zero : Value) (ok : Bool) :
    AM.look kd zero ok (.map (some r)) (fk k) H = some (match l.lookup k with | some v => (if ok then .tuple #[fv v, .bool true] else fv v) | none => (if ok then .tuple #[zero, .bool false] else zero)) := by
  obtain ⟨es, clock, h1, h2⟩ := h
  simp only [AM.look, entriesOf, h1, Option.bind_some]
  rw [findE_told hk k es l h2, lookup_findIdx]
  have := findIdx_lookup k l
  cases hf : l.findIdx? fun p => decide (k = p.1) with
  | none =>
    have this := this.1 hf
    simp only [this, Option.bind_none, Option.map_some]
  | some i =>
    rw [hf] at this
    cases hl : l.lookup k with
    | none => rw [hl] at this; simp at this
    | some v => simp
theorem aset_found (k : K) (v : V) : ∀ (l : List (K × V)) (i : Nat), (l.findIdx? fun p => decide (k = p.1)) = some i → aset k v l = l.set i (k, v)
  | [], i, h => by simp at h
  | p :: l, i, h => by
    by_cases e : k = p.1
    · subst e
      simp [List.findIdx?_cons] at h
      subst h
      simp [aset]
    · have e' : ¬ p.1 = k := fun x => e x.symm
      simp only [List.findIdx?_cons, e, decide_false, Bool.false_eq_true, if_false, Option.map_eq_some_iff] at h
      obtain ⟨j, h1, rfl⟩ := h
      simp [aset, e', aset_found k v l j h1]
theorem aset_none (k : K) (v : V) : ∀ (l : List (K × V)), (l.findIdx? fun p => decide (k = p.1)) = none → aset k v l = l ++ [(k, v)]
  | [], _ => rfl
  | p :: l, h => by
    by_cases e : k = p.1
    · subst e; simp [List.findIdx?_cons] at h
    · have e' : ¬ p.1 = k := fun x => e x.symm
      simp only [List.findIdx?_cons, e, decide_false, Bool.false_eq_true, if_false, Option.map_eq_none_iff] at h
      simp [aset, e', aset_none k v l h]
theorem MapAt.set {l : List (K × V)} (h : MapAt fk fv H r l) (hk : ∀ a b, sameCell kd (fk a) (fk b) = some (decide (a = b))) (k : K) (v : V) :
    ∃ o, o ≠ .dead ∧ setMap kd (.map (some r)) (fk k) (fv v) H = some (H.put r o) ∧ MapAt fk fv (H.put r o) r (aset k v l) := by
  have hlt := h.lt
  obtain ⟨es, clock, h1, h2⟩ := h
  have hlen : es.length = l.length := by simpa using congrArg List.length h2
  simp only [setMap, h1]
  rw [findE_told hk k es l h2]
  cases hf : l.findIdx? fun p => decide (k = p.1) with
  | none =>
    refine ⟨.map (es ++ [{ key := fk k, val := fv v, born := clock }]) (clock + 1) true, by simp, by simp, _, _, AH.get_put_self _ _ hlt, ?_⟩
    rw [aset_none k v l hf, List.map_append, List.map_append, h2]
    rfl
  | some i =>
    have hi : i < l.length := by
      have := List.findIdx?_eq_some_iff_getElem.1 hf
      exact this.1
    refine ⟨.map (es.modify i fun e => { e with key := fk k, val := fv v }) clock true, by simp, by simp [hi], _, _, AH.get_put_self _ _ hlt, ?_⟩
    rw [aset_found k v l i hf]
    apply List.ext_getElem?
    intro j
    have := congrArg (fun x => x[j]?) h2
    simp only [List.getElem?_map] at this
    simp only [List.getElem?_map, List.getElem?_modify, List.getElem?_set]
    by_cases e : i = j
    · subst e
      simp [hi]
      have : i < es.length := by omega
      simp [this]
    · simp [e, this]
end
theorem aset_new {K : Type} [DecidableEq K] {V W : Type} (k : K) (w : W) (f : V → W) : ∀ (l : List (K × V)), k ∉ l.map Prod.fst → aset k w (l.map fun p => (p.1, f p.2)) = (l.map fun p => (p.1, f p.2)) ++ [(k, w)]
  | [], _ => rfl
  | p :: l, h => by
    simp only [List.map_cons, List.mem_cons, not_or] at h
    have e : ¬ p.1 = k := fun x => h.1 x.symm
    simp only [List.map_cons, aset, e, if_false, aset_new k w f l h.2, List.cons_append]
end Go.AM
end
section
/- resources: what a stretch of code owns and changes, each with its blocks, none of them shared -/
namespace Go.AM
structure Res where
  fp : List Nat
  P : AH → Prop
  keep : ∀ {H H' : AH}, P H → (∀ b ∈ fp, H'.get b = H.get b) → P H'
structure Has (H0 Z H : AH) (L : List Res) : Prop where
  ext : Ext H0 H
  sub : Sub Z H
  all : ∀ r ∈ L, r.P H ∧ ∀ b ∈ r.fp, H0.next ≤ b ∧ b < H.next ∧ Z.get b = .dead
  nd : (L.flatMap Res.fp).Nodup
/-- One resource becomes another one. -/
structure Upd (r r' : Res) (H H' : AH) : Prop where
  only : Only r.fp H H'
  holds : r'.P H'
  fp : ∀ b ∈ r'.fp, (b ∈ r.fp ∨ H.next ≤ b) ∧ b < H'.next
  nd : r'.fp.Nodup
theorem Upd.trans {r r' r'' : Res} {H H' H'' : AH} (h : Upd r r' H H') (h' : Upd r' r'' H' H'') : Upd r r'' H H'' :=
  ⟨h.only.trans h'.only fun b hb => (h.fp b hb).1, h'.holds, fun b hb => ⟨by
    rcases (h'.fp b hb).1 with k | k
    · exact (h.fp b k).1
    · exact .inr (Nat.le_trans h.only.1 k), (h'.fp b hb).2⟩, h'.nd⟩
theorem Upd.ext {r r' : Res} {H H' H'' : AH} (h : Upd r r' H H') (e : Ext H' H'') : Upd r r' H H'' :=
  ⟨h.only.trans (e.only (F := [])) (by simp), r'.keep h.holds fun b hb => e.get (h.fp b hb).2, fun b hb => ⟨(h.fp b hb).1, Nat.lt_of_lt_of_le (h.fp b hb).2 e.1⟩, h.nd⟩
theorem Upd.after {r r' : Res} {H H' H'' : AH} (e : Ext H H') (h : Upd r r' H' H'') : Upd r r' H H'' :=
  ⟨(e.only (F := r.fp)).trans' h.only, h.holds, fun b hb => ⟨(h.fp b hb).1.imp id fun k => Nat.le_trans e.1 k, (h.fp b hb).2⟩, h.nd⟩
theorem Upd.refl {r : Res} {H : AH} (h : r.P H) (hf : ∀ b ∈ r.fp, b < H.next) (hn : r.fp.Nodup) : Upd r r H H := ⟨Only.refl _ _, h, fun b hb => ⟨.inl hb, hf b hb⟩, hn⟩
/-- More is frozen; of what lay ahead of a place, nothing more. -/
def Fz (n : Nat) (Z Z' : AH) : Prop := Sub Z Z' ∧ ∀ b, b < n → Z'.get b = Z.get b
theorem Fz.refl (n : Nat) (Z : AH) : Fz n Z Z := ⟨Sub.refl _, fun _ _ => rfl⟩
theorem Fz.trans {n : Nat} {A B C : AH} (h : Fz n A B) (h' : Fz n B C) : Fz n A C := ⟨h.1.trans h'.1, fun b hb => (h'.2 b hb).trans (h.2 b hb)⟩
theorem Fz.le {n m : Nat} {A B : AH} (h : Fz n A B) (hm : m ≤ n) : Fz m A B := ⟨h.1, fun b hb => h.2 b (Nat.lt_of_lt_of_le hb hm)⟩
/-- A new block, frozen at once. -/
theorem Sub.newfrozen {Z H : AH} (h : Sub Z H) (o : AObj) : ∃ Z', Fz H.next Z Z' ∧ Sub Z' (H.new o) ∧ Z'.get H.next = o := by
  have hs : Sub Z (H.new o) := h.new o
  have hlt : H.next < (H.new o).next := by simp
  refine ⟨Z.freeze (H.new o).next H.next ((H.new o).get H.next), ⟨hs.to_freeze hlt, fun b hb => ?_⟩, hs.freeze hlt, ?_⟩
  · rw [AH.get_freeze _ _ _ _ _ hs.1 hlt, if_neg (by omega)]
  · rw [AH.get_freeze _ _ _ _ _ hs.1 hlt, if_pos rfl, AH.get_new_self]
/-- What a callee froze, beside what was frozen. -/
theorem Fz.dead {n : Nat} {Z Z' : AH} (h : Fz n Z Z') {b : Nat} (hb : b < n) (hd : Z.get b = .dead) : Z'.get b = .dead := by rw [h.2 b hb, hd]
section
variable {H0 Z H H' : AH} {L : List Res}
theorem Has.begin (e : Ext H0 H) (s : Sub Z H) : Has H0 Z H [] := ⟨e, s, by simp, by simp⟩
/-- A callee has made what is frozen now. -/
theorem Has.refreeze (h : Has H0 Z H L) {Z' : AH} (e : Ext H H') (f : Fz H.next Z Z') (s : Sub Z' H') : Has H0 Z' H' L :=
  ⟨h.ext.trans e, s, fun r hr => by
    obtain ⟨h1, h2⟩ := h.all r hr
    exact ⟨r.keep h1 fun b hb => e.get (h2 b hb).2.1, fun b hb => ⟨(h2 b hb).1, Nat.lt_of_lt_of_le (h2 b hb).2.1 e.1, f.dead (h2 b hb).2.1 (h2 b hb).2.2⟩⟩, h.nd⟩
theorem Has.start (e : Ext H0 H) : Has H0 H H [] := ⟨e, Sub.refl _, by simp, by simp⟩
theorem Has.get (h : Has H0 Z H L) {k : Nat} {r : Res} (hk : L[k]? = some r) : r.P H := (h.all r (List.mem_of_getElem? hk)).1
theorem Has.lt (h : Has H0 Z H L) {k : Nat} {r : Res} (hk : L[k]? = some r) {b : Nat} (hb : b ∈ r.fp) : b < H.next := ((h.all r (List.mem_of_getElem? hk)).2 b hb).2.1
theorem Has.grow (h : Has H0 Z H L) (e : Ext H H') : Has H0 Z H' L :=
  ⟨h.ext.trans e, h.sub.ext e, fun r hr => by
    obtain ⟨h1, h2⟩ := h.all r hr
    exact ⟨r.keep h1 fun b hb => e.get (h2 b hb).2.1, fun b hb => ⟨(h2 b hb).1, Nat.lt_of_lt_of_le (h2 b hb).2.1 e.1, (h2 b hb).2.2⟩⟩, h.nd⟩
theorem Has.new (h : Has H0 Z H L) (o : AObj) : Has H0 Z (H.new o) L := h.grow ((Ext.refl H).new o)
theorem Has.add (h : Has H0 Z H L) (r : Res) (e : Ext H H') (hp : r.P H') (hf : ∀ b ∈ r.fp, H.next ≤ b ∧ b < H'.next) (hn : r.fp.Nodup) : Has H0 Z H' (L ++ [r]) := by
  have g := h.grow e
  refine ⟨g.ext, g.sub, fun x hx => ?_, ?_⟩
  · rcases List.mem_append.1 hx with hx | hx
    · exact g.all x hx
    · simp only [List.mem_singleton] at hx; subst hx
      exact ⟨hp, fun b hb => ⟨Nat.le_trans h.ext.1 (hf b hb).1, (hf b hb).2, AH.get_ge _ (Nat.le_trans h.sub.1 (hf b hb).1)⟩⟩
  · rw [List.flatMap_append, List.nodup_append]
    refine ⟨h.nd, by simpa using hn, fun a ha b hb => ?_⟩
    simp only [List.mem_flatMap] at ha
    obtain ⟨y, hy, ha⟩ := ha
    have := ((h.all y hy).2 a ha).2.1
    have := (hf b (by simpa using hb)).1
    omega
/-- Blocks of two places are not the same. -/
theorem nodup_disj : ∀ {L : List Res} (_ : (L.flatMap Res.fp).Nodup) {i j : Nat} {r s : Res} (_ : L[i]? = some r) (_ : L[j]? = some s) (_ : i ≠ j) {b : Nat} (_ : b ∈ r.fp), b ∉ s.fp
  | [], _, i, j, r, s, hi, _, _, b, _ => by simp at hi
  | x :: L, hn, i, j, r, s, hi, hj, hij, b, hb => by
    rw [List.flatMap_cons, List.nodup_append] at hn
    obtain ⟨_, h2, h3⟩ := hn
    intro hs
    cases i with
    | zero =>
      cases j with
      | zero => exact hij rfl
      | succ j =>
        simp at hi; subst hi
        exact h3 b hb b (List.mem_flatMap.2 ⟨s, List.mem_of_getElem? (by simpa using hj), hs⟩) rfl
    | succ i =>
      cases j with
      | zero =>
        simp at hj; subst hj
        exact h3 b hs b (List.mem_flatMap.2 ⟨r, List.mem_of_getElem? (by simpa using hi), hb⟩) rfl
      | succ j => exact nodup_disj h2 (by simpa using hi) (by simpa using hj) (by omega) hb hs
theorem nodup_set : ∀ {L : List Res} (_ : (L.flatMap Res.fp).Nodup) {n : Nat} (_ : ∀ r ∈ L, ∀ b ∈ r.fp, b < n) {k : Nat} {r r' : Res} (_ : L[k]? = some r) (_ : ∀ b ∈ r'.fp, b ∈ r.fp ∨ n ≤ b) (_ : r'.fp.Nodup), ((L.set k r').flatMap Res.fp).Nodup
  | [], _, n, _, k, r, r', hk, _, _ => by simp at hk
  | x :: L, hn, n, hlt, k, r, r', hk, hf, hr => by
    rw [List.flatMap_cons, List.nodup_append] at hn
    obtain ⟨h1, h2, h3⟩ := hn
    cases k with
    | zero =>
      simp at hk; subst hk
      rw [List.set_cons_zero, List.flatMap_cons, List.nodup_append]
      refine ⟨hr, h2, fun a ha b hb => ?_⟩
      rcases hf a ha with h | h
      · exact h3 a h b hb
      · obtain ⟨y, hy, hb⟩ := List.mem_flatMap.1 hb
        have := hlt y (by simp [hy]) b hb
        omega
    | succ k =>
      rw [List.set_cons_succ, List.flatMap_cons, List.nodup_append]
      refine ⟨h1, nodup_set h2 (fun r hr => hlt r (by simp [hr])) (by simpa using hk) hf hr, fun a ha b hb => ?_⟩
      obtain ⟨y, hy, hb⟩ := List.mem_flatMap.1 hb
      rcases List.mem_or_eq_of_mem_set hy with hy | e
      · exact h3 a ha b (List.mem_flatMap.2 ⟨y, hy, hb⟩)
      · subst e
        rcases hf b ‹b ∈ y.fp› with h | h
        · exact h3 a ha b (List.mem_flatMap.2 ⟨r, List.mem_of_getElem? (by simpa using hk), h⟩)
        · have := hlt x (by simp) a ha
          omega
theorem Has.step (h : Has H0 Z H L) {k : Nat} {r r' : Res} (hk : L[k]? = some r) (u : Upd r r' H H') : Has H0 Z H' (L.set k r') := by
  have hr := h.all r (List.mem_of_getElem? hk)
  refine ⟨u.only.ext h.ext fun b hb => (hr.2 b hb).1, h.sub.only u.only fun b hb => (hr.2 b hb).2.2, fun x hx => ?_, nodup_set h.nd (fun r hr b hb => ((h.all r hr).2 b hb).2.1) hk (fun b hb => (u.fp b hb).1) u.nd⟩
  obtain ⟨j, hj, hjx⟩ := List.getElem_of_mem hx
  by_cases e : k = j
  · subst e
    rw [List.getElem_set_self] at hjx
    subst hjx
    refine ⟨u.holds, fun b hb => ⟨?_, (u.fp b hb).2, ?_⟩⟩
    · rcases (u.fp b hb).1 with g | g
      · exact (hr.2 b g).1
      · exact Nat.le_trans h.ext.1 g
    · rcases (u.fp b hb).1 with g | g
      · exact (hr.2 b g).2.2
      · exact AH.get_ge _ (Nat.le_trans h.sub.1 g)
  · rw [List.getElem_set_ne e] at hjx
    have hj' : j < L.length := by simpa using hj
    have hjx' : L[j]? = some x := by rw [List.getElem?_eq_getElem hj', hjx]
    obtain ⟨h1, h2⟩ := h.all x (List.mem_of_getElem? hjx')
    refine ⟨x.keep h1 fun b hb => u.only.get (h2 b hb).2.1 (nodup_disj h.nd hjx' hk (Ne.symm e) hb), fun b hb => ⟨(h2 b hb).1, Nat.lt_of_lt_of_le (h2 b hb).2.1 u.only.1, (h2 b hb).2.2⟩⟩
theorem nodup_erase : ∀ {L : List Res} (_ : (L.flatMap Res.fp).Nodup) (k : Nat), ((L.eraseIdx k).flatMap Res.fp).Nodup
  | [], _, _ => by simp
  | x :: L, hn, 0 => by
    rw [List.flatMap_cons, List.nodup_append] at hn
    exact hn.2.1
  | x :: L, hn, k + 1 => by
    rw [List.flatMap_cons, List.nodup_append] at hn
    rw [List.eraseIdx_cons_succ, List.flatMap_cons, List.nodup_append]
    refine ⟨hn.1, nodup_erase hn.2.1 k, fun a ha b hb => ?_⟩
    obtain ⟨y, hy, hb⟩ := List.mem_flatMap.1 hb
    exact hn.2.2 a ha b (List.mem_flatMap.2 ⟨y, List.mem_of_mem_eraseIdx hy, hb⟩)
theorem Has.drop (h : Has H0 Z H L) (k : Nat) : Has H0 Z H (L.eraseIdx k) :=
  ⟨h.ext, h.sub, fun r hr => h.all r (List.mem_of_mem_eraseIdx hr), nodup_erase h.nd k⟩
theorem freeze_all (h : Sub Z H) : ∀ (l : List Nat), (∀ b ∈ l, b < H.next) → ∃ Z', Sub Z Z' ∧ Sub Z' H ∧ (∀ b ∈ l, Z'.get b = H.get b) ∧ ∀ b, b ∉ l → Z'.get b = Z.get b
  | [], _ => ⟨Z, Sub.refl _, h, by simp, fun _ _ => rfl⟩
  | b :: l, hl => by
    obtain ⟨Z', h1, h2, h3, h4⟩ := freeze_all h l fun x hx => hl x (by simp [hx])
    have hb := hl b (by simp)
    have hg : ∀ x, (Z'.freeze H.next b (H.get b)).get x = if x = b then H.get b else Z'.get x := fun x => AH.get_freeze _ _ _ _ _ h2.1 hb
    refine ⟨_, h1.trans (h2.to_freeze hb), h2.freeze hb, fun x hx => ?_, fun x hx => ?_⟩
    · rw [hg]
      split
      · rename_i e; rw [e]
      · rename_i e; exact h3 x (by simpa [e] using hx)
    · simp only [List.mem_cons, not_or] at hx
      rw [hg, if_neg hx.1, h4 x hx.2]
/-- A resource is never changed any more. -/
theorem Has.freeze (h : Has H0 Z H L) {k : Nat} {r : Res} (hk : L[k]? = some r) : ∃ Z', Fz H0.next Z Z' ∧ r.P Z' ∧ Has H0 Z' H (L.eraseIdx k) := by
  have hr := h.all r (List.mem_of_getElem? hk)
  obtain ⟨Z', h1, h2, h3, h4⟩ := freeze_all h.sub r.fp fun b hb => (hr.2 b hb).2.1
  refine ⟨Z', ⟨h1, fun b hb => h4 b fun hm => ?_⟩, r.keep hr.1 h3, h.ext, h2, fun x hx => ?_, nodup_erase h.nd k⟩
  · have := (hr.2 b hm).1
    omega
  obtain ⟨j, hjk, hj⟩ := List.mem_eraseIdx_iff_getElem?.1 hx
  obtain ⟨g1, g2⟩ := h.all x (List.mem_of_getElem? hj)
  exact ⟨g1, fun b hb => ⟨(g2 b hb).1, (g2 b hb).2.1, by rw [h4 b (nodup_disj h.nd hj hk hjk hb)]; exact (g2 b hb).2.2⟩⟩
end
/-! ### boxes, slices that grow, maps -/
def boxR (b : Nat) (c : List Value) : Res := ⟨[b], fun H => H.get b = .cells c none, fun h e => by rw [e _ (by simp)]; exact h⟩
def zH : AH := ⟨0, fun _ => .dead⟩
theorem zH_get (b : Nat) : zH.get b = .dead := by simp [AH.get, zH]
def growR (sz : Nat) (v : Value) (rows : List (List Value)) : Res := ⟨blkL v, fun H => Grow zH H sz v rows, fun h e => h.keep fun b hb _ => e b (mem_blkL.2 hb)⟩
def mapR {K V : Type} [DecidableEq K] (fk : K → Value) (fv : V → Value) (r : Nat) (l : List (K × V)) : Res := ⟨[r], fun H => MapAt fk fv H r l, fun h e => h.keep (e _ (by simp))⟩
section
variable {H0 Z H H' : AH} {L : List Res}
theorem blkL_nodup (v : Value) : (blkL v).Nodup := by unfold blkL; split <;> simp
theorem Has.box (h : Has H0 Z H L) {k b : Nat} {c : List Value} (hk : L[k]? = some (boxR b c)) : H.get b = .cells c none := h.get hk
theorem Has.box_lt (h : Has H0 Z H L) {k b : Nat} {c : List Value} (hk : L[k]? = some (boxR b c)) : b < H.next := AH.lt_cells (h.box hk)
theorem Has.newbox (h : Has H0 Z H L) (c : List Value) : Has H0 Z (H.new (.cells c none)) (L ++ [boxR H.next c]) :=
  h.add _ ((Ext.refl H).new _) (AH.get_new_self _ _) (by simp [boxR]) (by simp [boxR])
theorem Has.put (h : Has H0 Z H L) {k b : Nat} {c : List Value} (hk : L[k]? = some (boxR b c)) (c' : List Value) : Has H0 Z (H.put b (.cells c' none)) (L.set k (boxR b c')) :=
  h.step hk ⟨(Only.refl _ _).put (.inl (by simp [boxR])) _, AH.get_put_self _ _ (h.box_lt hk), fun x hx => ⟨.inl hx, by simp [boxR] at hx; subst hx; exact h.box_lt hk⟩, by simp [boxR]⟩
theorem Has.nils (h : Has H0 Z H L) (sz : Nat) : Has H0 Z H (L ++ [growR sz nilS []]) :=
  h.add _ (Ext.refl H) (Grow.nil _ _ _) (by simp [growR, blkL, blk]) (by simp [growR, blkL, blk])
theorem Has.slice (h : Has H0 Z H L) {k sz : Nat} {v : Value} {rows : List (List Value)} (hk : L[k]? = some (growR sz v rows)) : Grow zH H sz v rows := h.get hk
theorem Has.rows (h : Has H0 Z H L) {k sz : Nat} {v : Value} {rows : List (List Value)} (hk : L[k]? = some (growR sz v rows)) : Rows H sz v rows := (h.slice hk).toRows
theorem Grow.upd {sz : Nat} {v v' : Value} {rows rows' : List (List Value)} (g : Grew' H H' v v') (h' : Grow zH H' sz v' rows') : Upd (growR sz v rows) (growR sz v' rows') H H' :=
  ⟨g.1, h', fun b hb => ⟨(g.2 b (mem_blkL.1 hb)).imp mem_blkL.2 id, h'.blk_lt (mem_blkL.1 hb)⟩, blkL_nodup v'⟩
theorem Has.app1 (h : Has H0 Z H L) {k sz : Nat} {v : Value} {rows : List (List Value)} (hk : L[k]? = some (growR sz v rows)) {bytes : Nat} (new : List Value) (hl : new.length = sz) (hp : new.all plain1 = true) (hs : sz ≠ 0) (hb : bytes ≠ 0) (h1 : (rows.length + 1) * bytes ≤ 2 ^ 46) :
    ∃ v' H', AM.app sz bytes v (slc H.next 0 1 1) (H.new (.cells new none)) = some (v', H') ∧ plain1 v' = true ∧ Has H0 Z H' (L.set k (growR sz v' (rows ++ [new]))) := by
  obtain ⟨v', H', a1, a2, a3⟩ := (h.slice hk).app1 (Nat.zero_le _) new hl hp hs hb h1
  exact ⟨v', H', a1, a2.plain, h.step hk (Grow.upd a3 a2)⟩
theorem Has.app (h : Has H0 Z H L) {k sz : Nat} {v x : Value} {rows new : List (List Value)} (hk : L[k]? = some (growR sz v rows)) {bytes : Nat} (hx : Rows H sz x new) (hp : ∀ r ∈ new, r.all plain1 = true) (hs : sz ≠ 0) (hb : bytes ≠ 0) (h1 : (rows.length + new.length) * bytes ≤ 2 ^ 46) (h2 : rows.length + new.length < 2 ^ 62) :
    ∃ v' H', AM.app sz bytes v x H = some (v', H') ∧ plain1 v' = true ∧ Has H0 Z H' (L.set k (growR sz v' (rows ++ new))) := by
  obtain ⟨v', H', a1, a2, a3⟩ := (h.slice hk).app (Nat.zero_le _) hx hp hs hb h1 h2
  exact ⟨v', H', a1, a2.plain, h.step hk (Grow.upd a3 a2)⟩
theorem Has.newroom (h : Has H0 Z H L) (sz : Nat) : Has H0 Z (H.new (.cells [] none)) (L ++ [growR sz (slc H.next 0 0 0) []]) :=
  h.add _ ((Ext.refl H).new _) (Grow.room (zH_get _) (AH.get_new_self _ _) (by simp)) (by simp [growR, blkL, blk]) (by simp [growR, blkL, blk])
theorem Has.mapAt {K V : Type} [DecidableEq K] {fk : K → Value} {fv : V → Value} (h : Has H0 Z H L) {k r : Nat} {l : List (K × V)} (hk : L[k]? = some (mapR fk fv r l)) : MapAt fk fv H r l := h.get hk
theorem Has.newmap {K V : Type} [DecidableEq K] (fk : K → Value) (fv : V → Value) (h : Has H0 Z H L) : Has H0 Z (H.new (.map [] 0 true)) (L ++ [mapR fk fv H.next ([] : List (K × V))]) :=
  h.add _ ((Ext.refl H).new _) (MapAt.new H) (by simp [mapR]) (by simp [mapR])
theorem Has.mapset {K V : Type} [DecidableEq K] {fk : K → Value} {fv : V → Value} (h : Has H0 Z H L) {n r kd : Nat} {l : List (K × V)} (hn : L[n]? = some (mapR fk fv r l)) (hk : ∀ a b, sameCell kd (fk a) (fk b) = some (decide (a = b))) (k : K) (v : V) :
    ∃ H', setMap kd (.map (some r)) (fk k) (fv v) H = some H' ∧ Has H0 Z H' (L.set n (mapR fk fv r (aset k v l))) := by
  have hm := h.mapAt hn
  obtain ⟨o, h1, h2, h3⟩ := hm.set hk k v
  exact ⟨_, h2, h.step hn ⟨(Only.refl _ _).put (.inl (by simp [mapR])) _, h3, fun x hx => ⟨.inl hx, by simp [mapR] at hx; subst hx; exact hm.lt⟩, by simp [mapR]⟩⟩
end
end Go.AM
end
section
namespace Go.AM
variable {E : Sy} {H : AH} {Q : Value → AH → Prop}
structure PlaceD where
  m : Int
  i : BitVec 16
  deriving DecidableEq
def PlaceD.cells (p : PlaceD) : List Value := [vi p.m, u16 p.i]
abbrev PlaceD.v (p : PlaceD) : Value := .agg p.cells.toArray
structure MntD where
  id : Int
  at_ : PlaceD
  root : BitVec 16
  held : Int
  deriving DecidableEq
def MntD.cells (m : MntD) : List Value := [vi m.id, vi m.at_.m, u16 m.at_.i, u16 m.root, vi m.held]
abbrev MntD.v (m : MntD) : Value := .agg m.cells.toArray
theorem MntD.cells_plain (m : MntD) : m.cells.all plain1 = true := rfl
@[simp] theorem nilp_some (a : Addr) : binNil eqPtr .eql (.pointer (some a)) (.pointer none) = some (.bool false) := rfl
@[simp] theorem nilp_none : binNil eqPtr .eql (.pointer none) (.pointer none) = some (.bool true) := rfl
@[simp] theorem nilp_some' (a : Addr) : binNil eqPtr .neq (.pointer (some a)) (.pointer none) = some (.bool true) := rfl
@[simp] theorem nilp_none' : binNil eqPtr .neq (.pointer none) (.pointer none) = some (.bool false) := rfl
@[simp] theorem nilCk_ptr (a : Addr) : nilCk (.pointer (some a)) = some (.pointer (some a)) := rfl
/-- The first place where a test holds; below 0: nowhere. -/
def ixOf {α : Type} (P : α → Bool) (l : List α) : Int := match l.findIdx? P with | some i => (i : Int) | none => -1
theorem S.slices_IndexFunc_mount_Mount (hE : Fold E) (T : List MntD) (hT : T.length < 2 ^ 63) (v f : Value) (hv : Rows H 5 v (T.map MntD.cells)) (P : MntD → Bool)
    (hf : ∀ H' m (K : Value → AH → Prop), Ext H H' → m ∈ T → (∀ H'', Ext H' H'' → K (vb (P m)) H'') → callV E.call f [MntD.v m] H' K)
    (hQ : ∀ H', Ext H H' → Q (vi (ixOf P T)) H') : E.call (E.fid i.slices_IndexFunc_mount_Mount) [v, f] H Q := by
  apply hE.slices_IndexFunc_mount_Mount
  have hl := hv.lenSlc
  rw [List.length_map] at hl
  simp [F.slices_IndexFunc_mount_Mount, hl]
  refine LoopL.count T.length (fun j s H' => s = [v, f, vi T.length, vi j] ∧ Ext H H' ∧ ∀ i (hi : i < T.length), i < j → P T[i] = false) ?_ ⟨rfl, Ext.refl _, fun i _ h => by omega⟩
  rintro j _ H' X hj hX ⟨rfl, e1, hn⟩
  simp only [F.slices_IndexFunc_mount_Mount_l1, nth_0, nth_1, nth_2, nth_3, i64_lss, opt_some]
  refine ifB_split (fun h => ?_) (fun h => ?_)
  · have hjl : j < T.length := by omega
    obtain ⟨b, o, f1, f2⟩ := (hv.mono e1).ix (i := j) (by simpa using hjl)
    simp only [List.getElem_map] at f2
    simp only [f1, opt_some, loadN_ptr, f2, Option.map_some]
    refine hf H' T[j] _ e1 (List.getElem_mem hjl) fun H2 e2 => ?_
    cases hp : P T[j] with
    | true =>
      have : ixOf P T = (j : Int) := by
        have : T.findIdx? P = some j := List.findIdx?_eq_some_iff_getElem.2 ⟨hjl, hp, fun i hi => by simpa using hn i (by omega) hi⟩
        simp [ixOf, this]
      simp only [ifB_true]
      rw [← this]
      exact hQ _ (e1.trans e2)
    | false =>
      simp only [ifB_false]
      rw [i64_inc (by omega), opt_some]
      refine hX hjl _ _ ⟨rfl, e1.trans e2, fun i hi hij => ?_⟩
      by_cases e : i = j
      · subst e; exact hp
      · exact hn i hi (by omega)
  · have : j = T.length := by omega
    subst this
    have : ixOf P T = -1 := by
      have : T.findIdx? P = none := by
        rw [List.findIdx?_eq_none_iff]
        intro x hx
        obtain ⟨i, hi, rfl⟩ := List.getElem_of_mem hx
        exact hn i hi hi
      simp [ixOf, this]
    rw [← this]
    exact hQ _ e1
theorem S.slices_ContainsFunc_mount_Mount (hE : Fold E) (T : List MntD) (hT : T.length < 2 ^ 63) (v f : Value) (hv : Rows H 5 v (T.map MntD.cells)) (P : MntD → Bool)
    (hf : ∀ H' m (K : Value → AH → Prop), Ext H H' → m ∈ T → (∀ H'', Ext H' H'' → K (vb (P m)) H'') → callV E.call f [MntD.v m] H' K)
    (hQ : ∀ H', Ext H H' → Q (vb (T.any P)) H') : E.call (E.fid i.slices_ContainsFunc_mount_Mount) [v, f] H Q := by
  apply hE.slices_ContainsFunc_mount_Mount
  refine S.slices_IndexFunc_mount_Mount hE T hT v f hv P hf fun H' e => ?_
  have : T.any P = decide (0 ≤ ixOf P T) := by
    unfold ixOf
    cases h : T.findIdx? P with
    | none =>
      rw [List.findIdx?_eq_none_iff] at h
      simpa using h
    | some i =>
      obtain ⟨hi, h2, _⟩ := List.findIdx?_eq_some_iff_getElem.1 h
      simp
      exact ⟨_, List.getElem_mem hi, h2⟩
  simp
  rw [← this]
  exact hQ _ e
/-- A table, as it can be read. -/
def TabAt (H : AH) (p : Nat) (T : List MntD) (nx : Int) : Prop := T.length < 2 ^ 62 ∧ ∃ v, H.get p = .cells [v, vi nx] none ∧ Rows H 5 v (T.map MntD.cells)
theorem TabAt.mono {H H' : AH} {p : Nat} {T : List MntD} {nx : Int} (h : TabAt H p T nx) (e : Ext H H') : TabAt H' p T nx := by
  obtain ⟨h0, v, h1, h2⟩ := h
  exact ⟨h0, v, e.cells h1, h2.mono e⟩
theorem S.mount_Table_find_1 (hE : Fold E) (m : MntD) (b : Nat) (id : Int) (hb : H.get b = .cells [vi id] none) (hQ : ∀ H', Ext H H' → Q (vb (decide (m.id = id))) H') : E.call (E.fid i.mount_Table_find_1) [m.v, ptr b 0] H Q := by
  apply hE.mount_Table_find_1
  have hlt := AH.lt_cells hb
  simp [F.mount_Table_find_1, MntD.cells, AH.get_new, Nat.ne_of_lt hlt, hb]
  exact hQ _ ((Ext.refl _).new _)
def findT (T : List MntD) (id : Int) : Int := ixOf (fun m => decide (m.id = id)) T
theorem S.mount_Table_find (hE : Fold E) (p : Nat) (T : List MntD) (nx id : Int) (hT : TabAt H p T nx) (hQ : ∀ H', Ext H H' → Q (vi (findT T id)) H') : E.call (E.fid i.mount_Table_find) [ptr p 0, vi id] H Q := by
  apply hE.mount_Table_find
  obtain ⟨h0, v, h1, h2⟩ := hT
  have hlt := AH.lt_cells h1
  have hb : boxO (vi id) = some (.cells [vi id] none, mkPtr) := rfl
  have x1 : Ext H (H.new (.cells [vi id] none)) := (Ext.refl H).new _
  simp [F.mount_Table_find, hb, AH.get_new, Nat.ne_of_lt hlt, h1]
  refine S.slices_IndexFunc_mount_Mount hE T (by omega) v _ (h2.mono x1) (fun m => decide (m.id = id)) (fun H' m K e _ hK => ?_) fun H' e => hQ _ (x1.trans e)
  simp
  exact S.mount_Table_find_1 hE m H.next id (e.cells (AH.get_new_self _ _)) hK
end Go.AM
end
section
namespace Go.AM
variable {E : Sy} {H : AH} {Q : Value → AH → Prop}
theorem ixOf_cases {α : Type} (P : α → Bool) (l : List α) : (l.find? P = none ∧ ixOf P l = -1) ∨ ∃ (i : Nat) (hi : i < l.length), ixOf P l = i ∧ l.find? P = some l[i] ∧ P l[i] = true ∧ l.findIdx? P = some i := by
  unfold ixOf
  cases h : l.findIdx? P with
  | none =>
    rw [List.findIdx?_eq_none_iff] at h
    exact .inl ⟨List.find?_eq_none.2 fun x hx => by simp [h x hx], rfl⟩
  | some i =>
    obtain ⟨hi, h2, h3⟩ := List.findIdx?_eq_some_iff_getElem.1 h
    refine .inr ⟨i, hi, rfl, ?_, h2, rfl⟩
    rw [List.find?_eq_some_iff_getElem]
    exact ⟨h2, i, hi, rfl, fun j hj => by simpa using h3 j hj⟩
def getT (T : List MntD) (id : Int) : Option MntD := T.find? fun m => decide (m.id = id)
def zeroM : MntD := ⟨0, ⟨0, 0#16⟩, 0#16, 0⟩
def optM (o : Option MntD) : MntD := o.getD zeroM
theorem S.mount_Table_Get (hE : Fold E) (p : Nat) (T : List MntD) (nx id : Int) (hT : TabAt H p T nx) (hQ : ∀ H', Ext H H' → Q (.tuple #[(optM (getT T id)).v, vb (getT T id).isSome]) H') : E.call (E.fid i.mount_Table_Get) [ptr p 0, vi id] H Q := by
  apply hE.mount_Table_Get
  simp only [F.mount_Table_Get, allocW_eq]
  have x1 : Ext H (H.new (.cells [vi 0, vi 0, .int .u16 0, .int .u16 0, vi 0] none)) := (Ext.refl H).new _
  refine S.mount_Table_find hE p T nx id (hT.mono x1) fun H2 e2 => ?_
  have x2 := x1.trans e2
  have kz := e2.cells (AH.get_new_self H (.cells [vi 0, vi 0, .int .u16 0, .int .u16 0, vi 0] none))
  have lz := AH.lt_cells kz
  rcases ixOf_cases (fun m : MntD => decide (m.id = id)) T with ⟨h1, h2⟩ | ⟨j, hj, h1, h2, _, _⟩
  · have h1 : getT T id = none := h1
    have h2 : findT T id = -1 := h2
    simp [h2, kz, lz, splice]
    rw [h1] at hQ
    exact hQ _ (x2.put (b := H.next) (by omega) _)
  · have h1 : findT T id = j := h1
    have h2 : getT T id = some T[j] := h2
    have hT2 := hT.mono x2
    obtain ⟨h0, v, k1, k2⟩ := hT2
    obtain ⟨b, o, f1, f2⟩ := k2.ix (i := j) (by simpa using hj)
    simp only [List.getElem_map] at f2
    have hneg : ¬ ((j : Int) < 0) := by omega
    rw [h2] at hQ
    simp only [optM, Option.getD_some, Option.isSome_some] at hQ
    generalize T[j] = m at *
    simp [h1, hneg, k1, f1, f2, kz, lz, splice, MntD.cells]
    exact hQ _ (x2.put (b := H.next) (by omega) _)
def standsAt (p : PlaceD) (m : MntD) : Bool := decide (m.id ≠ 0) && decide (m.at_ = p)
theorem place_eq (p q : PlaceD) : (p = q) ↔ p.m = q.m ∧ p.i = q.i := by
  cases p; cases q; simp
theorem S.mount_Table_Seen_1 (hE : Fold E) (m : MntD) (b : Nat) (p : PlaceD) (hb : H.get b = .cells p.cells none) (hQ : ∀ H', Ext H H' → Q (vb (standsAt p m)) H') : E.call (E.fid i.mount_Table_Seen_1) [m.v, ptr b 0] H Q := by
  apply hE.mount_Table_Seen_1
  have hlt := AH.lt_cells hb
  unfold standsAt at hQ
  by_cases h0 : m.id = 0
  · simp [F.mount_Table_Seen_1, MntD.cells, AH.get_new, Nat.ne_of_lt hlt, hb, h0]
    simpa [h0] using hQ _ ((Ext.refl _).new _)
  · simp [F.mount_Table_Seen_1, MntD.cells, PlaceD.cells, AH.get_new, Nat.ne_of_lt hlt, hb, h0]
    simpa [h0, place_eq, Bool.decide_and] using hQ _ ((Ext.refl _).new _)
/-! ### what is seen -/
def seenN (T : List MntD) : Nat → PlaceD → PlaceD
  | 0, p => p
  | n + 1, p => match T.find? (standsAt p) with
    | none => p
    | some m => seenN T n ⟨m.id, m.root⟩
def above (T : List MntD) (p : PlaceD) : Nat := (T.filter fun m => decide (p.m < m.id)).length
def seen (T : List MntD) (p : PlaceD) : PlaceD := seenN T T.length p
/-- Each stands in an older one. -/
def Older (T : List MntD) : Prop := ∀ m ∈ T, m.id ≠ 0 → m.at_.m < m.id
theorem above_le (T : List MntD) (p : PlaceD) : above T p ≤ T.length := List.length_filter_le _ _
theorem filter_lt {α : Type} (P R : α → Bool) : ∀ (l : List α), (∀ x ∈ l, P x = true → R x = true) → ∀ y ∈ l, P y = false → R y = true → (l.filter P).length < (l.filter R).length
  | [], _, y, hy, _, _ => by simp at hy
  | x :: l, h, y, hy, h1, h2 => by
    have hle : (l.filter P).length ≤ (l.filter R).length := by
      have : ∀ l' : List α, (∀ x ∈ l', P x = true → R x = true) → (l'.filter P).length ≤ (l'.filter R).length := by
        intro l'
        induction l' with
        | nil => intro _; simp
        | cons z l' ih =>
          intro hh
          have := ih fun x hx => hh x (by simp [hx])
          have hz := hh z (by simp)
          simp only [List.filter_cons]
          cases hp : P z with
          | true => simp [hz hp]; omega
          | false => cases hr : R z <;> simp <;> omega
      exact this l fun x hx => h x (by simp [hx])
    rcases List.mem_cons.1 hy with rfl | hy
    · simp [List.filter_cons, h1, h2]; omega
    · have ih := filter_lt P R l (fun x hx => h x (by simp [hx])) y hy h1 h2
      have hx := h x (by simp)
      simp only [List.filter_cons]
      cases hp : P x with
      | true => simp [hx hp]; omega
      | false => cases hr : R x <;> simp <;> omega
theorem above_step {T : List MntD} (hT : Older T) {p : PlaceD} {m : MntD} (h : T.find? (standsAt p) = some m) : above T ⟨m.id, m.root⟩ < above T p := by
  have hm := List.find?_some h
  have hmem := List.mem_of_find?_eq_some h
  simp only [standsAt, Bool.and_eq_true, decide_eq_true_eq] at hm
  obtain ⟨h1, rfl⟩ := hm
  have := hT m hmem h1
  refine filter_lt _ _ T (fun x _ hx => ?_) m hmem (by simp) (by simpa using this)
  simp only [decide_eq_true_eq] at hx ⊢
  omega
theorem seenN_stable {T : List MntD} (hT : Older T) : ∀ (n : Nat) (p : PlaceD), above T p ≤ n → seenN T n p = seenN T (n + 1) p
  | 0, p, h => by
    cases hf : T.find? (standsAt p) with
    | none => simp [seenN, hf]
    | some m => have := above_step hT hf; omega
  | n + 1, p, h => by
    cases hf : T.find? (standsAt p) with
    | none => simp [seenN, hf]
    | some m =>
      have := above_step hT hf
      have ih := seenN_stable hT n ⟨m.id, m.root⟩ (by omega)
      rw [seenN, seenN, hf]
      exact ih
theorem seenN_enough {T : List MntD} (hT : Older T) (p : PlaceD) : ∀ (d n : Nat), above T p ≤ n → seenN T (n + d) p = seenN T n p
  | 0, _, _ => rfl
  | d + 1, n, h => by rw [← Nat.add_assoc, ← seenN_stable hT (n + d) p (by omega), seenN_enough hT p d n h]
theorem seen_none {T : List MntD} {p : PlaceD} (h : T.find? (standsAt p) = none) : seen T p = p := by
  unfold seen
  cases T.length <;> simp [seenN, h]
theorem seen_some {T : List MntD} (hT : Older T) {p : PlaceD} {m : MntD} (h : T.find? (standsAt p) = some m) : seen T p = seen T ⟨m.id, m.root⟩ := by
  have h1 := above_step hT h
  have h2 := above_le T p
  unfold seen
  obtain ⟨n, hn⟩ : ∃ n, T.length = n + 1 := ⟨T.length - 1, by omega⟩
  rw [hn, seenN, h]
  exact seenN_stable hT n _ (by omega)
theorem S.mount_Table_Seen (hE : Fold E) (p : Nat) (T : List MntD) (nx : Int) (q : PlaceD) (hT : TabAt H p T nx) (ho : Older T) (hQ : ∀ H', Ext H H' → Q (seen T q).v H') : E.call (E.fid i.mount_Table_Seen) [ptr p 0, q.v] H Q := by
  apply hE.mount_Table_Seen
  have hp1 : p < H.next := by obtain ⟨_, v, h1, _⟩ := hT; exact AH.lt_cells h1
  simp [F.mount_Table_Seen]
  generalize hH2 : (H.new _).new _ = H2
  have x2 : Ext H H2 := by subst hH2; exact ((Ext.refl H).new _).new _
  have k1 : H2.get H.next = .cells q.cells none := by subst hH2; simp [AH.get_new]
  have k2 : H2.get (H.next + 1) = .cells [vi 0, u16 0#16] none := by subst hH2; simp [AH.get_new]
  clear hH2
  refine LoopL.ind (fun n s H' => ∃ r, n = above T r ∧ s = [ptr p 0, ptr H.next 0, ptr (H.next + 1) 0] ∧ Ext H H' ∧ seen T r = seen T q ∧ H'.get H.next = .cells r.cells none ∧ H'.get (H.next + 1) = .cells [vi 0, u16 0#16] none) ?_ (above T q) ⟨q, rfl, rfl, x2, rfl, k1, k2⟩
  rintro n _ H' X hX ⟨r, rfl, rfl, e1, hs, m1, m2⟩
  have hT1 := hT.mono e1
  obtain ⟨h0, v, t1, t2⟩ := hT1
  have l1 := AH.lt_cells m1
  have l2 := AH.lt_cells m2
  simp [F.mount_Table_Seen_l1, t1]
  refine S.slices_IndexFunc_mount_Mount hE T (by omega) v _ t2 (standsAt r) (fun H3 m K e _ hK => ?_) fun H3 e3 => ?_
  · simp
    exact S.mount_Table_Seen_1 hE m H.next r (e.cells m1) hK
  rcases ixOf_cases (standsAt r) T with ⟨h1, h2⟩ | ⟨j, hj, h1, h2, _, _⟩
  · rw [h2]
    have n1 := e3.cells m1
    have n2 := e3.cells m2
    have ln2 := AH.lt_cells n2
    simp [n1, PlaceD.cells, n2, splice, ln2]
    have := hQ _ ((e1.trans e3).put (b := H.next + 1) (by omega) (.cells r.cells none))
    rw [← hs, seen_none h1] at this
    exact this
  · have hneg : ¬ ((j : Int) < 0) := by omega
    have t1' := e3.cells t1
    have n1 := e3.cells m1
    have ln1 := AH.lt_cells n1
    obtain ⟨b, o, f1, f2⟩ := (t2.mono e3).ix (i := j) (by simpa using hj)
    simp only [List.getElem_map] at f2
    have hst := above_step ho h2
    have hss := seen_some ho h2
    generalize T[j] = m at *
    have c0 : (H3.get b).cell o = some (vi m.id) := by
      have := row_at f2 (j := 0) (by omega)
      rw [Nat.add_zero] at this
      rw [this]; rfl
    have c3 : (H3.get b).cell (o + 3) = some (u16 m.root) := by
      have := row_at f2 (j := 3) (by omega)
      rw [this]; rfl
    simp [h1, hneg, t1', f1, c0, c3, splice, n1, PlaceD.cells]
    refine hX (above T ⟨m.id, m.root⟩) hst _ _ ⟨⟨m.id, m.root⟩, rfl, rfl, (e1.trans e3).put (b := H.next) (by omega) _, by rw [← hss]; exact hs, ?_, ?_⟩
    · rw [AH.get_put_self _ _ ln1]; rfl
    · rw [AH.get_put_ne _ _ (by omega)]; exact e3.cells m2
end Go.AM
end
section
namespace Go.AM
variable {E : Sy} {H : AH} {Q : Value → AH → Prop}
/-- The place at which the mount stands whose root a place is. -/
def downT (T : List MntD) (p : PlaceD) : Option PlaceD := match getT T p.m with
  | none => none
  | some m => if m.id = 0 ∨ m.root ≠ p.i then none else some m.at_
def optP (o : Option PlaceD) : PlaceD := o.getD ⟨0, 0#16⟩
theorem S.mount_Table_Down (hE : Fold E) (p : Nat) (T : List MntD) (nx : Int) (q : PlaceD) (hT : TabAt H p T nx) (hQ : ∀ H', Ext H H' → Q (.tuple #[(optP (downT T q)).v, vb (downT T q).isSome]) H') : E.call (E.fid i.mount_Table_Down) [ptr p 0, q.v] H Q := by
  apply hE.mount_Table_Down
  simp [F.mount_Table_Down, AH.get_new, PlaceD.cells]
  generalize hH2 : (H.new _).new _ = H2
  have x2 : Ext H H2 := by subst hH2; exact ((Ext.refl H).new _).new _
  have k1 : H2.get H.next = .cells [vi q.m, u16 q.i] none := by subst hH2; simp [AH.get_new]
  have k2 : H2.get (H.next + 1) = .cells [vi 0, u16 0#16] none := by subst hH2; simp [AH.get_new]
  clear hH2
  refine S.mount_Table_Get hE p T nx q.m (hT.mono x2) fun H3 e3 => ?_
  have x3 := x2.trans e3
  have m1 := e3.cells k1
  have m2 := e3.cells k2
  have l1 := AH.lt_cells m1
  have l2 := AH.lt_cells m2
  unfold downT at hQ
  have hp : ∀ (A B : AObj), Ext H (H3.put (H.next + 1) B |>.new A) := fun A B => (x3.put (b := H.next + 1) (by omega) B).new A
  cases hg : getT T q.m with
  | none =>
    rw [hg] at hQ
    simp [optM, zeroM, MntD.cells, splice, AH.get_new, Nat.ne_of_lt l1, Nat.ne_of_lt l2, l2, m1, m2]
    simpa [optP, PlaceD.v, PlaceD.cells] using hQ _ (hp _ _)
  | some m =>
    rw [hg] at hQ
    simp only at hQ
    by_cases h0 : m.id = 0
    · simp [optM, h0, MntD.cells, splice, AH.get_new, Nat.ne_of_lt l1, Nat.ne_of_lt l2, l2, m1, m2]
      simpa [optP, PlaceD.v, PlaceD.cells, h0] using hQ _ (hp _ _)
    · by_cases hr : m.root = q.i
      · simp [optM, h0, hr, MntD.cells, splice, AH.get_new, Nat.ne_of_lt l1, Nat.ne_of_lt l2, l2, m1, m2]
        simpa [optP, PlaceD.v, PlaceD.cells, h0, hr] using hQ _ (hp _ _)
      · simp [optM, h0, hr, MntD.cells, splice, AH.get_new, Nat.ne_of_lt l1, Nat.ne_of_lt l2, l2, m1, m2]
        simpa [optP, PlaceD.v, PlaceD.cells, h0, hr] using hQ _ (hp _ _)
def uses (n : BitVec 16) (m : MntD) : Bool := decide (m.root = n) || decide (m.id ≠ 0) && decide (m.at_.i = n)
theorem S.mount_Table_Used_1 (hE : Fold E) (m : MntD) (b : Nat) (n : BitVec 16) (hb : H.get b = .cells [u16 n] none) (hQ : ∀ H', Ext H H' → Q (vb (uses n m)) H') : E.call (E.fid i.mount_Table_Used_1) [m.v, ptr b 0] H Q := by
  apply hE.mount_Table_Used_1
  have hlt := AH.lt_cells hb
  unfold uses at hQ
  have hQ := hQ _ ((Ext.refl H).new (.cells m.cells none))
  by_cases h1 : m.root = n
  · simp [F.mount_Table_Used_1, MntD.cells, AH.get_new, Nat.ne_of_lt hlt, hb, h1] at hQ ⊢
    exact hQ
  · by_cases h0 : m.id = 0
    · simp [F.mount_Table_Used_1, MntD.cells, AH.get_new, Nat.ne_of_lt hlt, hb, h0, h1] at hQ ⊢
      exact hQ
    · simp [F.mount_Table_Used_1, MntD.cells, AH.get_new, Nat.ne_of_lt hlt, hb, h0, h1] at hQ ⊢
      exact hQ
theorem S.mount_Table_Used (hE : Fold E) (p : Nat) (T : List MntD) (nx : Int) (n : BitVec 16) (hT : TabAt H p T nx) (hQ : ∀ H', Ext H H' → Q (vb (T.any (uses n))) H') : E.call (E.fid i.mount_Table_Used) [ptr p 0, u16 n] H Q := by
  apply hE.mount_Table_Used
  obtain ⟨h0, v, h1, h2⟩ := hT
  have hlt := AH.lt_cells h1
  have hb : boxO (u16 n) = some (.cells [u16 n] none, mkPtr) := rfl
  have x1 : Ext H (H.new (.cells [u16 n] none)) := (Ext.refl H).new _
  simp [F.mount_Table_Used, hb, AH.get_new, Nat.ne_of_lt hlt, h1]
  refine S.slices_ContainsFunc_mount_Mount hE T (by omega) v _ (h2.mono x1) (uses n) (fun H' m K e _ hK => ?_) fun H' e => hQ _ (x1.trans e)
  simp
  exact S.mount_Table_Used_1 hE m H.next n (e.cells (AH.get_new_self _ _)) hK
def standsIn (k : Int) (m : MntD) : Bool := decide (m.id ≠ 0) && decide (m.at_.m = k)
theorem S.mount_Table_Drop_1 (hE : Fold E) (m : MntD) (b : Nat) (q : PlaceD) (hb : H.get b = .cells q.cells none) (hQ : ∀ H', Ext H H' → Q (vb (standsIn q.m m)) H') : E.call (E.fid i.mount_Table_Drop_1) [m.v, ptr b 0] H Q := by
  apply hE.mount_Table_Drop_1
  have hlt := AH.lt_cells hb
  unfold standsIn at hQ
  have hQ := hQ _ ((Ext.refl H).new (.cells m.cells none))
  by_cases h0 : m.id = 0
  · simp [F.mount_Table_Drop_1, MntD.cells, AH.get_new, Nat.ne_of_lt hlt, hb, h0] at hQ ⊢
    exact hQ
  · simp [F.mount_Table_Drop_1, MntD.cells, PlaceD.cells, AH.get_new, Nat.ne_of_lt hlt, hb, h0] at hQ ⊢
    exact hQ
/-- A copy: a slice of its own. -/
theorem S.slices_Clone_mount_Mount (hE : Fold E) (T : List MntD) (hT : T.length ≤ 1000) (v : Value) (hv : Rows H 5 v (T.map MntD.cells)) (hQ : ∀ v' H', Ext H H' → Grow zH H' 5 v' (T.map MntD.cells) → (∀ b, blk v' = some b → H.next ≤ b) → Q v' H') :
    E.call (E.fid i.slices_Clone_mount_Mount) [v] H Q := by
  apply hE.slices_Clone_mount_Mount
  have hpl : ∀ r ∈ T.map MntD.cells, r.all plain1 = true := by
    intro r hr
    obtain ⟨x, _, rfl⟩ := List.mem_map.1 hr
    rfl
  have hnil : (∃ k c, v = .slice none k c ∧ T = []) ∨ (∃ a k c, v = .slice (some a) k c) := by
    rcases hv.at_ with ⟨h1, a, rfl⟩ | ⟨b, o, c, rfl, _⟩
    · cases a with
      | none => exact .inl ⟨_, _, rfl, by simpa using h1⟩
      | some a => exact .inr ⟨_, _, _, rfl⟩
    · exact .inr ⟨_, _, _, rfl⟩
  rcases hnil with ⟨k, c, rfl, rfl⟩ | ⟨a, k, c, hva⟩
  · simp [F.slices_Clone_mount_Mount, binNil, eqSlc]
    exact hQ _ _ (Ext.refl _) (Grow.nil _ _ _) (by simp [blk])
  · have hb : binNil eqSlc .eql v (.slice none 0 0) = some (.bool false) := by rw [hva]; rfl
    simp [F.slices_Clone_mount_Mount, hb]
    have x1 : Ext H (H.new (.cells [] none)) := (Ext.refl H).new _
    have hG0 : Grow zH (H.new (.cells [] none)) 5 (slc H.next 0 0 0) [] := Grow.room (zH_get _) (AH.get_new_self _ _) rfl
    obtain ⟨w, H3, a1, a2, a3, a4⟩ := hG0.app (Nat.zero_le _) (bytes := 40) (hv.mono x1) hpl (by omega) (by omega) (by simp; omega) (by simp; omega)
    rw [a1]
    simp
    refine hQ w H3 (a3.ext x1 (by intro b hb; rw [mem_blkL] at hb; simp [blk] at hb; omega)) (by simpa using a2) fun b hb => (a4 b hb).elim (fun h => by simp [blk] at h; omega) (fun h => by simp at h; omega)
theorem S.mount_Table_List (hE : Fold E) (p : Nat) (T : List MntD) (nx : Int) (hT : TabAt H p T nx) (hn : T.length ≤ 1000) (hQ : ∀ v H', Ext H H' → Rows H' 5 v (T.map MntD.cells) → Q v H') : E.call (E.fid i.mount_Table_List) [ptr p 0] H Q := by
  apply hE.mount_Table_List
  obtain ⟨h0, v, h1, h2⟩ := hT
  simp [F.mount_Table_List, h1]
  exact S.slices_Clone_mount_Mount hE T hn v h2 fun v' H' e g _ => hQ v' H' e g.toRows
theorem S.mount_Top (hE : Fold E) (hQ : ∀ H', Ext H H' → Q (PlaceD.v ⟨0, 1#16⟩) H') : E.call (E.fid i.mount_Top) [] H Q := by
  apply hE.mount_Top
  simp [F.mount_Top, splice]
  exact hQ _ ((Ext.refl _).new _)
/-! ### what changes it -/
def tabR (p : Nat) (v : Value) (T : List MntD) (nx : Int) : Res := ⟨p :: blkL v, fun H => H.get p = .cells [v, vi nx] none ∧ Grow zH H 5 v (T.map MntD.cells),
  fun h e => ⟨by rw [e _ (by simp)]; exact h.1, h.2.keep fun b hb _ => e b (by simp [mem_blkL.2 hb])⟩⟩
theorem tabR.at_ {p : Nat} {v : Value} {T : List MntD} {nx : Int} (h : (tabR p v T nx).P H) (hn : T.length < 2 ^ 62) : TabAt H p T nx := ⟨hn, v, h.1, h.2.toRows⟩
theorem Upd.put0 {p : Nat} {v v' : Value} {T T' : List MntD} {nx nx' : Int} {H H1 : AH} (h : (tabR p v T nx).P H) (hp : p ∉ blkL v) (o : Only (p :: blkL v) H H1) (g : Grow zH H1 5 v' (T'.map MntD.cells)) (hb : ∀ b, blk v' = some b → blk v = some b ∨ H.next ≤ b) :
    Upd (tabR p v T nx) (tabR p v' T' nx') H (H1.put p (.cells [v', vi nx'] none)) := by
  have hlt : p < H.next := AH.lt_cells h.1
  have hpb : p ∉ blkL v' := fun k => by
    rcases hb p (mem_blkL.1 k) with k | k
    · exact hp (mem_blkL.2 k)
    · omega
  refine ⟨o.put (.inl (by simp [tabR])) _, ⟨AH.get_put_self _ _ (Nat.lt_of_lt_of_le hlt o.1), g.keep fun b hb _ => AH.get_put_ne _ _ (by rintro rfl; exact hpb (mem_blkL.2 hb))⟩, fun b hb' => ?_, ?_⟩
  · simp only [tabR, List.mem_cons] at hb'
    rcases hb' with rfl | hb'
    · exact ⟨.inl (by simp [tabR]), Nat.lt_of_lt_of_le hlt o.1⟩
    · refine ⟨(hb b (mem_blkL.1 hb')).imp (fun k => by simp [tabR, mem_blkL.2 k]) id, g.blk_lt (mem_blkL.1 hb')⟩
  · simp only [tabR, List.nodup_cons]
    exact ⟨hpb, blkL_nodup v'⟩
end Go.AM
end
section
namespace Go.AM
variable {E : Sy} {H : AH} {Q : Value → AH → Prop}
theorem flatten_set {α : Type} {sz : Nat} : ∀ (rows : List (List α)), (∀ r ∈ rows, r.length = sz) → ∀ (i k : Nat) (x : α) (h : i < rows.length), k < sz → (rows.set i (rows[i].set k x)).flatten = rows.flatten.set (i * sz + k) x
  | [], _, i, k, x, h, _ => by simp at h
  | r :: rows, hl, 0, k, x, h, hk => by
    have h1 := hl r (by simp)
    simp only [List.set_cons_zero, List.getElem_cons_zero, List.flatten_cons, Nat.zero_mul, Nat.zero_add]
    rw [List.set_append_left _ _ (by omega)]
  | r :: rows, hl, i + 1, k, x, h, hk => by
    have h1 := hl r (by simp)
    have ih := flatten_set rows (fun y hy => hl y (by simp [hy])) i k x (by simpa using h) hk
    simp only [List.set_cons_succ, List.getElem_cons_succ, List.flatten_cons, ih, Nat.succ_mul]
    rw [List.set_append_right _ _ (by omega)]
    congr 2
    omega
theorem Grow.store {Z H : AH} {sz : Nat} {v : Value} {rows : List (List Value)} (h : Grow Z H sz v rows) {i k : Nat} (hi : i < rows.length) (hk : k < sz) (x : Value) (hx : plain1 x = true) :
    ∃ b o H', ixSlc sz v (vi i) = some (ptr b o) ∧ (H.get b).row o sz = some rows[i] ∧ store1 (ptr b (o + k)) x H = some H' ∧ Grow Z H' sz v (rows.set i (rows[i].set k x)) ∧ Only (blkL v) H H' := by
  have hr := h.toRows
  rcases h.2 with ⟨rfl, _⟩ | ⟨b, f, c, cs, g1, rfl, g3, g4, g5, g6, g7⟩
  · simp at hi
  · have hlt := AH.lt_cells g3
    have hle : (i + 1) * sz ≤ rows.length * sz := Nat.mul_le_mul_right _ hi
    have hle2 : rows.length * sz ≤ c * sz := Nat.mul_le_mul_right _ g4
    rw [Nat.succ_mul] at hle
    obtain ⟨b', o', e1, e2⟩ := hr.ix hi
    have e3 := ixSlc_slc sz b 0 rows.length c i hi
    rw [e3] at e1
    simp only [Option.some.injEq, Value.pointer.injEq, Addr.mk.injEq, and_true] at e1
    obtain ⟨rfl, rfl⟩ := e1
    refine ⟨b, 0 + i * sz, H.put b (.cells (cs.set (i * sz + k) x) f), e3, e2, ?_, ⟨?_, .inr ⟨b, f, c, _, g1, by simp, AH.get_put_self _ _ hlt, by simpa using g4, by simpa using g5, ?_, g7⟩⟩, (Only.refl _ _).put (.inl (by simp [blkL, blk])) _⟩
    · rw [store1_ptr, if_pos hx, g3]
      simp only
      rw [if_pos (by omega), Nat.zero_add]
    · intro r hr'
      rcases List.mem_or_eq_of_mem_set hr' with hr' | rfl
      · exact h.1 r hr'
      · obtain ⟨q1, q2⟩ := h.1 _ (List.getElem_mem hi)
        refine ⟨by simpa using q1, ?_⟩
        rw [List.all_eq_true] at q2 ⊢
        intro y hy
        rcases List.mem_or_eq_of_mem_set hy with hy | rfl
        · exact q2 y hy
        · exact hx
    · rw [List.length_set, List.take_set, g6, flatten_set rows (fun r hr => (h.1 r hr).1) i k x hi hk]
theorem S.slices_Delete_mount_Mount (hE : Fold E) (T : List MntD) (hT : T.length ≤ 1000) (v : Value) (h : Grow zH H 5 v (T.map MntD.cells)) (n : Nat) (hn : n < T.length)
    (hQ : ∀ v' H', Only (blkL v) H H' → blk v' = blk v → Grow zH H' 5 v' ((T.eraseIdx n).map MntD.cells) → Q v' H') : E.call (E.fid i.slices_Delete_mount_Mount) [v, vi n, vi ((n + 1 : Nat) : Int)] H Q := by
  apply hE.slices_Delete_mount_Mount
  have hrows := h.toRows
  have hl5 : ∀ r ∈ T.map MntD.cells, r.length = 5 := fun r hr => (h.1 r hr).1
  rcases h.2 with ⟨h0, _⟩ | ⟨b, f, c, cs, g1, rfl, g3, g4, g5, g6, g7⟩
  · simp at h0; subst h0; simp at hn
  · rw [List.length_map] at g4 g6
    simp only [List.length_map] at hrows hQ ⊢
    have hlt := AH.lt_cells g3
    have hfit : fits 5 (H.get b) = true := by rw [g3]; rcases g7 with rfl | rfl <;> rfl
    have hfl : (T.map MntD.cells).flatten.length = T.length * 5 := by rw [flatten_length _ hl5, List.length_map]
    -- the bounds
    have s1 : ∃ w, slSlc 5 (slc b 0 T.length c) (some (vi n)) (some (vi ((n + 1 : Nat) : Int))) (some (vi T.length)) H = some w := by
      simp only [slSlc, hfit, bnd, Option.isSome_some, Option.isNone_some, Bool.and_false, Bool.not_true, Bool.or_true, Bool.or_false, Bool.false_eq_true, if_false]
      rw [if_pos (by omega), Option.bind_some, if_pos (by omega), Option.bind_some, if_pos (by omega), Option.bind_some, if_pos (by omega)]
      exact ⟨_, rfl⟩
    obtain ⟨w, s1⟩ := s1
    have s2 : slSlc 5 (slc b 0 T.length c) none (some (vi n)) none H = some (slc b 0 n c) := by
      simp only [slSlc, hfit, bnd, Option.isSome_none, Bool.false_and, Bool.not_true, Bool.or_false, Bool.or_true, Bool.false_eq_true, if_false, Option.bind_some]
      rw [if_pos (by omega), Option.bind_some, if_pos (by omega)]
      have : (if c = 0 then (⟨b, 0, none⟩ : Addr) else (⟨b, 0, none⟩ : Addr).add (0 * 5)) = ⟨b, 0, none⟩ := by split <;> simp [Addr.add]
      rw [this]
      simp
    obtain ⟨s3, s4⟩ := Rows.slice' hrows (lo := some (vi ((n + 1 : Nat) : Int))) (hi := none) (i := n + 1) (j := (T.map MntD.cells).length) (.inl rfl) (.inr ⟨rfl, rfl⟩) (by rw [List.length_map]; omega) (Nat.le_refl _)
    rw [List.take_length] at s4
    have hnew := firstRow_rows s4
    have hlo := lenO_rows s4
    have hnl : ((T.map MntD.cells).drop (n + 1)).length = T.length - (n + 1) := by simp
    rw [hnl] at hnew hlo
    have hnf : ((T.map MntD.cells).drop (n + 1)).flatten.length = (T.length - (n + 1)) * 5 := by
      rw [flatten_length _ (fun r hr => hl5 r (List.mem_of_mem_drop hr)), hnl]
    have hpn : ((T.map MntD.cells).drop (n + 1)).flatten.all plain1 = true := all_flatten fun r hr => (h.1 r (List.mem_of_mem_drop hr)).2
    have hle : T.length * 5 ≤ c * 5 := Nat.mul_le_mul_right _ g4
    have s5 : AM.app 5 40 (slc b 0 n c) (sliceV 5 (slc b 0 T.length c) (n + 1) (T.map MntD.cells).length) H = some (slc b 0 (T.length - 1) c, H.put b (.cells (splice cs (n * 5) ((T.map MntD.cells).drop (n + 1)).flatten) f)) := by
      simp only [AM.app, hlo, hnew, Option.bind_some, hpn, Bool.not_true, Bool.false_eq_true, if_false]
      rw [if_pos (by omega)]
      simp only [Option.isSome_none, Bool.false_eq_true, if_false, g3]
      rw [if_pos (by rw [hnf]; omega), Nat.zero_add, show n + (T.length - (n + 1)) = T.length - 1 by omega]
    have hl := hrows.lenSlc
    rw [List.length_map] at hl s3 s5
    have hne : ¬ ((n : Int) = ((n + 1 : Nat) : Int)) := by omega
    generalize hcs1 : splice cs (n * 5) ((T.map MntD.cells).drop (n + 1)).flatten = cs1 at *
    have hc1 : cs1.length = c * 5 := by rw [← hcs1, splice_length (by rw [hnf]; omega)]; exact g5
    have g31 : (H.put b (.cells cs1 f)).get b = .cells cs1 f := AH.get_put_self _ _ hlt
    have hfit1 : fits 5 ((H.put b (.cells cs1 f)).get b) = true := by rw [g31]; rcases g7 with rfl | rfl <;> rfl
    have s6 : slSlc 5 (slc b 0 (T.length - 1) c) (some (vi ((T.length - 1 : Nat) : Int))) (some (vi T.length)) none (H.put b (.cells cs1 f)) = some (slc b ((T.length - 1) * 5) 1 (c - (T.length - 1))) := by
      simp only [slSlc, hfit1, bnd, Option.isSome_none, Bool.false_and, Bool.not_true, Bool.or_false, Bool.or_true, Bool.false_eq_true, if_false, Option.bind_some]
      rw [if_pos (by omega), Option.bind_some, if_pos (by omega), Option.bind_some, if_pos (by omega), if_neg (by omega)]
      have : (⟨b, 0, none⟩ : Addr).add (((T.length - 1 : Nat) : Int).toNat * 5) = ⟨b, (T.length - 1) * 5, none⟩ := by
        simp only [Addr.add, Int.toNat_natCast, Nat.zero_add]
        split <;> simp_all
      rw [this]
      simp only [Int.toNat_natCast]
      rw [show T.length - (T.length - 1) = 1 by omega]
    have hrep : repl (1 * 5) #[vi 0, vi 0, .int .u16 0, .int .u16 0, vi 0] = [vi 0, vi 0, .int .u16 0, .int .u16 0, vi 0] := by rw [repl_eq 1 5 #[vi 0, vi 0, .int .u16 0, .int .u16 0, vi 0] rfl]; rfl
    have s7 : clearS [vi 0, vi 0, .int .u16 0, .int .u16 0, vi 0] (slc b ((T.length - 1) * 5) 1 (c - (T.length - 1))) (H.put b (.cells cs1 f)) = some (H.put b (.cells (splice cs1 ((T.length - 1) * 5) [vi 0, vi 0, .int .u16 0, .int .u16 0, vi 0]) f)) := by
      simp only [clearS, g31]
      rw [if_neg (by decide)]
      simp only [List.length_cons, List.length_nil, Nat.zero_add, Nat.reduceAdd]
      rw [hrep, if_pos (by simp; omega), AH.put_put]
    simp only [F.slices_Delete_mount_Mount, hl, opt_some, s1, i64_eql, hne, decide_false, ifB_false, s2, s3, s5, opt2_some, lenSlc_slc, s6, s7]
    refine hQ _ _ ((Only.refl _ _).put (.inl (by simp [blkL, blk])) _) rfl ⟨?_, .inr ⟨b, f, c, _, g1, ?_, AH.get_put_self _ _ hlt, ?_, ?_, ?_, g7⟩⟩
    · intro r hr
      obtain ⟨x, hx, rfl⟩ := List.mem_map.1 hr
      exact ⟨rfl, rfl⟩
    · rw [List.length_map, List.length_eraseIdx_of_lt hn]
    · rw [List.length_map, List.length_eraseIdx_of_lt hn]; omega
    · rw [splice_length (by simp; omega)]; exact hc1
    · rw [List.length_map, List.length_eraseIdx_of_lt hn, ← hcs1]
      have e1 : (T.eraseIdx n).map MntD.cells = (T.map MntD.cells).take n ++ (T.map MntD.cells).drop (n + 1) := by
        rw [List.eraseIdx_eq_take_drop_succ, List.map_append, List.map_take, List.map_drop]
      have e2 : cs.take (n * 5) = ((T.map MntD.cells).take n).flatten := by
        have : n * 5 ≤ T.length * 5 := Nat.mul_le_mul_right _ (by omega)
        rw [← flatten_take _ hl5, ← g6, List.take_take, Nat.min_eq_left this]
      have e3 : (splice cs (n * 5) ((T.map MntD.cells).drop (n + 1)).flatten).take ((T.length - 1) * 5) = ((T.eraseIdx n).map MntD.cells).flatten := by
        have l1 : (cs.take (n * 5) ++ ((T.map MntD.cells).drop (n + 1)).flatten).length = (T.length - 1) * 5 := by
          rw [List.length_append, List.length_take, hnf, g5, Nat.min_eq_left (by omega)]; omega
        simp only [splice]
        rw [List.take_left' l1, e1, List.flatten_append, e2]
      have l2 : ((splice cs (n * 5) ((T.map MntD.cells).drop (n + 1)).flatten).take ((T.length - 1) * 5)).length = (T.length - 1) * 5 := by
        rw [List.length_take, hcs1, hc1, Nat.min_eq_left (by omega)]
      rw [splice, List.append_assoc, List.take_left' l2, e3]
end Go.AM
end
section
namespace Go.AM
variable {E : Sy} {H : AH} {Q : Value → AH → Prop}
def tab0 : List MntD := [⟨0, ⟨0, 0#16⟩, 1#16, 0⟩]
/-- What a resource new in a heap is. -/
def NewRes (r : Res) (H H' : AH) : Prop := Ext H H' ∧ r.P H' ∧ (∀ b ∈ r.fp, H.next ≤ b ∧ b < H'.next) ∧ r.fp.Nodup
theorem Has.addnew {H0 Z H H' : AH} {L : List Res} (h : Has H0 Z H L) {r : Res} (n : NewRes r H H') : Has H0 Z H' (L ++ [r]) := h.add r n.1 n.2.1 n.2.2.1 n.2.2.2
theorem S.mount_New (hE : Fold E) (hQ : ∀ p v H', NewRes (tabR p v tab0 1) H H' → Q (ptr p 0) H') : E.call (E.fid i.mount_New) [] H Q := by
  apply hE.mount_New
  simp [-buildS_eq, F.mount_New, splice]
  rw [buildS_one 5 [_, _, _, _, _] [vi 0, vi 0, u16 0#16, u16 1#16, vi 0] rfl rfl, mk_some, mkSlc_eq]
  simp [splice]
  refine hQ (H.next + 1) (slc H.next 0 1 1) _ ⟨((Ext.refl H).new _).new _, ⟨by rw [← AH.next_new, AH.get_new_self], Grow.made (zH_get _) (by simp [AH.get_new]; rfl) (.inl rfl) rfl (by simp [tab0, MntD.cells])⟩, ?_, ?_⟩
  · simp [tabR, blkL, blk]; omega
  · simp [tabR, blkL, blk]
/-- What a table is like. -/
structure TabOk (T : List MntD) (nx : Int) : Prop where
  older : Older T
  len : T.length ≤ 16
  nx0 : 0 ≤ nx
  nx1 : nx < 2 ^ 61
  held : ∀ m ∈ T, 0 ≤ m.held ∧ m.held < 2 ^ 61
structure Bound where
  T : List MntD
  nx : Int
  n : Int
  e : Int
def bindT (T : List MntD) (nx : Int) (root : BitVec 16) (p : PlaceD) : Bound :=
  if findT T p.m < 0 then ⟨T, nx, 0, 22⟩ else if seen T p ≠ p then ⟨T, nx, 0, 16⟩ else if 16 ≤ T.length then ⟨T, nx, 0, 28⟩ else ⟨T ++ [⟨nx, p, root, 0⟩], nx + 1, nx, 0⟩
theorem S.mount_Table_Bind (hE : Fold E) (p : Nat) (v : Value) (T : List MntD) (nx : Int) (hr : (tabR p v T nx).P H) (hnd : (tabR p v T nx).fp.Nodup) (ok : TabOk T nx) (root : BitVec 16) (q : PlaceD)
    (hQ : ∀ v' H', Upd (tabR p v T nx) (tabR p v' (bindT T nx root q).T (bindT T nx root q).nx) H H' → Q (.tuple #[vi (bindT T nx root q).n, vi (bindT T nx root q).e]) H') :
    E.call (E.fid i.mount_Table_Bind) [ptr p 0, u16 root, q.v] H Q := by
  apply hE.mount_Table_Bind
  have hlen := ok.len
  have hT := tabR.at_ hr (by omega)
  have hpv : p ∉ blkL v := by simp only [tabR, List.nodup_cons] at hnd; exact hnd.1
  have hfp : ∀ b ∈ (tabR p v T nx).fp, b < H.next := by
    intro b hb
    simp only [tabR, List.mem_cons] at hb
    rcases hb with rfl | hb
    · exact AH.lt_cells hr.1
    · exact hr.2.blk_lt (mem_blkL.1 hb)
  have same : ∀ H', Ext H H' → Upd (tabR p v T nx) (tabR p v T nx) H H' := fun H' e => (Upd.refl hr hfp hnd).ext e
  have x1 : Ext H (H.new (.cells q.cells none)) := (Ext.refl H).new _
  have hlp := AH.lt_cells hr.1
  simp [-buildS_eq, F.mount_Table_Bind]
  have k1 : (H.new (.cells q.cells none)).get H.next = .cells q.cells none := AH.get_new_self _ _
  have q0 : q.cells[0]? = some (vi q.m) := rfl
  have r2 := row_all q.cells none 2 rfl
  simp [-buildS_eq, q0]
  unfold bindT at hQ
  refine S.mount_Table_find hE p T nx q.m (hT.mono x1) fun H2 e2 => ?_
  have x2 := x1.trans e2
  have k2 := e2.cells k1
  by_cases hf : findT T q.m < 0
  · simp only [hf, if_true] at hQ
    simp [hf]
    exact hQ v _ (same _ x2)
  · simp only [hf, if_false] at hQ
    simp [-buildS_eq, hf, k2, r2]
    refine S.mount_Table_Seen hE p T nx q (hT.mono x2) ok.older fun H3 e3 => ?_
    have x3 := x2.trans e3
    have k3 := e3.cells k2
    have hpc : seen T q = q ↔ ((seen T q).m = q.m ∧ (seen T q).i = q.i) := place_eq _ _
    by_cases hs : seen T q = q
    · have hss := hpc.1 hs
      simp only [hs, ne_eq, not_true, if_false] at hQ
      obtain ⟨h0, v1, t1, t2⟩ := hT.mono x3
      have t1 := x3.cells hr.1
      have hlv := (hr.2.toRows.mono x3).lenSlc
      rw [List.length_map] at hlv
      simp [-buildS_eq, k3, r2, hss.1, hss.2, PlaceD.cells, t1, hlv]
      by_cases h16 : 16 ≤ T.length
      · have h16' : (16 : Int) ≤ T.length := by omega
        simp only [h16, if_true] at hQ
        simp [h16']
        exact hQ v _ (same _ x3)
      · have h16' : ¬ (16 : Int) ≤ T.length := by omega
        simp only [h16, if_false] at hQ
        have n0 := ok.nx0
        have n1 := ok.nx1
        have l3 := AH.lt_cells t1
        simp [-buildS_eq, h16', t1]
        rw [i64_add (by omega) (by omega), opt_some]
        simp [-buildS_eq, t1, l3]
        have hpk : H.next ≠ p := by omega
        simp only [PlaceD.cells] at k3
        have hg3 := hr.2.ext x3
        have hg4 : Grow zH (H3.put p (.cells [v, vi (nx + 1)] none)) 5 v (T.map MntD.cells) := hg3.keep fun b hb _ => AH.get_put_ne _ _ (by rintro rfl; exact hpv (mem_blkL.2 hb))
        obtain ⟨v', H6, a1, a2, a3, a4⟩ := hg4.app1 (Nat.zero_le _) (bytes := 40) (MntD.cells ⟨nx, q, root, 0⟩) rfl rfl (by omega) (by omega) (by simp; omega)
        have hpv6 : H6.get p = .cells [v, vi (nx + 1)] none := a3.cells (AH.get_put_self _ _ l3) hpv
        have l6 := AH.lt_cells hpv6
        have r2' := row_all [vi q.m, u16 q.i] none 2 rfl
        simp [-buildS_eq, AH.get_put_ne _ _ hpk, k3, r2', splice]
        rw [buildS_one 5 [_, _, _, _, _] [vi nx, vi q.m, u16 q.i, u16 root, vi 0] rfl rfl, mk_some, mkSlc_eq]
        simp only [MntD.cells] at a1
        rw [a1]
        simp [a2.plain, hpv6]
        refine hQ v' _ ?_
        have hO : Only (p :: blkL v) H H6 := by
          refine ((x3.only (F := p :: blkL v)).put (.inl (by simp)) _).trans a3 fun b hb => .inl (by simp [hb])
        refine Upd.put0 hr hpv hO (by simpa using a2) fun b hb => (a4 b hb).imp id fun h => ?_
        have := x3.1
        simp at h
        omega
    · have hss : ¬ ((seen T q).m = q.m ∧ (seen T q).i = q.i) := fun h => hs (hpc.2 h)
      simp only [hs, ne_eq, not_false_eq_true, if_true] at hQ
      simp [-buildS_eq, k3, r2]
      by_cases hm : (seen T q).m = q.m
      · have hi : ¬ (seen T q).i = q.i := fun h => hss ⟨hm, h⟩
        simp [PlaceD.cells, hm, hi]
        exact hQ v _ (same _ x3)
      · simp [PlaceD.cells, hm]
        exact hQ v _ (same _ x3)
end Go.AM
end
section
namespace Go.AM
variable {E : Sy} {H : AH} {Q : Value → AH → Prop}
theorem Upd.rows {p : Nat} {v : Value} {T T' : List MntD} {nx : Int} {H H1 : AH} (h : (tabR p v T nx).P H) (hnd : (tabR p v T nx).fp.Nodup) (o : Only (blkL v) H H1) (g : Grow zH H1 5 v (T'.map MntD.cells)) :
    Upd (tabR p v T nx) (tabR p v T' nx) H H1 := by
  have hlt : p < H.next := AH.lt_cells h.1
  have hp : p ∉ blkL v := by simp only [tabR, List.nodup_cons] at hnd; exact hnd.1
  refine ⟨o.mono fun b hb => .inl (by simp [tabR, hb]), ⟨o.cells h.1 hp, g⟩, fun b hb => ⟨.inl hb, ?_⟩, hnd⟩
  simp only [tabR, List.mem_cons] at hb
  rcases hb with rfl | hb
  · exact Nat.lt_of_lt_of_le hlt o.1
  · exact g.blk_lt (mem_blkL.1 hb)
def addHeld (k : Int) (m : MntD) : MntD := { m with held := m.held + k }
theorem tab_set (T : List MntD) (i : Nat) (hi : i < T.length) (k : Int) : (T.map MntD.cells).set i ((T[i]).cells.set 4 (vi (T[i].held + k))) = (T.set i (addHeld k T[i])).map MntD.cells := by
  rw [List.map_set]; rfl
def holdT (T : List MntD) (id : Int) (more : Bool) : List MntD × Int :=
  match T.findIdx? (fun m => decide (m.id = id)) with
  | none => (T, 2)
  | some i => if more then (T.set i (addHeld 1 (T.getD i zeroM)), 0) else if (T.getD i zeroM).held = 0 then (T, 22) else (T.set i (addHeld (-1) (T.getD i zeroM)), 0)
theorem tabR.fp_lt {p : Nat} {v : Value} {T : List MntD} {nx : Int} (hr : (tabR p v T nx).P H) : ∀ b ∈ (tabR p v T nx).fp, b < H.next := by
  intro b hb
  simp only [tabR, List.mem_cons] at hb
  rcases hb with rfl | hb
  · exact AH.lt_cells hr.1
  · exact hr.2.blk_lt (mem_blkL.1 hb)
theorem S.mount_Table_Hold (hE : Fold E) (p : Nat) (v : Value) (T : List MntD) (nx : Int) (hr : (tabR p v T nx).P H) (hnd : (tabR p v T nx).fp.Nodup) (ok : TabOk T nx) (id : Int) (more : Bool)
    (hQ : ∀ H', Upd (tabR p v T nx) (tabR p v (holdT T id more).1 nx) H H' → Q (vi (holdT T id more).2) H') : E.call (E.fid i.mount_Table_Hold) [ptr p 0, vi id, vb more] H Q := by
  apply hE.mount_Table_Hold
  have hlen := ok.len
  have hT := tabR.at_ hr (by omega)
  have same : ∀ H', Ext H H' → Upd (tabR p v T nx) (tabR p v T nx) H H' := fun H' e => (Upd.refl hr (tabR.fp_lt hr) hnd).ext e
  simp only [F.mount_Table_Hold]
  refine S.mount_Table_find hE p T nx id hT fun H1 e1 => ?_
  unfold holdT at hQ
  rcases ixOf_cases (fun m : MntD => decide (m.id = id)) T with ⟨h1, h2⟩ | ⟨j, hj, h1, h2, _, h3⟩
  · have h2 : findT T id = -1 := h2
    have h3 : T.findIdx? (fun m => decide (m.id = id)) = none := by
      rw [List.findIdx?_eq_none_iff]
      intro x hx
      simpa using List.find?_eq_none.1 h1 x hx
    rw [h3] at hQ
    simp [h2]
    exact hQ _ (same _ e1)
  · have h1 : findT T id = j := h1
    have hneg : ¬ ((j : Int) < 0) := by omega
    have k1 := e1.cells hr.1
    have g1 := hr.2.ext e1
    have hd : T.getD j zeroM = T[j] := by simp [hj]
    simp only [h3, hd] at hQ
    have hj' : j < (T.map MntD.cells).length := by simpa using hj
    have hh := ok.held T[j] (List.getElem_mem hj)
    have hcell : ∀ b o, (H1.get b).row o 5 = some (T.map MntD.cells)[j] → (H1.get b).cell (o + 4) = some (vi T[j].held) := by
      intro b o f2
      have := row_at f2 (j := 4) (by omega)
      rw [this]; simp [MntD.cells]
    cases more with
    | true =>
      simp only [if_true] at hQ
      obtain ⟨b, o, H2, s1, s2, s3, s4, s5⟩ := g1.store (i := j) (k := 4) hj' (by omega) (vi (T[j].held + 1)) rfl
      simp [-store1_ptr, h1, hneg, k1, s1, hcell _ _ s2]
      rw [i64_add (by omega) (by omega), opt_some, s3, opt_some]
      refine hQ _ (Upd.after e1 ?_)
      refine Upd.rows ⟨k1, g1⟩ hnd s5 ?_
      rw [← tab_set]
      simpa using s4
    | false =>
      simp only [Bool.false_eq_true, if_false] at hQ
      obtain ⟨b, o, H2, s1, s2, s3, s4, s5⟩ := g1.store (i := j) (k := 4) hj' (by omega) (vi (T[j].held + -1)) rfl
      by_cases h0 : T[j].held = 0
      · simp only [h0, if_true] at hQ
        have c := hcell _ _ s2
        rw [h0] at c
        simp [h1, hneg, k1, s1, c]
        exact hQ _ (same _ e1)
      · simp only [h0, if_false] at hQ
        simp [-store1_ptr, h1, hneg, k1, s1, hcell _ _ s2, h0]
        rw [i64_sub (by omega) (by omega), opt_some, show T[j].held - 1 = T[j].held + -1 by omega, s3, opt_some]
        refine hQ _ (Upd.after e1 ?_)
        refine Upd.rows ⟨k1, g1⟩ hnd s5 ?_
        rw [← tab_set]
        simpa using s4
def dropT (T : List MntD) (q : PlaceD) : List MntD × Int :=
  match downT T q, T.findIdx? (fun m => decide (m.id = q.m)) with
  | some _, some i => if 0 < (T.getD i zeroM).held ∨ T.any (standsIn q.m) = true then (T, 16) else (T.eraseIdx i, 0)
  | _, _ => (T, 22)
theorem S.mount_Table_Drop (hE : Fold E) (p : Nat) (v : Value) (T : List MntD) (nx : Int) (hr : (tabR p v T nx).P H) (hnd : (tabR p v T nx).fp.Nodup) (ok : TabOk T nx) (q : PlaceD)
    (hQ : ∀ v' H', Upd (tabR p v T nx) (tabR p v' (dropT T q).1 nx) H H' → Q (vi (dropT T q).2) H') : E.call (E.fid i.mount_Table_Drop) [ptr p 0, q.v] H Q := by
  apply hE.mount_Table_Drop
  have hlen := ok.len
  have hT := tabR.at_ hr (by omega)
  have hpv : p ∉ blkL v := by simp only [tabR, List.nodup_cons] at hnd; exact hnd.1
  have same : ∀ H', Ext H H' → Upd (tabR p v T nx) (tabR p v T nx) H H' := fun H' e => (Upd.refl hr (tabR.fp_lt hr) hnd).ext e
  have x1 : Ext H (H.new (.cells q.cells none)) := (Ext.refl H).new _
  have k1 : (H.new (.cells q.cells none)).get H.next = .cells q.cells none := AH.get_new_self _ _
  have r2 := row_all q.cells none 2 rfl
  have q0 : q.cells[0]? = some (vi q.m) := rfl
  simp [-buildS_eq, F.mount_Table_Drop, r2]
  refine S.mount_Table_Down hE p T nx q (hT.mono x1) fun H2 e2 => ?_
  have x2 := x1.trans e2
  have k2 := e2.cells k1
  have l2 := AH.lt_cells k2
  unfold dropT at hQ
  cases hd : downT T q with
  | none =>
    simp only [hd] at hQ
    simp [optP, PlaceD.cells, splice]
    exact hQ v _ (same _ (x2.new _))
  | some q' =>
    simp only [hd] at hQ
    have hne : ¬ H2.next = H.next := by omega
    simp [optP, PlaceD.cells, splice, AH.get_new, k2, q0, Nat.ne_of_lt l2]
    generalize hH3 : H2.new (.cells [vi q'.m, u16 q'.i] none) = H3
    have e3 : Ext H2 H3 := by subst hH3; exact (Ext.refl H2).new _
    clear hH3
    have x3 := x2.trans e3
    have k3 := e3.cells k2
    refine S.mount_Table_find hE p T nx q.m (hT.mono x3) fun H4 e4 => ?_
    have x4 := x3.trans e4
    have k4 := e4.cells k3
    have t4 := x4.cells hr.1
    have g4 := hr.2.ext x4
    have hex : ∃ (j : Nat) (hj : j < T.length), findT T q.m = j ∧ T.findIdx? (fun m => decide (m.id = q.m)) = some j := by
      rcases ixOf_cases (fun m : MntD => decide (m.id = q.m)) T with ⟨h1, h2⟩ | ⟨j, hj, h1, h2, _, h3⟩
      · have h1 : getT T q.m = none := h1
        simp [downT, h1] at hd
      · exact ⟨j, hj, h1, h3⟩
    obtain ⟨j, hj, h1, h3⟩ := hex
    have hdj : T.getD j zeroM = T[j] := by simp [hj]
    simp only [h3, hdj] at hQ
    obtain ⟨b, o, f1, f2⟩ := g4.toRows.ix (i := j) (by simpa using hj)
    have c4 := row_at f2 (j := 4) (by omega)
    simp only [List.getElem_map] at c4
    have hc : (H4.get b).cell (o + 4) = some (vi T[j].held) := by rw [c4]; simp [MntD.cells]
    simp [-store1_ptr, h1, t4, f1, hc]
    have busy : (0 < T[j].held ∨ T.any (standsIn q.m) = true) → ∀ H', Ext H4 H' → Q (vi 16) H' := by
      intro hb H' e
      rw [if_pos hb] at hQ
      exact hQ v _ (same _ (x4.trans e))
    have fin : ¬ (0 < T[j].held ∨ T.any (standsIn q.m) = true) → ∀ H5, Ext H4 H5 → E.call (E.fid i.slices_Clone_mount_Mount) [v] H5 (fun v29 H12 =>
        opt (binInt .add (vi j) (.int .i64 1)) fun v30 =>
        E.call (E.fid i.slices_Delete_mount_Mount) [v29, (vi j), v30] H12 fun v31 H13 =>
        opt (store1 (ptr p 0) v31 H13) fun H14 =>
        Q (.int .i64 0) H14) := by
      intro hb H5 e5
      rw [if_neg hb] at hQ
      have x5 := x4.trans e5
      refine S.slices_Clone_mount_Mount hE T (by omega) v (hr.2.ext x5).toRows fun v6 H6 e6 g6 b6 => ?_
      have x6 := x5.trans e6
      rw [i64_inc (by omega), opt_some]
      refine S.slices_Delete_mount_Mount hE T (by omega) v6 g6 j hj fun v7 H7 o7 b7 g7 => ?_
      have n5 := x5.1
      have hl := AH.lt_cells hr.1
      have o7' : Only (p :: blkL v) H H7 := (x6.only (F := p :: blkL v)).trans o7 fun b hb => .inr (by have := b6 b (mem_blkL.1 hb); omega)
      have hpv6 : p ∉ blkL v6 := fun k => by have := b6 p (mem_blkL.1 k); omega
      have t7 := o7.cells (x6.cells hr.1) hpv6
      have l7 := AH.lt_cells t7
      simp [t7, g7.plain]
      refine hQ v7 _ (Upd.put0 hr hpv o7' g7 fun b hb => .inr ?_)
      have := b6 b (by rw [← b7]; exact hb)
      omega
    by_cases hh : 0 < T[j].held
    · simp [hh]
      exact busy (.inl hh) _ (Ext.refl _)
    · simp [-store1_ptr, hh, t4]
      refine S.slices_ContainsFunc_mount_Mount hE T (by omega) v _ g4.toRows (standsIn q.m) (fun H' m K e _ hK => ?_) fun H5 e5 => ?_
      · simp
        exact S.mount_Table_Drop_1 hE m H.next q (e.cells k4) hK
      · by_cases ha : T.any (standsIn q.m) = true
        · simp [ha]
          exact busy (.inr ha) _ e5
        · have ha' : T.any (standsIn q.m) = false := by simpa using ha
          have t5 := e5.cells t4
          simp [-store1_ptr, ha', t5]
          simpa using fin (by simp [hh, ha']) H5 e5
end Go.AM
end
section
namespace Go.AM
variable {E : Sy} {H0 Z H : AH} {L : List Res} {Q : Value → AH → Prop}
theorem nodup_of : ∀ {L : List Res} (_ : (L.flatMap Res.fp).Nodup) {k : Nat} {r : Res} (_ : L[k]? = some r), r.fp.Nodup
  | [], _, k, r, h => by simp at h
  | x :: L, hn, k, r, h => by
    rw [List.flatMap_cons, List.nodup_append] at hn
    cases k with
    | zero => simp at h; subst h; exact hn.1
    | succ k => exact nodup_of hn.2.1 (by simpa using h)
theorem Has.nodup (h : Has H0 Z H L) {k : Nat} {r : Res} (hk : L[k]? = some r) : r.fp.Nodup := nodup_of h.nd hk
theorem Has.tab (h : Has H0 Z H L) {k p : Nat} {v : Value} {T : List MntD} {nx : Int} (hk : L[k]? = some (tabR p v T nx)) (hn : T.length < 2 ^ 62) : TabAt H p T nx := tabR.at_ (h.get hk) hn
section
variable {k p : Nat} {v : Value} {T : List MntD} {nx : Int}
theorem S.mount_Table_Bind' (hE : Fold E) (h : Has H0 Z H L) (hk : L[k]? = some (tabR p v T nx)) (ok : TabOk T nx) (root : BitVec 16) (q : PlaceD)
    (hQ : ∀ v' H', Has H0 Z H' (L.set k (tabR p v' (bindT T nx root q).T (bindT T nx root q).nx)) → Q (.tuple #[vi (bindT T nx root q).n, vi (bindT T nx root q).e]) H') :
    E.call (E.fid i.mount_Table_Bind) [ptr p 0, u16 root, q.v] H Q :=
  S.mount_Table_Bind hE p v T nx (h.get hk) (h.nodup hk) ok root q fun v' H' u => hQ v' H' (h.step hk u)
theorem S.mount_Table_Hold' (hE : Fold E) (h : Has H0 Z H L) (hk : L[k]? = some (tabR p v T nx)) (ok : TabOk T nx) (id : Int) (more : Bool)
    (hQ : ∀ H', Has H0 Z H' (L.set k (tabR p v (holdT T id more).1 nx)) → Q (vi (holdT T id more).2) H') : E.call (E.fid i.mount_Table_Hold) [ptr p 0, vi id, vb more] H Q :=
  S.mount_Table_Hold hE p v T nx (h.get hk) (h.nodup hk) ok id more fun H' u => hQ H' (h.step hk u)
theorem S.mount_Table_Drop' (hE : Fold E) (h : Has H0 Z H L) (hk : L[k]? = some (tabR p v T nx)) (ok : TabOk T nx) (q : PlaceD)
    (hQ : ∀ v' H', Has H0 Z H' (L.set k (tabR p v' (dropT T q).1 nx)) → Q (vi (dropT T q).2) H') : E.call (E.fid i.mount_Table_Drop) [ptr p 0, q.v] H Q :=
  S.mount_Table_Drop hE p v T nx (h.get hk) (h.nodup hk) ok q fun v' H' u => hQ v' H' (h.step hk u)
theorem S.mount_New' (hE : Fold E) (h : Has H0 Z H L) (hQ : ∀ p v H', Has H0 Z H' (L ++ [tabR p v tab0 1]) → Q (ptr p 0) H') : E.call (E.fid i.mount_New) [] H Q :=
  S.mount_New hE fun p v H' n => hQ p v H' (h.addnew n)
end
theorem splice0 {c vs : List Value} (h : c.length = vs.length) : splice c 0 vs = vs := by simp [splice, h]
@[simp] theorem PlaceD.cells_length (p : PlaceD) : p.cells.length = 2 := rfl
@[simp] theorem MntD.cells_length (m : MntD) : m.cells.length = 5 := rfl
@[simp] theorem place_plain (p : PlaceD) : p.cells.all plain1 = true := rfl
@[simp] theorem place_plain' (p : PlaceD) : (∀ x ∈ p.cells, plain1 x = true) = True := eq_true (by simp [PlaceD.cells, u16])
@[simp] theorem place_splice (a b : Value) (p : PlaceD) : splice [a, b] 0 p.cells = p.cells := rfl
@[simp] theorem place_splice' (q p : PlaceD) : splice q.cells 0 p.cells = p.cells := rfl
@[simp] theorem place_take (p : PlaceD) : p.cells.take 2 = p.cells := rfl
@[simp] theorem mnt_plain (p : MntD) : p.cells.all plain1 = true := rfl
@[simp] theorem mnt_plain' (p : MntD) : (∀ x ∈ p.cells, plain1 x = true) = True := eq_true (by simp [MntD.cells, u16])
@[simp] theorem mnt_splice (a b c d e : Value) (p : MntD) : splice [a, b, c, d, e] 0 p.cells = p.cells := rfl
@[simp] theorem mnt_take (p : MntD) : p.cells.take 5 = p.cells := rfl
theorem tabOk0 : TabOk tab0 1 := ⟨by unfold Older; simp [tab0], by simp [tab0], by omega, by omega, by simp [tab0]⟩
@[simp] theorem sameCells_place (p q : PlaceD) : sameCells [0, 0] p.cells q.cells = some (decide (p = q)) := by
  obtain ⟨a, b⟩ := p
  obtain ⟨c, d⟩ := q
  have hbd : ((b.toNat : Int) == (d.toNat : Int)) = decide (b = d) := by
    by_cases h : b = d
    · subst h; simp
    · have : ¬ b.toNat = d.toNat := fun e => h (BitVec.eq_of_toNat_eq e)
      simp [h]; omega
  simp [PlaceD.cells, sameCells, sameCell, u16, Bool.decide_and]
  simp [hbd, Bool.beq_eq_decide_eq]
@[simp] theorem place_eql (p q : PlaceD) : binAgg [0, 0] .eql p.v q.v = some (vb (decide (p = q))) := by simp [binAgg]
@[simp] theorem place_neq (p q : PlaceD) : binAgg [0, 0] .neq p.v q.v = some (vb (decide (p ≠ q))) := by simp [binAgg]
@[simp] theorem place_build (a : Int) (b : BitVec 16) : buildV [(0, 1), (1, 1)] #[.int .i64 0, .int .u16 0] [(0, vi a), (1, u16 b)] = some (PlaceD.v ⟨a, b⟩) := rfl
theorem S.pinfoldlaw17_Awake (hE : Fold E) (h : Has H0 Z H []) (hQ : ∀ H', Has H0 Z H' [] → Q (vb true) H') : E.call (E.fid i.pinfoldlaw17_Awake) [] H Q := by
  apply hE.pinfoldlaw17_Awake
  refine S.mount_New' hE h fun p v H1 h1 => ?_
  have e1 : (Value.int .u16 5) = u16 5#16 := rfl
  have e2 : (Value.int .u16 7) = u16 7#16 := rfl
  have e0 : (Value.int .i64 0) = vi 0 := rfl
  have e3 : (Value.int .i64 1) = vi 1 := rfl
  simp only [e0, e1, e2, e3, place_build, opt_some]
  refine S.mount_Table_Bind' hE h1 (k := 0) rfl tabOk0 5#16 ⟨0, 7#16⟩ fun v2 H2 h2 => ?_
  have hb : bindT tab0 1 5#16 ⟨0, 7#16⟩ = ⟨tab0 ++ [⟨1, ⟨0, 7#16⟩, 5#16, 0⟩], 2, 1, 0⟩ := rfl
  have hs : seen (tab0 ++ [⟨1, ⟨0, 7#16⟩, 5#16, 0⟩]) ⟨0, 7#16⟩ = ⟨1, 5#16⟩ := by decide
  rw [hb] at h2 ⊢
  simp
  refine S.mount_Table_Seen hE p _ 2 ⟨0, 7#16⟩ (h2.tab (k := 0) rfl (by simp [tab0])) (by unfold Older; simp [tab0]) fun H3 e3 => ?_
  rw [hs]
  simp
  exact hQ _ ((h2.grow e3).drop 0)
end Go.AM
end
section
namespace Go.AM
variable {E : Sy} {H0 Z H : AH} {L : List Res} {Q : Value → AH → Prop}
/-- Mounts, each at the place that was seen ahead of it. -/
structure Chain (p : PlaceD) (n : Nat) (T : List MntD) (w : Nat → PlaceD) : Prop where
  w0 : w 0 = p
  wm : ∀ k, k ≤ n → (w k).m = k
  len : T.length = n + 1
  ids : ∀ m ∈ T, 0 ≤ m.id ∧ m.id ≤ n ∧ m.held = 0 ∧ (m.id ≠ 0 → m.at_.m < m.id)
  up : ∀ k, k < n → ∃ m, T.find? (standsAt (w k)) = some m ∧ ⟨m.id, m.root⟩ = w (k + 1)
  top : T.find? (standsAt (w n)) = none
  down : ∀ k, k < n → downT T (w (k + 1)) = some (w k)
  has : ∀ k : Nat, k ≤ n → (getT T k).isSome = true
theorem chain0 (i : BitVec 16) : Chain ⟨0, i⟩ 0 tab0 (fun _ => ⟨0, i⟩) := by
  refine ⟨rfl, fun k h => by simp; omega, rfl, by simp [tab0], fun k h => by omega, by simp [tab0, standsAt], fun k h => by omega, fun k h => ?_⟩
  have : k = 0 := by omega
  subst this
  simp [getT, tab0]
theorem Chain.seenN {p : PlaceD} {n : Nat} {T : List MntD} {w : Nat → PlaceD} (h : Chain p n T w) : ∀ (j k : Nat), k ≤ n → n - k ≤ j → AM.seenN T j (w k) = w n
  | 0, k, h1, h2 => by
    have : k = n := by omega
    subst this; rfl
  | j + 1, k, h1, h2 => by
    by_cases hk : k = n
    · subst hk; simp [AM.seenN, h.top]
    · obtain ⟨m, hm, e⟩ := h.up k (by omega)
      simp only [AM.seenN, hm]
      rw [e]
      exact h.seenN j (k + 1) (by omega) (by omega)
theorem Chain.seen {p : PlaceD} {n : Nat} {T : List MntD} {w : Nat → PlaceD} (h : Chain p n T w) : AM.seen T p = w n := by
  have := h.seenN T.length 0 (by omega) (by rw [h.len]; omega)
  rw [h.w0] at this
  exact this
theorem getT_append {T : List MntD} {m : MntD} {id : Int} (h : (getT T id).isSome = true) : getT (T ++ [m]) id = getT T id := by
  unfold getT at *
  rw [List.find?_append]
  cases hg : T.find? (fun m => decide (m.id = id)) with
  | none => rw [hg] at h; simp at h
  | some x => rfl
theorem getT_new {T : List MntD} {m : MntD} (h : ∀ x ∈ T, x.id ≠ m.id) : getT (T ++ [m]) m.id = some m := by
  unfold getT
  rw [List.find?_append, List.find?_eq_none.2 (by simpa using h)]
  simp
theorem Chain.step {p : PlaceD} {n : Nat} {T : List MntD} {w : Nat → PlaceD} (h : Chain p n T w) (r : BitVec 16) :
    Chain p (n + 1) (T ++ [⟨((n + 1 : Nat) : Int), w n, r, 0⟩]) (fun k => if k = n + 1 then ⟨((n + 1 : Nat) : Int), r⟩ else w k) := by
  have hn := h.wm n (Nat.le_refl _)
  have hnew : ∀ x ∈ T, x.id ≠ ((n + 1 : Nat) : Int) := fun x hx => by have := (h.ids x hx).2.1; omega
  refine ⟨by simp [h.w0], fun k hk => ?_, by simp [h.len], fun m hm => ?_, fun k hk => ?_, ?_, fun k hk => ?_, fun k hk => ?_⟩
  · by_cases e : k = n + 1
    · simp [e]
    · simp only [e, if_false]; exact h.wm k (by omega)
  · rcases List.mem_append.1 hm with hm | hm
    · obtain ⟨a, b, c, d⟩ := h.ids m hm
      exact ⟨a, by omega, c, d⟩
    · simp only [List.mem_singleton] at hm; subst hm
      exact ⟨by simp; omega, by simp, rfl, fun _ => by simp only; omega⟩
  · by_cases e : k = n
    · subst e
      refine ⟨⟨((k + 1 : Nat) : Int), w k, r, 0⟩, ?_, by simp⟩
      rw [List.find?_append]
      simp only [show ¬ k = k + 1 by omega, if_false, h.top]
      have : ((k : Int) + 1 ≠ 0) := by omega
      simp [standsAt, this]
    · obtain ⟨m, hm, hw⟩ := h.up k (by omega)
      refine ⟨m, ?_, by simp only [show ¬ k + 1 = n + 1 by omega, if_false]; exact hw⟩
      simp only [show ¬ k = n + 1 by omega, if_false]
      rw [List.find?_append, hm]; rfl
  · simp only [if_true]
    rw [List.find?_eq_none]
    intro m hm
    rcases List.mem_append.1 hm with hm | hm
    · obtain ⟨a, b, c, d⟩ := h.ids m hm
      simp only [standsAt, Bool.and_eq_true, decide_eq_true_eq, not_and]
      intro h0 he
      have := d h0
      rw [he] at this
      simp only at this
      omega
    · simp only [List.mem_singleton] at hm; subst hm
      simp only [standsAt, Bool.and_eq_true, decide_eq_true_eq, not_and]
      intro h0 he
      rw [he] at hn
      simp only at hn
      omega
  · by_cases e : k = n
    · subst e
      simp only [if_true, show ¬ k = k + 1 by omega, if_false]
      have := getT_new (T := T) (m := ⟨((k + 1 : Nat) : Int), w k, r, 0⟩) hnew
      simp only at this
      simp only [downT, this]
      have : ¬ (((k + 1 : Nat) : Int) = 0) := by omega
      simp only [this, ne_eq, not_true, or_self, if_false]
    · have hd := h.down k (by omega)
      simp only [show ¬ k + 1 = n + 1 by omega, show ¬ k = n + 1 by omega, if_false]
      have hm := h.wm (k + 1) (by omega)
      have hh := h.has (k + 1) (by omega)
      rw [← hm] at hh
      unfold downT at hd ⊢
      rw [getT_append hh]
      exact hd
  · by_cases e : k = n + 1
    · subst e
      have := getT_new (T := T) (m := ⟨((n + 1 : Nat) : Int), w n, r, 0⟩) hnew
      simp only at this
      rw [this]; rfl
    · have hh := h.has k (by omega)
      rw [getT_append hh]; exact hh
theorem Chain.ok {p : PlaceD} {n : Nat} {T : List MntD} {w : Nat → PlaceD} (h : Chain p n T w) (hn : n ≤ 15) : TabOk T ((n + 1 : Nat) : Int) :=
  ⟨fun m hm h0 => (h.ids m hm).2.2.2 h0, by rw [h.len]; omega, by omega, by omega, fun m hm => by have := (h.ids m hm).2.2.1; omega⟩
theorem findT_has {T : List MntD} {id : Int} (h : (getT T id).isSome = true) : ¬ findT T id < 0 := by
  rcases ixOf_cases (fun m : MntD => decide (m.id = id)) T with ⟨h1, _⟩ | ⟨j, _, h1, _⟩
  · have h1 : getT T id = none := h1
    rw [h1] at h; simp at h
  · have h1 : findT T id = j := h1
    omega
theorem Chain.bind {p : PlaceD} {n : Nat} {T : List MntD} {w : Nat → PlaceD} (h : Chain p n T w) (hn : n ≤ 15) (r : BitVec 16) :
    bindT T ((n + 1 : Nat) : Int) r (w n) = if n = 15 then ⟨T, ((n + 1 : Nat) : Int), 0, 28⟩ else ⟨T ++ [⟨((n + 1 : Nat) : Int), w n, r, 0⟩], ((n + 1 : Nat) : Int) + 1, ((n + 1 : Nat) : Int), 0⟩ := by
  have h1 := findT_has (h.has n (Nat.le_refl _))
  rw [← h.wm n (Nat.le_refl _)] at h1
  have h2 : AM.seen T (w n) = w n := seen_none h.top
  unfold bindT
  rw [if_neg h1, if_neg (by rw [h2]; simp), h.len]
  by_cases e : n = 15
  · rw [if_pos e, if_pos (by omega)]
  · rw [if_neg e, if_neg (by omega)]
theorem S.pinfoldlaw17_MountBack (hE : Fold E) (roots : List (BitVec 8)) (v : Value) (hv : Vals H v (roots.map u8)) (at_ : BitVec 8) (hQ : ∀ H', Q (vb true) H') : E.call (E.fid i.pinfoldlaw17_MountBack) [v, u8 at_] H Q := by
  apply hE.pinfoldlaw17_MountBack
  refine S.pinfoldlaw17_Awake hE (Has.start (Ext.refl H)) fun H1 h1 => ?_
  simp
  refine S.mount_New' hE h1 fun pt v0 H2 h2 => ?_
  have hl := Rows.lenSlc hv
  simp only [List.length_map] at hl
  simp [hl, splice]
  have h3 := h2.newbox (PlaceD.cells ⟨0, BitVec.setWidth 16 (2#8 + at_)⟩)
  have hc0 := chain0 (BitVec.setWidth 16 (2#8 + at_))
  have hpc : [vi 0, u16 (BitVec.setWidth 16 (2#8 + at_))] = PlaceD.cells ⟨0, BitVec.setWidth 16 (2#8 + at_)⟩ := rfl
  rw [hpc]
  generalize (⟨0, BitVec.setWidth 16 (2#8 + at_)⟩ : PlaceD) = p at *
  simp only [List.nil_append] at h3
  generalize hH3 : H2.new (.cells p.cells none) = H3 at *
  clear hH3 h2
  have last : ∀ (n : Nat) (T : List MntD) (w : Nat → PlaceD) (v1 : Value) (H4 : AH), n ≤ 15 → Chain p n T w → Has H H H4 [tabR pt v1 T ((n + 1 : Nat) : Int), boxR H2.next p.cells] → F.pinfoldlaw17_MountBack_j1 E Q (ptr pt 0) (ptr H2.next 0) (vi n) H4 := by
    intro n T w v1 H4 hn hc h4
    have ok := hc.ok hn
    have hlen := hc.len
    have b4 := h4.box (k := 1) rfl
    have r4 := row_all p.cells none 2 rfl
    simp [F.pinfoldlaw17_MountBack_j1, b4, r4]
    refine S.mount_Table_Seen hE pt T _ p (h4.tab (k := 0) rfl (by omega)) ok.older fun H5 e5 => ?_
    have h5 := (h4.grow e5).newbox (w n).cells
    rw [hc.seen]
    simp
    generalize hH6 : H5.new (.cells (w n).cells none) = H6 at *
    refine LoopL.count n (fun j s H' => s = [ptr pt 0, ptr H2.next 0, ptr H5.next 0, vi n, vi j] ∧ j ≤ n ∧ Has H H H' [tabR pt v1 T ((n + 1 : Nat) : Int), boxR H2.next p.cells, boxR H5.next (w (n - j)).cells]) ?_ ⟨rfl, by omega, h5⟩
    rintro j _ H' X hj hX ⟨rfl, _, h7⟩
    have b7 := h7.box (k := 2) rfl
    have b1 := h7.box (k := 1) rfl
    have r7 := row_all (w (n - j)).cells none 2 rfl
    simp only [F.pinfoldlaw17_MountBack_l1, nth_0, nth_1, nth_2, nth_3, nth_4, i64_lss, opt_some]
    refine ifB_split (fun h => ?_) (fun h => ?_)
    · have hjn : j < n := by omega
      simp [b7, r7]
      refine S.mount_Table_Down hE pt T _ (w (n - j)) (h7.tab (k := 0) rfl (by omega)) fun H8 e8 => ?_
      have hd := hc.down (n - j - 1) (by omega)
      rw [show n - j - 1 + 1 = n - j by omega] at hd
      rw [hd]
      have h8 := h7.grow e8
      have h9 := h8.newbox (w (n - j - 1)).cells
      have b9 := h9.box (k := 2) rfl
      have b92 := h9.box (k := 3) rfl
      have ln := AH.lt_cells b9
      have b8 := h8.box (k := 2) rfl
      have l8 := AH.lt_cells b8
      have r9 := row_all (w (n - j - 1)).cells none 2 rfl
      have hp := (h9.put (k := 2) rfl (w (n - j - 1)).cells).drop 3
      simp [optP]
      simp [AH.get_new, b8, r9, Nat.ne_of_lt l8]
      rw [i64_inc (by omega), opt_some]
      refine hX hjn _ _ ⟨rfl, by omega, ?_⟩
      rw [show n - (j + 1) = n - j - 1 by omega]
      simpa [Nat.ne_of_lt l8] using hp
    · have : j = n := by omega
      subst this
      rw [show j - j = 0 by omega, hc.w0] at b7 r7
      simp [b7, b1, r7]
      exact hQ _
  refine LoopL.count roots.length (fun i s H' => ∃ n T w v1, n ≤ 15 ∧ n ≤ i ∧ s = [ptr pt 0, ptr H2.next 0, vi n, v, vi roots.length, vi i] ∧ Chain p n T w ∧ Has H H H' [tabR pt v1 T ((n + 1 : Nat) : Int), boxR H2.next p.cells]) ?_ ⟨0, tab0, _, v0, by omega, by omega, rfl, hc0, h3⟩
  rintro i _ H4 X hi hX ⟨n, T, w, v1, hn, hni, rfl, hc, h4⟩
  have ok := hc.ok hn
  have hlen := hc.len
  simp only [F.pinfoldlaw17_MountBack_l2, nth_0, nth_1, nth_2, nth_3, nth_4, nth_5, i64_lss, opt_some]
  refine ifB_split (fun h => ?_) (fun h => ?_)
  · have hin : i < roots.length := by omega
    have hv4 : Vals H4 v (roots.map u8) := Rows.sub hv h4.sub
    obtain ⟨b, o, f1, f2⟩ := hv4.elem (i := i) (by simpa using hin)
    obtain ⟨r, hr⟩ : ∃ r, roots[i] = r := ⟨_, rfl⟩
    have f2 : (H4.get b).cell o = some (u8 r) := by rw [f2, List.getElem_map, hr]
    have b4 := h4.box (k := 1) rfl
    have r4 := row_all p.cells none 2 rfl
    by_cases h20 : (20 : Int) ≤ i
    · simp [f1, f2, h20]
      exact last n T w v1 H4 hn hc h4
    · simp [f1, f2, h20, b4]
      refine S.mount_Table_Seen hE pt T _ p (h4.tab (k := 0) rfl (by omega)) ok.older fun H5 e5 => ?_
      rw [hc.seen]
      have h5 := (h4.grow e5).newbox (w n).cells
      have b5 := h5.box (k := 2) rfl
      simp
      have r5 := row_all (w n).cells none 2 rfl
      refine S.mount_Table_Bind' hE (h5.drop 2) (k := 0) rfl ok _ _ fun v2 H6 h6 => ?_
      rw [hc.bind hn] at h6 ⊢
      by_cases hn15 : n = 15
      · simp [hn15] at h6 ⊢
        refine S.mount_Table_List hE pt T _ (h6.tab (k := 0) rfl (by omega)) (by omega) fun v3 H7 e7 r7 => ?_
        have hl7 := r7.lenSlc
        rw [List.length_map, hlen, hn15] at hl7
        simp [hl7]
        rw [i64_inc (by omega), opt_some]
        refine hX hin _ _ ⟨15, T, w, v2, by omega, by omega, by simp, hn15 ▸ hc, h6.grow e7⟩
      · simp [hn15] at h6 ⊢
        have hc' := hc.step (BitVec.setWidth 16 r + 300#16)
        simp only [Int.natCast_add, Int.cast_ofNat_Int] at hc'
        have hlen' := hc'.len
        refine S.mount_Table_List hE pt _ _ (h6.tab (k := 0) rfl (by omega)) (by omega) fun v3 H7 e7 r7 => ?_
        have hl7 := r7.lenSlc
        rw [List.length_map, hlen'] at hl7
        have h7 := h6.grow e7
        have b7 := h7.box (k := 1) rfl
        have hn16 : ¬ (16 : Int) < ↑n + 1 + 1 := by omega
        have hn15' : ¬ (15 : Int) ≤ ↑n := by omega
        simp [hl7, hn16, hn15']
        rw [i64_add (by omega) (by omega), opt_some]
        have ok' := hc'.ok (by omega)
        simp [b7]
        refine S.mount_Table_Seen hE pt _ _ p (h7.tab (k := 0) rfl (by omega)) ok'.older fun H8 e8 => ?_
        rw [hc'.seen]
        have hcp : [Value.int IntKind.i64 0, u16 0#16] = PlaceD.cells ⟨0, 0#16⟩ := rfl
        have e1 : [vi (↑n + 1), u16 (BitVec.setWidth 16 r + 300#16)] = PlaceD.cells ⟨↑n + 1, BitVec.setWidth 16 r + 300#16⟩ := rfl
        simp [e1, splice]
        rw [i64_inc (by omega), opt_some]
        refine hX hin _ _ ⟨n + 1, _, _, v2, by omega, by omega, by simp, hc', by simpa using h7.grow e8⟩
  · exact last n T w v1 H4 hn hc h4
theorem S.law_MountBack (hE : Fold E) (args : List Value) (ha : ArgsSV H [.slice 1 (.int .u8), .int .u8] args) (hQ : ∀ H', Q (vb true) H') : E.call (E.fid i.pinfoldlaw17_MountBack) args H Q := by
  obtain ⟨v1, _, rfl, h1, ha⟩ := ha.cons_inv
  obtain ⟨v2, _, rfl, h2, ha⟩ := ha.cons_inv
  obtain rfl := ha.nil_inv
  obtain ⟨l, hl⟩ := h1.u8s
  obtain ⟨x, rfl⟩ := h2.u8
  exact S.pinfoldlaw17_MountBack hE l v1 hl x hQ
end Go.AM
end
section
namespace Go.AM
variable {E : Sy} {H0 Z H : AH} {L : List Res} {Q : Value → AH → Prop}
/-- Mounts, each in the one ahead; one of them held. -/
def hrow (k : Nat) (c : Int) : Nat → MntD
  | 0 => ⟨0, ⟨0, 0#16⟩, 1#16, if 0 = k then c else 0⟩
  | j + 1 => ⟨((j + 1 : Nat) : Int), ⟨j, 99#16⟩, BitVec.ofNat 16 (10 + j), if j + 1 = k then c else 0⟩
def hT (k : Nat) (c : Int) (n : Nat) : List MntD := (List.range (n + 1)).map (hrow k c)
theorem hrow_id (k : Nat) (c : Int) (j : Nat) : (hrow k c j).id = j := by cases j <;> rfl
theorem hrow_held (k : Nat) (c : Int) (j : Nat) : (hrow k c j).held = if j = k then c else 0 := by cases j <;> rfl
theorem hrow_at (k : Nat) (c : Int) (j : Nat) : (hrow k c (j + 1)).at_ = ⟨j, 99#16⟩ := rfl
theorem hT_len (k : Nat) (c : Int) (n : Nat) : (hT k c n).length = n + 1 := by simp [hT]
theorem hT_get (k : Nat) (c : Int) (n j : Nat) (h : j < (hT k c n).length) : (hT k c n)[j] = hrow k c j := by simp [hT]
theorem hT_mem {k : Nat} {c : Int} {n : Nat} {m : MntD} : m ∈ hT k c n ↔ ∃ j, j ≤ n ∧ m = hrow k c j := by
  simp only [hT, List.mem_map, List.mem_range]
  constructor
  · rintro ⟨j, h, rfl⟩; exact ⟨j, by omega, rfl⟩
  · rintro ⟨j, h, rfl⟩; exact ⟨j, by omega, rfl⟩
theorem hT_ix (k : Nat) (c : Int) (n id : Nat) (h : id ≤ n) : (hT k c n).findIdx? (fun m => decide (m.id = (id : Int))) = some id := by
  refine List.findIdx?_eq_some_iff_getElem.2 ⟨by rw [hT_len]; omega, ?_, fun j hj => ?_⟩
  · rw [hT_get, hrow_id]; simp
  · rw [hT_get, hrow_id]; simp; omega
theorem hT_getT (k : Nat) (c : Int) (n id : Nat) (h : id ≤ n) : getT (hT k c n) id = some (hrow k c id) := by
  unfold getT
  refine List.find?_eq_some_iff_getElem.2 ⟨by rw [hrow_id]; simp, id, by rw [hT_len]; omega, hT_get _ _ _ _ _, fun j hj => ?_⟩
  rw [hT_get, hrow_id]; simp; omega
theorem hT_getD (k : Nat) (c : Int) (n j : Nat) (h : j ≤ n) : (hT k c n).getD j zeroM = hrow k c j := by
  have : j < (hT k c n).length := by rw [hT_len]; omega
  simp [List.getD_eq_getElem?_getD, this, hT_get]
theorem hT_none (k : Nat) (c : Int) (n id : Nat) (h : n < id) : getT (hT k c n) id = none := by
  unfold getT
  rw [List.find?_eq_none]
  intro m hm
  obtain ⟨j, hj, rfl⟩ := hT_mem.1 hm
  rw [hrow_id]; simp; omega
theorem hT_succ (k : Nat) (c : Int) (n : Nat) : hT k c (n + 1) = hT k c n ++ [hrow k c (n + 1)] := by
  simp only [hT]; rw [List.range_succ, List.map_append]; rfl
theorem hT_zero (k : Nat) : hT k 0 0 = tab0 := by simp [hT, hrow, tab0]
theorem hT_any (k k' : Nat) (n : Nat) : hT k 0 n = hT k' 0 n := by
  unfold hT
  congr 1
  funext j
  cases j <;> simp [hrow]
theorem hT_set (k : Nat) (c d : Int) (n : Nat) : (hT k c n).set k (addHeld d (hrow k c k)) = hT k (c + d) n := by
  refine List.ext_getElem (by simp [hT_len]) fun j h1 h2 => ?_
  rw [List.getElem_set, hT_get, hT_get]
  split
  · rename_i e; subst e
    cases k <;> simp [hrow, addHeld]
  · rename_i e
    have e' : ¬ j = k := fun x => e x.symm
    cases j with
    | zero => simp [hrow, e']
    | succ j => simp [hrow, e']
theorem hT_ok (k : Nat) (c : Int) (n : Nat) (hn : n ≤ 15) (hc : 0 ≤ c ∧ c < 2 ^ 60) (nx : Int) (hx : 0 ≤ nx ∧ nx < 2 ^ 61) : TabOk (hT k c n) nx := by
  refine ⟨fun m hm h0 => ?_, by rw [hT_len]; omega, hx.1, hx.2, fun m hm => ?_⟩
  · obtain ⟨j, hj, rfl⟩ := hT_mem.1 hm
    cases j with
    | zero => simp [hrow] at h0
    | succ j => simp [hrow]; omega
  · obtain ⟨j, hj, rfl⟩ := hT_mem.1 hm
    rw [hrow_held]
    split <;> omega
theorem hT_bind (k n : Nat) (hn : n < 15) : bindT (hT k 0 n) ((n + 1 : Nat) : Int) (BitVec.ofNat 16 (10 + n)) ⟨n, 99#16⟩ = ⟨hT k 0 (n + 1), ((n + 1 : Nat) : Int) + 1, ((n + 1 : Nat) : Int), 0⟩ := by
  have h1 := findT_has (T := hT k 0 n) (id := n) (by rw [hT_getT k 0 n n (Nat.le_refl _)]; rfl)
  have h2 : seen (hT k 0 n) ⟨n, 99#16⟩ = ⟨n, 99#16⟩ := by
    refine seen_none (List.find?_eq_none.2 fun m hm => ?_)
    obtain ⟨j, hj, rfl⟩ := hT_mem.1 hm
    cases j with
    | zero => simp [standsAt, hrow]
    | succ j => simp [standsAt, hrow]; try omega
  unfold bindT
  rw [if_neg h1, if_neg (by rw [h2]; simp), if_neg (by rw [hT_len]; omega), hT_succ]
  simp only [hrow, ite_self]
theorem hT_hold (k : Nat) (c : Int) (n : Nat) (h : k ≤ n) : holdT (hT k c n) k true = (hT k (c + 1) n, 0) := by
  unfold holdT
  rw [hT_ix k c n k h]
  simp only [hT_getD k c n k h, if_true, hT_set]
theorem hT_free (k : Nat) (c : Int) (n : Nat) (h : k ≤ n) (hc : c ≠ 0) : holdT (hT k c n) k false = (hT k (c - 1) n, 0) := by
  unfold holdT
  rw [hT_ix k c n k h]
  simp only [hT_getD k c n k h, Bool.false_eq_true, if_false, hT_set, hrow_held, if_true, hc]
  rw [Int.add_neg_eq_sub]
theorem hT_down (k : Nat) (c : Int) (n j : Nat) (h : j < n) : downT (hT k c n) ⟨((j + 1 : Nat) : Int), BitVec.ofNat 16 (10 + j)⟩ = some ⟨j, 99#16⟩ := by
  unfold downT
  simp only [hT_getT k c n (j + 1) (by omega), hrow]
  rw [if_neg (by simp; omega)]
theorem hT_drop_in (k : Nat) (c : Int) (n j : Nat) (h : j + 1 < n) : dropT (hT k c n) ⟨((j + 1 : Nat) : Int), BitVec.ofNat 16 (10 + j)⟩ = (hT k c n, 16) := by
  unfold dropT
  rw [hT_down k c n j (by omega)]
  simp only [hT_ix k c n (j + 1) (by omega)]
  have ha : (hT k c n).any (standsIn ((j + 1 : Nat) : Int)) = true := by
    rw [List.any_eq_true]
    exact ⟨hrow k c (j + 2), hT_mem.2 ⟨_, by omega, rfl⟩, by simp [standsIn, hrow]; exact decide_eq_true (by omega)⟩
  rw [if_pos (.inr ha)]
theorem hT_drop (k : Nat) (c : Int) (n : Nat) : dropT (hT k c (n + 1)) ⟨((n + 1 : Nat) : Int), BitVec.ofNat 16 (10 + n)⟩ = if n + 1 = k ∧ 0 < c then (hT k c (n + 1), 16) else (hT k c n, 0) := by
  unfold dropT
  rw [hT_down k c (n + 1) n (by omega)]
  simp only [hT_ix k c (n + 1) (n + 1) (by omega), hT_getD k c (n + 1) (n + 1) (by omega), hrow_held]
  have h0 : ¬ ((hT k c (n + 1)).any (standsIn ((n + 1 : Nat) : Int)) = true) := by
    rw [List.any_eq_true]
    rintro ⟨m, hm, h⟩
    obtain ⟨j, hj, rfl⟩ := hT_mem.1 hm
    cases j with
    | zero => simp [standsIn, hrow] at h
    | succ j =>
      simp [standsIn, hrow] at h
      have := of_decide_eq_true h.2
      omega
  simp only [h0, or_false]
  have he : (hT k c (n + 1)).eraseIdx (n + 1) = hT k c n := by
    rw [hT_succ, List.eraseIdx_append_of_length_le (by rw [hT_len]; exact Nat.le_refl _), hT_len, Nat.sub_self]; simp
  rw [he]
  by_cases h1 : n + 1 = k
  · simp [h1]
  · simp [h1]
theorem hT_gone (k : Nat) (c : Int) (n : Nat) (r : BitVec 16) : dropT (hT k c n) ⟨((n + 1 : Nat) : Int), r⟩ = (hT k c n, 22) := by
  unfold dropT
  have : downT (hT k c n) ⟨((n + 1 : Nat) : Int), r⟩ = none := by
    unfold downT
    simp only [hT_none k c n (n + 1) (by omega)]
  rw [this]
theorem hT_top (k : Nat) (c : Int) : dropT (hT k c 0) ⟨0, 1#16⟩ = (hT k c 0, 22) := by
  unfold dropT
  have : downT (hT k c 0) ⟨0, 1#16⟩ = none := by
    unfold downT
    have : getT (hT k c 0) 0 = some (hrow k c 0) := hT_getT k c 0 0 (by omega)
    simp only [this, hrow]
    simp
  rw [this]
theorem S.pinfoldlaw17_MountHeld (hE : Fold E) (many at_ times : BitVec 8) (hQ : ∀ H', Q (vb true) H') : E.call (E.fid i.pinfoldlaw17_MountHeld) [u8 many, u8 at_, u8 times] H Q := by
  apply hE.pinfoldlaw17_MountHeld
  refine S.pinfoldlaw17_Awake hE (Has.start (Ext.refl H)) fun H1 h1 => ?_
  simp
  refine S.mount_New' hE h1 fun pt v0 H2 h2 => ?_
  obtain ⟨n, hn, hn2⟩ : ∃ n : Nat, many.toNat % 15 + 1 = n ∧ 1 ≤ n ∧ n ≤ 15 := ⟨_, rfl, by omega, by omega⟩
  have hn' : 1 + (many.toNat : Int) % 15 = n := by omega
  rw [i64_add (by omega) (by omega), opt_some, hn']
  have g0 : Has H H H2 [tabR pt v0 (hT 0 0 0) ((0 + 1 : Nat) : Int)] := by rw [hT_zero]; exact h2
  refine LoopL.count n (fun i s H' => i ≤ n ∧ ∃ v1, s = [u8 at_, u8 times, ptr pt 0, vi n, vi n, vi i] ∧ Has H H H' [tabR pt v1 (hT 0 0 i) ((i + 1 : Nat) : Int)]) ?_ ⟨by omega, v0, rfl, g0⟩
  rintro i _ H4 X hi hX ⟨_, v1, rfl, h4⟩
  simp only [F.pinfoldlaw17_MountHeld_l1, nth_0, nth_1, nth_2, nth_3, nth_4, nth_5, i64_lss, opt_some]
  refine ifB_split (fun h => ?_) (fun h => ?_)
  · have hin : i < n := by omega
    have hcv : convInt .u16 (vi (10 + (i : Int))) = some (u16 (BitVec.ofNat 16 (10 + i))) := by
      simp only [convInt_int, wrap_u16, u16, BitVec.toNat_ofNat]
      congr 2
    have e9 : (Value.int .u16 99) = u16 99#16 := rfl
    have e0 : (Value.int .i64 0) = vi 0 := rfl
    rw [i64_add (by omega) (by omega), opt_some, hcv, opt_some, e9, e0]
    simp only [place_build, opt_some]
    refine S.mount_Table_Bind' hE h4 (k := 0) rfl (hT_ok 0 0 i (by omega) (by omega) _ (by omega)) _ _ fun v2 H6 h6 => ?_
    rw [hT_bind 0 i (by omega)] at h6 ⊢
    simp
    rw [i64_inc (by omega), opt_some]
    exact hX hin _ _ ⟨by omega, v2, rfl, by simpa using h6⟩
  · have : i = n := by omega
    subst this
    obtain ⟨k, hk, hk2⟩ : ∃ k : Nat, at_.toNat % i = k ∧ k < i := ⟨_, rfl, Nat.mod_lt _ (by omega)⟩
    obtain ⟨c, hc, hc2⟩ : ∃ c : Nat, times.toNat % 4 = c ∧ c < 4 := ⟨_, rfl, by omega⟩
    have hc' : (times.toNat : Int) % 4 = c := by omega
    simp
    rw [i64_rem_nat _ _ (by omega), opt_some, hk, i64_add (by omega) (by omega), opt_some]
    simp [hc']
    rw [hT_any 0 (k + 1) i] at h4
    have hk1 : (1 : Int) + k = ((k + 1 : Nat) : Int) := by omega
    rw [hk1]
    generalize hkk : k + 1 = kk at *
    refine LoopL.count c (fun j s H' => j ≤ c ∧ s = [u8 times, ptr pt 0, vi i, vi kk, vi c, vi j] ∧ Has H H H' [tabR pt v1 (hT kk j i) ((i + 1 : Nat) : Int)]) ?_ ⟨by omega, rfl, h4⟩
    rintro j _ H5 X2 hj hX2 ⟨_, rfl, h5⟩
    simp only [F.pinfoldlaw17_MountHeld_l2, nth_0, nth_1, nth_2, nth_3, nth_4, nth_5, i64_lss, opt_some]
    refine ifB_split (fun h => ?_) (fun h => ?_)
    · have hjc : j < c := by omega
      refine S.mount_Table_Hold' hE h5 (k := 0) rfl (hT_ok kk j i (by omega) (by omega) _ (by omega)) _ true fun H6 h6 => ?_
      rw [hT_hold kk j i (by omega)] at h6
      rw [i64_inc (by omega), opt_some]
      exact hX2 hjc _ _ ⟨by omega, rfl, by simpa using h6⟩
    · have : j = c := by omega
      subst this
      have hj' : (j : Int) < 2 ^ 60 := by omega
      -- from the last one on
      refine LoopL.ind (fun m s H' => m ≤ i ∧ ∃ (d : Int) (v2 : Value), 0 ≤ d ∧ d ≤ j ∧ (kk ≤ m → d = j) ∧ s = [u8 times, ptr pt 0, vi kk, vi m] ∧ Has H H H' [tabR pt v2 (hT kk d m) ((i + 1 : Nat) : Int)]) ?_ i ⟨by omega, j, v1, by omega, by omega, fun _ => rfl, rfl, h5⟩
      rintro m _ H6 X3 hX3 ⟨hm, d, v2, hd0, hd1, hd2, rfl, h6⟩
      have okm := hT_ok kk d m (by omega) (by omega) ((i + 1 : Nat) : Int) (by omega)
      simp only [F.pinfoldlaw17_MountHeld_l3, nth_0, nth_1, nth_2, nth_3]
      cases m with
      | zero =>
        simp
        refine S.mount_Table_List hE pt _ _ (h6.tab (k := 0) rfl (by rw [hT_len]; omega)) (by rw [hT_len]; omega) fun v3 H7 e7 r7 => ?_
        have hl7 := r7.lenSlc
        rw [List.length_map, hT_len] at hl7
        simp [hl7]
        refine S.mount_Top hE fun H8 e8 => ?_
        refine S.mount_Table_Drop' hE ((h6.grow e7).grow e8) (k := 0) rfl okm _ fun v4 H9 h9 => ?_
        rw [hT_top]
        simp
        exact hQ _
      | succ m =>
        have hpos : (0 : Int) < ((m + 1 : Nat) : Int) := by omega
        have hcv : ∀ x : Nat, convInt .u16 (vi (x : Int)) = some (u16 (BitVec.ofNat 16 x)) := by
          intro x
          simp only [convInt_int, wrap_u16, u16, BitVec.toNat_ofNat]
          congr 2
        have e9 : (9 : Int) + ((m + 1 : Nat) : Int) = ((10 + m : Nat) : Int) := by omega
        simp only [i64_gtr, hpos, decide_true, ifB_true, opt_some]
        rw [i64_add (by omega) (by omega), opt_some, e9, hcv, opt_some]
        have e0 : (Value.int .i64 0) = vi 0 := rfl
        simp only [e0, place_build, opt_some, allocW_eq]
        have hpc : (⟨((m + 1 : Nat) : Int), BitVec.ofNat 16 (10 + m)⟩ : PlaceD) = ⟨(m : Int) + 1, BitVec.ofNat 16 (10 + m)⟩ := by simp
        -- both drops
        have two : ∀ (d' : Int) (v3 : Value) (H7 : AH), 0 ≤ d' → d' ≤ j → (m + 1 = kk → d' = 0) → (kk ≤ m → d' = j) → Has H H H7 [tabR pt v3 (hT kk d' (m + 1)) ((i + 1 : Nat) : Int), boxR H6.next (PlaceD.cells ⟨(m : Int) + 1, BitVec.ofNat 16 (10 + m)⟩)] →
            F.pinfoldlaw17_MountHeld_j2 E Q X3 (u8 times) (ptr pt 0) (vi kk) (vi (m + 1)) (ptr H6.next 0) H7 := by
          intro d' v3 H7 z1 z2 z3 z4 h7
          have b7 := h7.box (k := 1) rfl
          simp [F.pinfoldlaw17_MountHeld_j2, b7]
          refine S.mount_Table_Drop' hE h7 (k := 0) rfl (hT_ok kk d' (m + 1) (by omega) (by omega) _ (by omega)) _ fun v4 H8 h8 => ?_
          rw [← hpc, hT_drop] at h8 ⊢
          rw [if_neg (by omega)] at h8 ⊢
          simp only [List.set_cons_zero] at h8
          have b8 := h8.box (k := 1) rfl
          rw [hpc] at b8
          simp [b8]
          refine S.mount_Table_Drop' hE h8 (k := 0) rfl (hT_ok kk d' m (by omega) (by omega) _ (by omega)) _ fun v5 H9 h9 => ?_
          rw [← hpc, hT_gone] at h9 ⊢
          simp only [List.set_cons_zero] at h9
          simp
          rw [i64_sub (by omega) (by omega), opt_some, show (m : Int) + 1 - 1 = m by omega]
          exact hX3 m (by omega) _ _ ⟨by omega, d', v5, z1, z2, z4, rfl, h9.drop 1⟩
        have fin : ∀ (H7 : AH) (v3 : Value), Has H H H7 [tabR pt v3 (hT kk d (m + 1)) ((i + 1 : Nat) : Int), boxR H6.next (PlaceD.cells ⟨(m : Int) + 1, BitVec.ofNat 16 (10 + m)⟩)] →
            F.pinfoldlaw17_MountHeld_j1 E Q X3 (u8 times) (ptr pt 0) (vi kk) (vi (m + 1)) (ptr H6.next 0) H7 := by
          intro H7 v3 h7
          by_cases hmk : m + 1 = kk
          · have hmk' : (m : Int) + 1 = kk := by omega
            have hdj := hd2 (by omega)
            rw [hdj] at h7
            simp [F.pinfoldlaw17_MountHeld_j1, hmk', hc']
            refine LoopL.count j (fun q s H' => q ≤ j ∧ ∃ v4, s = [u8 times, ptr pt 0, vi kk, vi kk, ptr H6.next 0, vi j, vi q] ∧ Has H H H' [tabR pt v4 (hT kk ((j : Int) - q) (m + 1)) ((i + 1 : Nat) : Int), boxR H6.next (PlaceD.cells ⟨(m : Int) + 1, BitVec.ofNat 16 (10 + m)⟩)]) ?_ ⟨by omega, v3, rfl, by simpa using h7⟩
            rintro q _ H8 X4 hq hX4 ⟨_, v4, rfl, h8⟩
            simp only [F.pinfoldlaw17_MountHeld_l4, nth_0, nth_1, nth_2, nth_3, nth_4, nth_5, nth_6, i64_lss, opt_some]
            refine ifB_split (fun h => ?_) (fun h => ?_)
            · have hqj : q < j := by omega
              have b8 := h8.box (k := 1) rfl
              have ok8 := hT_ok kk ((j : Int) - q) (m + 1) (by omega) (by omega) ((i + 1 : Nat) : Int) (by omega)
              simp [b8]
              refine S.mount_Table_Drop' hE h8 (k := 0) rfl ok8 _ fun v5 H9 h9 => ?_
              rw [← hpc, hT_drop, if_pos ⟨hmk, by omega⟩] at h9 ⊢
              simp only [List.set_cons_zero] at h9
              simp
              refine S.mount_Table_Hold' hE h9 (k := 0) rfl ok8 _ false fun H10 h10 => ?_
              rw [hT_free kk _ _ (by omega) (by omega)] at h10 ⊢
              simp only [List.set_cons_zero] at h10
              simp
              rw [i64_inc (by omega), opt_some]
              refine hX4 hqj _ _ ⟨by omega, v5, rfl, ?_⟩
              rw [hpc] at h10
              rw [show (j : Int) - ((q + 1 : Nat) : Int) = (j : Int) - q - 1 by omega]
              exact h10
            · have : q = j := by omega
              subst this
              have h8' := two (q - q) v4 H8 (by omega) (by omega) (by omega) (by omega) h8
              rw [hmk'] at h8'
              exact h8'
          · have hmk' : ¬ (m : Int) + 1 = kk := by omega
            simp [F.pinfoldlaw17_MountHeld_j1, hmk']
            exact two d v3 H7 hd0 hd1 (by omega) (fun h => hd2 (by omega)) h7
        have h7 := h6.newbox (PlaceD.cells ⟨(m : Int) + 1, BitVec.ofNat 16 (10 + m)⟩)
        simp
        cases m with
        | zero =>
          simp at h7 ⊢
          simpa using fin _ _ h7
        | succ m =>
          have e8 : (8 : Int) + (((m + 1 : Nat) : Int) + 1) = ((10 + m : Nat) : Int) := by omega
          have hlt : (1 : Int) < ((m + 1 : Nat) : Int) + 1 := by omega
          have hpl : [vi ((m + 1 : Nat) : Int), u16 (BitVec.ofNat 16 (10 + m))] = PlaceD.cells ⟨((m + 1 : Nat) : Int), BitVec.ofNat 16 (10 + m)⟩ := rfl
          simp only [hlt, decide_true, ifB_true]
          rw [i64_sub (by omega) (by omega), opt_some, i64_add (by omega) (by omega), opt_some, e8, hcv, opt_some, show ((m + 1 : Nat) : Int) + 1 - 1 = ((m + 1 : Nat) : Int) by omega]
          simp only [defd_int, defd_u16, vcells_int, vcells_u16, and_self, if_true, List.length_cons, List.length_nil, Nat.zero_add, true_and, splice]
          refine S.mount_Table_Drop' hE h7 (k := 0) rfl okm ⟨((m + 1 : Nat) : Int), BitVec.ofNat 16 (10 + m)⟩ fun v3 H8 h8 => ?_
          rw [hT_drop_in kk d (m + 1 + 1) m (by omega)] at h8 ⊢
          simp only [List.set_cons_zero] at h8
          simp only [i64_neq, opt_some, ne_eq, not_true, decide_false, ifB_false]
          exact fin _ _ h8
theorem S.law_MountHeld (hE : Fold E) (args : List Value) (ha : ArgsSV H [.int .u8, .int .u8, .int .u8] args) (hQ : ∀ H', Q (vb true) H') : E.call (E.fid i.pinfoldlaw17_MountHeld) args H Q := by
  obtain ⟨v1, _, rfl, h1, ha⟩ := ha.cons_inv
  obtain ⟨v2, _, rfl, h2, ha⟩ := ha.cons_inv
  obtain ⟨v3, _, rfl, h3, ha⟩ := ha.cons_inv
  obtain rfl := ha.nil_inv
  obtain ⟨x1, rfl⟩ := h1.u8
  obtain ⟨x2, rfl⟩ := h2.u8
  obtain ⟨x3, rfl⟩ := h3.u8
  exact S.pinfoldlaw17_MountHeld hE x1 x2 x3 hQ
end Go.AM
end
