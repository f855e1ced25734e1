/- CONTRACTS ON THE PRINTED FUNCTIONS. -/
import Derived.Test.YtakplbkhbalfoaaIeab2C0
set_option linter.all false
section
namespace Go.AM
section
variable {T T' : Tr} {n k : BitVec 16}
theorem Tr.WF.same (h : T.WF) (hN : T'.N.length = T.N.length) (hlim : T'.limit = T.limit) (hr : ∀ k, T'.refs k = T.refs k)
    (hn : ∀ k, (T'.node k).kind = (T.node k).kind ∧ (T'.node k).ents = (T.node k).ents ∧ (T'.node k).parent = (T.node k).parent ∧ (T'.node k).links = (T.node k).links ∧ (T'.node k).data.length ≤ 1024 ∧ 0 ≤ (T'.node k).held ∧ ((T.node k).kind = 0#8 → T'.node k = T.node k)) : T'.WF where
  lim := by rw [hlim]; exact h.lim
  len := by rw [hN, hlim]; exact h.len
  n0 := by rw [(hn _).1]; exact h.n0
  zero := fun k hk => by rw [(hn k).1] at hk; rw [(hn k).2.2.2.2.2.2 hk]; exact h.zero k hk
  root := by obtain ⟨q1, q2, q3, q4, _⟩ := hn 1#16; rw [q1, q3, q4]; exact h.root
  ents := fun m s k hk => by
    rw [(hn m).2.1] at hk
    rw [(hn m).1, (hn m).2.2.2.1, (hn k).1, (hn k).2.2.1]
    exact h.ents m s k hk
  rising := fun k => by rw [(hn k).2.1]; exact h.rising k
  size := fun k => by rw [(hn k).2.1]; exact h.size k
  links := fun k h1 h2 => by rw [(hn k).1] at h2; rw [(hn k).2.2.2.1, hr]; exact h.links k h1 h2
  dirs := fun k h2 => by rw [(hn k).1] at h2; rw [hr]; exact h.dirs k h2
  held := fun k => (hn k).2.2.2.2.2.1
  depth := fun k h1 h2 => by
    rw [(hn k).1] at h1
    rw [(hn k).2.2.2.1] at h2
    exact Tr.rootIn_of T.Live (fun m hm h1 => ⟨by rw [(hn m).1]; exact hm.1, (hn m).2.2.1, (h.above hm h1).1⟩) ⟨h1, h2⟩ (h.depth k h1 h2)
  data := fun k => (hn k).2.2.2.2.1
theorem Tr.WF.plain (h : T.WF) (hk : (T.node n).kind ≠ 0#8) (f : Nd → Nd) (h1 : (f (T.node n)).kind = (T.node n).kind) (h2 : (f (T.node n)).ents = (T.node n).ents) (h3 : (f (T.node n)).parent = (T.node n).parent) (h4 : (f (T.node n)).links = (T.node n).links) (h5 : (f (T.node n)).data.length ≤ 1024) (h6 : 0 ≤ (f (T.node n)).held) : (T.upd n f).WF := by
  refine h.same (by simp [Tr.upd]) rfl (fun k => Tr.refs_upd_same (Tr.node_lt hk) k h2) fun k => ?_
  rw [Tr.node_upd hk]
  split
  · rename_i e
    subst e
    exact ⟨h1, h2, h3, h4, h5, h6, fun e => (hk e).elim⟩
  · exact ⟨rfl, rfl, rfl, rfl, h.data k, h.held k, fun _ => rfl⟩
theorem Tr.WF.bump (h : T.WF) : T.bump.WF := h.same rfl rfl (fun _ => rfl) fun k => ⟨rfl, rfl, rfl, rfl, h.data k, h.held k, fun _ => rfl⟩
theorem cutL_length (d : List (BitVec 8)) (n : Nat) (h : n ≤ 1024) : (cutL d n).length ≤ 1024 := by
  simp [cutL]; omega
theorem Tr.WF.cut (h : T.WF) (n : BitVec 16) (size : Int) : (T.cut n size).1.WF := by
  unfold Tr.cut
  repeat' split
  all_goals try exact h
  rename_i h0 _ _ h1
  exact (h.plain h0 _ rfl rfl rfl rfl (cutL_length _ _ (by omega)) (h.held n)).bump
theorem Tr.WF.no_self (h : T.WF) {s : NameL} : (s, n) ∉ (T.node n).ents := by
  intro hs
  obtain ⟨e1, e2, e3, e4, e5, e6⟩ := h.ents n s n hs
  have := h.deep_succ ⟨e1, e2⟩ e5
  rw [e6 e1] at this
  omega
theorem Tr.WF.empty (h : T.WF) (hl : (T.node n).links = 0) : (T.node n).ents = [] := by
  cases he : (T.node n).ents with
  | nil => rfl
  | cons e l =>
    have := (h.ents n e.1 e.2 (by rw [he]; exact List.mem_cons_self)).2.1
    exact (this hl).elim
theorem Tr.WF.tidy (h : T.WF) (n : BitVec 16) (hk : (T.node n).kind ≠ 0#8) : (T.tidy n).WF := by
  unfold Tr.tidy
  split
  rotate_left
  · exact h
  rename_i hc
  have n1 : n ≠ 1#16 := by
    rintro rfl
    have := h.root.2.2
    omega
  have hr0 : T.refs n = 0 := by have := h.links n n1 hk; omega
  have hent := h.empty hc.1
  have hnode := fun k => Tr.node_upd hk (fun _ => Nd.none) k
  have hr : ∀ k, (T.upd n fun _ => Nd.none).refs k = T.refs k := fun k => Tr.refs_upd_same (Tr.node_lt hk) k hent.symm
  have ne : ∀ m s k, (s, k) ∈ (T.node m).ents → k ≠ n ∧ m ≠ n := by
    intro m s k hs
    refine ⟨fun e => ?_, fun e => ?_⟩
    · have := Tr.refs_one hs
      rw [e] at this; omega
    · rw [e, hent] at hs; simp at hs
  refine ⟨h.lim, by simpa [Tr.upd] using h.len, ?_, fun k hk' => ?_, ?_, fun m s k hs => ?_, fun k => ?_, fun k => ?_, fun k h1 h2 => ?_, fun k h2 => ?_, fun k => ?_, fun k h1 h2 => ?_, fun k => ?_⟩
  · rw [hnode]; split
    · rfl
    · exact h.n0
  · rw [hnode] at hk' ⊢
    split at hk'
    · rename_i e
      rw [if_pos e]
    · rename_i e
      rw [if_neg e]
      exact h.zero k hk'
  · rw [hnode, if_neg (Ne.symm n1)]; exact h.root
  · rw [hnode] at hs
    split at hs
    · simp [Nd.none] at hs
    · obtain ⟨g1, g2⟩ := ne m s k hs
      rw [hnode, if_neg g2, hnode, if_neg g1]
      exact h.ents m s k hs
  · rw [hnode]; split
    · exact List.Pairwise.nil
    · exact h.rising k
  · rw [hnode]; split
    · exact Nat.zero_le _
    · exact h.size k
  · rw [hnode] at h2 ⊢
    split at h2
    · simp [Nd.none] at h2
    · rw [if_neg (by assumption), hr]; exact h.links k h1 h2
  · rw [hnode] at h2
    split at h2
    · simp [Nd.none] at h2
    · rw [hr]; exact h.dirs k h2
  · rw [hnode]; split
    · exact Int.le_refl _
    · exact h.held k
  · rw [hnode] at h1 h2
    split at h1
    · simp [Nd.none] at h1
    · rw [if_neg (by assumption)] at h2
      refine Tr.rootIn_of T.Live (fun m hm hm1 => ?_) ⟨h1, h2⟩ (h.depth k h1 h2)
      have : m ≠ n := by rintro rfl; exact hm.2 hc.1
      rw [hnode, if_neg this]
      exact ⟨hm.1, rfl, (h.above hm hm1).1⟩
  · rw [hnode]; split
    · exact Nat.zero_le _
    · exact h.data k
theorem Tr.WF.hold (h : T.WF) (n : BitVec 16) (more : Bool) : (T.hold n more).1.WF := by
  unfold Tr.hold
  split
  · exact h
  · rename_i h0
    split
    · exact h.plain h0 _ rfl rfl rfl rfl (h.data n) (by have := h.held n; show 0 ≤ (T.node n).held + 1; omega)
    · split
      · exact h
      · rename_i h1
        have hw : (T.upd n (Nd.addH (-1))).WF := h.plain h0 _ rfl rfl rfl rfl (h.data n) (by have := h.held n; show 0 ≤ (T.node n).held + -1; omega)
        refine hw.tidy n ?_
        rw [Tr.node_upd h0, if_pos rfl]
        exact h0
theorem Tr.WF.keep (h : T.WF) (hN : T'.N.length = T.N.length) (hlim : T'.limit = T.limit)
    (hk : ∀ k, (T'.node k).kind = (T.node k).kind ∧ (T'.node k).parent = (T.node k).parent ∧ (T'.node k).data = (T.node k).data ∧ (T'.node k).held = (T.node k).held ∧ ((T.node k).kind = 0#8 → T'.node k = T.node k)) (hroot : (T'.node 1#16).links = 1)
    (hents : ∀ m s k, (s, k) ∈ (T'.node m).ents → (T.node m).kind = 2#8 ∧ (T'.node m).links ≠ 0 ∧ okName s = true ∧ (T.node k).kind ≠ 0#8 ∧ k ≠ 1#16 ∧ ((T.node k).kind = 2#8 → (T.node k).parent = m))
    (hris : ∀ k, Rising (T'.node k).ents) (hsize : ∀ k, (T'.node k).ents.length ≤ 32) (hlinks : ∀ k, k ≠ 1#16 → (T.node k).kind ≠ 0#8 → (T'.node k).links = T'.refs k) (hdirs : ∀ k, (T.node k).kind = 2#8 → T'.refs k ≤ 1)
    (hlive : ∀ k, (T.node k).kind = 2#8 → (T'.node k).links ≠ 0 → (T.node k).links ≠ 0) : T'.WF where
  lim := by rw [hlim]; exact h.lim
  len := by rw [hN, hlim]; exact h.len
  n0 := by rw [(hk _).1]; exact h.n0
  zero := fun k h0 => by rw [(hk k).1] at h0; rw [(hk k).2.2.2.2 h0]; exact h.zero k h0
  root := ⟨by rw [(hk _).1]; exact h.root.1, by rw [(hk _).2.1]; exact h.root.2.1, hroot⟩
  ents := fun m s k hs => by
    rw [(hk m).1, (hk k).1, (hk k).2.1]
    exact hents m s k hs
  rising := hris
  size := hsize
  links := fun k h1 h2 => by rw [(hk k).1] at h2; exact hlinks k h1 h2
  dirs := fun k h2 => by rw [(hk k).1] at h2; exact hdirs k h2
  held := fun k => by rw [(hk k).2.2.2.1]; exact h.held k
  depth := fun k h1 h2 => by
    rw [(hk k).1] at h1
    have h2' := hlive k h1 h2
    exact Tr.rootIn_of T.Live (fun m hm hm1 => ⟨by rw [(hk m).1]; exact hm.1, (hk m).2.1, (h.above hm hm1).1⟩) ⟨h1, h2'⟩ (h.depth k h1 h2')
  data := fun k => by rw [(hk k).2.2.1]; exact h.data k
theorem insertE_length (x : NameL × BitVec 16) (l : List (NameL × BitVec 16)) : (insertE x l).length = l.length + 1 := by
  rw [(insertE_perm x l).length_eq]; rfl
theorem Tr.WF.add (h : T.WF) (inn : BitVec 16) (s : NameL) (v : BitVec 16) : (T.add inn s v).1.WF := by
  unfold Tr.add
  split
  · exact h
  split
  · exact h
  split
  · exact h
  split
  · exact h
  split
  · exact h
  rename_i h0 h2 hr hl hb
  have hr : T.room inn s = 0 := by simpa using hr
  obtain ⟨d1, d2, d3, d4, d5⟩ := Tr.room_ok hr
  have hin : (T.node inn).kind ≠ 0#8 := by rw [d1]; decide
  have hvi : v ≠ inn := by rintro rfl; exact h2 d1
  have hn1 := fun k => Tr.node_upd hin (Nd.addE s v) k
  have hv1 : ((T.upd inn (Nd.addE s v)).node v) = T.node v := by rw [hn1, if_neg hvi]
  have hnode := fun k => Tr.node_upd (T := T.upd inn (Nd.addE s v)) (n := v) (by rw [hv1]; exact h0) (Nd.addL 1) k
  rw [hv1] at hnode
  simp only [hn1] at hnode
  have hrf : ∀ k, ((T.upd inn (Nd.addE s v)).upd v (Nd.addL 1)).refs k = T.refs k + if v = k then 1 else 0 := by
    intro k
    rw [Tr.refs_upd_same (Tr.node_lt (by rw [hv1]; exact h0)) k rfl]
    have := Tr.refs_upd (Tr.node_lt hin) (Nd.addE s v) k
    have e : cntE k (Nd.addE s v (T.node inn)).ents = cntE k (T.node inn).ents + if v = k then 1 else 0 := cntE_insert k (s, v) _
    rw [e] at this
    omega
  have v1 : v ≠ 1#16 := by rintro rfl; exact h2 h.root.1
  refine Tr.WF.bump (h.keep (by simp [Tr.upd]) rfl (fun k => ?_) ?_ (fun m s' k hs => ?_) (fun k => ?_) (fun k => ?_) (fun k h1 h0' => ?_) (fun k hk => ?_) (fun k hk hl' => ?_))
  · rw [hnode]
    split
    · rename_i e; subst e
      exact ⟨rfl, rfl, rfl, rfl, fun e => (h0 e).elim⟩
    · split
      · rename_i e; subst e
        exact ⟨rfl, rfl, rfl, rfl, fun e => (hin e).elim⟩
      · exact ⟨rfl, rfl, rfl, rfl, fun _ => rfl⟩
  · rw [hnode, if_neg (Ne.symm v1)]
    split
    · rename_i e; show (T.node inn).links = 1; rw [← e]; exact h.root.2.2
    · exact h.root.2.2
  · rw [hnode] at hs ⊢
    split at hs
    · rename_i e; subst e
      exact (h2 (h.ents m s' k hs).1).elim
    · rename_i e
      rw [if_neg e]
      split at hs
      · rename_i e2; subst e2
        rw [if_pos rfl]
        rcases mem_insertE.1 hs with g | g
        · simp only [Prod.mk.injEq] at g
          obtain ⟨rfl, rfl⟩ := g
          exact ⟨d1, d3, d4, h0, v1, fun e => (h2 e).elim⟩
        · exact h.ents m s' k g
      · rename_i e2
        rw [if_neg e2]
        exact h.ents m s' k hs
  · rw [hnode]
    split
    · exact h.rising v
    · split
      · exact (h.rising inn).insert d2
      · exact h.rising k
  · rw [hnode]
    split
    · exact h.size v
    · split
      · show (insertE (s, v) (T.node inn).ents).length ≤ 32
        rw [insertE_length]; omega
      · exact h.size k
  · rw [hnode, hrf]
    split
    · rename_i e; subst e
      have := h.links k h1 h0'
      show (T.node k).links + 1 = _
      rw [this]; simp
    · rename_i e
      rw [if_neg (show ¬ v = k from fun x => e x.symm)]
      split
      · rename_i e2; subst e2; exact h.links k h1 h0'
      · exact h.links k h1 h0'
  · rw [hrf, if_neg (by rintro rfl; exact h2 hk)]
    exact h.dirs k hk
  · rw [hnode, if_neg (by rintro rfl; exact h2 hk)] at hl'
    split at hl'
    · rename_i e; subst e; exact hl'
    · exact hl'
theorem Tr.WF.less (h : T.WF) (inn : BitVec 16) (s : NameL) (v : BitVec 16) (hl : alook s (T.node inn).ents = some v) (hemp : (T.node v).kind = 2#8 → (T.node v).ents = []) : ((T.upd inn (Nd.delE s)).upd v (Nd.addL (-1))).WF := by
  have hm := alook_mem hl
  obtain ⟨e1, e2, e3, h0, v1, e6⟩ := h.ents inn s v hm
  have hin : (T.node inn).kind ≠ 0#8 := by rw [e1]; decide
  have hvi : v ≠ inn := by rintro rfl; exact h.no_self hm
  have hn1 := fun k => Tr.node_upd hin (Nd.delE s) k
  have hv1 : ((T.upd inn (Nd.delE s)).node v) = T.node v := by rw [hn1, if_neg hvi]
  have hnode := fun k => Tr.node_upd (T := T.upd inn (Nd.delE s)) (n := v) (by rw [hv1]; exact h0) (Nd.addL (-1)) k
  rw [hv1] at hnode
  simp only [hn1] at hnode
  have hrf : ∀ k, ((T.upd inn (Nd.delE s)).upd v (Nd.addL (-1))).refs k + (if v = k then 1 else 0) = T.refs k := by
    intro k
    rw [Tr.refs_upd_same (Tr.node_lt (by rw [hv1]; exact h0)) k rfl]
    have := Tr.refs_upd (Tr.node_lt hin) (Nd.delE s) k
    have e : cntE k (Nd.delE s (T.node inn)).ents + (if v = k then 1 else 0) = cntE k (T.node inn).ents := cntE_del k hl
    omega
  have hsub : ∀ x, x ∈ (Nd.delE s (T.node inn)).ents → x ∈ (T.node inn).ents := fun x hx => (adel_sub s _).subset hx
  refine h.keep (by simp [Tr.upd]) rfl (fun k => ?_) ?_ (fun m s' k hs => ?_) (fun k => ?_) (fun k => ?_) (fun k h1 h0' => ?_) (fun k hk => ?_) (fun k hk hl' => ?_)
  · rw [hnode]
    split
    · rename_i e; subst e
      exact ⟨rfl, rfl, rfl, rfl, fun e => (h0 e).elim⟩
    · split
      · rename_i e; subst e
        exact ⟨rfl, rfl, rfl, rfl, fun e => (hin e).elim⟩
      · exact ⟨rfl, rfl, rfl, rfl, fun _ => rfl⟩
  · rw [hnode, if_neg (Ne.symm v1)]
    split
    · rename_i e; show (T.node inn).links = 1; rw [← e]; exact h.root.2.2
    · exact h.root.2.2
  · rw [hnode] at hs ⊢
    split at hs
    · rename_i e; subst e
      have hs' : (s', k) ∈ (T.node m).ents := hs
      rw [hemp (h.ents m s' k hs').1] at hs'
      simp at hs'
    · rename_i e
      rw [if_neg e]
      split at hs
      · rename_i e2; subst e2
        rw [if_pos rfl]
        exact h.ents m s' k (hsub _ hs)
      · rename_i e2
        rw [if_neg e2]
        exact h.ents m s' k hs
  · rw [hnode]
    split
    · exact h.rising v
    · split
      · exact (h.rising inn).del
      · exact h.rising k
  · rw [hnode]
    split
    · exact h.size v
    · split
      · exact Nat.le_trans (adel_sub s _).length_le (h.size inn)
      · exact h.size k
  · have := hrf k
    have hk := h.links k h1 h0'
    rw [hnode]
    split
    · rename_i e; subst e
      show (T.node k).links + -1 = _
      simp at this
      omega
    · rename_i e
      rw [if_neg (show ¬ v = k from fun x => e x.symm)] at this
      split
      · rename_i e2; subst e2
        show (T.node k).links = _
        omega
      · omega
  · have := hrf k
    have := h.dirs k hk
    omega
  · rw [hnode] at hl'
    split at hl'
    · rename_i e; subst e
      intro hz
      have := h.links k v1 h0
      have := Tr.refs_one hm
      omega
    · split at hl'
      · rename_i e; subst e; exact hl'
      · exact hl'
theorem Tr.WF.drop (h : T.WF) (inn : BitVec 16) (s : NameL) (d : Bool) : (T.drop inn s d).1.WF := by
  unfold Tr.drop
  split
  · exact h
  split
  · exact h
  split
  · exact h
  split
  · exact h
  rename_i c1 c2 c3 c4
  have c1 : (T.look inn s).2 = 0 := by simpa using c1
  obtain ⟨g1, g2⟩ := Tr.look_ok c1
  generalize (T.look inn s).1 = v at *
  obtain ⟨e1, e2, e3, h0, v1, e6⟩ := h.pos g2
  have hw := (h.less inn s v g2 (fun hk => by
    cases d with
    | true =>
      have : ¬ 0 < (T.node v).ents.length := fun x => c4 ⟨rfl, x⟩
      exact List.eq_nil_of_length_eq_zero (by omega)
    | false => exact (c3 ⟨rfl, hk⟩).elim)).bump
  refine hw.tidy v ?_
  have hin : (T.node inn).kind ≠ 0#8 := by rw [e1]; decide
  have hvi : v ≠ inn := by rintro rfl; exact h.no_self (alook_mem g2)
  have hv1 : ((T.upd inn (Nd.delE s)).node v) = T.node v := by rw [Tr.node_upd hin, if_neg hvi]
  rw [Tr.bump_node, Tr.node_upd (by rw [hv1]; exact h0), if_pos rfl, hv1]
  exact h0
end
end Go.AM
end
section
namespace Go.AM
theorem freeL_full : ∀ (l : List Nd), freeL l = l.length → l.countP (fun x => decide (x.kind ≠ 0#8)) = l.length
  | [], _ => rfl
  | x :: l, h => by
    simp only [freeL] at h
    split at h
    · simp at h
    · rename_i hx
      have := freeL_full l (by simp at h; omega)
      rw [List.countP_cons, this]
      simp [hx]
section
variable {T T' : Tr} {n k : BitVec 16}
theorem Tr.new_wf (limit : Int) : (Tr.new limit).WF := by
  have hnode : ∀ n : BitVec 16, (Tr.new limit).node n = if n = 1#16 then { Nd.none with kind := 2#8, parent := 1#16, links := 1 } else Nd.none := by
    intro n
    unfold Tr.new Tr.node
    by_cases h : n = 1#16
    · subst h; rfl
    · rw [if_neg h]
      by_cases h0 : n = 0#16
      · subst h0; rfl
      · have : 2 ≤ n.toNat := by
          have h1 : n.toNat ≠ 0 := fun e => h0 (BitVec.eq_of_toNat_eq (by simpa using e))
          have h2 : n.toNat ≠ 1 := fun e => h (BitVec.eq_of_toNat_eq (by simpa using e))
          omega
        simp only [List.getD_eq_getElem?_getD]
        rw [List.getElem?_eq_none (by simpa using this)]
        rfl
  have hent : ∀ n, ((Tr.new limit).node n).ents = [] := by
    intro n; rw [hnode]; split <;> rfl
  have hr : ∀ k, (Tr.new limit).refs k = 0 := fun k => rfl
  refine ⟨⟨?_, ?_⟩, ⟨Nat.le_refl 2, ?_⟩, by rw [hnode]; rfl, fun n h => ?_, by rw [hnode]; exact ⟨rfl, rfl, rfl⟩, fun m s k h => ?_, fun n => ?_, fun n => ?_, fun n h1 h2 => ?_, fun n _ => ?_, fun n => ?_, fun n h1 h2 => ?_, fun n => ?_⟩
  · show 1 ≤ min (max limit 1) 256; omega
  · show min (max limit 1) 256 ≤ 256; omega
  · show ((2 : Nat) : Int) ≤ min (max limit 1) 256 + 1; omega
  · rw [hnode] at h ⊢
    split at h
    · simp at h
    · rename_i e; rw [if_neg e]
  · rw [hent] at h; simp at h
  · rw [hent]; exact List.Pairwise.nil
  · rw [hent]; exact Nat.zero_le _
  · rw [hnode, if_neg h1] at h2
    exact (h2 rfl).elim
  · rw [hr]; exact Nat.zero_le _
  · rw [hnode]; split <;> exact Int.le_refl _
  · rw [hnode] at h1
    split at h1
    · rename_i e; exact .inl e
    · simp [Nd.none] at h1
  · rw [hnode]; split <;> exact Nat.zero_le _
theorem Tr.WF.make (h : T.WF) (inn : BitVec 16) (s : NameL) (kd : BitVec 8) (text : List UInt8) : (T.make inn s kd text).1.WF := by
  unfold Tr.make
  split
  · exact h
  split
  · exact h
  split
  · exact h
  rename_i hr hkd hlim
  have hr : T.room inn s = 0 := by simpa using hr
  obtain ⟨d1, d2, d3, d4, d5⟩ := Tr.room_ok hr
  have hl16 := h.len16
  have hfree := Tr.free_ok (T := T) (by have := h.len.1; omega) (by omega)
  have hk0 : kd ≠ 0#8 := fun e => hkd (.inl e)
  have hlim1 : ¬ T.limit ≤ T.len := fun e => hlim (.inl e)
  have hlim2 : kd = 2#8 → T.deep inn < 16 := fun e => by
    have : ¬ 16 ≤ T.deep inn := fun x => hlim (.inr ⟨e, x⟩)
    omega
  obtain ⟨A, hA⟩ : ∃ A, A = BitVec.ofNat 16 T.free := ⟨_, rfl⟩
  rw [← hA]
  have hA0 : (T.node A).kind = 0#8 := by rw [hA]; exact hfree.zero
  have hAn := h.zero A hA0
  have hin : (T.node inn).kind ≠ 0#8 := by rw [d1]; decide
  have hAi : A ≠ inn := by rintro rfl; exact hin hA0
  have hA1 : A ≠ 1#16 := by rintro rfl; rw [h.root.1] at hA0; simp at hA0
  have hAz : A ≠ 0#16 := by
    intro e
    have h1 : A.toNat = T.free := by rw [hA, BitVec.toNat_ofNat, Nat.mod_eq_of_lt (by have := hfree.lt; omega)]
    have := hfree.pos
    rw [e] at h1
    simp at h1
    omega
  have hput : ∀ m, (T.put T.free (Nd.made inn kd text)).node m = if m = A then Nd.made inn kd text else T.node m := fun m => by rw [Tr.node_put hfree.le hfree.lt, hA]
  have hpi : (T.put T.free (Nd.made inn kd text)).node inn = T.node inn := by rw [hput, if_neg (Ne.symm hAi)]
  have hnode := fun m => Tr.node_upd (T := T.put T.free (Nd.made inn kd text)) (n := inn) (by rw [hpi]; exact hin) (Nd.addE s A) m
  rw [hpi] at hnode
  simp only [hput] at hnode
  have hrA : T.refs A = 0 := by
    refine Classical.byContradiction fun hc => ?_
    obtain ⟨p, s', hs⟩ := Tr.refs_pos (T := T) (k := A) (by omega) (by omega)
    exact (h.ents p s' A hs).2.2.2.1 hA0
  have hrf : ∀ m, ((T.put T.free (Nd.made inn kd text)).upd inn (Nd.addE s A)).refs m = T.refs m + if A = m then 1 else 0 := by
    intro m
    have h1 := Tr.refs_upd (T := T.put T.free (Nd.made inn kd text)) (n := inn) (Tr.node_lt (by rw [hpi]; exact hin)) (Nd.addE s A) m
    have h2 := Tr.refs_put (T := T) (Nd.made inn kd text) hfree.le hfree.lt m (by rw [← hA, hAn]; rfl)
    rw [hpi, h2] at h1
    have e : cntE m (Nd.addE s A (T.node inn)).ents = cntE m (T.node inn).ents + if A = m then 1 else 0 := cntE_insert m (s, A) _
    have e2 : cntE m (Nd.made inn kd text).ents = 0 := rfl
    rw [e, e2] at h1
    omega
  have hkp : ∀ m, m ≠ A → ∀ y, y = ((T.put T.free (Nd.made inn kd text)).upd inn (Nd.addE s A)).node m → y.kind = (T.node m).kind ∧ y.parent = (T.node m).parent ∧ y.links = (T.node m).links ∧ y.held = (T.node m).held ∧ y.data = (T.node m).data := by
    rintro m hm y rfl
    rw [hnode, if_neg hm]
    split
    · rename_i e; subst e; exact ⟨rfl, rfl, rfl, rfl, rfl⟩
    · exact ⟨rfl, rfl, rfl, rfl, rfl⟩
  have hnA : ((T.put T.free (Nd.made inn kd text)).upd inn (Nd.addE s A)).node A = Nd.made inn kd text := by rw [hnode, if_neg hAi, if_pos rfl]
  have tr : ∀ {f m}, T.Live m → T.rootIn f m → ((T.put T.free (Nd.made inn kd text)).upd inn (Nd.addE s A)).rootIn f m := by
    intro f m
    refine Tr.rootIn_of T.Live fun m hm hm1 => ?_
    have hmA : m ≠ A := by rintro rfl; have := hm.1; rw [hA0] at this; simp at this
    obtain ⟨q1, q2, _⟩ := hkp m hmA _ rfl
    exact ⟨by rw [q1]; exact hm.1, q2, (h.above hm hm1).1⟩
  refine Tr.WF.bump ⟨h.lim, ⟨?_, ?_⟩, ?_, fun m hk => ?_, ?_, fun m s' k hs => ?_, fun k => ?_, fun k => ?_, fun k h1 h2 => ?_, fun k h2 => ?_, fun k => ?_, fun k h1 h2 => ?_, fun k => ?_⟩
  · have := h.len.1
    simp only [Tr.upd, Tr.put, List.length_modify]
    split <;> simp <;> omega
  · have := h.len.2
    show (((T.put T.free (Nd.made inn kd text)).upd inn (Nd.addE s A)).N.length : Int) ≤ T.limit + 1
    simp only [Tr.upd, Tr.put, List.length_modify]
    split
    · rw [List.length_set]; exact this
    · rename_i hge
      have hfull : freeL (T.N.drop 1) = (T.N.drop 1).length := by
        have h1 := freeL_le (T.N.drop 1)
        have h2 : T.free = freeL (T.N.drop 1) + 1 := rfl
        rw [List.length_drop] at h1 ⊢
        omega
      have hc := freeL_full _ hfull
      have hle : (T.N.drop 1).countP (fun x => decide (x.kind ≠ 0#8)) ≤ T.len := by
        unfold Tr.len
        exact (List.drop_sublist 1 T.N).countP_le
      rw [hc, List.length_drop] at hle
      rw [List.length_append, List.length_singleton]
      omega
  · rw [(hkp _ (Ne.symm hAz) _ rfl).1]; exact h.n0
  · rw [hnode] at hk ⊢
    split at hk
    · exact (hin hk).elim
    · rename_i e
      rw [if_neg e]
      split at hk
      · exact (hk0 hk).elim
      · rename_i e2
        rw [if_neg e2]
        exact h.zero m hk
  · obtain ⟨q1, q2, q3, _⟩ := hkp 1#16 (Ne.symm hA1) _ rfl
    rw [q1, q2, q3]; exact h.root
  · have old : ∀ m, m ≠ A → (s', k) ∈ (T.node m).ents → (((T.put T.free (Nd.made inn kd text)).upd inn (Nd.addE s A)).node m).kind = 2#8 ∧ (((T.put T.free (Nd.made inn kd text)).upd inn (Nd.addE s A)).node m).links ≠ 0 ∧ okName s' = true ∧ (((T.put T.free (Nd.made inn kd text)).upd inn (Nd.addE s A)).node k).kind ≠ 0#8 ∧ k ≠ 1#16 ∧ ((((T.put T.free (Nd.made inn kd text)).upd inn (Nd.addE s A)).node k).kind = 2#8 → (((T.put T.free (Nd.made inn kd text)).upd inn (Nd.addE s A)).node k).parent = m) := by
      intro m hm hs
      have he := h.ents m s' k hs
      have hkA : k ≠ A := by rintro rfl; exact he.2.2.2.1 hA0
      obtain ⟨q1, q2, q3, _⟩ := hkp m hm _ rfl
      obtain ⟨p1, p2, p3, _⟩ := hkp k hkA _ rfl
      rw [q1, q3, p1, p2]
      exact he
    by_cases hmA : m = A
    · subst hmA
      rw [hnA] at hs
      simp [Nd.made] at hs
    · by_cases hmi : m = inn
      · subst hmi
        rw [hnode, if_pos rfl] at hs
        rcases mem_insertE.1 hs with g | g
        · simp only [Prod.mk.injEq] at g
          obtain ⟨rfl, rfl⟩ := g
          obtain ⟨q1, q2, q3, _⟩ := hkp m hmA _ rfl
          rw [q1, q3, hnA]
          exact ⟨d1, d3, d4, hk0, hA1, fun e => by have e : kd = 2#8 := e; show (if kd = 2#8 then m else 0#16) = m; rw [if_pos e]⟩
        · exact old m hmA g
      · rw [hnode, if_neg hmi, if_neg hmA] at hs
        exact old m hmA hs
  · rw [hnode]
    split
    · exact (h.rising inn).insert d2
    · split
      · exact List.Pairwise.nil
      · exact h.rising k
  · rw [hnode]
    split
    · show (insertE (s, A) (T.node inn).ents).length ≤ 32
      rw [insertE_length]; omega
    · split
      · exact Nat.zero_le _
      · exact h.size k
  · rw [hrf]
    by_cases e : k = A
    · subst e
      rw [hnA, hrA, if_pos rfl]; rfl
    · obtain ⟨q1, q2, q3, _⟩ := hkp k e _ rfl
      rw [q1] at h2
      rw [q3, if_neg (Ne.symm e)]
      exact h.links k h1 h2
  · rw [hrf]
    by_cases e : k = A
    · subst e
      rw [hrA, if_pos rfl]; exact Nat.le_refl _
    · rw [(hkp k e _ rfl).1] at h2
      rw [if_neg (Ne.symm e)]
      exact h.dirs k h2
  · by_cases e : k = A
    · subst e
      rw [hnA]; exact Int.le_refl _
    · rw [(hkp k e _ rfl).2.2.2.1]; exact h.held k
  · by_cases e : k = A
    · subst e
      rw [hnA] at h1
      have h1 : kd = 2#8 := h1
      have hli : T.Live inn := ⟨d1, d3⟩
      have hdp := hlim2 h1
      unfold Tr.deep at hdp
      rw [Tr.deepF_root (h.depth inn d1 d3) (g := 17) (by omega)] at hdp
      have hri := Tr.rootIn_mono (Tr.rootIn_deep (h.depth inn d1 d3)) (g := 15) (by omega)
      refine .inr ⟨by rw [hnA]; exact h1, ?_⟩
      rw [hnA]
      show Tr.rootIn _ 15 (if kd = 2#8 then inn else 0#16)
      rw [if_pos h1]
      exact tr hli hri
    · obtain ⟨q1, q2, q3, _⟩ := hkp k e _ rfl
      rw [q1] at h1
      rw [q3] at h2
      exact tr ⟨h1, h2⟩ (h.depth k h1 h2)
  · by_cases e : k = A
    · subst e
      rw [hnA]; exact Nat.zero_le _
    · rw [(hkp k e _ rfl).2.2.2.2]; exact h.data k
end
end Go.AM
end
section
namespace Go.AM
def Tr.Below (T : Tr) (n : BitVec 16) : Nat → BitVec 16 → Prop
  | 0, m => m = n
  | j + 1, m => m ≠ 1#16 ∧ T.Below n j (T.node m).parent
section
variable {T T' T1 : Tr} {n k : BitVec 16}
theorem Tr.WF.no_loop (h : T.WF) {m : BitVec 16} (hm : T.Live m) (h1 : m ≠ 1#16) : m ≠ (T.node m).parent := by
  intro e
  have := h.deep_succ hm h1
  rw [← e] at this
  omega
theorem Tr.WF.not_below (h : T.WF) : ∀ (f : Nat) (m : BitVec 16), T.Live m → T.rootIn f m → T.withinF n (f + 1) m = false → ∀ j, ¬ T.Below n j m
  | f, m, hm, hr, hw, 0, hb => by
    have hb : m = n := hb
    subst hb
    simp [Tr.withinF, hm.1] at hw
  | 0, m, hm, hr, hw, j + 1, hb => hb.1 hr
  | f + 1, m, hm, hr, hw, j + 1, hb => by
    have hp := h.above hm hb.1
    have hl := h.no_loop hm hb.1
    have hr' := hr.resolve_left hb.1
    by_cases e : m = n
    · subst e
      simp [Tr.withinF, hm.1] at hw
    · rw [Tr.withinF] at hw
      simp only [hm.1, ne_eq, not_true, if_false, if_neg e, if_neg hl] at hw
      exact Tr.WF.not_below h f _ hp.1 hr'.2 hw j hb.2
theorem foldl_max (g : NameL × BitVec 16 → Nat) (p : NameL × BitVec 16 → Prop) [DecidablePred p] : ∀ (l : List (NameL × BitVec 16)) (b : Nat), b ≤ l.foldl (fun b e => if p e then max b (g e) else b) b ∧ ∀ e ∈ l, p e → g e ≤ l.foldl (fun b e => if p e then max b (g e) else b) b
  | [], b => ⟨Nat.le_refl _, by simp⟩
  | x :: l, b => by
    simp only [List.foldl_cons]
    obtain ⟨h1, h2⟩ := foldl_max g p l (if p x then max b (g x) else b)
    refine ⟨Nat.le_trans ?_ h1, fun e he hp => ?_⟩
    · split <;> omega
    · rcases List.mem_cons.1 he with rfl | he
      · refine Nat.le_trans ?_ h1
        rw [if_pos hp]; omega
      · exact h2 e he hp
theorem Tr.WF.tall_succ (h : T.WF) {m : BitVec 16} (hm : T.Live m) (h1 : m ≠ 1#16) : T.tall m + 1 ≤ T.tall (T.node m).parent := by
  obtain ⟨hp, s, hs⟩ := h.above hm h1
  unfold Tr.tall
  have e1 := Tr.tallF_eq T 17 m (h.fits17 hm) 20 (by omega)
  have e2 := Tr.tallF_eq T 17 m (h.fits17 hm) 19 (by omega)
  rw [e1, ← e2]
  have := (foldl_max (fun e => T.tallF 19 e.2) (fun e => (T.node e.2).kind = 2#8) (T.node (T.node m).parent).ents 0).2 (s, m) hs hm.1
  have e3 : T.tallF 20 (T.node m).parent = ((T.node (T.node m).parent).ents.foldl (fun b e => if (T.node e.2).kind = 2#8 then max b (T.tallF 19 e.2) else b) 0) + 1 := rfl
  rw [e3]
  exact Nat.succ_le_succ this
theorem Tr.tall_pos (T : Tr) (m : BitVec 16) : 1 ≤ T.tall m := by
  have : T.tall m = ((T.node m).ents.foldl (fun b e => if (T.node e.2).kind = 2#8 then max b (T.tallF 19 e.2) else b) 0) + 1 := rfl
  omega
theorem Tr.WF.below_tall (h : T.WF) : ∀ (j : Nat) (m : BitVec 16), T.Live m → T.Below n j m → j + T.tall m ≤ T.tall n
  | 0, m, _, hb => by
    have hb : m = n := hb
    subst hb; omega
  | j + 1, m, hm, hb => by
    have h1 := h.tall_succ hm hb.1
    have h2 := Tr.WF.below_tall h j _ (h.above hm hb.1).1 hb.2
    omega
theorem Tr.WF.moved (h : T1.WF) (fr to n : BitVec 16) (s other : NameL) (hs : alook s (T1.node fr).ents = some n) (hto : T1.Live to) (ho : alook other ((T1.upd fr (Nd.delE s)).node to).ents = none) (hlen : ((T1.upd fr (Nd.delE s)).node to).ents.length < 32)
    (hok : okName other = true) (hdir : (T1.node n).kind = 2#8 → (∀ j, ¬ T1.Below n j to) ∧ ∀ j m, T1.Live m → T1.Below n j m → T1.deep to + j + 1 ≤ 16) : (Tr.moved T1 fr s to other n).WF := by
  have hsm := alook_mem hs
  obtain ⟨f1, f2, f3, f4, f5, f6⟩ := h.ents fr s n hsm
  have hf0 : (T1.node fr).kind ≠ 0#8 := by rw [f1]; decide
  have ht0 : (T1.node to).kind ≠ 0#8 := by rw [hto.1]; decide
  have hnt : n ≠ to := by
    rintro rfl
    exact (hdir hto.1).1 0 rfl
  have hV := fun k => Tr.node_upd hf0 (Nd.delE s) k
  obtain ⟨V, hVd⟩ : ∃ V, V = T1.upd fr (Nd.delE s) := ⟨_, rfl⟩
  unfold Tr.moved
  rw [← hVd] at hV ho hlen ⊢
  have hVsub : ∀ m x, x ∈ (V.node m).ents → x ∈ (T1.node m).ents := by
    intro m x hx
    rw [hV] at hx
    split at hx
    · rename_i e; subst e; exact (adel_sub s _).subset hx
    · exact hx
  have hVk : ∀ m, (V.node m).kind = (T1.node m).kind ∧ (V.node m).parent = (T1.node m).parent ∧ (V.node m).links = (T1.node m).links ∧ (V.node m).held = (T1.node m).held ∧ (V.node m).data = (T1.node m).data ∧ ((T1.node m).kind = 0#8 → V.node m = T1.node m) := by
    intro m
    rw [hV]
    split
    · rename_i e; subst e; exact ⟨rfl, rfl, rfl, rfl, rfl, fun e => (hf0 e).elim⟩
    · exact ⟨rfl, rfl, rfl, rfl, rfl, fun _ => rfl⟩
  have hVr : ∀ m, V.refs m + (if n = m then 1 else 0) = T1.refs m := by
    intro m
    have := Tr.refs_upd (Tr.node_lt hf0) (Nd.delE s) m
    have e : cntE m (Nd.delE s (T1.node fr)).ents + (if n = m then 1 else 0) = cntE m (T1.node fr).ents := cntE_del m hs
    rw [hVd]; omega
  have hVt0 : (V.node to).kind ≠ 0#8 := by rw [(hVk to).1]; exact ht0
  have hU := fun k => Tr.node_upd hVt0 (Nd.addE other n) k
  obtain ⟨U, hUd⟩ : ∃ U, U = V.upd to (Nd.addE other n) := ⟨_, rfl⟩
  rw [← hUd] at hU ⊢
  have hUk : ∀ m, (U.node m).kind = (T1.node m).kind ∧ (U.node m).parent = (T1.node m).parent ∧ (U.node m).links = (T1.node m).links ∧ (U.node m).held = (T1.node m).held ∧ (U.node m).data = (T1.node m).data ∧ ((T1.node m).kind = 0#8 → U.node m = T1.node m) := by
    intro m
    rw [hU]
    split
    · rename_i e; subst e
      obtain ⟨q1, q2, q3, q4, q5, q6⟩ := hVk m
      exact ⟨q1, q2, q3, q4, q5, fun e => (ht0 e).elim⟩
    · exact hVk m
  have hUr : ∀ m, U.refs m = T1.refs m := by
    intro m
    have := Tr.refs_upd (Tr.node_lt hVt0) (Nd.addE other n) m
    have e : cntE m (Nd.addE other n (V.node to)).ents = cntE m (V.node to).ents + if n = m then 1 else 0 := cntE_insert m (other, n) _
    have := hVr m
    rw [hUd]; omega
  have hUN : U.N.length = T1.N.length ∧ U.limit = T1.limit := by rw [hUd, hVd]; simp [Tr.upd]
  obtain ⟨W, hWd⟩ : ∃ W, W = (if (T1.node n).kind = 2#8 then U.upd n (fun x => { x with parent := to }) else U) := ⟨_, rfl⟩
  show Tr.WF (Tr.bump (if (T1.node n).kind = 2#8 then U.upd n (fun x => { x with parent := to }) else U))
  rw [← hWd]
  have hUn0 : (U.node n).kind ≠ 0#8 := by rw [(hUk n).1]; exact f4
  have hW : ∀ m, (W.node m).kind = (T1.node m).kind ∧ (W.node m).parent = (if m = n ∧ (T1.node n).kind = 2#8 then to else (T1.node m).parent) ∧ (W.node m).links = (T1.node m).links ∧ (W.node m).held = (T1.node m).held ∧ (W.node m).data = (T1.node m).data ∧ ((T1.node m).kind = 0#8 → W.node m = T1.node m) ∧ (W.node m).ents = (U.node m).ents := by
    intro m
    obtain ⟨q1, q2, q3, q4, q5, q6⟩ := hUk m
    rw [hWd]
    split
    · rename_i hd
      rw [Tr.node_upd hUn0]
      split
      · rename_i e; subst e
        exact ⟨q1, by simp [hd], q3, q4, q5, fun e => (f4 e).elim, rfl⟩
      · rename_i e
        exact ⟨q1, by simp [e, q2], q3, q4, q5, q6, rfl⟩
    · rename_i hd
      exact ⟨q1, by simp [hd, q2], q3, q4, q5, q6, rfl⟩
  have hWr : ∀ m, W.refs m = T1.refs m := by
    intro m
    rw [← hUr m, hWd]
    split
    · exact Tr.refs_upd_same (Tr.node_lt hUn0) m rfl
    · rfl
  have hWN : W.N.length = T1.N.length ∧ W.limit = T1.limit := by
    rw [hWd]
    split
    · simpa [Tr.upd] using hUN
    · exact hUN
  have stay : ∀ {f m}, T1.Live m → ((T1.node n).kind = 2#8 → ∀ j, ¬ T1.Below n j m) → T1.rootIn f m → W.rootIn f m := by
    intro f m hm hb
    refine Tr.rootIn_of (fun m => T1.Live m ∧ ((T1.node n).kind = 2#8 → ∀ j, ¬ T1.Below n j m)) (fun m hm hm1 => ?_) ⟨hm, hb⟩
    refine ⟨by rw [(hW m).1]; exact hm.1.1, ?_, (h.above hm.1 hm1).1, fun hd j hb => hm.2 hd (j + 1) ⟨hm1, hb⟩⟩
    rw [(hW m).2.1, if_neg]
    rintro ⟨e, hd⟩
    exact hm.2 hd 0 e
  have hdto : T1.rootIn (T1.deep to) to := by
    have h1 := h.depth to hto.1 hto.2
    unfold Tr.deep
    rw [Tr.deepF_root h1 (g := 17) (by omega)]
    exact Tr.rootIn_deep h1
  have fall : (T1.node n).kind = 2#8 → ∀ (j : Nat) (m : BitVec 16), T1.Live m → T1.Below n j m → W.rootIn (T1.deep to + j + 1) m := by
    intro hd j
    have at_n : W.rootIn (T1.deep to + 1) n := by
      refine .inr ⟨by rw [(hW n).1]; exact hd, ?_⟩
      rw [(hW n).2.1, if_pos ⟨rfl, hd⟩]
      exact stay hto (fun _ => (hdir hd).1) hdto
    induction j with
    | zero =>
      intro m hm hb
      have hb : m = n := hb
      subst hb
      exact at_n
    | succ j ih =>
      intro m hm hb
      by_cases e : m = n
      · subst e
        exact Tr.rootIn_mono at_n (by omega)
      · refine .inr ⟨by rw [(hW m).1]; exact hm.1, ?_⟩
        rw [(hW m).2.1, if_neg fun x => e x.1]
        exact ih _ (h.above hm hb.1).1 hb.2
  refine Tr.WF.bump ⟨by rw [hWN.2]; exact h.lim, by rw [hWN.1, hWN.2]; exact h.len, by rw [(hW _).1]; exact h.n0, fun m hm => ?_, ?_, fun m s' k hk => ?_, fun m => ?_, fun m => ?_, fun m h1 h2 => ?_, fun m h2 => ?_, fun m => ?_, fun m h1 h2 => ?_, fun m => ?_⟩
  · rw [(hW m).1] at hm
    rw [(hW m).2.2.2.2.2.1 hm]
    exact h.zero m hm
  · obtain ⟨q1, q2, q3, _⟩ := hW 1#16
    rw [q1, q2, q3, if_neg fun x => f5 x.1.symm]
    exact h.root
  · rw [(hW m).2.2.2.2.2.2] at hk
    have old : (s', k) ∈ (V.node m).ents → (W.node m).kind = 2#8 ∧ (W.node m).links ≠ 0 ∧ okName s' = true ∧ (W.node k).kind ≠ 0#8 ∧ k ≠ 1#16 ∧ ((W.node k).kind = 2#8 → (W.node k).parent = m) := by
      intro hv
      have he := h.ents m s' k (hVsub m _ hv)
      rw [(hW m).1, (hW m).2.2.1, (hW k).1, (hW k).2.1, if_neg]
      · exact he
      · rintro ⟨e, hd⟩
        subst e
        have h1 := Tr.refs_one hv
        have h2 := hVr k
        have h3 := h.dirs k hd
        rw [if_pos rfl] at h2
        omega
    rw [hU] at hk
    split at hk
    · rename_i e; subst e
      rcases mem_insertE.1 hk with g | g
      · simp only [Prod.mk.injEq] at g
        obtain ⟨rfl, rfl⟩ := g
        rw [(hW m).1, (hW m).2.2.1, (hW k).1, (hW k).2.1]
        exact ⟨hto.1, hto.2, hok, f4, f5, fun hd => if_pos ⟨rfl, hd⟩⟩
      · exact old g
    · exact old hk
  · rw [(hW m).2.2.2.2.2.2]
    have hv : ∀ m, Rising (V.node m).ents := fun m => by
      rw [hV]; split
      · exact (h.rising fr).del
      · exact h.rising m
    rw [hU]; split
    · exact (hv to).insert ho
    · exact hv m
  · rw [(hW m).2.2.2.2.2.2, hU]; split
    · show (insertE (other, n) (V.node to).ents).length ≤ 32
      rw [insertE_length]; omega
    · rw [hV]; split
      · exact Nat.le_trans (adel_sub s _).length_le (h.size fr)
      · exact h.size m
  · rw [(hW m).1] at h2
    rw [(hW m).2.2.1, hWr]
    exact h.links m h1 h2
  · rw [(hW m).1] at h2
    rw [hWr]; exact h.dirs m h2
  · rw [(hW m).2.2.2.1]; exact h.held m
  · rw [(hW m).1] at h1
    rw [(hW m).2.2.1] at h2
    by_cases hb : (T1.node n).kind = 2#8 ∧ ∃ j, T1.Below n j m
    · obtain ⟨hd, j, hb⟩ := hb
      exact Tr.rootIn_mono (fall hd j m ⟨h1, h2⟩ hb) ((hdir hd).2 j m ⟨h1, h2⟩ hb)
    · exact stay ⟨h1, h2⟩ (fun hd j hj => hb ⟨hd, j, hj⟩) (h.depth m h1 h2)
  · rw [(hW m).2.2.2.2.1]; exact h.data m
theorem adel_length {s : NameL} {v : BitVec 16} : ∀ {l : List (NameL × BitVec 16)}, alook s l = some v → (adel s l).length + 1 = l.length
  | [], h => by simp [alook] at h
  | e :: l, h => by
    rw [alook_cons] at h
    by_cases he : s = e.1
    · subst he
      simp [adel]
    · rw [if_neg he] at h
      have := adel_length h
      have he' : ¬ e.1 = s := fun x => he x.symm
      simp only [adel, if_neg he', List.length_cons]
      omega
theorem Tr.deepF_of (P : BitVec 16 → Prop) (hP : ∀ m, P m → m ≠ 1#16 → (T'.node m).parent = (T.node m).parent ∧ P (T.node m).parent) : ∀ (f : Nat) (m : BitVec 16), P m → T'.deepF f m = T.deepF f m
  | 0, _, _ => rfl
  | f + 1, m, hm => by
    simp only [Tr.deepF]
    split
    · rfl
    · rename_i h1
      obtain ⟨q1, q2⟩ := hP m hm h1
      rw [q1, Tr.deepF_of P hP f _ q2]
theorem Tr.tidy_self {y : BitVec 16} (hk : (T.node y).kind ≠ 0#8) (h : ((T.tidy y).node y).kind = 2#8) : (T.node y).kind = 2#8 ∧ ((T.tidy y).node y).links = (T.node y).links := by
  unfold Tr.tidy at h ⊢
  split
  · rename_i hc
    rw [if_pos hc, Tr.node_upd hk, if_pos rfl] at h
    simp [Nd.none] at h
  · rename_i hc
    rw [if_neg hc] at h
    exact ⟨h, rfl⟩
theorem Tr.WF.drop_gone (h : T.WF) {to o : BitVec 16} {other : NameL} {d : Bool} (hl : T.look to other = (o, 0)) (h0 : (T.drop to other d).2 = 0) : ¬ (T.drop to other d).1.Live o := by
  have hw := h.drop to other d
  intro hlv
  have hlk : (T.look to other).2 = 0 := by rw [hl]
  obtain ⟨g1, g2⟩ := Tr.look_ok hlk
  rw [hl] at g2
  have g2 : alook other (T.node to).ents = some o := g2
  have hm : (other, o) ∈ (T.node to).ents := alook_mem g2
  obtain ⟨e1, e2, e3, o0, o1, e6⟩ := h.ents to other o hm
  have hoi : o ≠ to := by rintro rfl; exact h.no_self hm
  have hin : (T.node to).kind ≠ 0#8 := by rw [e1]; decide
  have hv1 : ((T.upd to (Nd.delE other)).node o) = T.node o := by rw [Tr.node_upd hin, if_neg hoi]
  have hv2 : (((T.upd to (Nd.delE other)).upd o (Nd.addL (-1))).bump).node o = Nd.addL (-1) (T.node o) := by
    rw [Tr.bump_node, Tr.node_upd (by rw [hv1]; exact o0), if_pos rfl, hv1]
  have hd : (T.drop to other d).1 = (((T.upd to (Nd.delE other)).upd o (Nd.addL (-1))).bump).tidy o := by
    unfold Tr.drop at h0 ⊢
    rw [hl] at h0 ⊢
    simp only [ne_eq, not_true, if_false] at h0 ⊢
    split
    · rename_i c; rw [if_pos c] at h0; simp at h0
    · split
      · rename_i c c'; rw [if_neg c, if_pos c'] at h0; simp at h0
      · split
        · rename_i c c' c''; rw [if_neg c, if_neg c', if_pos c''] at h0; simp at h0
        · rfl
  rw [hd] at hlv
  obtain ⟨q1, q2⟩ := Tr.tidy_self (by rw [hv2]; exact o0) hlv.1
  rw [hv2] at q1 q2
  have hk : (T.node o).kind = 2#8 := q1
  have h1 := h.dirs o hk
  have h2 := h.links o o1 o0
  have h3 := Tr.refs_one hm
  apply hlv.2
  rw [q2]
  show (T.node o).links + -1 = 0
  omega
theorem Tr.WF.move (h : T.WF) (fr : BitVec 16) (s : NameL) (to : BitVec 16) (other : NameL) : (T.move fr s to other).1.WF := by
  unfold Tr.move
  split
  · exact h
  split
  · exact h
  split
  · exact h
  split
  · exact h
  split
  · exact h
  rename_i c1 c2 c3 c4 c5
  have c1 : (T.look fr s).2 = 0 := by simpa using c1
  have c2 : T.dir to = 0 := by simpa using c2
  obtain ⟨k1, k2⟩ := Tr.look_ok c1
  have k3 := Tr.dir_zero.1 c2
  generalize (T.look fr s).1 = n at *
  have c5 : T.may n to other (alook other (T.node to).ents) = 0 := by simpa using c5
  have hmo := Tr.mayOld_of c5
  unfold Tr.may at c5
  have p1 : okName other = true := by
    cases ho : okName other with
    | true => rfl
    | false => simp [ho] at c5
  have p2 : (T.node to).links ≠ 0 := by
    intro hz
    simp [p1, hz] at c5
  have p3 : (T.node n).kind = 2#8 → T.within n to = false := by
    intro hd
    cases hw : T.within n to with
    | false => rfl
    | true => simp [p1, p2, hd, hw] at c5
  have p4 : (T.node n).kind = 2#8 → T.deep to + T.tall n ≤ 16 := by
    intro hd
    refine Classical.byContradiction fun hc => ?_
    have hc : 16 < T.deep to + T.tall n := by omega
    simp [p1, p2, hd, p3 hd, hc] at c5
  have hto : T.Live to := ⟨k3, p2⟩
  have fr0 : (T.node fr).kind ≠ 0#8 := by rw [k1]; decide
  have hnb : (T.node n).kind = 2#8 → ∀ j, ¬ T.Below n j to := by
    intro hd
    refine h.not_below 16 to hto (h.depth to k3 p2) ?_
    have := p3 hd
    unfold Tr.within at this
    rwa [Tr.withinF_root h.root.1 h.root.2.1 n (h.depth to k3 p2) (g := 18) (by omega)] at this
  have hbt : (T.node n).kind = 2#8 → ∀ j m, T.Live m → T.Below n j m → T.deep to + j + 1 ≤ 16 := by
    intro hd j m hm hb
    have h1 := h.below_tall j m hm hb
    have h2 := Tr.tall_pos T m
    have h3 := p4 hd
    omega
  cases ho : alook other (T.node to).ents with
  | none =>
    simp only [Option.isSome_none, Bool.false_eq_true, if_false]
    have hV := Tr.node_upd fr0 (Nd.delE s) to
    refine h.moved fr to n s other k2 hto ?_ ?_ p1 fun hd => ⟨hnb hd, hbt hd⟩
    · rw [hV]; split
      · rename_i e
        show alook other (adel s (T.node fr).ents) = none
        rw [alook_adel _ _ (h.rising fr).nodup, ← e, ho]
        split <;> rfl
      · exact ho
    · rw [hV]; split
      · have := adel_length k2
        have := h.size fr
        show (adel s (T.node fr).ents).length < 32
        omega
      · rename_i e
        refine Classical.byContradiction fun hc => c4 ⟨ho, fun x => e x.symm, by omega⟩
  | some o =>
    simp only [Option.isSome_some, if_true]
    rw [ho] at hmo c3
    have hon : o ≠ n := fun e => c3 (by rw [e])
    obtain ⟨e1, e2, e3, o0, o1, e6⟩ := h.pos ho
    obtain ⟨g1, g2⟩ := Tr.drop_ok k3 ho hmo o0
    have hlk : T.look to other = (o, 0) := by
      unfold Tr.look
      simp [c2, ho]
    have hgone := h.drop_gone (d := decide ((T.node n).kind = 2#8)) hlk g1
    have h1 := h.drop to other (decide ((T.node n).kind = 2#8))
    generalize (T.drop to other (decide ((T.node n).kind = 2#8))).1 = T1 at *
    have hm := hmo
    unfold Tr.mayOld at hm
    have of : fr ≠ o := by
      rintro rfl
      have hpos : 0 < (T.node fr).ents.length := by
        cases he : (T.node fr).ents with
        | nil => rw [he] at k2; simp [alook] at k2
        | cons a b => simp
      simp only [k1] at hm
      by_cases d1 : (T.node n).kind = 2#8
      · simp [d1, hpos] at hm
      · simp [d1] at hm
    have ot : to ≠ o := fun e => h.no_self (n := to) (s := other) (by have := alook_mem ho; rwa [← e] at this)
    have hsame : ∀ m, m ≠ o → (T1.node m).kind = (T.node m).kind ∧ (T1.node m).parent = (T.node m).parent ∧ (T1.node m).links = (T.node m).links := by
      intro m hmo
      rw [g2 m hmo]
      split
      · rename_i e; subst e; exact ⟨rfl, rfl, rfl⟩
      · exact ⟨rfl, rfl, rfl⟩
    have hlive : ∀ m, T1.Live m → m ≠ o ∧ T.Live m := by
      intro m hlv
      have hmo : m ≠ o := fun e => hgone (by rw [← e]; exact hlv)
      obtain ⟨q1, q2, q3⟩ := hsame m hmo
      exact ⟨hmo, by rw [← q1]; exact hlv.1, by rw [← q3]; exact hlv.2⟩
    have hbel : ∀ j m, T1.Live m → T1.Below n j m → T.Below n j m := by
      intro j
      induction j with
      | zero => intro m _ hb; exact hb
      | succ j ih =>
        intro m hm hb
        refine ⟨hb.1, ?_⟩
        rw [← (hsame m (hlive m hm).1).2.1]
        exact ih _ (h1.above hm hb.1).1 hb.2
    have hto1 : T1.Live to := by
      obtain ⟨q1, q2, q3⟩ := hsame to ot
      exact ⟨by rw [q1]; exact k3, by rw [q3]; exact p2⟩
    have hdp : T1.deep to = T.deep to := by
      unfold Tr.deep
      refine (Tr.deepF_of T1.Live (fun m hm hm1 => ?_) 17 to hto1).symm
      exact ⟨((hsame m (hlive m hm).1).2.1).symm, (h1.above hm hm1).1⟩
    have hso : fr = to → s ≠ other := by
      rintro e rfl
      rw [e, ho] at k2
      exact hon (Option.some.inj k2)
    have hfr1 : alook s (T1.node fr).ents = some n := by
      rw [g2 fr of]
      split
      · rename_i e
        show alook s (adel other (T.node to).ents) = some n
        rw [alook_adel _ _ (h.rising to).nodup, if_neg (hso e), ← e, k2]
      · exact k2
    have fr10 : (T1.node fr).kind ≠ 0#8 := by rw [(hsame fr of).1]; exact fr0
    have hV := Tr.node_upd fr10 (Nd.delE s) to
    have hent : (T1.node to).ents = adel other (T.node to).ents := by rw [g2 to ot, if_pos rfl]; rfl
    have hdl := adel_length ho
    have hsz := h.size to
    refine h1.moved fr to n s other hfr1 hto1 ?_ ?_ p1 fun hd => ?_
    · rw [hV]; split
      · rename_i e
        show alook other (adel s (T1.node fr).ents) = none
        rw [alook_adel _ _ (h1.rising fr).nodup, ← e, hent, alook_adel _ _ (h.rising to).nodup]
        simp
      · rw [hent, alook_adel _ _ (h.rising to).nodup, if_pos rfl]
    · rw [hV]; split
      · rename_i e
        have := (adel_sub s (T1.node fr).ents).length_le
        rw [← e, hent] at this
        show (adel s (T1.node fr).ents).length < 32
        rw [← e, hent]
        omega
      · rw [hent]; omega
    · rw [(hsame n (Ne.symm hon)).1] at hd
      rw [hdp]
      exact ⟨fun j hb => hnb hd j (hbel j to hto1 hb), fun j m hm hb => hbt hd j m (hlive m hm).2 (hbel j m hm hb)⟩
end
end Go.AM
end
section
namespace Go.AM
open Go.Sort
section
variable {E : Sy} {H H' : AH} {Q : Value → AH → Prop}
theorem bitsLen_shift (x k : Nat) (h : 2 ^ k ≤ x) : bitsLen x = bitsLen (x / 2 ^ k) + k := by
  have hp := Nat.two_pow_pos k
  apply Nat.le_antisymm
  · rw [bitsLen_le_iff, Nat.pow_add]
    have := lt_two_pow_bitsLen (x / 2 ^ k)
    rw [Nat.div_lt_iff_lt_mul hp] at this
    exact this
  · have h1 : k ≤ bitsLen x := by
      apply Classical.byContradiction
      intro hc
      have : bitsLen x ≤ k := by omega
      rw [bitsLen_le_iff] at this
      omega
    have : bitsLen (x / 2 ^ k) ≤ bitsLen x - k := by
      rw [bitsLen_le_iff, Nat.div_lt_iff_lt_mul hp, ← Nat.pow_add, Nat.sub_add_cancel h1]
      exact lt_two_pow_bitsLen x
    omega
def len8tab : List UInt8 := (List.range 256).map fun n => UInt8.ofNat (bitsLen n)
theorem len8tab_at : ∀ n < 256, len8tab[n]? = some (UInt8.ofNat (bitsLen n)) := by decide +kernel
theorem bitsLen_le8 : ∀ n < 256, bitsLen n ≤ 8 := by decide +kernel
theorem len8_ix (x : BitVec 8) : ixStr (str len8tab) (u8 x) = some (u8 (BitVec.ofNat 8 (bitsLen x.toNat))) := by
  rw [ixStr_u8]
  have hx := x.isLt
  have hl : len8tab.length = 256 := by decide +kernel
  have hlt : x.toNat < len8tab.length := by omega
  rw [ixStr_s len8tab x.toNat hlt]
  have := len8tab_at x.toNat (by omega)
  rw [List.getElem?_eq_getElem hlt] at this
  simp only [Option.some.injEq] at this
  rw [this]
  rfl
theorem len_tail (l : List UInt8) (hl : l = len8tab) (x : BitVec 64) (hx : x.toNat < 256) (k : Nat) (hk : k < 1000) (hQ : Q (vi ((bitsLen x.toNat + k : Nat) : Int)) H) :
    (opt (convInt .u8 (u64 x)) fun v1 => opt (ixStr (.string ⟨l.toArray⟩) v1) fun v2 => opt (convInt .i64 v2) fun v3 => opt (binInt .add (vi k) v3) fun v4 => Q v4 H) := by
  subst hl
  have e1 : (x.setWidth 8).toNat = x.toNat := by rw [BitVec.toNat_setWidth, Nat.mod_eq_of_lt (by omega)]
  have e2 := bitsLen_le8 x.toNat hx
  simp only [u64_to_u8, tk_eq, opt_some]
  rw [show (Value.string ⟨len8tab.toArray⟩) = str len8tab from rfl, len8_ix, e1]
  simp only [opt_some, u8_to_i64, tk_eq, BitVec.toNat_ofNat]
  rw [Nat.mod_eq_of_lt (by omega), i64_add_nat _ _ (by omega), opt_some, Nat.add_comm]
  exact hQ
set_option maxRecDepth 100000
theorem S.f15 (hE : Fold E) (x : BitVec 64) (hx : x.toNat < 2 ^ 32) (hQ : Q (vi (bitsLen x.toNat : Nat)) H) : E.call (E.fid i.f15) [u64 x] H Q := by
  apply hE.f15
  simp only [F.f15, ifB_false]
  apply hE.f17
  have c0 : ¬ 4294967296 ≤ x.toNat := by omega
  have t3 : ∀ (y : BitVec 64) (k : Nat), y.toNat < 256 → k < 1000 → bitsLen x.toNat = bitsLen y.toNat + k → F.f17_j3 E Q (u64 y) (vi k) H := by
    intro y k hy hk e
    unfold F.f17_j3
    refine len_tail _ ?_ y hy k hk ?_
    · decide +kernel
    · rw [← e]; exact hQ
  have t2 : ∀ (y : BitVec 64) (k : Nat), y.toNat < 65536 → k < 900 → bitsLen x.toNat = bitsLen y.toNat + k → F.f17_j2 E Q (u64 y) (vi k) H := by
    intro y k hy hk e
    by_cases h : 256 ≤ y.toNat
    · have h8 : (y >>> 8).toNat = y.toNat / 256 := by rw [BitVec.toNat_ushiftRight, Nat.shiftRight_eq_div_pow]
      have hs := bitsLen_shift y.toNat 8 (by omega)
      rw [show (2 : Nat) ^ 8 = 256 from rfl] at hs
      have hk8 : binInt .add (vi k) (.int .i64 8) = some (vi ((k + 8 : Nat) : Int)) := i64_add_nat k 8 (by omega)
      simp only [F.f17_j2, u64_lit 256 (by decide), u64_geq, tk_eq, opt_some]
      simp [h, hk8]
      have := t3 (y >>> 8) (k + 8) (by omega) (by omega) (by rw [e, hs, h8]; omega)
      simpa using this
    · simp only [F.f17_j2, u64_lit 256 (by decide), u64_geq, tk_eq, opt_some]
      simp [h]
      exact t3 y k (by omega) (by omega) e
  by_cases h : 65536 ≤ x.toNat
  · have h8 : (x >>> 16).toNat = x.toNat / 65536 := by rw [BitVec.toNat_ushiftRight, Nat.shiftRight_eq_div_pow]
    have hs := bitsLen_shift x.toNat 16 (by omega)
    rw [show (2 : Nat) ^ 16 = 65536 from rfl] at hs
    have hk8 : binInt .add (.int .i64 0) (.int .i64 16) = some (vi ((16 : Nat) : Int)) := i64_add_nat 0 16 (by omega)
    simp [F.f17, F.f17_j1, c0, h, hk8]
    exact t2 (x >>> 16) 16 (by omega) (by omega) (by rw [hs, h8])
  · simp [F.f17, F.f17_j1, c0, h]
    exact t2 x 0 (by omega) (by omega) rfl
theorem S.f37 (hE : Fold E) (x : Nat) (hx : x < 2 ^ 32) (hQ : Q (u64 (BitVec.ofNat 64 (2 ^ bitsLen x))) H) : E.call (E.fid i.f37) [vi x] H Q := by
  apply hE.f37
  have e1 : (BitVec.ofNat 64 x).toNat = x := by rw [BitVec.toNat_ofNat, Nat.mod_eq_of_lt (by omega)]
  have hc : convInt .u64 (vi x) = some (u64 (BitVec.ofNat 64 x)) := by
    rw [i64_to_u64, BitVec.ofInt_natCast]
  simp only [F.f37, hc, tk_eq, opt_some]
  refine S.f15 hE _ (by rw [e1]; exact hx) ?_
  rw [e1]
  have := u64_shl 1#64 .i64 (bitsLen x)
  have l1 : (.int .u64 1 : Value) = u64 1#64 := rfl
  have e2 : (1#64 <<< bitsLen x) = BitVec.ofNat 64 (2 ^ bitsLen x) := by
    apply BitVec.eq_of_toNat_eq
    rw [BitVec.toNat_shiftLeft, Nat.shiftLeft_eq]
    simp
  rw [l1, this, opt_some, e2]
  exact hQ
theorem S.f45 (hE : Fold E) (r : Nat) (x : BitVec 64) (hr : H.get r = .cells [u64 x] none) (hQ : ∀ y, Q (u64 y) (H.put r (.cells [u64 y] none))) : E.call (E.fid i.f45) [ptr r 0] H Q := by
  apply hE.f45
  have hlt := AH.lt_cells hr
  have l1 : (.int .u64 13 : Value) = u64 13#64 := rfl
  have l2 : (.int .u64 7 : Value) = u64 7#64 := rfl
  have l3 : (.int .u64 17 : Value) = u64 17#64 := rfl
  simp [F.f45, hr, l1, l2, l3, AH.get_put, hlt]
  exact hQ _
end
end Go.AM
end
section
namespace Go.AM
open Go.Sort
section
variable {E : Sy} {H H' : AH} {Q : Value → AH → Prop} {b c n : Nat} {d : Array (List UInt8)} {tail : List Value} {f : Option Nat}
theorem enc_string_plain : ∀ x : List UInt8, plain1 (str x) = true := fun _ => rfl
theorem S.f0 (hE : Fold E) (x y : List UInt8) (hQ : Q (vb (Op.bytesLess x y)) H) : E.call (E.fid i.f0) [str x, str y] H Q := by
  apply hE.f0
  simp only [F.f0]
  apply hE.f1
  simp [F.f1]
  exact hQ
theorem S.f34 (hE : Fold E) (hg : H.get b = arrO str d tail f) (hn : d.size = n) (hsz : n < 2 ^ 60) (a e : Nat) (hae : a ≤ e) (he : e ≤ n)
    (hQ : ∀ H', SortTo H b str tail f (insertionSort Op.bytesLess d a e) H' → Q (.tuple #[]) H') : E.call (E.fid i.f34) [slc b 0 n c, vi a, vi e] H Q := by
  apply hE.f34
  simp only [F.f34, tk_eq]
  rw [i64_succ a (by omega), opt_some]
  unfold insertionSort at hQ
  obtain ⟨R, hR⟩ : ∃ R, R = insOuter Op.bytesLess a e (a + 1) d := ⟨_, rfl⟩
  rw [← hR] at hQ
  refine LoopL.ind (fun m l H' => ∃ (j : Nat) (d' : Array (List UInt8)), l = [slc b 0 n c, vi a, vi e, vi j] ∧ SortTo H b str tail f d' H' ∧ d'.size = n ∧ R = insOuter Op.bytesLess a e j d' ∧ a < j ∧ m = e - j) ?_ (e - (a + 1)) ⟨a + 1, d, rfl, .refl hg, hn, hR, by omega, rfl⟩
  rintro m _ H1 X hX ⟨j, d1, rfl, s1, n1, r1, haj, rfl⟩
  unfold insOuter at r1
  by_cases hj : j < e
  · rw [if_pos hj] at r1
    have hj' : (j : Int) < e := by omega
    simp [F.f34_l1, hj']
    refine LoopL.ind (fun m l H2 => ∃ (k : Nat) (d2 : Array (List UInt8)), l = [slc b 0 n c, vi a, vi e, vi j, vi k] ∧ SortTo H b str tail f d2 H2 ∧ d2.size = n ∧ insInner Op.bytesLess a j d1 = insInner Op.bytesLess a k d2 ∧ k ≤ j ∧ m = k) ?_ j ⟨j, d1, rfl, s1, n1, rfl, Nat.le_refl _, rfl⟩
    rintro m _ H2 X1 hX1 ⟨k, d2, rfl, s2, n2, r2, hkj, rfl⟩
    have done : insInner Op.bytesLess a m d2 = d2 → ∀ l, l = [slc b 0 n c, vi a, vi e, vi ((j + 1 : Nat) : Int)] → X l H2 := by
      rintro e2 l rfl
      rw [e2] at r2
      rw [r2] at r1
      exact hX (e - (j + 1)) (by omega) _ _ ⟨j + 1, d2, rfl, s2, n2, r1, by omega, rfl⟩
    by_cases hka : a < m
    · obtain ⟨k, rfl⟩ : ∃ k, m = k + 1 := ⟨m - 1, by omega⟩
      have hka' : (a : Int) < ((k + 1 : Nat) : Int) := by omega
      have f1 := arr_ix (b := b) (c := c) (n := n) (i := k + 1) (by omega)
      have f2 := arr_ix (b := b) (c := c) (n := n) (i := k) (by omega)
      have g1 := arr_load s2.get (i := k + 1) (by omega)
      have g2 := arr_load s2.get (i := k) (by omega)
      have hd : binInt .sub (vi ((k + 1 : Nat) : Int)) (.int .i64 1) = some (vi (k : Int)) := i64_dec (k + 1) (by omega) (by omega)
      obtain ⟨w1, w2⟩ := arr_swap enc_string_plain s2.get (i := k + 1) (j := k) (by omega) (by omega)
      have hjj := i64_succ j (by omega)
      simp only [insInner, hka, decide_true, Bool.true_and] at r2 done
      generalize hk1 : k + 1 = k1 at *
      simp [-store1_ptr, -load1_ptr, F.f34_l2, hka', f1, f2, g1, g2, hd]
      refine S.f0 hE _ _ ?_
      by_cases hl : Op.bytesLess d2[k1]! d2[k]! = true
      · simp only [hl, if_true] at r2
        simp [-store1_ptr, -load1_ptr, hl, f1, f2, g1, g2, hd, w1, w2]
        exact hX1 k (by omega) _ _ ⟨k, _, rfl, s2.put _, by rw [size_swp]; exact n2, r2, by omega, rfl⟩
      · simp only [hl, if_false] at done
        simp [-store1_ptr, -load1_ptr, hl, hjj]
        exact done rfl _ rfl
    · have hka' : ¬ (a : Int) < (m : Int) := by omega
      have hjj := i64_succ j (by omega)
      simp [-store1_ptr, -load1_ptr, F.f34_l2, hka', hjj]
      refine done ?_ _ rfl
      cases m with
      | zero => rfl
      | succ k => simp [insInner, hka]
  · rw [if_neg hj] at r1
    subst r1
    have hj' : ¬ (j : Int) < e := by omega
    simp [F.f34_l1, hj']
    exact hQ _ s1
theorem S.f44 (hE : Fold E) (hg : H.get b = arrO str d tail f) (hn : d.size = n) (hsz : n < 2 ^ 60) (lo hi first : Nat) (hlo : lo ≤ n) (hf : first + hi ≤ n)
    (hQ : ∀ H', SortTo H b str tail f (siftDown Op.bytesLess hi first lo d) H' → Q (.tuple #[]) H') : E.call (E.fid i.f44) [slc b 0 n c, vi lo, vi hi, vi first] H Q := by
  apply hE.f44
  simp only [F.f44, tk_eq]
  obtain ⟨R, hR⟩ : ∃ R, R = siftDown Op.bytesLess hi first lo d := ⟨_, rfl⟩
  rw [← hR] at hQ
  refine LoopL.ind (fun m l H' => ∃ (r : Nat) (d' : Array (List UInt8)), l = [slc b 0 n c, vi hi, vi first, vi r] ∧ SortTo H b str tail f d' H' ∧ d'.size = n ∧ R = siftDown Op.bytesLess hi first r d' ∧ r ≤ n ∧ m = hi - r) ?_ (hi - lo) ⟨lo, d, rfl, .refl hg, hn, hR, hlo, rfl⟩
  rintro m _ H1 X hX ⟨r, d1, rfl, s1, n1, r1, hr, rfl⟩
  have a1 := i64_dbl r (by omega)
  have a2 := i64_succ (2 * r) (by omega)
  have a3 := i64_succ (2 * r + 1) (by omega)
  have step : ∀ ch : Nat, r < ch → ch < hi → R = (if !Op.bytesLess d1[first + r]! d1[first + ch]! then d1 else siftDown Op.bytesLess hi first ch (swp d1 (first + r) (first + ch))) → F.f44_j1 E Q X (slc b 0 n c) (vi hi) (vi first) (vi r) (vi ch) H1 := by
    intro ch h1 h2 hR'
    have b1 := i64_add_nat first r (by omega)
    have b2 := i64_add_nat first ch (by omega)
    have f1 := arr_ix (b := b) (c := c) (n := n) (i := first + r) (by omega)
    have f2 := arr_ix (b := b) (c := c) (n := n) (i := first + ch) (by omega)
    have g1 := arr_load s1.get (i := first + r) (by omega)
    have g2 := arr_load s1.get (i := first + ch) (by omega)
    obtain ⟨w1, w2⟩ := arr_swap enc_string_plain s1.get (i := first + r) (j := first + ch) (by omega) (by omega)
    generalize hp : first + r = p at *
    generalize hq : first + ch = q at *
    simp [-store1_ptr, -load1_ptr, F.f44_j1, b1, b2, f1, f2, g1, g2]
    refine S.f0 hE _ _ ?_
    by_cases hl : Op.bytesLess d1[p]! d1[q]! = true
    · simp only [hl, Bool.not_true, Bool.false_eq_true, if_false] at hR'
      simp [-store1_ptr, -load1_ptr, hl, b1, b2, f1, f2, g1, g2, w1, w2]
      exact hX (hi - ch) (by omega) _ _ ⟨ch, _, rfl, s1.put _, by rw [size_swp]; exact n1, hR', by omega, rfl⟩
    · have hl : Op.bytesLess d1[p]! d1[q]! = false := by simpa using hl
      simp only [hl, Bool.not_false, if_true] at hR'
      subst hR'
      simp [-store1_ptr, -load1_ptr, hl]
      exact hQ _ s1
  rw [siftDown] at r1
  by_cases c1 : 2 * r + 1 ≥ hi
  · rw [dif_pos c1] at r1
    subst r1
    have c1' : (hi : Int) ≤ ((2 * r + 1 : Nat) : Int) := by omega
    generalize 2 * r + 1 = ch at *
    generalize 2 * r = rr at *
    simp [F.f44_l1, a1, a2, c1']
    exact hQ _ s1
  rw [dif_neg c1] at r1
  have c1' : ¬ (hi : Int) ≤ ((2 * r + 1 : Nat) : Int) := by omega
  have b1 := i64_add_nat first (2 * r + 1) (by omega)
  have b2 := i64_succ (first + (2 * r + 1)) (by omega)
  by_cases c2 : 2 * r + 1 + 1 < hi
  · have c2' : ((2 * r + 1 + 1 : Nat) : Int) < hi := by omega
    have f1 := arr_ix (b := b) (c := c) (n := n) (i := first + (2 * r + 1)) (by omega)
    have f2 := arr_ix (b := b) (c := c) (n := n) (i := first + (2 * r + 1) + 1) (by omega)
    have g1 := arr_load s1.get (i := first + (2 * r + 1)) (by omega)
    have g2 := arr_load s1.get (i := first + (2 * r + 1) + 1) (by omega)
    have st1 := step (2 * r + 1) (by omega) (by omega)
    have st2 := step (2 * r + 1 + 1) (by omega) c2
    rw [dif_pos (by omega : 2 * r + 2 < hi)] at r1
    simp only [c2, decide_true, Bool.true_and] at r1
    rw [show 2 * r + 2 = 2 * r + 1 + 1 by omega] at r1
    generalize hq2 : first + (2 * r + 1) + 1 = q2 at *
    generalize hq : first + (2 * r + 1) = q at *
    generalize hc2 : 2 * r + 1 + 1 = ch2 at *
    generalize hc1 : 2 * r + 1 = ch at *
    generalize 2 * r = rr at *
    simp [-store1_ptr, -load1_ptr, F.f44_l1, a1, a2, a3, c1', c2', b1, b2, f1, f2, g1, g2]
    refine S.f0 hE _ _ ?_
    by_cases hl : Op.bytesLess d1[q]! d1[q2]! = true
    · simp only [hl, if_true] at r1
      simp [hl, a3]
      exact st2 r1
    · simp only [hl, if_false] at r1
      simp [hl]
      exact st1 r1
  · have c2' : ¬ ((2 * r + 1 + 1 : Nat) : Int) < hi := by omega
    have st1 := step (2 * r + 1) (by omega) (by omega)
    simp only [c2, decide_false, Bool.false_and, Bool.false_eq_true, if_false] at r1
    generalize hc2 : 2 * r + 1 + 1 = ch2 at *
    generalize hc1 : 2 * r + 1 = ch at *
    generalize 2 * r = rr at *
    simp [-store1_ptr, -load1_ptr, F.f44_l1, a1, a2, a3, c1', c2']
    exact st1 r1
theorem size_siftDown_string (hi first r : Nat) (d : Array (List UInt8)) : (siftDown Op.bytesLess hi first r d).size = d.size := by
  obtain ⟨m, hm⟩ : ∃ m, hi - r ≤ m := ⟨_, Nat.le_refl _⟩
  induction m generalizing r d with
  | zero =>
    rw [siftDown, dif_pos (by omega)]
  | succ m ih =>
    rw [siftDown]
    split
    · rfl
    · split
      · split
        · rfl
        · split
          · rw [ih _ _ (by omega), size_swp]
          · rfl
      · split
        · rfl
        · rw [ih _ _ (by omega), size_swp]
theorem S.f33 (hE : Fold E) (hg : H.get b = arrO str d tail f) (hn : d.size = n) (hsz : n < 2 ^ 60) (a e : Nat) (hae : a < e) (he : e ≤ n)
    (hQ : ∀ H', SortTo H b str tail f (heapSort Op.bytesLess d a e) H' → Q (.tuple #[]) H') : E.call (E.fid i.f33) [slc b 0 n c, vi a, vi e] H Q := by
  apply hE.f33
  have a1 := i64_sub_nat e a (by omega) (by omega)
  have a2 := i64_dec (e - a) (by omega) (by omega)
  have a3 := i64_quo_num (e - a - 1) 2 (by decide) (by omega)
  unfold heapSort at hQ
  have a1' : binInt .sub (vi e) (vi a) = some (vi ((e - a : Nat) : Int)) := a1
  generalize hw : e - a = w at *
  have a3' : binInt .quo (vi ((w - 1 : Nat) : Int)) (.int .i64 2) = some (vi (((w - 1) / 2 : Nat) : Int)) := a3
  generalize hw1 : w - 1 = w1 at *
  generalize hh : w1 / 2 = h2 at *
  have hh2 : h2 ≤ w1 := by rw [← hh]; exact Nat.div_le_self _ _
  simp only [F.f33, a1', a2, a3', tk_eq, opt_some]
  obtain ⟨R, hR⟩ : ∃ R, R = heapPop Op.bytesLess a w (heapBuild Op.bytesLess w a (h2 + 1) d) := ⟨_, rfl⟩
  rw [← hR] at hQ
  refine LoopL.ind (fun m l H' => ∃ (k : Nat) (d' : Array (List UInt8)), l = [slc b 0 n c, vi a, vi 0, vi w, vi ((k : Int) - 1)] ∧ SortTo H b str tail f d' H' ∧ d'.size = n ∧ R = heapPop Op.bytesLess a w (heapBuild Op.bytesLess w a k d') ∧ k ≤ w ∧ m = k) ?_ (h2 + 1) ⟨h2 + 1, d, by simp, .refl hg, hn, hR, by omega, rfl⟩
  rintro m _ H1 X hX ⟨k, d1, rfl, s1, n1, r1, hk, rfl⟩
  cases m with
  | succ k =>
    have e1 : ((k + 1 : Nat) : Int) - 1 = (k : Int) := by omega
    have hd : binInt .sub (vi k) (.int .i64 1) = some (vi ((k : Int) - 1)) := i64_sub (by omega) (by omega)
    rw [e1]
    simp [F.f33_l1]
    refine S.f44 hE s1.get n1 hsz k w a (by omega) (by omega) fun H2 s2 => ?_
    simp only [hd, tk_eq, opt_some]
    exact hX k (by omega) _ _ ⟨k, _, rfl, s1.trans s2, by rw [size_siftDown_string]; exact n1, by rw [r1]; rfl, by omega, rfl⟩
  | zero =>
    have hd : binInt .sub (vi w) (.int .i64 1) = some (vi ((w : Int) - 1)) := i64_sub (by omega) (by omega)
    simp [F.f33_l1, hd]
    clear hX
    refine LoopL.ind (fun m l H' => ∃ (k : Nat) (d' : Array (List UInt8)), l = [slc b 0 n c, vi a, vi 0, vi ((k : Int) - 1)] ∧ SortTo H b str tail f d' H' ∧ d'.size = n ∧ R = heapPop Op.bytesLess a k d' ∧ k ≤ w ∧ m = k) ?_ w ⟨w, d1, rfl, s1, n1, r1, Nat.le_refl _, rfl⟩
    rintro m _ H2 X hX ⟨k, d2, rfl, s2, n2, r2, hk, rfl⟩
    cases m with
    | succ k =>
      have e1 : ((k + 1 : Nat) : Int) - 1 = (k : Int) := by omega
      have hd : binInt .sub (vi k) (.int .i64 1) = some (vi ((k : Int) - 1)) := i64_sub (by omega) (by omega)
      have b1 := i64_add_nat a k (by omega)
      have f1 := arr_ix (b := b) (c := c) (n := n) (i := a) (by omega)
      have f2 := arr_ix (b := b) (c := c) (n := n) (i := a + k) (by omega)
      have g1 := arr_load s2.get (i := a) (by omega)
      have g2 := arr_load s2.get (i := a + k) (by omega)
      obtain ⟨w1, w2⟩ := arr_swap enc_string_plain s2.get (i := a) (j := a + k) (by omega) (by omega)
      rw [e1]
      rw [heapPop] at r2
      generalize hq : a + k = q at *
      simp [-store1_ptr, -load1_ptr, F.f33_l2, b1, f1, f2, g1, g2, w1, w2]
      have s3 := s2.put (swp d2 a q)
      refine S.f44 hE s3.get (by rw [size_swp]; exact n2) hsz 0 k a (by omega) (by omega) fun H3 s4 => ?_
      simp only [hd, tk_eq, opt_some]
      exact hX k (by omega) _ _ ⟨k, _, rfl, s3.trans s4, by rw [size_siftDown_string, size_swp]; exact n2, r2, by omega, rfl⟩
    | zero =>
      simp [F.f33_l2]
      rw [heapPop] at r2
      subst r2
      exact hQ _ s2
theorem S.f43 (hE : Fold E) (hg : H.get b = arrO str d tail f) (hn : d.size = n) (hsz : n < 2 ^ 60) (a e : Nat) (hae : a < e) (he : e ≤ n)
    (hQ : ∀ H', SortTo H b str tail f (reverseRange d a e) H' → Q (.tuple #[]) H') : E.call (E.fid i.f43) [slc b 0 n c, vi a, vi e] H Q := by
  apply hE.f43
  have a1 := i64_dec e (by omega) (by omega)
  unfold reverseRange at hQ
  simp only [F.f43, a1, tk_eq, opt_some]
  obtain ⟨R, hR⟩ : ∃ R, R = reverseLoop a (e - 1) d := ⟨_, rfl⟩
  rw [← hR] at hQ
  refine LoopL.ind (fun m l H' => ∃ (p q : Nat) (d' : Array (List UInt8)), l = [slc b 0 n c, vi p, vi q] ∧ SortTo H b str tail f d' H' ∧ d'.size = n ∧ R = reverseLoop p q d' ∧ p ≤ n ∧ q < n ∧ m = q - p) ?_ (e - 1 - a) ⟨a, e - 1, d, rfl, .refl hg, hn, hR, by omega, by omega, rfl⟩
  rintro m _ H1 X hX ⟨p, q, d1, rfl, s1, n1, r1, hp, hq, rfl⟩
  rw [reverseLoop] at r1
  by_cases h : p < q
  · rw [if_pos h] at r1
    have h' : (p : Int) < q := by omega
    have f1 := arr_ix (b := b) (c := c) (n := n) (i := p) (by omega)
    have f2 := arr_ix (b := b) (c := c) (n := n) (i := q) (by omega)
    have g1 := arr_load s1.get (i := p) (by omega)
    have g2 := arr_load s1.get (i := q) (by omega)
    obtain ⟨w1, w2⟩ := arr_swap enc_string_plain s1.get (i := p) (j := q) (by omega) (by omega)
    have b1 := i64_succ p (by omega)
    have b2 := i64_dec q (by omega) (by omega)
    simp [-store1_ptr, -load1_ptr, F.f43_l1, h', f1, f2, g1, g2, w1, w2, b1, b2]
    exact hX (q - 1 - (p + 1)) (by omega) _ _ ⟨p + 1, q - 1, _, rfl, s1.put _, by rw [size_swp]; exact n1, r1, by omega, by omega, rfl⟩
  · rw [if_neg h] at r1
    subst r1
    have h' : ¬ (p : Int) < q := by omega
    simp [F.f43_l1, h']
    exact hQ _ s1
theorem S.f41 (hE : Fold E) (hg : H.get b = arrO str d tail f) (hn : d.size = n) (hsz : n < 2 ^ 60) (a e pivot : Nat) (h1 : a ≤ pivot) (h2 : pivot < e) (he : e ≤ n)
    (hQ : ∀ H', SortTo H b str tail f (partition Op.bytesLess d a e pivot).2.2 H' → Q (.tuple #[vi (partition Op.bytesLess d a e pivot).1, vb (partition Op.bytesLess d a e pivot).2.1]) H') : E.call (E.fid i.f41) [slc b 0 n c, vi a, vi e, vi pivot] H Q := by
  apply hE.f41
  have f1 := arr_ix (b := b) (c := c) (n := n) (i := a) (by omega)
  have f2 := arr_ix (b := b) (c := c) (n := n) (i := pivot) (by omega)
  have g1 := arr_load hg (i := a) (by omega)
  have g2 := arr_load hg (i := pivot) (by omega)
  obtain ⟨w1, w2⟩ := arr_swap enc_string_plain hg (i := a) (j := pivot) (by omega) (by omega)
  have b1 := i64_succ a (by omega)
  have b2 := i64_dec e (by omega) (by omega)
  simp only [F.f41, f1, f2, g1, g2, w1, w2, b1, b2, tk_eq, opt_some]
  have s0 := (SortTo.refl hg).put (swp d a pivot)
  have n0 : (swp d a pivot).size = n := by rw [size_swp]; exact hn
  unfold partition at hQ
  generalize hd0 : swp d a pivot = d0 at *
  generalize hH0 : H.put b (arrO str d0 tail f) = H0 at *
  simp only at hQ
  obtain ⟨I, hI⟩ : ∃ I, I = scanUp (fun x => Op.bytesLess x d0[a]!) d0 (e - 1) (a + 1) := ⟨_, rfl⟩
  rw [← hI] at hQ
  obtain ⟨J, hJ⟩ : ∃ J, J = scanDown (fun x => !Op.bytesLess x d0[a]!) d0 I (e - 1) := ⟨_, rfl⟩
  rw [← hJ] at hQ
  have hIl := sUp_le (fun x => Op.bytesLess x d0[a]!) d0 (e - 1) _ (a + 1) (Nat.le_refl _)
  rw [← hI] at hIl
  have hJl := sDown_le (fun x => !Op.bytesLess x d0[a]!) d0 I (e - 1)
  rw [← hJ] at hJl
  refine LoopL.ind (fun m l H' => H0 = H' ∧ ∃ p : Nat, l = [slc b 0 n c, vi a, vi p, vi ((e - 1 : Nat) : Int)] ∧ I = scanUp (fun x => Op.bytesLess x d0[a]!) d0 (e - 1) p ∧ a + 1 ≤ p ∧ p ≤ e ∧ m = e - p) ?_ (e - (a + 1)) ⟨rfl, a + 1, rfl, hI, Nat.le_refl _, by omega, rfl⟩
  rintro m _ _ X hX ⟨rfl, p, rfl, r1, hp1, hp2, rfl⟩
  rw [scanUp] at r1
  have exit1 : I = p → LoopL (fun l H X0 => F.f41_l2 E Q (nth l 0) (nth l 1) (nth l 2) (nth l 3) H X0) [slc b 0 n c, vi a, vi p, vi ((e - 1 : Nat) : Int)] H0 := by
    rintro rfl
    clear hX r1
    refine LoopL.ind (fun m l H' => H0 = H' ∧ ∃ q : Nat, l = [slc b 0 n c, vi a, vi I, vi q] ∧ J = scanDown (fun x => !Op.bytesLess x d0[a]!) d0 I q ∧ q ≤ e - 1 ∧ I ≤ q + 1 ∧ m = q) ?_ (e - 1) ⟨rfl, e - 1, rfl, hJ, Nat.le_refl _, by omega, rfl⟩
    rintro m _ _ X hX ⟨rfl, q, rfl, r1, hq1, hq2, rfl⟩
    have exit2 : J = m → F.f41_l2 E Q (slc b 0 n c) (vi a) (vi I) (vi m) H0 X := by
      rintro rfl
      clear hX
      have f1 := arr_ix (b := b) (c := c) (n := n) (i := a) (by omega)
      have f2 := arr_ix (b := b) (c := c) (n := n) (i := J) (by omega)
      have g1 := arr_load s0.get (i := a) (by omega)
      have g2 := arr_load s0.get (i := J) (by omega)
      obtain ⟨w1, w2⟩ := arr_swap enc_string_plain s0.get (i := J) (j := a) (by omega) (by omega)
      by_cases hij : I ≤ J
      · have hij' : (I : Int) ≤ J := by omega
        have hij'' : ¬ (J : Int) < I := by omega
        have hnl : Op.bytesLess d0[J]! d0[a]! = true := by
          cases J with
          | zero => omega
          | succ q =>
            rw [scanDown] at r1
            split at r1
            · have := sDown_le (fun x => !Op.bytesLess x d0[a]!) d0 I q
              omega
            · rename_i hc
              simp at hc
              exact hc (by omega)
        have f3 := arr_ix (b := b) (c := c) (n := n) (i := I) (by omega)
        have g3 := arr_load s0.get (i := I) (by omega)
        obtain ⟨w3, w4⟩ := arr_swap enc_string_plain s0.get (i := I) (j := J) (by omega) (by omega)
        have b3 := i64_succ I (by omega)
        have b4 := i64_dec J (by omega) (by omega)
        simp [-store1_ptr, -load1_ptr, F.f41_l2, hij', f1, f2, g1, g2]
        refine S.f0 hE _ _ ?_
        simp [-store1_ptr, -load1_ptr, hnl, hij'', f1, f2, f3, g1, g2, g3, w3, w4, b3, b4]
        rw [if_neg (by omega)] at hQ
        have s1 := s0.put (swp d0 I J)
        have n1 : (swp d0 I J).size = n := by rw [size_swp]; exact n0
        generalize hd1 : swp d0 I J = d1 at *
        simp only at hQ
        obtain ⟨R, hR⟩ : ∃ R, R = partLoop Op.bytesLess a (I + 1) (J - 1) d1 := ⟨_, rfl⟩
        rw [← hR] at hQ
        refine LoopL.ind (fun m l H' => ∃ (p q : Nat) (d2 : Array (List UInt8)), l = [slc b 0 n c, vi a, vi p, vi q] ∧ SortTo H b str tail f d2 H' ∧ d2.size = n ∧ R = partLoop Op.bytesLess a p q d2 ∧ a + 1 ≤ p ∧ p ≤ q + 1 + 1 ∧ p ≤ e ∧ q ≤ e - 1 ∧ a ≤ q ∧ m = q + 1 - p) ?_ (J - 1 + 1 - (I + 1)) ⟨I + 1, J - 1, d1, rfl, s1, n1, hR, by omega, by omega, by omega, by omega, by omega, rfl⟩
        clear hR s1 n1 hd1 w1 w2 w3 w4
        rintro m _ H2 X3 hX3 ⟨p, q, d2, rfl, s2, n2, r2, hp1, hp2, hpe, hq1, hqa, rfl⟩
        rw [partLoop] at r2
        simp only [F.f41_l3, nth_0, nth_1, nth_2, nth_3]
        obtain ⟨I2, hI2⟩ : ∃ I, I = scanUp (fun x => Op.bytesLess x d2[a]!) d2 q p := ⟨_, rfl⟩
        obtain ⟨J2, hJ2⟩ : ∃ J, J = scanDown (fun x => !Op.bytesLess x d2[a]!) d2 I2 q := ⟨_, rfl⟩
        rw [← hI2] at r2
        try simp only at r2
        rw [← hJ2] at r2
        have hIl2 := sUp_le (fun x => Op.bytesLess x d2[a]!) d2 q _ p (Nat.le_refl _)
        rw [← hI2] at hIl2
        have hJl2 := sDown_le (fun x => !Op.bytesLess x d2[a]!) d2 I2 q
        rw [← hJ2] at hJl2
        have hI2e : I2 ≤ q + 1 ∨ (I2 = p ∧ q + 1 < p) := by
          by_cases h : p ≤ q + 1
          · exact .inl (hIl2.2 h)
          · refine .inr ⟨?_, by omega⟩
            rw [hI2, scanUp, if_neg (by simp; omega)]
        have hJ2e : I2 ≤ q + 1 ∨ J2 = q := by
          rcases hI2e with h | ⟨h, h'⟩
          · exact .inl h
          · right
            rw [hJ2]
            cases q with
            | zero => rfl
            | succ q => rw [scanDown, if_neg (by simp; omega)]
        refine LoopL.ind (fun m l H' => H2 = H' ∧ ∃ p' : Nat, l = [slc b 0 n c, vi a, vi p', vi q] ∧ I2 = scanUp (fun x => Op.bytesLess x d2[a]!) d2 q p' ∧ p ≤ p' ∧ p' ≤ e ∧ m = q + 1 - p') ?_ (q + 1 - p) ⟨rfl, p, rfl, hI2, Nat.le_refl _, by omega, rfl⟩
        rintro m _ _ X4 hX4 ⟨rfl, p', rfl, r4, hp3, hp4, rfl⟩
        rw [scanUp] at r4
        have exit4 : I2 = p' → LoopL (fun l H X1 => F.f41_l5 E Q X3 (nth l 0) (nth l 1) (nth l 2) (nth l 3) H X1) [slc b 0 n c, vi a, vi p', vi q] H2 := by
          rintro rfl
          clear hX4 r4
          refine LoopL.ind (fun m l H' => H2 = H' ∧ ∃ q' : Nat, l = [slc b 0 n c, vi a, vi I2, vi q'] ∧ J2 = scanDown (fun x => !Op.bytesLess x d2[a]!) d2 I2 q' ∧ q' ≤ q ∧ m = q') ?_ q ⟨rfl, q, rfl, hJ2, Nat.le_refl _, rfl⟩
          rintro m _ _ X5 hX5 ⟨rfl, q', rfl, r5, hq3, rfl⟩
          have exit5 : J2 = m → F.f41_l5 E Q X3 (slc b 0 n c) (vi a) (vi I2) (vi m) H2 X5 := by
            rintro rfl
            clear hX5
            have f2 := arr_ix (b := b) (c := c) (n := n) (i := J2) (by omega)
            have g1 := arr_load s2.get (i := a) (by omega)
            have g2 := arr_load s2.get (i := J2) (by omega)
            by_cases hij : I2 ≤ J2
            · have hij' : (I2 : Int) ≤ J2 := by omega
              have hij'' : ¬ (J2 : Int) < I2 := by omega
              have hnl : Op.bytesLess d2[J2]! d2[a]! = true := by
                cases J2 with
                | zero => omega
                | succ q' =>
                  rw [scanDown] at r5
                  split at r5
                  · have := sDown_le (fun x => !Op.bytesLess x d2[a]!) d2 I2 q'
                    omega
                  · rename_i hc
                    simp at hc
                    exact hc (by omega)
              have f3 := arr_ix (b := b) (c := c) (n := n) (i := I2) (by omega)
              have g3 := arr_load s2.get (i := I2) (by omega)
              obtain ⟨w3, w4⟩ := arr_swap enc_string_plain s2.get (i := I2) (j := J2) (by omega) (by omega)
              have b3 := i64_succ I2 (by omega)
              have b4 := i64_dec J2 (by omega) (by omega)
              simp [-store1_ptr, -load1_ptr, F.f41_l5, hij', f1, f2, g1, g2]
              refine S.f0 hE _ _ ?_
              simp [-store1_ptr, -load1_ptr, hnl, hij'', f1, f2, f3, g1, g2, g3, w3, w4, b3, b4]
              rw [if_neg (by omega), dif_pos (by omega)] at r2
              exact hX3 (J2 - 1 + 1 - (I2 + 1)) (by omega) _ _ ⟨I2 + 1, J2 - 1, _, rfl, s2.put _, by rw [size_swp]; exact n2, r2, by omega, by omega, by omega, by omega, by omega, rfl⟩
            · have hij' : ¬ (I2 : Int) ≤ J2 := by omega
              have hij'' : (J2 : Int) < I2 := by omega
              rw [if_pos (by omega)] at r2
              subst r2
              obtain ⟨w1, w2⟩ := arr_swap enc_string_plain s2.get (i := J2) (j := a) (by omega) (by omega)
              simp [-store1_ptr, -load1_ptr, F.f41_l5, hij', hij'', f1, f2, g1, g2, w1, w2]
              exact hQ _ (s2.put _)
          cases m with
          | zero => exact exit5 r5
          | succ q' =>
            by_cases hc : I2 ≤ q' + 1 ∧ Op.bytesLess d2[q' + 1]! d2[a]! = false
            · rw [scanDown, if_pos (by simp [hc.1, hc.2])] at r5
              have hc' : (I2 : Int) ≤ ((q' + 1 : Nat) : Int) := by omega
              have f2 := arr_ix (b := b) (c := c) (n := n) (i := q' + 1) (by omega)
              have g1 := arr_load s2.get (i := a) (by omega)
              have g2 := arr_load s2.get (i := q' + 1) (by omega)
              have b4 : binInt .sub (vi ((q' + 1 : Nat) : Int)) (.int .i64 1) = some (vi (q' : Int)) := i64_dec (q' + 1) (by omega) (by omega)
              have hlt := hc.2
              generalize hqq : q' + 1 = qq at *
              simp [-store1_ptr, -load1_ptr, F.f41_l5, hc', f1, f2, g1, g2]
              refine S.f0 hE _ _ ?_
              simp [-store1_ptr, -load1_ptr, hlt, b4]
              exact hX5 q' (by omega) _ _ ⟨rfl, q', rfl, r5, by omega, rfl⟩
            · rw [scanDown, if_neg (by simpa using hc)] at r5
              exact exit5 r5
        by_cases hc : p' ≤ q ∧ Op.bytesLess d2[p']! d2[a]! = true
        · rw [if_pos (by simp [hc.1, hc.2])] at r4
          have hc' : (p' : Int) ≤ q := by omega
          have f2 := arr_ix (b := b) (c := c) (n := n) (i := p') (by omega)
          have g1 := arr_load s2.get (i := a) (by omega)
          have g2 := arr_load s2.get (i := p') (by omega)
          have b3 := i64_succ p' (by omega)
          simp [-store1_ptr, -load1_ptr, F.f41_l4, hc', f1, f2, g1, g2]
          refine S.f0 hE _ _ ?_
          simp [-store1_ptr, -load1_ptr, hc.2, b3]
          exact hX4 (q + 1 - (p' + 1)) (by omega) _ _ ⟨rfl, p' + 1, rfl, r4, by omega, by omega, rfl⟩
        · rw [if_neg (by simpa using hc)] at r4
          by_cases hpq : p' ≤ q
          · have hc' : (p' : Int) ≤ q := by omega
            have hlt : Op.bytesLess d2[p']! d2[a]! = false := by simpa using fun h => hc ⟨hpq, h⟩
            have f2 := arr_ix (b := b) (c := c) (n := n) (i := p') (by omega)
            have g1 := arr_load s2.get (i := a) (by omega)
            have g2 := arr_load s2.get (i := p') (by omega)
            simp [-store1_ptr, -load1_ptr, F.f41_l4, hc', f1, f2, g1, g2]
            refine S.f0 hE _ _ ?_
            simp [-store1_ptr, -load1_ptr, hlt]
            exact exit4 r4
          · have hc' : ¬ (p' : Int) ≤ q := by omega
            simp [-store1_ptr, -load1_ptr, F.f41_l4, hc']
            exact exit4 r4
      · have hij' : ¬ (I : Int) ≤ J := by omega
        have hij'' : (J : Int) < I := by omega
        simp [-store1_ptr, -load1_ptr, F.f41_l2, hij', hij'', f1, f2, g1, g2, w1, w2]
        rw [if_pos (by omega)] at hQ
        exact hQ _ (s0.put _)
    cases m with
    | zero => exact exit2 r1
    | succ q =>
      by_cases hc : I ≤ q + 1 ∧ Op.bytesLess d0[q + 1]! d0[a]! = false
      · rw [scanDown, if_pos (by simp [hc.1, hc.2])] at r1
        have hc' : (I : Int) ≤ ((q + 1 : Nat) : Int) := by omega
        have f2 := arr_ix (b := b) (c := c) (n := n) (i := q + 1) (by omega)
        have g1 := arr_load s0.get (i := a) (by omega)
        have g2 := arr_load s0.get (i := q + 1) (by omega)
        have b4 : binInt .sub (vi ((q + 1 : Nat) : Int)) (.int .i64 1) = some (vi (q : Int)) := i64_dec (q + 1) (by omega) (by omega)
        have hlt := hc.2
        generalize hqq : q + 1 = qq at *
        simp [-store1_ptr, -load1_ptr, F.f41_l2, hc', f1, f2, g1, g2]
        refine S.f0 hE _ _ ?_
        simp [-store1_ptr, -load1_ptr, hlt, b4]
        exact hX q (by omega) _ _ ⟨rfl, q, rfl, r1, by omega, by omega, rfl⟩
      · rw [scanDown, if_neg (by simpa using hc)] at r1
        exact exit2 r1
  by_cases hc : p ≤ e - 1 ∧ Op.bytesLess d0[p]! d0[a]! = true
  · rw [if_pos (by simp [hc.1, hc.2])] at r1
    have hc' : (p : Int) ≤ ((e - 1 : Nat) : Int) := by omega
    have f2 := arr_ix (b := b) (c := c) (n := n) (i := p) (by omega)
    have g1 := arr_load s0.get (i := a) (by omega)
    have g2 := arr_load s0.get (i := p) (by omega)
    have b3 := i64_succ p (by omega)
    generalize he1 : e - 1 = e1 at *
    simp [-store1_ptr, -load1_ptr, F.f41_l1, hc', f1, f2, g1, g2]
    refine S.f0 hE _ _ ?_
    simp [-store1_ptr, -load1_ptr, hc.2, b3]
    exact hX (e - (p + 1)) (by omega) _ _ ⟨rfl, p + 1, rfl, r1, by omega, by omega, rfl⟩
  · rw [if_neg (by simpa using hc)] at r1
    have exit1 := exit1 r1
    by_cases hpq : p ≤ e - 1
    · have hc' : (p : Int) ≤ ((e - 1 : Nat) : Int) := by omega
      have hlt : Op.bytesLess d0[p]! d0[a]! = false := by simpa using fun h => hc ⟨hpq, h⟩
      have f2 := arr_ix (b := b) (c := c) (n := n) (i := p) (by omega)
      have g1 := arr_load s0.get (i := a) (by omega)
      have g2 := arr_load s0.get (i := p) (by omega)
      generalize he1 : e - 1 = e1 at *
      simp [-store1_ptr, -load1_ptr, F.f41_l1, hc', f1, f2, g1, g2]
      refine S.f0 hE _ _ ?_
      simp [-store1_ptr, -load1_ptr, hlt]
      exact exit1
    · have hc' : ¬ (p : Int) ≤ ((e - 1 : Nat) : Int) := by omega
      generalize he1 : e - 1 = e1 at *
      simp [-store1_ptr, -load1_ptr, F.f41_l1, hc']
      exact exit1
theorem S.f40 (hE : Fold E) (hg : H.get b = arrO str d tail f) (hn : d.size = n) (hsz : n < 2 ^ 60) (a e pivot : Nat) (h1 : a ≤ pivot) (h2 : pivot < e) (he : e ≤ n)
    (hQ : ∀ H', SortTo H b str tail f (partitionEqual Op.bytesLess d a e pivot).2 H' → Q (vi (partitionEqual Op.bytesLess d a e pivot).1) H') : E.call (E.fid i.f40) [slc b 0 n c, vi a, vi e, vi pivot] H Q := by
  apply hE.f40
  have f1 := arr_ix (b := b) (c := c) (n := n) (i := a) (by omega)
  have f2 := arr_ix (b := b) (c := c) (n := n) (i := pivot) (by omega)
  have g1 := arr_load hg (i := a) (by omega)
  have g2 := arr_load hg (i := pivot) (by omega)
  obtain ⟨w1, w2⟩ := arr_swap enc_string_plain hg (i := a) (j := pivot) (by omega) (by omega)
  have b1 := i64_succ a (by omega)
  have b2 := i64_dec e (by omega) (by omega)
  simp only [F.f40, f1, f2, g1, g2, w1, w2, b1, b2, tk_eq, opt_some]
  have s0 := (SortTo.refl hg).put (swp d a pivot)
  have n0 : (swp d a pivot).size = n := by rw [size_swp]; exact hn
  unfold partitionEqual at hQ
  generalize hd0 : swp d a pivot = d0 at *
  generalize hH0 : H.put b (arrO str d0 tail f) = H0 at *
  clear w1 w2 f2 g1 g2
  obtain ⟨R, hR⟩ : ∃ R, R = partEqLoop Op.bytesLess a (a + 1) (e - 1) d0 := ⟨_, rfl⟩
  rw [← hR] at hQ
  refine LoopL.ind (fun m l H' => ∃ (p q : Nat) (d2 : Array (List UInt8)), l = [slc b 0 n c, vi a, vi p, vi q] ∧ SortTo H b str tail f d2 H' ∧ d2.size = n ∧ R = partEqLoop Op.bytesLess a p q d2 ∧ a + 1 ≤ p ∧ p ≤ q + 1 + 1 ∧ p ≤ e ∧ q ≤ e - 1 ∧ a ≤ q ∧ m = q + 1 - p) ?_ (e - 1 + 1 - (a + 1)) ⟨a + 1, e - 1, d0, rfl, s0, n0, hR, by omega, by omega, by omega, by omega, by omega, rfl⟩
  clear hR s0 n0 hd0
  rintro m _ H2 X3 hX3 ⟨p, q, d2, rfl, s2, n2, r2, hp1, hp2, hpe, hq1, hqa, rfl⟩
  rw [partEqLoop] at r2
  simp only [F.f40_l1, nth_0, nth_1, nth_2, nth_3]
  obtain ⟨I2, hI2⟩ : ∃ I, I = scanUp (fun x => !Op.bytesLess d2[a]! x) d2 q p := ⟨_, rfl⟩
  obtain ⟨J2, hJ2⟩ : ∃ J, J = scanDown (fun x => Op.bytesLess d2[a]! x) d2 I2 q := ⟨_, rfl⟩
  rw [← hI2] at r2
  try simp only at r2
  rw [← hJ2] at r2
  have hIl2 := sUp_le (fun x => !Op.bytesLess d2[a]! x) d2 q _ p (Nat.le_refl _)
  rw [← hI2] at hIl2
  have hJl2 := sDown_le (fun x => Op.bytesLess d2[a]! x) d2 I2 q
  rw [← hJ2] at hJl2
  have hI2e : I2 ≤ q + 1 ∨ (I2 = p ∧ q + 1 < p) := by
    by_cases h : p ≤ q + 1
    · exact .inl (hIl2.2 h)
    · refine .inr ⟨?_, by omega⟩
      rw [hI2, scanUp, if_neg (by simp; omega)]
  have hJ2e : I2 ≤ q + 1 ∨ J2 = q := by
    rcases hI2e with h | ⟨h, h'⟩
    · exact .inl h
    · right
      rw [hJ2]
      cases q with
      | zero => rfl
      | succ q => rw [scanDown, if_neg (by simp; omega)]
  refine LoopL.ind (fun m l H' => H2 = H' ∧ ∃ p' : Nat, l = [slc b 0 n c, vi a, vi p', vi q] ∧ I2 = scanUp (fun x => !Op.bytesLess d2[a]! x) d2 q p' ∧ p ≤ p' ∧ p' ≤ e ∧ m = q + 1 - p') ?_ (q + 1 - p) ⟨rfl, p, rfl, hI2, Nat.le_refl _, by omega, rfl⟩
  rintro m _ _ X4 hX4 ⟨rfl, p', rfl, r4, hp3, hp4, rfl⟩
  rw [scanUp] at r4
  have exit4 : I2 = p' → LoopL (fun l H X1 => F.f40_l3 E Q X3 (nth l 0) (nth l 1) (nth l 2) (nth l 3) H X1) [slc b 0 n c, vi a, vi p', vi q] H2 := by
    rintro rfl
    clear hX4 r4
    refine LoopL.ind (fun m l H' => H2 = H' ∧ ∃ q' : Nat, l = [slc b 0 n c, vi a, vi I2, vi q'] ∧ J2 = scanDown (fun x => Op.bytesLess d2[a]! x) d2 I2 q' ∧ q' ≤ q ∧ m = q') ?_ q ⟨rfl, q, rfl, hJ2, Nat.le_refl _, rfl⟩
    rintro m _ _ X5 hX5 ⟨rfl, q', rfl, r5, hq3, rfl⟩
    have exit5 : J2 = m → F.f40_l3 E Q X3 (slc b 0 n c) (vi a) (vi I2) (vi m) H2 X5 := by
      rintro rfl
      clear hX5
      have f2 := arr_ix (b := b) (c := c) (n := n) (i := J2) (by omega)
      have g1 := arr_load s2.get (i := a) (by omega)
      have g2 := arr_load s2.get (i := J2) (by omega)
      by_cases hij : I2 ≤ J2
      · have hij' : (I2 : Int) ≤ J2 := by omega
        have hij'' : ¬ (J2 : Int) < I2 := by omega
        have hnl : Op.bytesLess d2[a]! d2[J2]! = false := by
          cases J2 with
          | zero => omega
          | succ q' =>
            rw [scanDown] at r5
            split at r5
            · have := sDown_le (fun x => Op.bytesLess d2[a]! x) d2 I2 q'
              omega
            · rename_i hc
              simp at hc
              exact hc (by omega)
        have f3 := arr_ix (b := b) (c := c) (n := n) (i := I2) (by omega)
        have g3 := arr_load s2.get (i := I2) (by omega)
        obtain ⟨w3, w4⟩ := arr_swap enc_string_plain s2.get (i := I2) (j := J2) (by omega) (by omega)
        have b3 := i64_succ I2 (by omega)
        have b4 := i64_dec J2 (by omega) (by omega)
        simp [-store1_ptr, -load1_ptr, F.f40_l3, hij', f1, f2, g1, g2]
        refine S.f0 hE _ _ ?_
        simp [-store1_ptr, -load1_ptr, hnl, hij'', f1, f2, f3, g1, g2, g3, w3, w4, b3, b4]
        rw [if_neg (by omega), dif_pos (by omega)] at r2
        exact hX3 (J2 - 1 + 1 - (I2 + 1)) (by omega) _ _ ⟨I2 + 1, J2 - 1, _, rfl, s2.put _, by rw [size_swp]; exact n2, r2, by omega, by omega, by omega, by omega, by omega, rfl⟩
      · have hij' : ¬ (I2 : Int) ≤ J2 := by omega
        have hij'' : (J2 : Int) < I2 := by omega
        rw [if_pos (by omega)] at r2
        subst r2
        simp [-store1_ptr, -load1_ptr, F.f40_l3, hij', hij'']
        exact hQ _ s2
    cases m with
    | zero => exact exit5 r5
    | succ q' =>
      by_cases hc : I2 ≤ q' + 1 ∧ Op.bytesLess d2[a]! d2[q' + 1]! = true
      · rw [scanDown, if_pos (by simp [hc.1, hc.2])] at r5
        have hc' : (I2 : Int) ≤ ((q' + 1 : Nat) : Int) := by omega
        have f2 := arr_ix (b := b) (c := c) (n := n) (i := q' + 1) (by omega)
        have g1 := arr_load s2.get (i := a) (by omega)
        have g2 := arr_load s2.get (i := q' + 1) (by omega)
        have b4 : binInt .sub (vi ((q' + 1 : Nat) : Int)) (.int .i64 1) = some (vi (q' : Int)) := i64_dec (q' + 1) (by omega) (by omega)
        have hlt := hc.2
        generalize hqq : q' + 1 = qq at *
        simp [-store1_ptr, -load1_ptr, F.f40_l3, hc', f1, f2, g1, g2]
        refine S.f0 hE _ _ ?_
        simp [-store1_ptr, -load1_ptr, hlt, b4]
        exact hX5 q' (by omega) _ _ ⟨rfl, q', rfl, r5, by omega, rfl⟩
      · rw [scanDown, if_neg (by simpa using hc)] at r5
        exact exit5 r5
  by_cases hc : p' ≤ q ∧ Op.bytesLess d2[a]! d2[p']! = false
  · rw [if_pos (by simp [hc.1, hc.2])] at r4
    have hc' : (p' : Int) ≤ q := by omega
    have f2 := arr_ix (b := b) (c := c) (n := n) (i := p') (by omega)
    have g1 := arr_load s2.get (i := a) (by omega)
    have g2 := arr_load s2.get (i := p') (by omega)
    have b3 := i64_succ p' (by omega)
    simp [-store1_ptr, -load1_ptr, F.f40_l2, hc', f1, f2, g1, g2]
    refine S.f0 hE _ _ ?_
    simp [-store1_ptr, -load1_ptr, hc.2, b3]
    exact hX4 (q + 1 - (p' + 1)) (by omega) _ _ ⟨rfl, p' + 1, rfl, r4, by omega, by omega, rfl⟩
  · rw [if_neg (by simpa using hc)] at r4
    by_cases hpq : p' ≤ q
    · have hc' : (p' : Int) ≤ q := by omega
      have hlt : Op.bytesLess d2[a]! d2[p']! = true := by simpa using fun h => hc ⟨hpq, h⟩
      have f2 := arr_ix (b := b) (c := c) (n := n) (i := p') (by omega)
      have g1 := arr_load s2.get (i := a) (by omega)
      have g2 := arr_load s2.get (i := p') (by omega)
      simp [-store1_ptr, -load1_ptr, F.f40_l2, hc', f1, f2, g1, g2]
      refine S.f0 hE _ _ ?_
      simp [-store1_ptr, -load1_ptr, hlt]
      exact exit4 r4
    · have hc' : ¬ (p' : Int) ≤ q := by omega
      simp [-store1_ptr, -load1_ptr, F.f40_l2, hc']
      exact exit4 r4
theorem S.f39 (hE : Fold E) (hg : H.get b = arrO str d tail f) (hn : d.size = n) (hsz : n < 2 ^ 60) (a e : Nat) (hae : a < e) (he : e ≤ n)
    (hQ : ∀ H', SortTo H b str tail f (partialInsertionSort Op.bytesLess d a e).1 H' → Q (vb (partialInsertionSort Op.bytesLess d a e).2) H') : E.call (E.fid i.f39) [slc b 0 n c, vi a, vi e] H Q := by
  apply hE.f39
  have b1 := i64_succ a (by omega)
  simp only [F.f39, b1, tk_eq, opt_some]
  unfold partialInsertionSort at hQ
  obtain ⟨R, hR⟩ : ∃ R, R = partialIns Op.bytesLess a e 5 (a + 1) d := ⟨_, rfl⟩
  rw [← hR] at hQ
  refine LoopL.ind (fun m l H' => ∃ (i : Nat) (d1 : Array (List UInt8)), l = [slc b 0 n c, vi a, vi e, vi i, vi ((5 - m : Nat) : Int)] ∧ SortTo H b str tail f d1 H' ∧ d1.size = n ∧ R = partialIns Op.bytesLess a e m i d1 ∧ a + 1 ≤ i ∧ i ≤ e ∧ m ≤ 5) ?_ 5 ⟨a + 1, d, rfl, .refl hg, hn, hR, Nat.le_refl _, by omega, Nat.le_refl _⟩
  rintro m _ H1 X hX ⟨i0, d1, rfl, s1, n1, r1, hi1, hi2, hm⟩
  cases m with
  | zero =>
    simp [F.f39_l1]
    rw [partialIns] at r1
    subst r1
    exact hQ _ s1
  | succ m =>
    have hms : ((5 - (m + 1) : Nat) : Int) < 5 := by omega
    have hmi : binInt .add (vi ((5 - (m + 1) : Nat) : Int)) (.int .i64 1) = some (vi ((5 - m : Nat) : Int)) := by
      rw [i64_succ _ (by omega)]; congr 3; omega
    have hX : ∀ (i : Nat) (d2 : Array (List UInt8)) H2, SortTo H b str tail f d2 H2 → d2.size = n → R = partialIns Op.bytesLess a e m i d2 → a + 1 ≤ i → i ≤ e → X [slc b 0 n c, vi a, vi e, vi i, vi ((5 - m : Nat) : Int)] H2 := fun i d2 H2 q1 q2 q3 q4 q5 => hX m (by omega) _ _ ⟨i, d2, rfl, q1, q2, q3, q4, q5, by omega⟩
    generalize hk : 5 - (m + 1) = k at *
    generalize hk' : 5 - m = k' at *
    simp [F.f39_l1, hms]
    rw [partialIns_succ] at r1
    obtain ⟨I, hI⟩ : ∃ I, I = scanSorted Op.bytesLess d1 e i0 := ⟨_, rfl⟩
    rw [← hI] at r1
    refine LoopL.ind (fun m l H' => H1 = H' ∧ ∃ i' : Nat, l = [slc b 0 n c, vi a, vi e, vi i', vi k] ∧ I = scanSorted Op.bytesLess d1 e i' ∧ a + 1 ≤ i' ∧ i' ≤ e ∧ m = e - i') ?_ (e - i0) ⟨rfl, i0, rfl, hI, hi1, hi2, rfl⟩
    rintro mm _ _ X1 hX1 ⟨rfl, i', rfl, r2, hi3, hi4, rfl⟩
    rw [scanSorted] at r2
    have b2 := i64_sub_nat e a (by omega) (by omega)
    have b2' : binInt .sub (vi e) (vi a) = some (vi ((e - a : Nat) : Int)) := b2
    have exit : I = i' →
        (opt (binInt .eql (vi i') (vi e)) fun v15 =>
         ifB v15 (Q (.bool true) H1) (
         opt (binInt .sub (vi e) (vi a)) fun v16 =>
         opt (binInt .lss v16 (.int .i64 50)) fun v17 =>
         ifB v17 (Q (.bool false) H1) (
         opt (binInt .sub (vi i') (.int .i64 1)) fun v18 =>
         opt (binInt .sub (vi i') (.int .i64 1)) fun v19 =>
         opt (ixSlc 1 (slc b 0 n c) v19) fun v20 =>
         opt (load1 v20 H1) fun v21 =>
         opt (ixSlc 1 (slc b 0 n c) (vi i')) fun v22 =>
         opt (load1 v22 H1) fun v23 =>
         opt (ixSlc 1 (slc b 0 n c) (vi i')) fun v24 =>
         opt (store1 v24 v21 H1) fun H12 =>
         opt (ixSlc 1 (slc b 0 n c) v18) fun v25 =>
         opt (store1 v25 v23 H12) fun H13 =>
         opt (binInt .sub (vi i') (vi a)) fun v26 =>
         opt (binInt .geq v26 (.int .i64 2)) fun v27 =>
         ifB v27 (
         opt (binInt .sub (vi i') (.int .i64 1)) fun v28 =>
         LoopL (fun l H X1 => F.f39_l4 E Q X (nth l 0) (nth l 1) (nth l 2) (nth l 3) (nth l 4) (nth l 5) H X1) [slc b 0 n c, vi a, vi e, vi i', vi k, v28] H13) (
         F.f39_j1 E Q X (slc b 0 n c) (vi a) (vi e) (vi i') (vi k) H13)))) := by
      rintro rfl
      clear hX1
      by_cases c1 : I = e
      · rw [if_pos c1] at r1
        subst r1
        simp [c1]
        exact hQ _ s1
      rw [if_neg c1] at r1
      have c1' : ¬ (I : Int) = e := by omega
      by_cases c2 : e - a < 50
      · rw [if_pos c2] at r1
        subst r1
        have c2' : ((e - a : Nat) : Int) < 50 := by omega
        generalize e - a = w at *
        simp [c1', b2', c2']
        exact hQ _ s1
      rw [if_neg c2] at r1
      have c2' : ¬ ((e - a : Nat) : Int) < 50 := by omega
      have b3 := i64_dec I (by omega) (by omega)
      have b4 := i64_sub_nat I a (by omega) (by omega)
      have b4' : binInt .sub (vi I) (vi a) = some (vi ((I - a : Nat) : Int)) := b4
      have f1 := arr_ix (b := b) (c := c) (n := n) (i := I) (by omega)
      have f2 := arr_ix (b := b) (c := c) (n := n) (i := I - 1) (by omega)
      have g1 := arr_load s1.get (i := I) (by omega)
      have g2 := arr_load s1.get (i := I - 1) (by omega)
      obtain ⟨w1, w2⟩ := arr_swap enc_string_plain s1.get (i := I) (j := I - 1) (by omega) (by omega)
      have s2 := s1.put (swp d1 I (I - 1))
      have n2 : (swp d1 I (I - 1)).size = n := by rw [size_swp]; exact n1
      have hkk : binInt .add (vi k) (.int .i64 1) = some (vi k') := hmi
      have j1 : ∀ (d3 : Array (List UInt8)) H3, SortTo H b str tail f d3 H3 → d3.size = n → R = partialIns Op.bytesLess a e m I (fixUp Op.bytesLess e I d3) → F.f39_j1 E Q X (slc b 0 n c) (vi a) (vi e) (vi I) (vi k) H3 := by
        intro d3 H3 s3 n3 r3
        unfold fixUp at r3
        have b5 := i64_sub_nat e I (by omega) (by omega)
        have b5' : binInt .sub (vi e) (vi I) = some (vi ((e - I : Nat) : Int)) := b5
        by_cases c3 : e - I ≥ 2
        · rw [if_pos c3] at r3
          have c3' : (2 : Int) ≤ ((e - I : Nat) : Int) := by omega
          have b6 := i64_succ I (by omega)
          generalize hw : e - I = w at *
          simp [F.f39_j1, b5', c3', b6]
          obtain ⟨D, hD⟩ : ∃ D, D = shiftUp Op.bytesLess e (I + 1) d3 := ⟨_, rfl⟩
          rw [← hD] at r3
          refine LoopL.ind (fun mm l H' => ∃ (q : Nat) (d4 : Array (List UInt8)), l = [slc b 0 n c, vi a, vi e, vi I, vi k, vi q] ∧ SortTo H b str tail f d4 H' ∧ d4.size = n ∧ D = shiftUp Op.bytesLess e q d4 ∧ 1 ≤ q ∧ q ≤ e ∧ mm = e - q) ?_ (e - (I + 1)) ⟨I + 1, d3, by simp, s3, n3, hD, by omega, by omega, rfl⟩
          rintro mm _ H4 X5 hX5 ⟨q, d4, rfl, s4, n4, r4, hq1, hq2, rfl⟩
          rw [shiftUp] at r4
          have done : D = d4 → X [slc b 0 n c, vi a, vi e, vi I, vi k'] H4 := by
            rintro rfl
            exact hX I D H4 s4 n4 r3 hi3 (by omega)
          by_cases c4 : q < e
          · have c4' : (q : Int) < e := by omega
            rw [if_pos c4] at r4
            have b7 := i64_dec q (by omega) (by omega)
            have b8 := i64_succ q (by omega)
            have f1 := arr_ix (b := b) (c := c) (n := n) (i := q) (by omega)
            have f2 := arr_ix (b := b) (c := c) (n := n) (i := q - 1) (by omega)
            have g1 := arr_load s4.get (i := q) (by omega)
            have g2 := arr_load s4.get (i := q - 1) (by omega)
            obtain ⟨w1, w2⟩ := arr_swap enc_string_plain s4.get (i := q) (j := q - 1) (by omega) (by omega)
            have hY := fun (d5 : Array (List UInt8)) H5 q1 q2 q3 => hX5 (e - (q + 1)) (by omega) [slc b 0 n c, vi a, vi e, vi I, vi k, vi ((q + 1 : Nat) : Int)] H5 ⟨q + 1, d5, rfl, q1, q2, q3, by omega, by omega, rfl⟩
            generalize hq' : q - 1 = q' at *
            generalize hq'' : q + 1 = q'' at *
            simp [-store1_ptr, -load1_ptr, F.f39_l3, c4', b7, f1, f2, g1, g2]
            refine S.f0 hE _ _ ?_
            by_cases hl : Op.bytesLess d4[q]! d4[q']! = true
            · simp only [hl, Bool.not_true, Bool.false_eq_true, if_false] at r4
              simp [-store1_ptr, -load1_ptr, hl, b7, b8, f1, f2, g1, g2, w1, w2]
              exact hY _ _ (s4.put _) (by rw [size_swp]; exact n4) r4
            · have hl : Op.bytesLess d4[q]! d4[q']! = false := by simpa using hl
              simp only [hl, Bool.not_false, if_true] at r4
              simp [hl, hkk]
              exact done r4
          · have c4' : ¬ (q : Int) < e := by omega
            rw [if_neg c4] at r4
            simp [F.f39_l3, c4', hkk]
            exact done r4
        · rw [if_neg c3] at r3
          have c3' : ¬ (2 : Int) ≤ ((e - I : Nat) : Int) := by omega
          generalize hw : e - I = w at *
          simp [F.f39_j1, b5', c3', hkk]
          exact hX I d3 H3 s3 n3 r3 hi3 hi4
      unfold fixDown at r1
      by_cases c3 : I - a ≥ 2
      · rw [if_pos c3] at r1
        have c3' : (2 : Int) ≤ ((I - a : Nat) : Int) := by omega
        obtain ⟨D, hD⟩ : ∃ D, D = shiftDown Op.bytesLess (I - 1) (swp d1 I (I - 1)) := ⟨_, rfl⟩
        rw [← hD] at r1
        have goal4 : LoopL (fun l H X1 => F.f39_l4 E Q X (nth l 0) (nth l 1) (nth l 2) (nth l 3) (nth l 4) (nth l 5) H X1) [slc b 0 n c, vi a, vi e, vi I, vi k, vi ((I - 1 : Nat) : Int)] (H1.put b (arrO str (swp d1 I (I - 1)) tail f)) := by
          refine LoopL.ind (fun mm l H' => ∃ (q : Nat) (d4 : Array (List UInt8)), l = [slc b 0 n c, vi a, vi e, vi I, vi k, vi q] ∧ SortTo H b str tail f d4 H' ∧ d4.size = n ∧ D = shiftDown Op.bytesLess q d4 ∧ q < n ∧ mm = q) ?_ (I - 1) ⟨I - 1, _, rfl, s2, n2, hD, by omega, rfl⟩
          rintro mm _ H4 X5 hX5 ⟨q, d4, rfl, s4, n4, r4, hq1, rfl⟩
          cases mm with
          | zero =>
            simp [F.f39_l4]
            rw [shiftDown] at r4
            subst r4
            exact j1 _ _ s4 n4 r1
          | succ q =>
            have c4' : (1 : Int) ≤ ((q + 1 : Nat) : Int) := by omega
            rw [shiftDown] at r4
            have b7 : binInt .sub (vi ((q + 1 : Nat) : Int)) (.int .i64 1) = some (vi (q : Int)) := i64_dec (q + 1) (by omega) (by omega)
            have f1 := arr_ix (b := b) (c := c) (n := n) (i := q + 1) (by omega)
            have f2 := arr_ix (b := b) (c := c) (n := n) (i := q) (by omega)
            have g1 := arr_load s4.get (i := q + 1) (by omega)
            have g2 := arr_load s4.get (i := q) (by omega)
            obtain ⟨w1, w2⟩ := arr_swap enc_string_plain s4.get (i := q + 1) (j := q) (by omega) (by omega)
            have hY := fun (d5 : Array (List UInt8)) H5 q1 q2 q3 => hX5 q (by omega) [slc b 0 n c, vi a, vi e, vi I, vi k, vi (q : Int)] H5 ⟨q, d5, rfl, q1, q2, q3, by omega, rfl⟩
            generalize hq' : q + 1 = q' at *
            simp [-store1_ptr, -load1_ptr, F.f39_l4, c4', b7, f1, f2, g1, g2]
            refine S.f0 hE _ _ ?_
            by_cases hl : Op.bytesLess d4[q']! d4[q]! = true
            · simp only [hl, Bool.not_true, Bool.false_eq_true, if_false] at r4
              simp [-store1_ptr, -load1_ptr, hl, b7, f1, f2, g1, g2, w1, w2]
              exact hY _ _ (s4.put _) (by rw [size_swp]; exact n4) r4
            · have hl : Op.bytesLess d4[q']! d4[q]! = false := by simpa using hl
              simp only [hl, Bool.not_false, if_true] at r4
              simp [hl]
              subst r4
              exact j1 _ _ s4 n4 r1
        generalize hI' : I - 1 = I' at *
        generalize hw : e - a = w at *
        generalize hw2 : I - a = w2' at *
        simp [-store1_ptr, -load1_ptr, c1', b2', c2', b3, b4', f1, f2, g1, g2, w1, w2, c3']
        exact goal4
      · rw [if_neg c3] at r1
        have c3' : ¬ (2 : Int) ≤ ((I - a : Nat) : Int) := by omega
        have := j1 _ _ s2 n2 r1
        generalize hI' : I - 1 = I' at *
        generalize hw : e - a = w at *
        generalize hw2 : I - a = w2' at *
        simp [-store1_ptr, -load1_ptr, c1', b2', c2', b3, b4', f1, f2, g1, g2, w1, w2, c3']
        exact this
    have b7 := i64_succ i' (by omega)
    by_cases c4 : i' < e
    · have c4' : (i' : Int) < e := by omega
      have b6 := i64_dec i' (by omega) (by omega)
      have f1 := arr_ix (b := b) (c := c) (n := n) (i := i') (by omega)
      have f2 := arr_ix (b := b) (c := c) (n := n) (i := i' - 1) (by omega)
      have g1 := arr_load s1.get (i := i') (by omega)
      have g2 := arr_load s1.get (i := i' - 1) (by omega)
      by_cases hl : Op.bytesLess d1[i']! d1[i' - 1]! = true
      · rw [if_neg (by simp [hl])] at r2
        have := exit r2
        clear exit hX1
        generalize hI' : i' - 1 = I' at *
        simp [-store1_ptr, -load1_ptr, F.f39_l2, c4', b6, f1, f2, g1, g2]
        refine S.f0 hE _ _ ?_
        simp only [hl]
        simp only [un_not_z, Bool.not_true, tk_eq, opt_some, gd_tt, pick_true_z, ifB_false]
        exact this
      · have hl : Op.bytesLess d1[i']! d1[i' - 1]! = false := by simpa using hl
        rw [if_pos (by simp [hl, c4])] at r2
        clear exit
        have hX1 := hX1 (e - (i' + 1)) (by omega) [slc b 0 n c, vi a, vi e, vi ((i' + 1 : Nat) : Int), vi k] H1 ⟨rfl, i' + 1, rfl, r2, by omega, by omega, rfl⟩
        generalize hI' : i' - 1 = I' at *
        generalize hI'' : i' + 1 = I'' at *
        simp [-store1_ptr, -load1_ptr, F.f39_l2, c4', b6, f1, f2, g1, g2]
        refine S.f0 hE _ _ ?_
        simp [hl, b7]
        exact hX1
    · have c4' : ¬ (i' : Int) < e := by omega
      rw [if_neg (by simp [c4])] at r2
      have := exit r2
      clear exit hX1
      simp only [F.f39_l2, nth_0, nth_1, nth_2, nth_3, nth_4, i64_lss, c4', decide_false, tk_eq, opt_some, gd_ft, pick_false_z, ifB_false]
      exact this
theorem S.f38 (hE : Fold E) (hg : H.get b = arrO str d tail f) (hn : d.size = n) (p q : Nat) (hp : p < n) (hq : q < n) (s k : Nat) (hs : H.get s = .cells [vi k] none) (hk : k < 1000) (hsb : s ≠ b)
    (hQ : ∀ r1 r2 k' H', ((r1 = p ∧ r2 = q) ∨ (r1 = q ∧ r2 = p)) → Only [s] H H' → H'.get s = .cells [vi (k' : Nat)] none → k' ≤ k + 1 → Q (.tuple #[vi (r1 : Nat), vi (r2 : Nat)]) H') :
    E.call (E.fid i.f38) [slc b 0 n c, vi p, vi q, ptr s 0] H Q := by
  apply hE.f38
  have f1 := arr_ix (b := b) (c := c) (n := n) (i := p) hp
  have f2 := arr_ix (b := b) (c := c) (n := n) (i := q) hq
  have g1 := arr_load hg (i := p) (by omega)
  have g2 := arr_load hg (i := q) (by omega)
  have hlt := AH.lt_cells hs
  have b1 := i64_succ k (by omega)
  simp [-load1_ptr, F.f38, f1, f2, g1, g2]
  refine S.f0 hE _ _ ?_
  by_cases hl : Op.bytesLess d[q]! d[p]! = true
  · simp only [hl, ifB_true, nilCk_p, load1_ptr, hs, cell_cells_z, List.getElem?_cons_zero, tk_eq, opt_some, b1, store1_ptr, plain1_int, if_true, List.length_cons, List.length_nil, List.set_cons_zero]
    rw [if_pos (by omega), opt_some]
    exact hQ q p (k + 1) _ (.inr ⟨rfl, rfl⟩) ((Only.refl _ _).put (.inl (by simp)) _) (AH.get_put_self _ _ hlt) (Nat.le_refl _)
  · simp [hl]
    exact hQ p q k _ (.inl ⟨rfl, rfl⟩) (Only.refl _ _) hs (by omega)
theorem S.f36 (hE : Fold E) (hg : H.get b = arrO str d tail f) (hn : d.size = n) (p q r : Nat) (hp : p < n) (hq : q < n) (hr : r < n) (s k : Nat) (hs : H.get s = .cells [vi k] none) (hk : k < 900) (hsb : s ≠ b)
    (hQ : ∀ m k' H', (m = p ∨ m = q ∨ m = r) → Only [s] H H' → H'.get s = .cells [vi (k' : Nat)] none → k' ≤ k + 3 → Q (vi (m : Nat)) H') :
    E.call (E.fid i.f36) [slc b 0 n c, vi p, vi q, vi r, ptr s 0] H Q := by
  apply hE.f36
  have keep : ∀ {H'}, Only [s] H H' → H'.get b = arrO str d tail f := fun o => by rw [o.get (arr_lt hg) (by simpa using Ne.symm hsb)]; exact hg
  simp only [F.f36]
  refine S.f38 hE hg hn p q hp hq s k hs (by omega) hsb fun a1 a2 k1 H1 e1 o1 s1 l1 => ?_
  simp
  refine S.f38 hE (keep o1) hn a2 r (by omega) hr s k1 s1 (by omega) hsb fun a3 a4 k2 H2 e2 o2 s2 l2 => ?_
  have o12 := o1.trans' o2
  simp
  refine S.f38 hE (keep o12) hn a1 a3 (by omega) (by omega) s k2 s2 (by omega) hsb fun a5 a6 k3 H3 e3 o3 s3 l3 => ?_
  simp
  exact hQ a6 k3 H3 (by omega) (o12.trans' o3) s3 (by omega)
theorem S.f35 (hE : Fold E) (hg : H.get b = arrO str d tail f) (hn : d.size = n) (hsz : n < 2 ^ 60) (p : Nat) (hp0 : 1 ≤ p) (hp : p + 1 < n) (s k : Nat) (hs : H.get s = .cells [vi k] none) (hk : k < 900) (hsb : s ≠ b)
    (hQ : ∀ m k' H', (p - 1 ≤ m ∧ m ≤ p + 1) → Only [s] H H' → H'.get s = .cells [vi (k' : Nat)] none → k' ≤ k + 3 → Q (vi (m : Nat)) H') :
    E.call (E.fid i.f35) [slc b 0 n c, vi p, ptr s 0] H Q := by
  apply hE.f35
  have b1 := i64_dec p hp0 (by omega)
  have b2 := i64_succ p (by omega)
  simp only [F.f35, b1, b2, tk_eq, opt_some]
  refine S.f36 hE hg hn (p - 1) p (p + 1) (by omega) (by omega) hp s k hs hk hsb fun m k' H' e1 o1 s1 l1 => hQ m k' H' (by omega) o1 s1 l1
theorem S.f32 (hE : Fold E) (hg : H.get b = arrO str d tail f) (hn : d.size = n) (hsz : n < 2 ^ 60) (a e : Nat) (hae : a + 8 ≤ e) (he : e ≤ n)
    (hQ : ∀ (m : Nat) (h : Int) H', a ≤ m → m < e → Ext H H' → Q (.tuple #[vi m, vi h]) H') : E.call (E.fid i.f32) [slc b 0 n c, vi a, vi e] H Q := by
  apply hE.f32
  have a1 : binInt .sub (vi e) (vi a) = some (vi ((e - a : Nat) : Int)) := i64_sub_nat e a (by omega) (by omega)
  have hbl := arr_lt hg
  generalize hw : e - a = w at *
  have a2 : binInt .quo (vi (w : Int)) (.int .i64 4) = some (vi ((w / 4 : Nat) : Int)) := i64_quo_num w 4 (by decide) (by omega)
  have hq4 : w / 4 * 4 ≤ w := Nat.div_mul_le_self _ _
  have hq4' : 1 ≤ w / 4 := by omega
  have hq50 : 50 ≤ w → 12 ≤ w / 4 := fun h => by omega
  generalize hq : w / 4 = q at *
  have m1 : binInt .mul (vi (q : Int)) (.int .i64 1) = some (vi ((q * 1 : Nat) : Int)) := by rw [i64_mul (by omega) (by omega)]; congr 2
  have m2 : binInt .mul (vi (q : Int)) (.int .i64 2) = some (vi ((q * 2 : Nat) : Int)) := by rw [i64_mul (by omega) (by omega)]; congr 2
  have m3 : binInt .mul (vi (q : Int)) (.int .i64 3) = some (vi ((q * 3 : Nat) : Int)) := by rw [i64_mul (by omega) (by omega)]; congr 2
  have p1 := i64_add_nat a (q * 1) (by omega)
  have p2 := i64_add_nat a (q * 2) (by omega)
  have p3 := i64_add_nat a (q * 3) (by omega)
  have c8 : (8 : Int) ≤ w := by omega
  have hg1 : (H.new (.cells [vi 0] none)).get b = arrO str d tail f := by rw [AH.get_new_lt _ _ hbl]; exact hg
  have hs1 : (H.new (.cells [vi 0] none)).get H.next = .cells [vi ((0 : Nat) : Int)] none := AH.get_new_self _ _
  have hsb : H.next ≠ b := by omega
  have x1 : Ext H (H.new (.cells [vi 0] none)) := (Ext.refl H).new _
  have ext_of : ∀ {H'}, Only [H.next] (H.new (.cells [vi 0] none)) H' → Ext H H' := fun o => o.ext x1 (by simp)
  have keep : ∀ {H'}, Only [H.next] (H.new (.cells [vi 0] none)) H' → H'.get b = arrO str d tail f := fun o => by rw [o.get (arr_lt hg1) (by simpa using Ne.symm hsb)]; exact hg1
  have last : ∀ (m k : Nat) H', a ≤ m → m < e → Ext H H' → H'.get H.next = .cells [vi (k : Nat)] none → F.f32_j1 E Q (ptr H.next 0) (vi m) H' := by
    intro m k H' h1 h2 e1 s1
    by_cases k0 : (k : Int) = 0
    · simp [F.f32_j1, s1, k0]
      exact hQ m _ H' h1 h2 e1
    · by_cases k12 : (k : Int) = 12
      · simp [F.f32_j1, s1, k12]
        exact hQ m _ H' h1 h2 e1
      · have k0' : ¬ k = 0 := by omega
        simp [F.f32_j1, s1, k0', k12]
        exact hQ m _ H' h1 h2 e1
  have last2 : ∀ (x y z k : Nat) H', a ≤ x → x < e → a ≤ y → y < e → a ≤ z → z < e → Only [H.next] (H.new (.cells [vi 0] none)) H' → H'.get H.next = .cells [vi (k : Nat)] none → k < 900 → F.f32_j2 E Q (slc b 0 n c) (ptr H.next 0) (vi x) (vi y) (vi z) H' := by
    intro x y z k H' h1 h2 h3 h4 h5 h6 o1 s1 hk
    simp only [F.f32_j2]
    refine S.f36 hE (keep o1) hn x y z (by omega) (by omega) (by omega) H.next k s1 hk hsb fun m k' H2 hm o2 s2 _ => ?_
    exact last m k' H2 (by omega) (by omega) (ext_of (o1.trans' o2)) s2
  by_cases c50 : 50 ≤ w
  · have c50' : (50 : Int) ≤ w := by omega
    have hq50 := hq50 c50
    have g1 : a + 1 ≤ a + q * 1 ∧ a + q * 1 + 1 < e := by omega
    have g2 : a + 1 ≤ a + q * 2 ∧ a + q * 2 + 1 < e := by omega
    have g3 : a + 1 ≤ a + q * 3 ∧ a + q * 3 + 1 < e := by omega
    generalize hx : a + q * 1 = x at *
    generalize hy : a + q * 2 = y at *
    generalize hz : a + q * 3 = z at *
    generalize q * 1 = q1 at *
    generalize q * 2 = q2 at *
    generalize q * 3 = q3 at *
    simp [F.f32, a1, a2, m1, m2, m3, p1, p2, p3, c8, c50']
    refine S.f35 hE hg1 hn hsz x (by omega) (by omega) H.next 0 hs1 (by omega) hsb fun r1 k1 H1 e1 o1 s1 l1 => ?_
    refine S.f35 hE (keep o1) hn hsz y (by omega) (by omega) H.next k1 s1 (by omega) hsb fun r2 k2 H2 e2 o2 s2 l2 => ?_
    refine S.f35 hE (keep (o1.trans' o2)) hn hsz z (by omega) (by omega) H.next k2 s2 (by omega) hsb fun r3 k3 H3 e3 o3 s3 l3 => ?_
    exact last2 r1 r2 r3 k3 H3 (by omega) (by omega) (by omega) (by omega) (by omega) (by omega) ((o1.trans' o2).trans' o3) s3 (by omega)
  · have c50' : ¬ (50 : Int) ≤ w := by omega
    have g1 : a + q * 1 < e := by omega
    have g2 : a + q * 2 < e := by omega
    have g3 : a + q * 3 < e := by omega
    have g0 : a ≤ a + q * 1 ∧ a ≤ a + q * 2 ∧ a ≤ a + q * 3 := by omega
    generalize hx : a + q * 1 = x at *
    generalize hy : a + q * 2 = y at *
    generalize hz : a + q * 3 = z at *
    generalize q * 1 = q1 at *
    generalize q * 2 = q2 at *
    generalize q * 3 = q3 at *
    simp [F.f32, a1, a2, m1, m2, m3, p1, p2, p3, c8, c50']
    exact last2 x y z 0 _ g0.1 g1 g0.2.1 g2 g0.2.2 g3 (Only.refl _ _) hs1 (by omega)
theorem S.f31 (hE : Fold E) (hg : H.get b = arrO str d tail f) (hn : d.size = n) (hsz : n < 2 ^ 31) (a e : Nat) (hae : a + 8 ≤ e) (he : e ≤ n)
    (hQ : ∀ d' H', PermIn a e d d' → SortTo H b str tail f d' H' → Q (.tuple #[]) H') : E.call (E.fid i.f31) [slc b 0 n c, vi a, vi e] H Q := by
  apply hE.f31
  have a1 : binInt .sub (vi e) (vi a) = some (vi ((e - a : Nat) : Int)) := i64_sub_nat e a (by omega) (by omega)
  have hbl := arr_lt hg
  generalize hw : e - a = w at *
  have a2 : binInt .quo (vi (w : Int)) (.int .i64 4) = some (vi ((w / 4 : Nat) : Int)) := i64_quo_num w 4 (by decide) (by omega)
  have hq4 : w / 4 * 4 ≤ w := Nat.div_mul_le_self _ _
  have hq4' : 2 ≤ w / 4 := by omega
  generalize hq : w / 4 = q at *
  have m2 : binInt .mul (vi (q : Int)) (.int .i64 2) = some (vi ((q * 2 : Nat) : Int)) := by rw [i64_mul (by omega) (by omega)]; congr 2
  have p2 := i64_add_nat a (q * 2) (by omega)
  have p3 := i64_dec (a + q * 2) (by omega) (by omega)
  have p4 := i64_succ (a + q * 2) (by omega)
  have c8 : (8 : Int) ≤ w := by omega
  have hc : convInt .u64 (vi (w : Int)) = some (u64 (BitVec.ofNat 64 w)) := by rw [i64_to_u64, BitVec.ofInt_natCast]
  have hm2 : 2 ^ bitsLen w ≤ 2 * w := two_pow_bitsLen_le (by omega)
  have hm1 := Nat.two_pow_pos (bitsLen w)
  generalize hM : 2 ^ bitsLen w = M at *
  have gx : a + 1 ≤ a + q * 2 ∧ a + q * 2 + 1 < e := by omega
  generalize hx : a + q * 2 = x at *
  generalize q * 2 = q2 at *
  have x1 : Ext H (H.new (.cells [u64 (BitVec.ofNat 64 w)] none)) := (Ext.refl H).new _
  simp [F.f31, a1, a2, m2, p2, p3, c8, hc]
  refine S.f37 hE w (by omega) ?_
  rw [hM]
  simp [a2, m2, p2, p3]
  refine LoopL.ind (fun m l H' => ∃ (j : Nat) (d1 : Array (List UInt8)) (y : BitVec 64), l = [slc b 0 n c, vi a, vi w, ptr H.next 0, u64 (BitVec.ofNat 64 M), vi j] ∧ SortTo H b str tail f d1 H' ∧ d1.size = n ∧ PermIn a e d d1 ∧ H'.get H.next = .cells [u64 y] none ∧ a ≤ j ∧ j ≤ x + 2 ∧ m = x + 2 - j) ?_ (x + 2 - (x - 1))
    ⟨x - 1, d, _, by simp, ⟨x1.only, by rw [AH.get_new_lt _ _ hbl]; exact hg⟩, hn, permIn_refl _ _ _, AH.get_new_self _ _, by omega, by omega, rfl⟩
  rintro m _ H1 X hX ⟨j, d1, y, rfl, s1, n1, pp, hb1, hj1, hj2, rfl⟩
  by_cases cj : j ≤ x + 1
  · have cj' : (j : Int) ≤ ((x + 1 : Nat) : Int) := by omega
    have pj := i64_succ j (by omega)
    have fin : ∀ (o : Nat) (y' : BitVec 64), o < w → F.f31_j1 E Q X (slc b 0 n c) (vi a) (vi w) (ptr H.next 0) (u64 (BitVec.ofNat 64 M)) (vi j) (vi o) (H1.put H.next (.cells [u64 y'] none)) := by
      intro o y' ho
      have hnb : b ≠ H.next := by omega
      have s2 : SortTo H b str tail f d1 (H1.put H.next (.cells [u64 y'] none)) := ⟨s1.only.put (.inr (Nat.le_refl _)) _, by rw [AH.get_put_ne _ _ hnb]; exact s1.get⟩
      have pa := i64_add_nat a o (by omega)
      have f1 := arr_ix (b := b) (c := c) (n := n) (i := j) (by omega)
      have f2 := arr_ix (b := b) (c := c) (n := n) (i := a + o) (by omega)
      have g1 := arr_load s2.get (i := j) (by omega)
      have g2 := arr_load s2.get (i := a + o) (by omega)
      obtain ⟨w1, w2⟩ := arr_swap enc_string_plain s2.get (i := j) (j := a + o) (by omega) (by omega)
      have hpp := swp_permIn d1 a e j (a + o) hj1 (by omega) (by omega) (by omega) (by omega)
      have hX := hX (x + 2 - (j + 1)) (by omega) [slc b 0 n c, vi a, vi w, ptr H.next 0, u64 (BitVec.ofNat 64 M), vi ((j + 1 : Nat) : Int)] _ ⟨j + 1, _, y', rfl, s2.put (swp d1 j (a + o)), by rw [size_swp]; exact n1, permIn_trans _ _ _ _ _ pp hpp, by rw [AH.get_put_ne _ _ (Ne.symm hnb), AH.get_put_self _ _ (AH.lt_cells hb1)], by omega, by omega, rfl⟩
      generalize a + o = ao at *
      generalize hj'' : j + 1 = j' at *
      simp [-store1_ptr, -load1_ptr, F.f31_j1, pa, f1, f2, g1, g2, w1, w2, pj]
      exact hX
    generalize hx1 : x + 1 = x' at *
    simp [F.f31_l1, a2, m2, p2, p4, cj']
    refine S.f45 hE H.next y hb1 fun y' => ?_
    have l1 : (.int .u64 1 : Value) = u64 1#64 := rfl
    have hsub : BitVec.ofNat 64 M - 1#64 = BitVec.ofNat 64 (M - 1) := by
      apply BitVec.eq_of_toNat_eq
      rw [BitVec.toNat_sub, BitVec.toNat_ofNat, BitVec.toNat_ofNat, BitVec.toNat_ofNat]
      omega
    have hand : (y' &&& BitVec.ofNat 64 (M - 1)).toNat ≤ M - 1 := by
      rw [BitVec.toNat_and]
      refine Nat.le_trans Nat.and_le_right ?_
      rw [BitVec.toNat_ofNat]
      exact Nat.mod_le _ _
    have hcv : ∀ z : BitVec 64, z.toNat < 2 ^ 62 → convInt .i64 (u64 z) = some (vi (z.toNat : Int)) := by
      intro z hz
      rw [u64_def, convInt_int, wrap_i64 (by omega) (by omega)]
    have hcv' := hcv _ (by omega : (y' &&& BitVec.ofNat 64 (M - 1)).toNat < 2 ^ 62)
    simp only [l1, u64_sub, hsub, u64_and, hcv', tk_eq, opt_some, i64_geq, nth_0, nth_1, nth_2, nth_3, nth_4, nth_5]
    generalize (y' &&& BitVec.ofNat 64 (M - 1)).toNat = o at *
    by_cases co : w ≤ o
    · have co' : (w : Int) ≤ o := by omega
      have hs : binInt .sub (vi (o : Int)) (vi (w : Int)) = some (vi ((o - w : Nat) : Int)) := i64_sub_nat o w co (by omega)
      simp only [co', decide_true, ifB_true, hs, tk_eq, opt_some, nth_0, nth_1, nth_2, nth_3, nth_4, nth_5]
      exact fin (o - w) y' (by omega)
    · have co' : ¬ (w : Int) ≤ o := by omega
      simp only [co', decide_false, ifB_false, nth_0, nth_1, nth_2, nth_3, nth_4, nth_5]
      exact fin o y' (by omega)
  · have cj' : ¬ (j : Int) ≤ ((x + 1 : Nat) : Int) := by omega
    generalize hx1 : x + 1 = x' at *
    simp [F.f31_l1, a2, m2, p2, p4, cj']
    exact hQ d1 H1 pp s1
theorem S.f42 (hE : Fold E) (hS : SWO Op.bytesLess) : ∀ (w : Nat) {H : AH} {Q : Value → AH → Prop} {d : Array (List UInt8)} (_ : H.get b = arrO str d tail f) (_ : d.size = n) (_ : n < 2 ^ 31) (a e : Nat) (_ : a ≤ e) (_ : e ≤ n) (limit : Nat) (_ : limit < 2 ^ 60) (_ : Go.Sort.Below Op.bytesLess a e d) (_ : e - a ≤ w)
    (_ : ∀ d' H', PermIn a e d d' → SortedIn Op.bytesLess a e d' → SortTo H b str tail f d' H' → Q (.tuple #[]) H'), E.call (E.fid i.f42) [slc b 0 n c, vi a, vi e, vi limit] H Q := by
  intro w
  induction w using Nat.strongRecOn with
  | _ w ih =>
  intro H Q d hg hn hsz a0 e0 hae0 he0 limit0 hlim0 hB0 hw hQ
  apply hE.f42
  simp only [F.f42]
  refine LoopL.ind (fun m l H' => ∃ (a e limit : Nat) (wb wp : Bool) (d1 : Array (List UInt8)), l = [slc b 0 n c, vi a, vi e, vi limit, vb wb, vb wp] ∧ SortTo H b str tail f d1 H' ∧ d1.size = n ∧ a ≤ e ∧ e ≤ n ∧ limit < 2 ^ 60 ∧ e - a ≤ w ∧ Go.Sort.Below Op.bytesLess a e d1 ∧
      (∀ R, PermIn a e d1 R → SortedIn Op.bytesLess a e R → PermIn a0 e0 d R ∧ SortedIn Op.bytesLess a0 e0 R) ∧ m = e - a) ?_ (e0 - a0) ⟨a0, e0, limit0, true, true, d, rfl, .refl hg, hn, hae0, he0, hlim0, hw, hB0, fun R h1 h2 => ⟨h1, h2⟩, rfl⟩
  rintro m _ H1 X hX ⟨a, e, limit, wb, wp, d1, rfl, s1, n1, hae, hen, hlim, hwe, hB, fin, rfl⟩
  have a1 : binInt .sub (vi e) (vi a) = some (vi ((e - a : Nat) : Int)) := i64_sub_nat e a (by omega) (by omega)
  by_cases c12 : e - a ≤ 12
  · have c12' : ((e - a : Nat) : Int) ≤ 12 := by omega
    generalize hW : e - a = W at *
    simp [F.f42_l1, a1, c12']
    refine S.f34 hE s1.get n1 (by omega) a e hae hen fun H2 s2 => ?_
    obtain ⟨h1, h2⟩ := insertionSort_holds hS d1 a e hae (by omega)
    obtain ⟨h3, h4⟩ := fin _ h1 h2
    exact hQ _ _ h3 h4 (s1.trans s2)
  have c12' : ¬ ((e - a : Nat) : Int) ≤ 12 := by omega
  by_cases c0 : limit = 0
  · subst c0
    generalize hW : e - a = W at *
    simp [F.f42_l1, a1, c12']
    refine S.f33 hE s1.get n1 (by omega) a e (by omega) hen fun H2 s2 => ?_
    obtain ⟨h1, h2⟩ := heapSort_holds hS d1 a e hae (by omega)
    obtain ⟨h3, h4⟩ := fin _ h1 h2
    exact hQ _ _ h3 h4 (s1.trans s2)
  have c0' : ¬ (limit : Int) = 0 := by omega
  have w8 : binInt .quo (vi ((e - a : Nat) : Int)) (.int .i64 8) = some (vi (((e - a) / 8 : Nat) : Int)) := i64_quo_num (e - a) 8 (by decide) (by omega)
  have j3 : ∀ (d3 : Array (List UInt8)) H3 (lim : Nat) (wb wp : Bool) (pv : Nat), SortTo H b str tail f d3 H3 → d3.size = n → PermIn a e d1 d3 → lim < 2 ^ 60 → a ≤ pv → pv < e → F.f42_j3 E Q X (slc b 0 n c) (vi a) (vi e) (vi lim) (vb wb) (vb wp) (vi ((e - a : Nat) : Int)) (vi pv) H3 := by
    intro d3 H3 lim wb wp pv s3 n3 p3 hlim hp1 hp2
    have B3 : Go.Sort.Below Op.bytesLess a e d3 := hB.permA permIn_all (by omega) p3
    have fin3 : ∀ R, PermIn a e d3 R → SortedIn Op.bytesLess a e R → PermIn a0 e0 d R ∧ SortedIn Op.bytesLess a0 e0 R := fun R h1 h2 => fin R (permIn_trans _ _ _ _ _ p3 h1) h2
    have part : ∀ (K : Value → AH → Prop), (K = fun v15 H13 =>
         opt (ext v15 0) fun v16 =>
         opt (ext v15 1) fun v17 =>
         opt (binInt .sub v16 (vi a)) fun v18 =>
         opt (binInt .sub (vi e) v16) fun v19 =>
         opt (binInt .quo (vi ((e - a : Nat) : Int)) (.int .i64 8)) fun v20 =>
         opt (binInt .lss v18 v19) fun v21 =>
         ifB v21 (
         opt (binInt .geq v18 v20) fun v22 =>
         E.call (E.fid i.f42) [slc b 0 n c, vi a, v16, vi lim] H13 fun v23 H14 =>
         opt (binInt .add v16 (.int .i64 1)) fun v24 =>
         X [slc b 0 n c, v24, vi e, vi lim, v22, v17] H14) (
         opt (binInt .geq v19 v20) fun v25 =>
         opt (binInt .add v16 (.int .i64 1)) fun v26 =>
         E.call (E.fid i.f42) [slc b 0 n c, v26, vi e, vi lim] H13 fun v27 H15 =>
         X [slc b 0 n c, vi a, v16, vi lim, v25, v17] H15)) → E.call (E.fid i.f41) [slc b 0 n c, vi a, vi e, vi pv] H3 K := by
      rintro K rfl
      refine S.f41 hE s3.get n3 (by omega) a e pv hp1 hp2 hen fun H4 s4 => ?_
      rcases hx : partition Op.bytesLess d3 a e pv with ⟨mid, ap, d4⟩
      rw [hx] at s4
      obtain ⟨g1, g2, hs4, hBa, hBr, hl, hr⟩ := round_part hS (partition_holds Op.bytesLess) hp1 hp2 (by omega) B3 hx
      have n4 : d4.size = n := by omega
      have s4' := s3.trans s4
      have b1 : binInt .sub (vi mid) (vi a) = some (vi ((mid - a : Nat) : Int)) := i64_sub_nat mid a g1 (by omega)
      have b2 : binInt .sub (vi e) (vi mid) = some (vi ((e - mid : Nat) : Int)) := i64_sub_nat e mid (by omega) (by omega)
      have b3 := i64_succ mid (by omega)
      simp only [tk_eq, ext_tuple, List.getElem?_cons_zero, List.getElem?_cons_succ, opt_some, b1, b2, b3, w8, i64_lss, i64_geq]
      by_cases cl : mid - a < e - mid
      · have cl' : ((mid - a : Nat) : Int) < ((e - mid : Nat) : Int) := by omega
        simp only [cl', decide_true, tk_eq, ifB_true, i64_geq, opt_some]
        refine ih (mid - a) (by omega) s4'.get n4 hsz a mid g1 (by omega) lim hlim hBa (Nat.le_refl _) fun d5 H5 p5 q5 s5 => ?_
        obtain ⟨hBL, hfin⟩ := hl d5 p5 q5
        have n5 : d5.size = n := by rw [p5.1]; exact n4
        simp only [b3, tk_eq, opt_some]
        exact hX (e - (mid + 1)) (by omega) _ _ ⟨mid + 1, e, lim, _, ap, d5, rfl, s4'.trans s5, n5, by omega, hen, hlim, by omega, hBL, fun R h1 h2 => by
          obtain ⟨h3, h4⟩ := hfin R h1 h2
          exact fin3 R h3 h4, rfl⟩
      · have cl' : ¬ ((mid - a : Nat) : Int) < ((e - mid : Nat) : Int) := by omega
        simp only [cl', decide_false, tk_eq, ifB_false, i64_geq, opt_some, b3]
        refine ih (e - (mid + 1)) (by omega) s4'.get n4 hsz (mid + 1) e (by omega) hen lim hlim hBr (Nat.le_refl _) fun d5 H5 p5 q5 s5 => ?_
        obtain ⟨hBL, hfin⟩ := hr d5 p5 q5
        have n5 : d5.size = n := by rw [p5.1]; exact n4
        exact hX (mid - a) (by omega) _ _ ⟨a, mid, lim, _, ap, d5, rfl, s4'.trans s5, n5, g1, by omega, hlim, by omega, hBL, fun R h1 h2 => by
          obtain ⟨h3, h4⟩ := hfin R h1 h2
          exact fin3 R h3 h4, rfl⟩
    by_cases ca : 0 < a
    · have ca' : (0 : Int) < a := by omega
      have b1 := i64_dec a (by omega) (by omega)
      have f1 := arr_ix (b := b) (c := c) (n := n) (i := a - 1) (by omega)
      have f2 := arr_ix (b := b) (c := c) (n := n) (i := pv) (by omega)
      have g1 := arr_load s3.get (i := a - 1) (by omega)
      have g2 := arr_load s3.get (i := pv) (by omega)
      have part := part _ rfl
      by_cases hl : Op.bytesLess d3[a - 1]! d3[pv]! = true
      · generalize hW : e - a = W at *
        generalize hA : a - 1 = a1 at *
        simp [-store1_ptr, -load1_ptr, F.f42_j3, ca', ca, b1, f1, f2, g1, g2]
        refine S.f0 hE _ _ ?_
        simp only [hl]
        simp only [un_not_z, Bool.not_true, tk_eq, opt_some, gd_tt, pick_true_z, ifB_false]
        exact part
      · have hl : Op.bytesLess d3[a - 1]! d3[pv]! = false := by simpa using hl
        clear part
        rcases hx : partitionEqual Op.bytesLess d3 a e pv with ⟨mid, d4⟩
        obtain ⟨g3, g4, hs4, hB4, hfin⟩ := round_eq hS (partitionEqual_holds Op.bytesLess) ca hp1 hp2 (by omega) B3 hl hx
        have hY := fun H4 s4 => hX (e - mid) (by omega) [slc b 0 n c, vi mid, vi e, vi lim, vb wb, vb wp] H4 ⟨mid, e, lim, wb, wp, d4, rfl, s4, by omega, g4, hen, hlim, by omega, hB4, fun R h1 h2 => by
            obtain ⟨h3, h4⟩ := hfin R h1 h2
            exact fin3 R h3 h4, rfl⟩
        generalize hW : e - a = W at *
        generalize hA : a - 1 = a1 at *
        simp [-store1_ptr, -load1_ptr, F.f42_j3, ca', ca, b1, f1, f2, g1, g2]
        refine S.f0 hE _ _ ?_
        simp [hl]
        refine S.f40 hE s3.get n3 (by omega) a e pv hp1 hp2 hen fun H4 s4 => ?_
        rw [hx] at s4 ⊢
        exact hY H4 (s3.trans s4)
    · have ca' : ¬ (0 : Int) < a := by omega
      have part := part _ rfl
      generalize hW : e - a = W at *
      simp only [F.f42_j3, i64_gtr, ca', decide_false, tk_eq, opt_some, gd_ft, pick_false_z, ifB_false]
      exact part
  have j2 : ∀ (d3 : Array (List UInt8)) H3 (lim : Nat) (wb wp : Bool) (pv : Nat) (hint : Int), SortTo H b str tail f d3 H3 → d3.size = n → PermIn a e d1 d3 → lim < 2 ^ 60 → a ≤ pv → pv < e → F.f42_j2 E Q X (slc b 0 n c) (vi a) (vi e) (vi lim) (vb wb) (vb wp) (vi ((e - a : Nat) : Int)) (vi pv) (vi hint) H3 := by
    intro d3 H3 lim wb wp pv hint s3 n3 p3 hlim hp1 hp2
    have B3 : Go.Sort.Below Op.bytesLess a e d3 := hB.permA permIn_all (by omega) p3
    have h3 := j3 d3 H3 lim wb wp pv s3 n3 p3 hlim hp1 hp2
    have try_ : E.call (E.fid i.f39) [slc b 0 n c, vi a, vi e] H3 fun v6 H4 => ifB v6 (Q (.tuple #[]) H4) (F.f42_j3 E Q X (slc b 0 n c) (vi a) (vi e) (vi lim) (vb wb) (vb wp) (vi ((e - a : Nat) : Int)) (vi pv) H4) := by
      refine S.f39 hE s3.get n3 (by omega) a e (by omega) hen fun H4 s4 => ?_
      obtain ⟨q1, q2⟩ := partialInsertionSort_holds hS d3 a e (by omega) (by omega) B3
      cases hb : (partialInsertionSort Op.bytesLess d3 a e).2 with
      | true =>
        obtain ⟨h5, h6⟩ := fin _ (permIn_trans _ _ _ _ _ p3 q1) (q2 hb)
        simp only [ifB_true]
        exact hQ _ _ h5 h6 (s3.trans s4)
      | false =>
        simp only [ifB_false]
        exact j3 _ H4 lim wb wp pv (s3.trans s4) (by rw [q1.1]; exact n3) (permIn_trans _ _ _ _ _ p3 q1) hlim hp1 hp2
    cases wb with
    | false =>
      simp only [F.f42_j2, gd_ft, pick_false_z, tk_eq, opt_some, ifB_false]
      exact h3
    | true =>
      cases wp with
      | false =>
        simp only [F.f42_j2, gd_tt, gd_ft, pick_true_z, pick_false_z, tk_eq, opt_some, ifB_false]
        exact h3
      | true =>
        by_cases ch : hint = 1
        · simp only [F.f42_j2, gd_tt, pick_true_z, tk_eq, opt_some, i64_eql, ch, decide_true, ifB_true]
          exact try_
        · simp only [F.f42_j2, gd_tt, pick_true_z, tk_eq, opt_some, i64_eql, ch, decide_false, ifB_false]
          exact h3
  have j1 : ∀ (d3 : Array (List UInt8)) H3 (lim : Nat) (wb wp : Bool), SortTo H b str tail f d3 H3 → d3.size = n → PermIn a e d1 d3 → lim < 2 ^ 60 → F.f42_j1 E Q X (slc b 0 n c) (vi a) (vi e) (vi lim) (vb wb) (vb wp) (vi ((e - a : Nat) : Int)) H3 := by
    intro d3 H3 lim wb wp s3 n3 p3 hlim
    simp only [F.f42_j1]
    refine S.f32 hE s3.get n3 (by omega) a e (by omega) hen fun pv hint H4 hp1 hp2 e4 => ?_
    have s4 := s3.ext e4
    simp only [tk_eq, ext_tuple, List.getElem?_cons_zero, List.getElem?_cons_succ, opt_some, i64_eql]
    by_cases ch : hint = 2
    · simp only [ch, decide_true, ifB_true]
      refine S.f43 hE s4.get n3 (by omega) a e (by omega) hen fun H5 s5 => ?_
      have q1 := reverseRange_holds d3 a e hae (by omega)
      have b1 := i64_dec e (by omega) (by omega)
      have b2 : binInt .sub (vi pv) (vi a) = some (vi ((pv - a : Nat) : Int)) := i64_sub_nat pv a hp1 (by omega)
      have b3 : binInt .sub (vi ((e - 1 : Nat) : Int)) (vi ((pv - a : Nat) : Int)) = some (vi ((e - 1 - (pv - a) : Nat) : Int)) := i64_sub_nat (e - 1) (pv - a) (by omega) (by omega)
      simp only [b1, b2, b3, tk_eq, opt_some]
      exact j2 _ H5 lim wb wp _ 1 (s4.trans s5) (by rw [q1.1]; exact n3) (permIn_trans _ _ _ _ _ p3 q1) hlim (by omega) (by omega)
    · simp only [ch, decide_false, ifB_false]
      exact j2 d3 H4 lim wb wp pv hint s4 n3 p3 hlim hp1 hp2
  cases wb with
  | true =>
    have := j1 d1 H1 limit true wp s1 n1 (permIn_refl _ _ _) hlim
    generalize hW : e - a = W at *
    simp only [F.f42_l1, nth_0, nth_1, nth_2, nth_3, nth_4, nth_5, a1, c12', c0', i64_leq, i64_eql, decide_false, un_not_z, Bool.not_true, tk_eq, opt_some, ifB_false]
    exact this
  | false =>
    have b1 := i64_dec limit (by omega) (by omega)
    have go := fun d' H' p' s' => j1 d' H' (limit - 1) false wp s' (by rw [(p' : PermIn a e d1 d').1]; exact n1) p' (by omega)
    generalize hW : e - a = W at *
    simp only [F.f42_l1, nth_0, nth_1, nth_2, nth_3, nth_4, nth_5, a1, c12', c0', i64_leq, i64_eql, decide_false, un_not_z, Bool.not_false, tk_eq, opt_some, ifB_false, ifB_true]
    refine S.f31 hE s1.get n1 hsz a e (by omega) hen fun d' H' p' s' => ?_
    simp only [b1, tk_eq, opt_some]
    exact go d' H' p' (s1.trans s')
theorem S.f30 (hE : Fold E) (hS : SWO Op.bytesLess) (hg : H.get b = arrO str d tail f) (hn : d.size = n) (hsz : n < 2 ^ 31)
    (hQ : ∀ d' H', PermIn 0 n d d' → SortedIn Op.bytesLess 0 n d' → SortTo H b str tail f d' H' → Q (.tuple #[]) H') : E.call (E.fid i.f30) [slc b 0 n c] H Q := by
  apply hE.f30
  have e1 : (BitVec.ofNat 64 n).toNat = n := by rw [BitVec.toNat_ofNat, Nat.mod_eq_of_lt (by omega)]
  have hc : convInt .u64 (vi (n : Int)) = some (u64 (BitVec.ofNat 64 n)) := by rw [i64_to_u64, BitVec.ofInt_natCast]
  simp only [F.f30, lenSlc_slc_z, hc, tk_eq, opt_some]
  refine S.f15 hE _ (by rw [e1]; omega) ?_
  rw [e1]
  have hl : bitsLen n ≤ 31 := by rw [bitsLen_le_iff]; exact hsz
  exact S.f42 hE hS n hg hn hsz 0 n (Nat.zero_le _) (Nat.le_refl _) _ (by omega) (.inl rfl) (by omega) hQ
theorem S.slices_Sort_string_nil (hE : Fold E) (a : Option Addr) (hQ : Q (.tuple #[]) H) : E.call (E.fid i.f30) [.slice a 0 0] H Q := by
  apply hE.f30
  have hc : convInt .u64 (vi 0) = some (u64 0#64) := by rw [i64_to_u64]; rfl
  have hd : binInt .sub (vi 0) (vi 0) = some (vi 0) := i64_sub (by decide) (by decide)
  simp [F.f30, hc]
  refine S.f15 hE _ (by decide) ?_
  apply hE.f42
  simp only [F.f42]
  refine LoopL.step fun X _ => ?_
  simp [F.f42_l1, hd]
  apply hE.f34
  have ha : binInt .add (vi 0) (vi 1) = some (vi 1) := i64_add (by decide) (by decide)
  simp [F.f34, ha]
  refine LoopL.step fun X _ => ?_
  simp [F.f34_l1]
  exact hQ
end
end Go.AM
end
section
namespace Go.AM
open Go.Sort (SWO PermIn SortedIn)
theorem sort_unique {α : Type} [Inhabited α] {lt : α → α → Bool} (hS : SWO lt) (htri : ∀ a b, lt a b = false → lt b a = false → a = b) {n : Nat} {d d' : Array α} (hn : d.size = n) (hp : PermIn 0 n d d') (hs : SortedIn lt 0 n d') {L : List α} (hL : d.toList.Perm L)
    (hR : L.Pairwise fun a b => lt a b = true) : d'.toList = L := by
  have hsz : d'.size = n := hp.1.trans hn
  have e1 : (d'.extract 0 n).toList = d'.toList := by rw [← hsz]; simp
  have e2 : (d.extract 0 n).toList = d.toList := by rw [← hn]; simp
  have hpp := hp.2.2
  rw [e1, e2] at hpp
  refine List.Perm.eq_of_pairwise (le := fun a b => lt b a = false) (fun a b _ _ h1 h2 => htri a b h2 h1) ?_ ?_ (hpp.trans hL)
  · rw [List.pairwise_iff_getElem]
    intro i j hi hj hij
    have := hs i j (Nat.zero_le _) hij (by rw [← hsz]; simpa using hj)
    have hi' : i < d'.size := by simpa using hi
    have hj' : j < d'.size := by simpa using hj
    simpa [hi', hj'] using this
  · refine hR.imp fun {a b} hab => ?_
    cases hba : lt b a with
    | false => rfl
    | true =>
      have := hS.trans a b a hab hba
      rw [hS.irrefl] at this
      simp at this
theorem Grow.arr {α : Type} [Inhabited α] {enc : α → Value} (hp : ∀ x, plain1 (enc x) = true) {H : AH} {v : Value} {xs : List α} (g : Grow zH H 1 v (xs.map fun x => [enc x])) (hne : xs ≠ []) :
    ∃ b f c tail, v = slc b 0 xs.length c ∧ H.get b = arrO enc xs.toArray tail f ∧ ∀ (ys : List α) (H' : AH), ys.length = xs.length → H'.get b = arrO enc ys.toArray tail f → Grow zH H' 1 v (ys.map fun x => [enc x]) := by
  have fl : ∀ l : List α, (l.map fun x => [enc x]).flatten = l.map enc := by
    intro l
    induction l with
    | nil => rfl
    | cons a l ih => simp [ih]
  rcases g.2 with ⟨h, _⟩ | ⟨b, f, c, cs, g1, rfl, g3, g4, g5, g6, g7⟩
  · exact (hne (by simpa using h)).elim
  · rw [fl, Nat.mul_one] at g6
    simp only [List.length_map] at g4 g6 ⊢
    have hcs : cs = xs.map enc ++ cs.drop xs.length := by rw [← g6, List.take_append_drop]
    refine ⟨b, f, c, cs.drop xs.length, rfl, ?_, fun ys H' hl hg => ?_⟩
    · rw [g3, arrO]; congr 1
    · refine ⟨fun r hr => ?_, .inr ⟨b, f, c, ys.map enc ++ cs.drop xs.length, g1, by simp [hl], hg, by simpa [hl] using g4, ?_, ?_, g7⟩⟩
      · obtain ⟨x, _, rfl⟩ := List.mem_map.1 hr
        exact ⟨rfl, by simp [hp]⟩
      · have : cs.length = (xs.map enc ++ cs.drop xs.length).length := congrArg List.length hcs
        simp at this
        simp [hl]; omega
      · rw [fl]
        simp [hl]
theorem name_htri (a b : NameL) (h : Op.bytesLess a b = false) (h' : Op.bytesLess b a = false) : a = b := by
  rw [bytesLess_dec] at h h'
  exact name_tri (by simpa using h) (by simpa using h')
def strR (l : List NameL) : List (List Value) := l.map fun s => [str s]
theorem strR_length (l : List NameL) : (strR l).length = l.length := by simp [strR]
def Tr.entries (T : Tr) (n : BitVec 16) : List NameL := if T.dir n = 0 then (T.node n).ents.map Prod.fst else []
section
variable {E : Sy} {H H' H'' : AH} {Q : Value → AH → Prop} {p m : Nat} {L L' L'' : LyL} {T T' T'' : Tr}
theorem S.f7 (hE : Fold E) (h : Ino H p m L T) (n : BitVec 16) (hr : Rising (T.node n).ents) (hsz : (T.node n).ents.length < 2 ^ 30)
    (hQ : ∀ v H', Ext H H' → Rows H' 1 v (strR (T.entries n)) → Q (.tuple #[v, vi (T.dir n)]) H') : E.call (E.fid i.f7) [ptr p 0, u16 n] H Q := by
  apply hE.f7
  simp only [F.f7]
  refine S.f12 hE h n ?_
  by_cases hd : T.dir n = 0
  rotate_left
  · simp only [ext_tuple, List.getElem?_cons_zero, List.getElem?_cons_succ, i64_neq, hd, ne_eq, not_false_eq_true, decide_true, tk_eq, opt_some, ifB_true]
    refine hQ nilS H (Ext.refl H) ?_
    rw [Tr.entries, if_neg hd]
    exact Rows.nil _ _ none
  rcases h.get n with ⟨q1, _⟩ | ⟨k, y, q1, q2, q3, q4, q5⟩
  · have := Tr.dir_zero.1 hd
    rw [q1] at this; simp at this
  obtain ⟨r, hnm⟩ := q5.dir (Tr.dir_zero.1 hd)
  have hm := nodeR.names (h.node q2) hnm
  obtain ⟨o, o1, o2⟩ := IterAt.start hm
  have x1 : Ext H (H.new o) := (Ext.refl H).new o
  simp only [ext_tuple, List.getElem?_cons_zero, List.getElem?_cons_succ, i64_neq, hd, ne_eq, not_true, decide_false, if_true, nodeP_some h.cov.nd q2, nilCk_p, addOff_ptr, load1_ptr, q4, inC, cell_cells_z, Nat.zero_add, hnm, o1, mk_some, mkPtr_eq, tk_eq, opt_some, ifB_false]
  have hlen : y.ord.length = (T.node n).ents.length := q5.perm.length_eq
  refine LoopL.ind (fun j l H' => Ext H H' ∧ ∃ done v, l = [v, ptr H.next 0] ∧ IterAt str u16 H' H.next r y.ord done ∧ Grow zH H' 1 v (strR (done.map Prod.fst)) ∧ FreshV (H.next + 1) v ∧ (done = [] → v = nilS) ∧ j + done.length = y.ord.length) ?_ y.ord.length ⟨x1, [], nilS, rfl, o2, Grow.nil _ _ _, fun b hb => by simp [blk] at hb, fun _ => rfl, by simp⟩
  rintro j _ H' X hX ⟨e1, done, v, rfl, it, g, fv, hnil, hj⟩
  simp only [F.f7_l1, nth_0, nth_1]
  refine IterAt.next it (fun e ob he hnd it' hen => ?_) fun hp => ?_
  · have hput : Ext H (H'.put H.next ob) := e1.put (Nat.le_refl _) ob
    have hd1 : done.length + 1 ≤ y.ord.length := by
      have := nodup_le (done ++ [e]) y.ord it'.nodup.1 it'.nodup.2
      simpa using this
    have g' : Grow zH (H'.put H.next ob) 1 v (strR (done.map Prod.fst)) := g.keep fun b hb _ => AH.get_put_ne _ _ (by have := fv b hb; omega)
    have hb1 : buildS 1 1 #[(.string ⟨#[]⟩)] [(0, str e.1)] = some (.cells [str e.1] none, mkSlc 1 1) := buildS_one 1 [str []] [str e.1] rfl rfl
    obtain ⟨v', H2, a1, a2, a3⟩ := g'.app1 (Nat.zero_le _) (bytes := 16) [str e.1] rfl rfl (by decide) (by decide) (by rw [strR_length, List.length_map]; omega)
    have hlt1 := it'.map.lt
    have hlt2 := it'.lt
    have hrb : H2.get r = (H'.put H.next ob).get r := a3.1.get hlt1 fun hb => by
      have := fv r (mem_blkL.1 hb)
      have := hm.lt
      omega
    have hib : H2.get H.next = (H'.put H.next ob).get H.next := a3.1.get hlt2 fun hb => by
      have := fv H.next (mem_blkL.1 hb)
      omega
    simp only [ext_tuple, List.getElem?_cons_zero, List.getElem?_cons_succ, hen, hb1, mk_some, mkSlc_eq, a1, opt2_some, tk_eq, opt_some, ifB_true]
    refine hX (j - 1) (by omega) _ _ ⟨?_, done ++ [e], v', rfl, it'.keep hrb hib, ?_, ?_, fun h => by simp at h, ?_⟩
    · refine a3.1.ext hput fun b hb => ?_
      have := fv b (mem_blkL.1 hb)
      omega
    · have : strR ((done ++ [e]).map Prod.fst) = strR (done.map Prod.fst) ++ [[str e.1]] := by simp [strR]
      rw [this]; exact a2
    · intro b hb
      have hp1 : (H'.put H.next ob).next = H'.next := rfl
      rcases a3.2 b hb with h1 | h1
      · exact fv b h1
      · have := it.lt
        omega
    · simp; omega
  · have hperm : (done.map Prod.fst).Perm ((T.node n).ents.map Prod.fst) := (hp.trans q5.perm).map _
    have hents : T.entries n = (T.node n).ents.map Prod.fst := by rw [Tr.entries, if_pos hd]
    have hrise : ((T.node n).ents.map Prod.fst).Pairwise fun a b => Op.bytesLess a b = true := by
      rw [List.pairwise_map]
      exact hr.imp fun {a b} hab => by rw [bytesLess_dec]; simpa using hab
    simp only [ext_tuple, List.getElem?_cons_zero, tk_eq, opt_some, ifB_false]
    by_cases hne : done.map Prod.fst = []
    · have hd0 : done = [] := by simpa using hne
      have he : (T.node n).ents = [] := by
        have := hperm.length_eq
        rw [hd0] at this
        exact List.eq_nil_of_length_eq_zero (by simpa using this.symm)
      rw [hnil hd0]
      refine S.slices_Sort_string_nil hE none ?_
      rw [hd] at hQ
      refine hQ nilS H' e1 ?_
      rw [hents, he]
      exact Rows.nil _ _ none
    · obtain ⟨b, f, c, tail, rfl, ha, hb⟩ := Grow.arr (fun x => rfl) g hne
      refine S.f30 hE swo_bytes ha (by simp) (by have := hperm.length_eq; simp at this ⊢; omega) fun d' H2 hp2 hs2 st => ?_
      have hu := sort_unique swo_bytes name_htri (n := (done.map Prod.fst).length) (by simp) hp2 hs2 (L := (T.node n).ents.map Prod.fst) hperm hrise
      rw [hd] at hQ
      refine hQ _ H2 ?_ ?_
      · exact st.only.ext e1 fun x hx => by
          simp at hx; subst hx
          have := fv x (by simp [blk])
          omega
      · rw [hents, ← hu]
        refine (hb d'.toList H2 ?_ st.get).toRows
        have := hp2.1
        simpa using this
def Tr.nums (T : Tr) : List (BitVec 16) := ((List.range T.N.length).map (BitVec.ofNat 16)).filter fun n => decide ((T.node n).kind ≠ 0#8)
theorem Tr.nums_mem (hl : T.N.length ≤ 65536) (n : BitVec 16) : n ∈ T.nums ↔ (T.node n).kind ≠ 0#8 := by
  unfold Tr.nums
  rw [List.mem_filter]
  simp only [decide_eq_true_eq, List.mem_map, List.mem_range]
  constructor
  · exact fun h => h.2
  · intro h
    exact ⟨⟨n.toNat, Tr.node_lt h, by simp⟩, h⟩
theorem Tr.nums_rise (hl : T.N.length ≤ 65536) : T.nums.Pairwise fun a b => lt16 a b = true := by
  unfold Tr.nums
  refine List.Pairwise.filter _ ?_
  rw [List.pairwise_map]
  refine List.pairwise_lt_range.imp_of_mem fun {a b} ha hb hab => ?_
  have h1 := List.mem_range.1 ha
  have h2 := List.mem_range.1 hb
  simp only [lt16, decide_eq_true_eq, BitVec.toNat_ofNat]
  rw [Nat.mod_eq_of_lt (by omega), Nat.mod_eq_of_lt (by omega)]
  exact hab
theorem Tr.nums_nodup (hl : T.N.length ≤ 65536) : T.nums.Nodup :=
  (Tr.nums_rise hl).imp fun {a b} h e => by subst e; simp [lt16] at h
theorem Cov.perm (h : Cov L T) (hl : T.N.length ≤ 65536) : (L.map Prod.fst).Perm T.nums :=
  List.perm_of_nodup_nodup_toFinset_eq' h.nd (Tr.nums_nodup hl) (fun x hx => (Tr.nums_mem hl x).2 ((h.mem x).1 hx)) fun x hx => (h.mem x).2 ((Tr.nums_mem hl x).1 hx)
end
end Go.AM
end
section
namespace Go.AM
structure Two (H0 H : AH) (p m : Nat) (L : LyL) (T : Tr) (t : Nat) (nv mv : Value) (nx : Int) (mr : List (List Value)) (Y : List RLy) (T2 : Tr) : Prop where
  ext : Ext H0 H
  ow : Ow (joinR [inoR p m L T, refR t nv mv nx mr Y T2]) H
  own : ∀ b ∈ (joinR [inoR p m L T, refR t nv mv nx mr Y T2]).fp, H0.next ≤ b
  cov : Cov L T
  len : Y.length = T2.N.length
  fit : T2.N.length ≤ 60000
section
variable {E : Sy} {H0 H H' H'' : AH} {Q : Value → AH → Prop} {p m : Nat} {L L' L'' : LyL} {T T' T'' T2 T2' : Tr} {t : Nat} {nv nv' mv : Value} {nx : Int} {mr : List (List Value)} {Y Y' : List RLy}
theorem Two.ino (h : Two H0 H p m L T t nv mv nx mr Y T2) : Ino H p m L T := ⟨h.ow.part (k := 0) rfl, h.cov⟩
theorem Two.ref (h : Two H0 H p m L T t nv mv nx mr Y T2) : RefT H t nv mv nx mr Y T2 := ⟨h.ow.part (k := 1) rfl, h.len, h.fit⟩
theorem Two.upd {r : Res} (h : Two H0 H p m L T t nv mv nx mr Y T2) (u : Upd (joinR [inoR p m L T, refR t nv mv nx mr Y T2]) r H H') : Ext H0 H' ∧ Ow r H' ∧ ∀ b ∈ r.fp, H0.next ≤ b :=
  ⟨u.only.ext h.ext h.own, h.ow.upd u, fun b hb => (u.fp b hb).1.elim (h.own b) fun k => Nat.le_trans h.ext.1 k⟩
theorem Two.step1 (h : Two H0 H p m L T t nv mv nx mr Y T2) (u : UpdI p m L T L' T' H H') : Two H0 H' p m L' T' t nv mv nx mr Y T2 := by
  obtain ⟨q1, q2, q3⟩ := h.upd (h.ow.set (k := 0) rfl u.upd)
  exact ⟨q1, q2, q3, u.cov, h.len, h.fit⟩
theorem Two.step2 (h : Two H0 H p m L T t nv mv nx mr Y T2) (u : UpdR t nv mv nx mr Y T2 nv' Y' T2' H H') : Two H0 H' p m L T t nv' mv nx mr Y' T2' := by
  obtain ⟨q1, q2, q3⟩ := h.upd (h.ow.set (k := 1) rfl u.upd)
  exact ⟨q1, q2, q3, h.cov, u.len, u.fit⟩
theorem Two.mono (h : Two H0 H p m L T t nv mv nx mr Y T2) (e : Ext H H') : Two H0 H' p m L T t nv mv nx mr Y T2 := h.step1 (h.ino.same e)
theorem Two.less {H1 : AH} (h : Two H1 H p m L T t nv mv nx mr Y T2) (e : Ext H0 H1) : Two H0 H p m L T t nv mv nx mr Y T2 := ⟨e.trans h.ext, h.ow, fun b hb => Nat.le_trans e.1 (h.own b hb), h.cov, h.len, h.fit⟩
theorem Two.start (hE : Fold E) (l1 l2 : Int) {Q : Value → Value → AH → Prop} (hQ : ∀ p m L t nv mv Y H', Two H H' p m L (Tr.new l1) t nv mv 1 mntTop Y (Tr.new l2) → Q (ptr p 0) (ptr t 0) H') :
    E.call (E.fid i.f4) [vi l1] H fun v1 H1 => E.call (E.fid i.f21) [vi l2] H1 fun v2 H2 => Q v1 v2 H2 := by
  refine S.f4' hE l1 fun p m L H1 h1 => ?_
  refine S.f21 hE l2 fun t nv mv Y H2 e2 h2 f2 => ?_
  have i2 := h1.mono e2
  refine hQ p m L t nv mv Y H2 ⟨i2.ext, ⟨?_, ?_, ?_⟩, ?_, i2.ino.cov, h2.len, h2.fit⟩
  · intro r hr
    simp only [List.mem_cons, List.not_mem_nil, or_false] at hr
    rcases hr with rfl | rfl
    · exact i2.ino.ow.holds
    · exact h2.ow.holds
  · intro b hb
    simp only [joinR, List.flatMap_cons, List.flatMap_nil, List.append_nil, List.mem_append] at hb
    rcases hb with hb | hb
    · exact i2.ino.ow.lt b hb
    · exact h2.ow.lt b hb
  · simp only [joinR, List.flatMap_cons, List.flatMap_nil, List.append_nil]
    rw [List.nodup_append]
    refine ⟨i2.ino.ow.nd, h2.ow.nd, fun a ha b hb => ?_⟩
    have := h1.ino.ow.lt a ha
    have := f2 b hb
    omega
  · intro b hb
    simp only [joinR, List.flatMap_cons, List.flatMap_nil, List.append_nil, List.mem_append] at hb
    rcases hb with hb | hb
    · exact i2.own b hb
    · exact Nat.le_trans h1.ext.1 (f2 b hb)
theorem Tr.WF.small (h : T.WF) : T.small := fun n => by have := h.size n; omega
theorem Two.cMake (hE : Fold E) (h : Two H0 H p m L T t nv mv nx mr Y T2) (w : T.WF) (n : BitVec 16) (s : NameL) (hs : s.length < 2 ^ 63) (k : BitVec 8) (text : List UInt8) (ht : text.length < 2 ^ 63) (hc : -9223372036854775808 ≤ T.change ∧ T.change < 9223372036854775807)
    (hQ : ∀ L' H', Two H0 H' p m L' (T.make n s k text).1 t nv mv nx mr Y T2 → Q (.tuple #[u16 (T.make n s k text).2.1, vi (T.make n s k text).2.2]) H') : E.call (E.fid i.f10) [ptr p 0, u16 n, str s, u8 k, str text] H Q := by
  have hlen := w.len16
  have hl2 := w.len.1
  exact S.f10 hE h.ino n s hs k text ht hc ⟨by omega, by omega⟩ (fun _ r => w.chain ⟨(Tr.room_ok r).1, (Tr.room_ok r).2.2.1⟩ 17) fun L1 H1 _ u1 => hQ _ _ (h.step1 u1)
theorem Two.rMake (hE : Fold E) (h : Two H0 H p m L T t nv mv nx mr Y T2) (w : T2.WF) (n : BitVec 16) (s : NameL) (hs : s.length < 2 ^ 63) (k : BitVec 8) (text : List UInt8) (hc : -9223372036854775808 ≤ T2.change ∧ T2.change < 9223372036854775807)
    (hQ : ∀ nv' Y' H', Two H0 H' p m L T t nv' mv nx mr Y' (T2.make n s k text).1 → Q (.tuple #[vi ((T2.make n s k text).2.1.toNat : Int), vi (T2.make n s k text).2.2]) H') : E.call (E.fid i.f23) [ptr t 0, vi (n.toNat : Int), str s, vi (k.toNat : Int), str text] H Q := by
  have hlen := w.len16
  have hl2 := w.len.1
  exact S.f23 hE h.ref w.small n s hs k text hc ⟨by omega, by omega⟩ (fun _ r => w.deep20 ⟨(Tr.room_ok r).1, (Tr.room_ok r).2.2.1⟩) fun nv2 Y2 H2 u2 => hQ _ _ _ (h.step2 u2)
end
end Go.AM
end
section
namespace Go.AM
section
variable {E : Sy} {H0 H H' H'' : AH} {Q : Value → AH → Prop} {p m : Nat} {L L' L'' : LyL} {T T' T'' T2 T2' : Tr} {t : Nat} {nv nv' mv : Value} {nx : Int} {mr : List (List Value)} {Y Y' : List RLy}
theorem Tr.WF.make_node (h : T.WF) (inn : BitVec 16) (s : NameL) (kd : BitVec 8) (text : List UInt8) : (T.make inn s kd text).1 = T ∨ ((T.make inn s kd text).1.change = T.change + 1 ∧ kd ≠ 0#8 ∧ ∃ A, A = BitVec.ofNat 16 T.free ∧ (T.node A).kind = 0#8 ∧ inn ≠ A ∧ ∀ m, (T.make inn s kd text).1.node m = if m = inn then Nd.addE s A (T.node inn) else if m = A then Nd.made inn kd text else T.node m) := by
  unfold Tr.make
  split
  · exact .inl rfl
  split
  · exact .inl rfl
  split
  · exact .inl rfl
  rename_i hr hkd hlim
  refine .inr ⟨rfl, fun e => hkd (.inl e), BitVec.ofNat 16 T.free, rfl, ?_⟩
  have hr : T.room inn s = 0 := by simpa using hr
  obtain ⟨d1, d2, d3, d4, d5⟩ := Tr.room_ok hr
  have hl16 := h.len16
  have hfree := Tr.free_ok (T := T) (by have := h.len.1; omega) (by omega)
  have hA0 := hfree.zero
  have hin : (T.node inn).kind ≠ 0#8 := by rw [d1]; decide
  have hAi : inn ≠ BitVec.ofNat 16 T.free := by intro e; rw [e] at hin; exact hin hA0
  have hpi : (T.put T.free (Nd.made inn kd text)).node inn = T.node inn := by rw [Tr.node_put hfree.le hfree.lt, if_neg hAi]
  refine ⟨hA0, hAi, fun m => ?_⟩
  rw [Tr.bump_node, Tr.node_upd (by rw [hpi]; exact hin), hpi]
  split
  · rfl
  · rw [Tr.node_put hfree.le hfree.lt]
theorem ArgSV.strs {v : Value} (h : ArgSV H (.slice 1 .str) v) : ∃ l : List NameL, Rows H 1 v (strR l) ∧ l.length ≤ 9223372036854775807 ∧ ∀ s ∈ l, s.length ≤ 9223372036854775807 :=
  ArgSV.rowsOf (f := fun s => [str s]) (P := fun s => s.length ≤ 9223372036854775807) (fun r (h : SV H .str r) => by obtain ⟨l, e, hl⟩ := h; exact ⟨l, e, hl⟩) h
structure NamesI (T : Tr) (j : Nat) : Prop where
  wf : T.WF
  ch : 0 ≤ T.change ∧ T.change ≤ j
  files : ∀ n, n ≠ 1#16 → (T.node n).kind = 0#8 ∨ (T.node n).kind = 1#8
  first : (T.node 1#16).ents ≠ [] → (T.node 2#16).kind ≠ 0#8
theorem NamesI.make {j : Nat} (h : NamesI T j) (s : NameL) : NamesI (T.make 1#16 s 1#8 []).1 (j + 1) := by
  have hw := h.wf.make 1#16 s 1#8 []
  have hc := h.ch
  rcases h.wf.make_node 1#16 s 1#8 [] with e | ⟨e1, e2, A, hA, e3, e4, e5⟩
  · rw [e] at hw ⊢
    exact ⟨hw, ⟨hc.1, by omega⟩, h.files, h.first⟩
  · refine ⟨hw, ⟨by omega, by omega⟩, fun n hn => ?_, fun _ => ?_⟩
    · rw [e5, if_neg hn]
      split
      · exact .inr rfl
      · exact h.files n hn
    · rw [e5, if_neg (by decide)]
      split
      · decide
      · rename_i hA2
        intro hz
        have hl16 := h.wf.len16
        have hfree := Tr.free_ok (T := T) (by have := h.wf.len.1; omega) (by omega)
        have hpos := hfree.pos
        by_cases h1 : T.free = 1
        · rw [h1] at hA
          have h1 := h.wf.root.1
          have hA' : A = 1#16 := hA
          rw [hA', h1] at e3
          simp at e3
        · by_cases h2 : T.free = 2
          · rw [h2] at hA
            exact hA2 hA.symm
          · exact hfree.used 2 (by omega) (by omega) hz
theorem S.f19 (hE : Fold E) (s : NameL) (hs : s.length < 2 ^ 63) (xv : Value) (l : List NameL) (hl : Rows H 1 xv (strR l)) (hll : l.length < 2 ^ 63) (hls : ∀ x ∈ l, x.length < 2 ^ 63) (hQ : ∀ H', Q (vb true) H') : E.call (E.fid i.f19) [str s, xv] H Q := by
  apply hE.f19
  simp only [F.f19]
  refine S.f18 hE fun H1 e1 => ?_
  have hlx := (hl.mono e1).lenSlc
  rw [strR_length] at hlx
  by_cases h60 : 60 < l.length
  · have h60' : (60 : Int) < l.length := by omega
    simp only [un_not_z, Bool.not_true, hlx, i64_gtr, gt_iff_lt, h60', decide_true, tk_eq, opt_some, ifB_true, ifB_false]
    exact hQ _
  have h60' : ¬ (60 : Int) < l.length := by omega
  simp only [un_not_z, Bool.not_true, hlx, i64_gtr, gt_iff_lt, h60', decide_false, tk_eq, opt_some, ifB_false]
  refine Two.start hE 200 200 fun p m L t nv mv Y H2 h2 => ?_
  have hlx2 := (hl.mono (e1.trans h2.ext)).lenSlc
  rw [strR_length] at hlx2
  rw [hlx2, opt_some]
  refine LoopL.count l.length (fun j ls H' => ls = [str s, ptr p 0, ptr t 0, xv, vi l.length, vi j] ∧ ∃ L T nv Y, Two H1 H' p m L T t nv mv 1 mntTop Y T ∧ NamesI T j) ?_ ⟨rfl, L, _, nv, Y, h2, Tr.new_wf 200, ⟨by decide, by decide⟩, fun n hn => ?_, fun h => (h rfl).elim⟩
  rotate_left
  · left
    unfold Tr.new Tr.node
    simp only [List.getD_eq_getElem?_getD]
    by_cases h0 : n.toNat = 0
    · rw [h0]; rfl
    · have h1 : n.toNat ≠ 1 := fun e => hn (BitVec.eq_of_toNat_eq (by simpa using e))
      rw [List.getElem?_eq_none (by simp; omega)]
      rfl
  rintro j _ H3 X hj hX ⟨rfl, L, T, nv, Y, h3, hN⟩
  have e13 := e1.trans h3.ext
  by_cases hjl : j < l.length
  · have hjl' : (j : Int) < l.length := by omega
    obtain ⟨b1, o1, p1, p2⟩ := (hl.mono e13).ix (i := j) (by rw [strR_length]; exact hjl)
    have hrow : (strR l)[j]'(by rw [strR_length]; exact hjl) = [str l[j]] := by simp [strR]
    rw [hrow] at p2
    have p3 : (H3.get b1).cell o1 = some (str l[j]) := by have := row_at p2 (j := 0) (by omega); simpa using this
    have hlj := hls l[j] (List.getElem_mem hjl)
    have hch := hN.ch
    simp only [F.f19_l1, nth_0, nth_1, nth_2, nth_3, nth_4, nth_5, i64_lss, hjl', decide_true, p1, load1_ptr, p3, tk_eq, opt_some, ifB_true]
    refine Two.cMake hE h3 hN.wf 1#16 l[j] hlj 1#8 [] (by decide) ⟨by omega, by omega⟩ fun L4 H4 h4 => ?_
    simp only [ext_tuple, List.getElem?_cons_zero, List.getElem?_cons_succ, tk_eq, opt_some]
    refine Two.rMake hE h4 hN.wf 1#16 l[j] hlj 1#8 [] ⟨by omega, by omega⟩ fun nv5 Y5 H5 h5 => ?_
    have hjj := i64_inc (i := j) (by omega)
    simp
    rw [hjj, opt_some]
    exact hX hjl _ _ ⟨rfl, L4, _, nv5, Y5, h5, hN.make l[j]⟩
  · have hjl' : ¬ (j : Int) < l.length := by omega
    simp only [F.f19_l1, nth_0, nth_1, nth_2, nth_3, nth_4, nth_5, i64_lss, hjl', decide_false, tk_eq, opt_some, ifB_false]
    have hsz := hN.wf.size 1#16
    refine S.f7 hE h3.ino 1#16 (hN.wf.rising _) (by omega) fun v4 H4 e4 r4 => ?_
    have h4 := h3.mono e4
    have hd1 : T.dir 1#16 = 0 := Tr.dir_zero.2 hN.wf.root.1
    have hent : T.entries 1#16 = (T.node 1#16).ents.map Prod.fst := by rw [Tr.entries, if_pos hd1]
    rw [hent] at r4
    have hl4 := r4.lenSlc
    rw [strR_length, List.length_map] at hl4
    obtain ⟨y1, b1, o1, q1, q2, q3⟩ := h4.ref.at_ (n := 1#16) (by have := hN.wf.len.1; show 1 < T.N.length; omega)
    have q2 : ixSlc 7 nv (.int .i64 1) = some (ptr b1 o1) := q2
    obtain ⟨_, _, c2, _⟩ := q3.cell
    have hll4 := q3.lenL
    have hh4 := h4.ref.head
    rw [hd1]
    simp only [ext_tuple, nth_0, nth_1, nth_2, nth_3, nth_4, nth_5, List.getElem?_cons_zero, List.getElem?_cons_succ, i64_neq, ne_eq, not_true, decide_false, gd_ff, hl4, nilCk_p, addOff_ptr, load1_ptr, Nat.add_zero, hh4, cell_cells_z, TreeI.at0, q2, c2, hll4, pick_false_z, tk_eq, opt_some, ifB_false]
    refine LoopL.count (T.node 1#16).ents.length (fun i ls H' => ls = [str s, ptr p 0, ptr t 0, v4, v4, vi (T.node 1#16).ents.length, vi i] ∧ H4 = H') ?_ ⟨rfl, rfl⟩
    rintro i _ _ X2 hi hX2 ⟨rfl, rfl⟩
    by_cases hil : i < (T.node 1#16).ents.length
    · have hil' : (i : Int) < (T.node 1#16).ents.length := by omega
      obtain ⟨b5, o5, w1, w2⟩ := r4.ix (i := i) (by rw [strR_length, List.length_map]; exact hil)
      have hrow5 : (strR ((T.node 1#16).ents.map Prod.fst))[i]'(by rw [strR_length, List.length_map]; exact hil) = [str (T.node 1#16).ents[i].1] := by simp [strR]
      rw [hrow5] at w2
      have w3 : (H4.get b5).cell o5 = some (str (T.node 1#16).ents[i].1) := by have := row_at w2 (j := 0) (by omega); simpa using this
      obtain ⟨b6, o6, x1, x2⟩ := q3.2.2.ix (i := i) (by rw [entR_length]; exact hil)
      have hrow6 : (entR (T.node 1#16).ents)[i]'(by rw [entR_length]; exact hil) = [str (T.node 1#16).ents[i].1, vi ((T.node 1#16).ents[i].2.toNat : Int)] := by simp [entR]
      rw [hrow6] at x2
      have x3 : (H4.get b6).cell o6 = some (str (T.node 1#16).ents[i].1) := by have := row_at x2 (j := 0) (by omega); simpa using this
      have hii := i64_inc (i := i) (by omega)
      have hX2 := hX2 hil [str s, ptr p 0, ptr t 0, v4, v4, vi (T.node 1#16).ents.length, vi ((i + 1 : Nat) : Int)] H4 ⟨rfl, rfl⟩
      simp only [F.f19_l2, nth_0, nth_1, nth_2, nth_3, nth_4, nth_5, nth_6, i64_lss, hil', decide_true, w1, load1_ptr, w3, nilCk_p, addOff_ptr, Nat.add_zero, hh4, cell_cells_z, TreeI.at0, q2, c2, x1, x3, binStr_neq, ne_eq, not_true, decide_false, hii, tk_eq, opt_some, ifB_true, ifB_false]
      exact hX2
    · have hil' : ¬ (i : Int) < (T.node 1#16).ents.length := by omega
      have u2 : (.int .u16 2 : Value) = u16 2#16 := rfl
      have u999 : (.int .u16 999 : Value) = u16 999#16 := rfl
      simp only [F.f19_l2, nth_0, nth_1, nth_2, nth_3, nth_4, nth_5, nth_6, i64_lss, hil', decide_false, u2, u999, tk_eq, opt_some, ifB_false]
      have hsz2 := hN.wf.size 2#16
      have hsz9 := hN.wf.size 999#16
      refine S.f7 hE h4.ino 2#16 (hN.wf.rising _) (by omega) fun v6 H6 e6 _ => ?_
      simp only [ext_tuple, List.getElem?_cons_zero, List.getElem?_cons_succ, tk_eq, opt_some]
      have h6 := h4.mono e6
      refine S.f7 hE h6.ino 999#16 (hN.wf.rising _) (by omega) fun v7 H7 e7 _ => ?_
      simp only [ext_tuple, List.getElem?_cons_zero, List.getElem?_cons_succ, tk_eq, opt_some]
      refine S.f2 hE s hs fun H8 e8 => ?_
      refine S.f20 hE s hs ?_
      have h999 : T.dir 999#16 = 2 := by
        have : T.node 999#16 = Nd.none := by
          simp only [Tr.node, List.getD_eq_getElem?_getD]
          rw [List.getElem?_eq_none (by have := hN.wf.len16; show T.N.length ≤ 999; omega)]
          rfl
        simp [Tr.dir, this, Nd.none]
      have hl8 : AM.lenSlc v4 = some (vi (T.node 1#16).ents.length) := hl4
      rcases hN.files 2#16 (by decide) with k0 | k1
      · have hdir : T.dir 2#16 = 2 := by simp [Tr.dir, k0]
        have hemp : (T.node 1#16).ents = [] := Classical.byContradiction fun hc => hN.first hc k0
        simp [h999, hdir, hl8, hemp]
        exact hQ _
      · have hdir : T.dir 2#16 = 20 := by simp [Tr.dir, k1]
        simp [h999, hdir]
        exact hQ _
theorem S.law_InodeNames (hE : Fold E) (args : List Value) (ha : ArgsSV H [.str, .slice 1 .str] args) (hQ : ∀ H', Q (vb true) H') : E.call (E.fid i.f19) args H Q := by
  obtain ⟨v1, _, rfl, h1, ha⟩ := ha.cons_inv
  obtain ⟨v2, _, rfl, h2, ha⟩ := ha.cons_inv
  obtain rfl := ha.nil_inv
  obtain ⟨s, e1, h1⟩ := (show SV H .str [v1] from h1)
  obtain rfl : v1 = str s := by simpa using e1
  obtain ⟨l, q1, q2, q3⟩ := ArgSV.strs h2
  exact S.f19 hE s (by omega) v2 l q1 (by omega) (fun x hx => by have := q3 x hx; omega) hQ
end
end Go.AM
end
