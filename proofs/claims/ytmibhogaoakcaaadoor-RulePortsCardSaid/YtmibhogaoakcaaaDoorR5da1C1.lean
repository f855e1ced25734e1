/- CONTRACTS ON THE PRINTED FUNCTIONS. -/
import Derived.Test.YtmibhogaoakcaaaDoorR5da1C0
set_option linter.all false
section
namespace Go.AM
def Tr.Below (T : Tr) (n : BitVec 16) : Nat → BitVec 16 → Prop
  | 0, m => m = n
  | j + 1, m => m ≠ 1#16 ∧ T.Below n j (T.node m).parent
section
variable {T T' T1 : Tr} {n k : BitVec 16}
theorem Tr.WF.no_loop (h : T.WF) {m : BitVec 16} (hm : T.Live m) (h1 : m ≠ 1#16) : m ≠ (T.node m).parent := by
  intro e
  have := h.deep_succ hm h1
  rw [← e] at this
  omega
theorem Tr.WF.not_below (h : T.WF) : ∀ (f : Nat) (m : BitVec 16), T.Live m → T.rootIn f m → T.withinF n (f + 1) m = false → ∀ j, ¬ T.Below n j m
  | f, m, hm, hr, hw, 0, hb => by
    have hb : m = n := hb
    subst hb
    simp [Tr.withinF, hm.1] at hw
  | 0, m, hm, hr, hw, j + 1, hb => hb.1 hr
  | f + 1, m, hm, hr, hw, j + 1, hb => by
    have hp := h.above hm hb.1
    have hl := h.no_loop hm hb.1
    have hr' := hr.resolve_left hb.1
    by_cases e : m = n
    · subst e
      simp [Tr.withinF, hm.1] at hw
    · rw [Tr.withinF] at hw
      simp only [hm.1, ne_eq, not_true, if_false, if_neg e, if_neg hl] at hw
      exact Tr.WF.not_below h f _ hp.1 hr'.2 hw j hb.2
theorem foldl_max (g : NameL × BitVec 16 → Nat) (p : NameL × BitVec 16 → Prop) [DecidablePred p] : ∀ (l : List (NameL × BitVec 16)) (b : Nat), b ≤ l.foldl (fun b e => if p e then max b (g e) else b) b ∧ ∀ e ∈ l, p e → g e ≤ l.foldl (fun b e => if p e then max b (g e) else b) b
  | [], b => ⟨Nat.le_refl _, by simp⟩
  | x :: l, b => by
    simp only [List.foldl_cons]
    obtain ⟨h1, h2⟩ := foldl_max g p l (if p x then max b (g x) else b)
    refine ⟨Nat.le_trans ?_ h1, fun e he hp => ?_⟩
    · split <;> omega
    · rcases List.mem_cons.1 he with rfl | he
      · refine Nat.le_trans ?_ h1
        rw [if_pos hp]; omega
      · exact h2 e he hp
theorem Tr.WF.tall_succ (h : T.WF) {m : BitVec 16} (hm : T.Live m) (h1 : m ≠ 1#16) : T.tall m + 1 ≤ T.tall (T.node m).parent := by
  obtain ⟨hp, s, hs⟩ := h.above hm h1
  unfold Tr.tall
  have e1 := Tr.tallF_eq T 17 m (h.fits17 hm) 20 (by omega)
  have e2 := Tr.tallF_eq T 17 m (h.fits17 hm) 19 (by omega)
  rw [e1, ← e2]
  have := (foldl_max (fun e => T.tallF 19 e.2) (fun e => (T.node e.2).kind = 2#8) (T.node (T.node m).parent).ents 0).2 (s, m) hs hm.1
  have e3 : T.tallF 20 (T.node m).parent = ((T.node (T.node m).parent).ents.foldl (fun b e => if (T.node e.2).kind = 2#8 then max b (T.tallF 19 e.2) else b) 0) + 1 := rfl
  rw [e3]
  exact Nat.succ_le_succ this
theorem Tr.tall_pos (T : Tr) (m : BitVec 16) : 1 ≤ T.tall m := by
  have : T.tall m = ((T.node m).ents.foldl (fun b e => if (T.node e.2).kind = 2#8 then max b (T.tallF 19 e.2) else b) 0) + 1 := rfl
  omega
theorem Tr.WF.below_tall (h : T.WF) : ∀ (j : Nat) (m : BitVec 16), T.Live m → T.Below n j m → j + T.tall m ≤ T.tall n
  | 0, m, _, hb => by
    have hb : m = n := hb
    subst hb; omega
  | j + 1, m, hm, hb => by
    have h1 := h.tall_succ hm hb.1
    have h2 := Tr.WF.below_tall h j _ (h.above hm hb.1).1 hb.2
    omega
theorem Tr.WF.moved (h : T1.WF) (fr to n : BitVec 16) (s other : NameL) (hs : alook s (T1.node fr).ents = some n) (hto : T1.Live to) (ho : alook other ((T1.upd fr (Nd.delE s)).node to).ents = none) (hlen : ((T1.upd fr (Nd.delE s)).node to).ents.length < 32)
    (hok : okName other = true) (hdir : (T1.node n).kind = 2#8 → (∀ j, ¬ T1.Below n j to) ∧ ∀ j m, T1.Live m → T1.Below n j m → T1.deep to + j + 1 ≤ 16) : (Tr.moved T1 fr s to other n).WF := by
  have hsm := alook_mem hs
  obtain ⟨f1, f2, f3, f4, f5, f6⟩ := h.ents fr s n hsm
  have hf0 : (T1.node fr).kind ≠ 0#8 := by rw [f1]; decide
  have ht0 : (T1.node to).kind ≠ 0#8 := by rw [hto.1]; decide
  have hnt : n ≠ to := by
    rintro rfl
    exact (hdir hto.1).1 0 rfl
  have hV := fun k => Tr.node_upd hf0 (Nd.delE s) k
  obtain ⟨V, hVd⟩ : ∃ V, V = T1.upd fr (Nd.delE s) := ⟨_, rfl⟩
  unfold Tr.moved
  rw [← hVd] at hV ho hlen ⊢
  have hVsub : ∀ m x, x ∈ (V.node m).ents → x ∈ (T1.node m).ents := by
    intro m x hx
    rw [hV] at hx
    split at hx
    · rename_i e; subst e; exact (adel_sub s _).subset hx
    · exact hx
  have hVk : ∀ m, (V.node m).kind = (T1.node m).kind ∧ (V.node m).parent = (T1.node m).parent ∧ (V.node m).links = (T1.node m).links ∧ (V.node m).held = (T1.node m).held ∧ (V.node m).data = (T1.node m).data ∧ ((T1.node m).kind = 0#8 → V.node m = T1.node m) := by
    intro m
    rw [hV]
    split
    · rename_i e; subst e; exact ⟨rfl, rfl, rfl, rfl, rfl, fun e => (hf0 e).elim⟩
    · exact ⟨rfl, rfl, rfl, rfl, rfl, fun _ => rfl⟩
  have hVr : ∀ m, V.refs m + (if n = m then 1 else 0) = T1.refs m := by
    intro m
    have := Tr.refs_upd (Tr.node_lt hf0) (Nd.delE s) m
    have e : cntE m (Nd.delE s (T1.node fr)).ents + (if n = m then 1 else 0) = cntE m (T1.node fr).ents := cntE_del m hs
    rw [hVd]; omega
  have hVt0 : (V.node to).kind ≠ 0#8 := by rw [(hVk to).1]; exact ht0
  have hU := fun k => Tr.node_upd hVt0 (Nd.addE other n) k
  obtain ⟨U, hUd⟩ : ∃ U, U = V.upd to (Nd.addE other n) := ⟨_, rfl⟩
  rw [← hUd] at hU ⊢
  have hUk : ∀ m, (U.node m).kind = (T1.node m).kind ∧ (U.node m).parent = (T1.node m).parent ∧ (U.node m).links = (T1.node m).links ∧ (U.node m).held = (T1.node m).held ∧ (U.node m).data = (T1.node m).data ∧ ((T1.node m).kind = 0#8 → U.node m = T1.node m) := by
    intro m
    rw [hU]
    split
    · rename_i e; subst e
      obtain ⟨q1, q2, q3, q4, q5, q6⟩ := hVk m
      exact ⟨q1, q2, q3, q4, q5, fun e => (ht0 e).elim⟩
    · exact hVk m
  have hUr : ∀ m, U.refs m = T1.refs m := by
    intro m
    have := Tr.refs_upd (Tr.node_lt hVt0) (Nd.addE other n) m
    have e : cntE m (Nd.addE other n (V.node to)).ents = cntE m (V.node to).ents + if n = m then 1 else 0 := cntE_insert m (other, n) _
    have := hVr m
    rw [hUd]; omega
  have hUN : U.N.length = T1.N.length ∧ U.limit = T1.limit := by rw [hUd, hVd]; simp [Tr.upd]
  obtain ⟨W, hWd⟩ : ∃ W, W = (if (T1.node n).kind = 2#8 then U.upd n (fun x => { x with parent := to }) else U) := ⟨_, rfl⟩
  show Tr.WF (Tr.bump (if (T1.node n).kind = 2#8 then U.upd n (fun x => { x with parent := to }) else U))
  rw [← hWd]
  have hUn0 : (U.node n).kind ≠ 0#8 := by rw [(hUk n).1]; exact f4
  have hW : ∀ m, (W.node m).kind = (T1.node m).kind ∧ (W.node m).parent = (if m = n ∧ (T1.node n).kind = 2#8 then to else (T1.node m).parent) ∧ (W.node m).links = (T1.node m).links ∧ (W.node m).held = (T1.node m).held ∧ (W.node m).data = (T1.node m).data ∧ ((T1.node m).kind = 0#8 → W.node m = T1.node m) ∧ (W.node m).ents = (U.node m).ents := by
    intro m
    obtain ⟨q1, q2, q3, q4, q5, q6⟩ := hUk m
    rw [hWd]
    split
    · rename_i hd
      rw [Tr.node_upd hUn0]
      split
      · rename_i e; subst e
        exact ⟨q1, by simp [hd], q3, q4, q5, fun e => (f4 e).elim, rfl⟩
      · rename_i e
        exact ⟨q1, by simp [e, q2], q3, q4, q5, q6, rfl⟩
    · rename_i hd
      exact ⟨q1, by simp [hd, q2], q3, q4, q5, q6, rfl⟩
  have hWr : ∀ m, W.refs m = T1.refs m := by
    intro m
    rw [← hUr m, hWd]
    split
    · exact Tr.refs_upd_same (Tr.node_lt hUn0) m rfl
    · rfl
  have hWN : W.N.length = T1.N.length ∧ W.limit = T1.limit := by
    rw [hWd]
    split
    · simpa [Tr.upd] using hUN
    · exact hUN
  have stay : ∀ {f m}, T1.Live m → ((T1.node n).kind = 2#8 → ∀ j, ¬ T1.Below n j m) → T1.rootIn f m → W.rootIn f m := by
    intro f m hm hb
    refine Tr.rootIn_of (fun m => T1.Live m ∧ ((T1.node n).kind = 2#8 → ∀ j, ¬ T1.Below n j m)) (fun m hm hm1 => ?_) ⟨hm, hb⟩
    refine ⟨by rw [(hW m).1]; exact hm.1.1, ?_, (h.above hm.1 hm1).1, fun hd j hb => hm.2 hd (j + 1) ⟨hm1, hb⟩⟩
    rw [(hW m).2.1, if_neg]
    rintro ⟨e, hd⟩
    exact hm.2 hd 0 e
  have hdto : T1.rootIn (T1.deep to) to := by
    have h1 := h.depth to hto.1 hto.2
    unfold Tr.deep
    rw [Tr.deepF_root h1 (g := 17) (by omega)]
    exact Tr.rootIn_deep h1
  have fall : (T1.node n).kind = 2#8 → ∀ (j : Nat) (m : BitVec 16), T1.Live m → T1.Below n j m → W.rootIn (T1.deep to + j + 1) m := by
    intro hd j
    have at_n : W.rootIn (T1.deep to + 1) n := by
      refine .inr ⟨by rw [(hW n).1]; exact hd, ?_⟩
      rw [(hW n).2.1, if_pos ⟨rfl, hd⟩]
      exact stay hto (fun _ => (hdir hd).1) hdto
    induction j with
    | zero =>
      intro m hm hb
      have hb : m = n := hb
      subst hb
      exact at_n
    | succ j ih =>
      intro m hm hb
      by_cases e : m = n
      · subst e
        exact Tr.rootIn_mono at_n (by omega)
      · refine .inr ⟨by rw [(hW m).1]; exact hm.1, ?_⟩
        rw [(hW m).2.1, if_neg fun x => e x.1]
        exact ih _ (h.above hm hb.1).1 hb.2
  refine Tr.WF.bump ⟨by rw [hWN.2]; exact h.lim, by rw [hWN.1, hWN.2]; exact h.len, by rw [(hW _).1]; exact h.n0, fun m hm => ?_, ?_, fun m s' k hk => ?_, fun m => ?_, fun m => ?_, fun m h1 h2 => ?_, fun m h2 => ?_, fun m => ?_, fun m h1 h2 => ?_, fun m => ?_⟩
  · rw [(hW m).1] at hm
    rw [(hW m).2.2.2.2.2.1 hm]
    exact h.zero m hm
  · obtain ⟨q1, q2, q3, _⟩ := hW 1#16
    rw [q1, q2, q3, if_neg fun x => f5 x.1.symm]
    exact h.root
  · rw [(hW m).2.2.2.2.2.2] at hk
    have old : (s', k) ∈ (V.node m).ents → (W.node m).kind = 2#8 ∧ (W.node m).links ≠ 0 ∧ okName s' = true ∧ (W.node k).kind ≠ 0#8 ∧ k ≠ 1#16 ∧ ((W.node k).kind = 2#8 → (W.node k).parent = m) := by
      intro hv
      have he := h.ents m s' k (hVsub m _ hv)
      rw [(hW m).1, (hW m).2.2.1, (hW k).1, (hW k).2.1, if_neg]
      · exact he
      · rintro ⟨e, hd⟩
        subst e
        have h1 := Tr.refs_one hv
        have h2 := hVr k
        have h3 := h.dirs k hd
        rw [if_pos rfl] at h2
        omega
    rw [hU] at hk
    split at hk
    · rename_i e; subst e
      rcases mem_insertE.1 hk with g | g
      · simp only [Prod.mk.injEq] at g
        obtain ⟨rfl, rfl⟩ := g
        rw [(hW m).1, (hW m).2.2.1, (hW k).1, (hW k).2.1]
        exact ⟨hto.1, hto.2, hok, f4, f5, fun hd => if_pos ⟨rfl, hd⟩⟩
      · exact old g
    · exact old hk
  · rw [(hW m).2.2.2.2.2.2]
    have hv : ∀ m, Rising (V.node m).ents := fun m => by
      rw [hV]; split
      · exact (h.rising fr).del
      · exact h.rising m
    rw [hU]; split
    · exact (hv to).insert ho
    · exact hv m
  · rw [(hW m).2.2.2.2.2.2, hU]; split
    · show (insertE (other, n) (V.node to).ents).length ≤ 32
      rw [insertE_length]; omega
    · rw [hV]; split
      · exact Nat.le_trans (adel_sub s _).length_le (h.size fr)
      · exact h.size m
  · rw [(hW m).1] at h2
    rw [(hW m).2.2.1, hWr]
    exact h.links m h1 h2
  · rw [(hW m).1] at h2
    rw [hWr]; exact h.dirs m h2
  · rw [(hW m).2.2.2.1]; exact h.held m
  · rw [(hW m).1] at h1
    rw [(hW m).2.2.1] at h2
    by_cases hb : (T1.node n).kind = 2#8 ∧ ∃ j, T1.Below n j m
    · obtain ⟨hd, j, hb⟩ := hb
      exact Tr.rootIn_mono (fall hd j m ⟨h1, h2⟩ hb) ((hdir hd).2 j m ⟨h1, h2⟩ hb)
    · exact stay ⟨h1, h2⟩ (fun hd j hj => hb ⟨hd, j, hj⟩) (h.depth m h1 h2)
  · rw [(hW m).2.2.2.2.1]; exact h.data m
theorem adel_length {s : NameL} {v : BitVec 16} : ∀ {l : List (NameL × BitVec 16)}, alook s l = some v → (adel s l).length + 1 = l.length
  | [], h => by simp [alook] at h
  | e :: l, h => by
    rw [alook_cons] at h
    by_cases he : s = e.1
    · subst he
      simp [adel]
    · rw [if_neg he] at h
      have := adel_length h
      have he' : ¬ e.1 = s := fun x => he x.symm
      simp only [adel, if_neg he', List.length_cons]
      omega
theorem Tr.deepF_of (P : BitVec 16 → Prop) (hP : ∀ m, P m → m ≠ 1#16 → (T'.node m).parent = (T.node m).parent ∧ P (T.node m).parent) : ∀ (f : Nat) (m : BitVec 16), P m → T'.deepF f m = T.deepF f m
  | 0, _, _ => rfl
  | f + 1, m, hm => by
    simp only [Tr.deepF]
    split
    · rfl
    · rename_i h1
      obtain ⟨q1, q2⟩ := hP m hm h1
      rw [q1, Tr.deepF_of P hP f _ q2]
theorem Tr.tidy_self {y : BitVec 16} (hk : (T.node y).kind ≠ 0#8) (h : ((T.tidy y).node y).kind = 2#8) : (T.node y).kind = 2#8 ∧ ((T.tidy y).node y).links = (T.node y).links := by
  unfold Tr.tidy at h ⊢
  split
  · rename_i hc
    rw [if_pos hc, Tr.node_upd hk, if_pos rfl] at h
    simp [Nd.none] at h
  · rename_i hc
    rw [if_neg hc] at h
    exact ⟨h, rfl⟩
theorem Tr.WF.drop_gone (h : T.WF) {to o : BitVec 16} {other : NameL} {d : Bool} (hl : T.look to other = (o, 0)) (h0 : (T.drop to other d).2 = 0) : ¬ (T.drop to other d).1.Live o := by
  have hw := h.drop to other d
  intro hlv
  have hlk : (T.look to other).2 = 0 := by rw [hl]
  obtain ⟨g1, g2⟩ := Tr.look_ok hlk
  rw [hl] at g2
  have g2 : alook other (T.node to).ents = some o := g2
  have hm : (other, o) ∈ (T.node to).ents := alook_mem g2
  obtain ⟨e1, e2, e3, o0, o1, e6⟩ := h.ents to other o hm
  have hoi : o ≠ to := by rintro rfl; exact h.no_self hm
  have hin : (T.node to).kind ≠ 0#8 := by rw [e1]; decide
  have hv1 : ((T.upd to (Nd.delE other)).node o) = T.node o := by rw [Tr.node_upd hin, if_neg hoi]
  have hv2 : (((T.upd to (Nd.delE other)).upd o (Nd.addL (-1))).bump).node o = Nd.addL (-1) (T.node o) := by
    rw [Tr.bump_node, Tr.node_upd (by rw [hv1]; exact o0), if_pos rfl, hv1]
  have hd : (T.drop to other d).1 = (((T.upd to (Nd.delE other)).upd o (Nd.addL (-1))).bump).tidy o := by
    unfold Tr.drop at h0 ⊢
    rw [hl] at h0 ⊢
    simp only [ne_eq, not_true, if_false] at h0 ⊢
    split
    · rename_i c; rw [if_pos c] at h0; simp at h0
    · split
      · rename_i c c'; rw [if_neg c, if_pos c'] at h0; simp at h0
      · split
        · rename_i c c' c''; rw [if_neg c, if_neg c', if_pos c''] at h0; simp at h0
        · rfl
  rw [hd] at hlv
  obtain ⟨q1, q2⟩ := Tr.tidy_self (by rw [hv2]; exact o0) hlv.1
  rw [hv2] at q1 q2
  have hk : (T.node o).kind = 2#8 := q1
  have h1 := h.dirs o hk
  have h2 := h.links o o1 o0
  have h3 := Tr.refs_one hm
  apply hlv.2
  rw [q2]
  show (T.node o).links + -1 = 0
  omega
theorem Tr.WF.move (h : T.WF) (fr : BitVec 16) (s : NameL) (to : BitVec 16) (other : NameL) : (T.move fr s to other).1.WF := by
  unfold Tr.move
  split
  · exact h
  split
  · exact h
  split
  · exact h
  split
  · exact h
  split
  · exact h
  rename_i c1 c2 c3 c4 c5
  have c1 : (T.look fr s).2 = 0 := by simpa using c1
  have c2 : T.dir to = 0 := by simpa using c2
  obtain ⟨k1, k2⟩ := Tr.look_ok c1
  have k3 := Tr.dir_zero.1 c2
  generalize (T.look fr s).1 = n at *
  have c5 : T.may n to other (alook other (T.node to).ents) = 0 := by simpa using c5
  have hmo := Tr.mayOld_of c5
  unfold Tr.may at c5
  have p1 : okName other = true := by
    cases ho : okName other with
    | true => rfl
    | false => simp [ho] at c5
  have p2 : (T.node to).links ≠ 0 := by
    intro hz
    simp [p1, hz] at c5
  have p3 : (T.node n).kind = 2#8 → T.within n to = false := by
    intro hd
    cases hw : T.within n to with
    | false => rfl
    | true => simp [p1, p2, hd, hw] at c5
  have p4 : (T.node n).kind = 2#8 → T.deep to + T.tall n ≤ 16 := by
    intro hd
    refine Classical.byContradiction fun hc => ?_
    have hc : 16 < T.deep to + T.tall n := by omega
    simp [p1, p2, hd, p3 hd, hc] at c5
  have hto : T.Live to := ⟨k3, p2⟩
  have fr0 : (T.node fr).kind ≠ 0#8 := by rw [k1]; decide
  have hnb : (T.node n).kind = 2#8 → ∀ j, ¬ T.Below n j to := by
    intro hd
    refine h.not_below 16 to hto (h.depth to k3 p2) ?_
    have := p3 hd
    unfold Tr.within at this
    rwa [Tr.withinF_root h.root.1 h.root.2.1 n (h.depth to k3 p2) (g := 18) (by omega)] at this
  have hbt : (T.node n).kind = 2#8 → ∀ j m, T.Live m → T.Below n j m → T.deep to + j + 1 ≤ 16 := by
    intro hd j m hm hb
    have h1 := h.below_tall j m hm hb
    have h2 := Tr.tall_pos T m
    have h3 := p4 hd
    omega
  cases ho : alook other (T.node to).ents with
  | none =>
    simp only [Option.isSome_none, Bool.false_eq_true, if_false]
    have hV := Tr.node_upd fr0 (Nd.delE s) to
    refine h.moved fr to n s other k2 hto ?_ ?_ p1 fun hd => ⟨hnb hd, hbt hd⟩
    · rw [hV]; split
      · rename_i e
        show alook other (adel s (T.node fr).ents) = none
        rw [alook_adel _ _ (h.rising fr).nodup, ← e, ho]
        split <;> rfl
      · exact ho
    · rw [hV]; split
      · have := adel_length k2
        have := h.size fr
        show (adel s (T.node fr).ents).length < 32
        omega
      · rename_i e
        refine Classical.byContradiction fun hc => c4 ⟨ho, fun x => e x.symm, by omega⟩
  | some o =>
    simp only [Option.isSome_some, if_true]
    rw [ho] at hmo c3
    have hon : o ≠ n := fun e => c3 (by rw [e])
    obtain ⟨e1, e2, e3, o0, o1, e6⟩ := h.pos ho
    obtain ⟨g1, g2⟩ := Tr.drop_ok k3 ho hmo o0
    have hlk : T.look to other = (o, 0) := by
      unfold Tr.look
      simp [c2, ho]
    have hgone := h.drop_gone (d := decide ((T.node n).kind = 2#8)) hlk g1
    have h1 := h.drop to other (decide ((T.node n).kind = 2#8))
    generalize (T.drop to other (decide ((T.node n).kind = 2#8))).1 = T1 at *
    have hm := hmo
    unfold Tr.mayOld at hm
    have of : fr ≠ o := by
      rintro rfl
      have hpos : 0 < (T.node fr).ents.length := by
        cases he : (T.node fr).ents with
        | nil => rw [he] at k2; simp [alook] at k2
        | cons a b => simp
      simp only [k1] at hm
      by_cases d1 : (T.node n).kind = 2#8
      · simp [d1, hpos] at hm
      · simp [d1] at hm
    have ot : to ≠ o := fun e => h.no_self (n := to) (s := other) (by have := alook_mem ho; rwa [← e] at this)
    have hsame : ∀ m, m ≠ o → (T1.node m).kind = (T.node m).kind ∧ (T1.node m).parent = (T.node m).parent ∧ (T1.node m).links = (T.node m).links := by
      intro m hmo
      rw [g2 m hmo]
      split
      · rename_i e; subst e; exact ⟨rfl, rfl, rfl⟩
      · exact ⟨rfl, rfl, rfl⟩
    have hlive : ∀ m, T1.Live m → m ≠ o ∧ T.Live m := by
      intro m hlv
      have hmo : m ≠ o := fun e => hgone (by rw [← e]; exact hlv)
      obtain ⟨q1, q2, q3⟩ := hsame m hmo
      exact ⟨hmo, by rw [← q1]; exact hlv.1, by rw [← q3]; exact hlv.2⟩
    have hbel : ∀ j m, T1.Live m → T1.Below n j m → T.Below n j m := by
      intro j
      induction j with
      | zero => intro m _ hb; exact hb
      | succ j ih =>
        intro m hm hb
        refine ⟨hb.1, ?_⟩
        rw [← (hsame m (hlive m hm).1).2.1]
        exact ih _ (h1.above hm hb.1).1 hb.2
    have hto1 : T1.Live to := by
      obtain ⟨q1, q2, q3⟩ := hsame to ot
      exact ⟨by rw [q1]; exact k3, by rw [q3]; exact p2⟩
    have hdp : T1.deep to = T.deep to := by
      unfold Tr.deep
      refine (Tr.deepF_of T1.Live (fun m hm hm1 => ?_) 17 to hto1).symm
      exact ⟨((hsame m (hlive m hm).1).2.1).symm, (h1.above hm hm1).1⟩
    have hso : fr = to → s ≠ other := by
      rintro e rfl
      rw [e, ho] at k2
      exact hon (Option.some.inj k2)
    have hfr1 : alook s (T1.node fr).ents = some n := by
      rw [g2 fr of]
      split
      · rename_i e
        show alook s (adel other (T.node to).ents) = some n
        rw [alook_adel _ _ (h.rising to).nodup, if_neg (hso e), ← e, k2]
      · exact k2
    have fr10 : (T1.node fr).kind ≠ 0#8 := by rw [(hsame fr of).1]; exact fr0
    have hV := Tr.node_upd fr10 (Nd.delE s) to
    have hent : (T1.node to).ents = adel other (T.node to).ents := by rw [g2 to ot, if_pos rfl]; rfl
    have hdl := adel_length ho
    have hsz := h.size to
    refine h1.moved fr to n s other hfr1 hto1 ?_ ?_ p1 fun hd => ?_
    · rw [hV]; split
      · rename_i e
        show alook other (adel s (T1.node fr).ents) = none
        rw [alook_adel _ _ (h1.rising fr).nodup, ← e, hent, alook_adel _ _ (h.rising to).nodup]
        simp
      · rw [hent, alook_adel _ _ (h.rising to).nodup, if_pos rfl]
    · rw [hV]; split
      · rename_i e
        have := (adel_sub s (T1.node fr).ents).length_le
        rw [← e, hent] at this
        show (adel s (T1.node fr).ents).length < 32
        rw [← e, hent]
        omega
      · rw [hent]; omega
    · rw [(hsame n (Ne.symm hon)).1] at hd
      rw [hdp]
      exact ⟨fun j hb => hnb hd j (hbel j to hto1 hb), fun j m hm hb => hbt hd j m (hlive m hm).2 (hbel j m hm hb)⟩
end
end Go.AM
end
section
namespace Go.AM
section
variable {T T' : Tr} {n k : BitVec 16} {B : Int}
theorem Tr.upd_or (T : Tr) (n k : BitVec 16) (f : Nd → Nd) : (T.upd n f).node k = T.node k ∨ (T.upd n f).node k = f (T.node k) := by
  unfold Tr.upd Tr.node
  simp only [List.getD_eq_getElem?_getD, List.getElem?_modify]
  cases h : T.N[k.toNat]? with
  | none => exact .inl rfl
  | some x =>
    by_cases e : n.toNat = k.toNat
    · right; simp [e]
    · left; simp [e]
end
end Go.AM
end
section
namespace Go.AM
def topP : PlaceD := ⟨0, 1#16⟩
def dirP (T : Tr) (M : List MntD) (p : PlaceD) : Bool := (getT M p.m).isSome && decide ((T.node p.i).kind = 2#8)
def downsN (M : List MntD) : Nat → PlaceD → PlaceD
  | 0, p => p
  | n + 1, p => match downT M p with
    | none => p
    | some q => downsN M n q
def downs (M : List MntD) (p : PlaceD) : PlaceD := downsN M M.length p
def upP (T : Tr) (M : List MntD) (p : PlaceD) : PlaceD :=
  if dirP T M p = true then if (T.node (downs M p).i).kind = 0#8 then topP else seen M ⟨(downs M p).m, (T.node (downs M p).i).parent⟩ else topP
def splitF (cur : NameL) : List UInt8 → List NameL
  | [] => [cur]
  | c :: s => if c = 47 then cur :: splitF [] s else splitF (cur ++ [c]) s
def okPart (x : NameL) : Bool := decide (x ≠ []) && decide (x ≠ [46])
def partsL (s : List UInt8) : List NameL := (splitF [] s).filter okPart
structure WayD where
  at_ : PlaceD
  left : List NameL
  links : Nat
  deriving DecidableEq
def stepY (T : Tr) (M : List MntD) (w : WayD) (follow : Bool) : WayD × Int :=
  match w.left with
  | [] => (w, 0)
  | name :: left =>
    if dirP T M w.at_ = false then (⟨w.at_, left, w.links⟩, 20)
    else if name = [46, 46] then
      if (T.node (upP T M w.at_).i).kind ≠ 0#8 ∧ dirP T M (upP T M w.at_) = false then (⟨upP T M w.at_, left, w.links⟩, 2) else (⟨upP T M w.at_, left, w.links⟩, 0)
    else if 14 < name.length then (⟨w.at_, left, w.links⟩, 36)
    else if (T.look w.at_.i name).2 ≠ 0 then (⟨w.at_, left, w.links⟩, (T.look w.at_.i name).2)
    else
      let n := (T.look w.at_.i name).1
      if (T.node n).kind = 3#8 ∧ (follow = true ∨ left ≠ []) then
        if 8 < w.links + 1 then (⟨w.at_, left, w.links + 1⟩, 40)
        else (⟨if (T.node n).text.head? = some 47 then seen M topP else w.at_, partsL (T.node n).text ++ left, w.links + 1⟩, 0)
      else if (T.node n).kind = 2#8 then (⟨seen M ⟨w.at_.m, n⟩, left, w.links⟩, 0)
      else (⟨⟨w.at_.m, n⟩, left, w.links⟩, 0)
def walkN (T : Tr) (M : List MntD) (follow : Bool) : Nat → WayD → WayD × Int
  | 0, w => (w, 0)
  | f + 1, w => if w.left = [] then (w, 0) else if (stepY T M w follow).2 ≠ 0 then stepY T M w follow else walkN T M follow f (stepY T M w follow).1
def WayD.need (w : WayD) : Nat := w.left.length + (9 - w.links) * 121
def walkW (T : Tr) (M : List MntD) (follow : Bool) (w : WayD) : WayD × Int := walkN T M follow w.need w
def beginW (M : List MntD) (cwd : PlaceD) (path : List UInt8) : WayD × Int :=
  if path = [] then (⟨cwd, [], 0⟩, 2) else if 120 < path.length then (⟨cwd, [], 0⟩, 36)
  else (⟨if path.head? = some 47 then seen M topP else cwd, partsL path, 0⟩, 0)
def endsSlash (path : List UInt8) : Bool := decide (path.getLast? = some 47)
def findW (T : Tr) (M : List MntD) (cwd : PlaceD) (path : List UInt8) (follow : Bool) : PlaceD × Int :=
  if (beginW M cwd path).2 ≠ 0 then (PlaceD.zero, (beginW M cwd path).2)
  else
    let r := walkW T M (follow || endsSlash path) (beginW M cwd path).1
    if r.2 ≠ 0 then (PlaceD.zero, r.2)
    else if (T.node r.1.at_.i).kind = 0#8 then (PlaceD.zero, 2)
    else if endsSlash path = true ∧ dirP T M r.1.at_ = false then (PlaceD.zero, 20)
    else (r.1.at_, 0)
end Go.AM
end
section
namespace Go.AM
open Go.Sort (SWO PermIn SortedIn)
theorem Grow.arr {α : Type} [Inhabited α] {enc : α → Value} (hp : ∀ x, plain1 (enc x) = true) {H : AH} {v : Value} {xs : List α} (g : Grow zH H 1 v (xs.map fun x => [enc x])) (hne : xs ≠ []) :
    ∃ b f c tail, v = slc b 0 xs.length c ∧ H.get b = arrO enc xs.toArray tail f ∧ ∀ (ys : List α) (H' : AH), ys.length = xs.length → H'.get b = arrO enc ys.toArray tail f → Grow zH H' 1 v (ys.map fun x => [enc x]) := by
  have fl : ∀ l : List α, (l.map fun x => [enc x]).flatten = l.map enc := by
    intro l
    induction l with
    | nil => rfl
    | cons a l ih => simp [ih]
  rcases g.2 with ⟨h, _⟩ | ⟨b, f, c, cs, g1, rfl, g3, g4, g5, g6, g7⟩
  · exact (hne (by simpa using h)).elim
  · rw [fl, Nat.mul_one] at g6
    simp only [List.length_map] at g4 g6 ⊢
    have hcs : cs = xs.map enc ++ cs.drop xs.length := by rw [← g6, List.take_append_drop]
    refine ⟨b, f, c, cs.drop xs.length, rfl, ?_, fun ys H' hl hg => ?_⟩
    · rw [g3, arrO]; congr 1
    · refine ⟨fun r hr => ?_, .inr ⟨b, f, c, ys.map enc ++ cs.drop xs.length, g1, by simp [hl], hg, by simpa [hl] using g4, ?_, ?_, g7⟩⟩
      · obtain ⟨x, _, rfl⟩ := List.mem_map.1 hr
        exact ⟨rfl, by simp [hp]⟩
      · have : cs.length = (xs.map enc ++ cs.drop xs.length).length := congrArg List.length hcs
        simp at this
        simp [hl]; omega
      · rw [fl]
        simp [hl]
def strR (l : List NameL) : List (List Value) := l.map fun s => [str s]
def u16R (l : List (BitVec 16)) : List (List Value) := l.map fun s => [u16 s]
theorem strR_length (l : List NameL) : (strR l).length = l.length := by simp [strR]
section
variable {E : Sy} {H H' H'' : AH} {Q : Value → AH → Prop} {p m : Nat} {L L' L'' : LyL} {T T' T'' : Tr}
def Tr.nums (T : Tr) : List (BitVec 16) := ((List.range T.N.length).map (BitVec.ofNat 16)).filter fun n => decide ((T.node n).kind ≠ 0#8)
theorem Tr.nums_mem (hl : T.N.length ≤ 65536) (n : BitVec 16) : n ∈ T.nums ↔ (T.node n).kind ≠ 0#8 := by
  unfold Tr.nums
  rw [List.mem_filter]
  simp only [decide_eq_true_eq, List.mem_map, List.mem_range]
  constructor
  · exact fun h => h.2
  · intro h
    exact ⟨⟨n.toNat, Tr.node_lt h, by simp⟩, h⟩
theorem Tr.nums_rise (hl : T.N.length ≤ 65536) : T.nums.Pairwise fun a b => lt16 a b = true := by
  unfold Tr.nums
  refine List.Pairwise.filter _ ?_
  rw [List.pairwise_map]
  refine List.pairwise_lt_range.imp_of_mem fun {a b} ha hb hab => ?_
  have h1 := List.mem_range.1 ha
  have h2 := List.mem_range.1 hb
  simp only [lt16, decide_eq_true_eq, BitVec.toNat_ofNat]
  rw [Nat.mod_eq_of_lt (by omega), Nat.mod_eq_of_lt (by omega)]
  exact hab
theorem Tr.nums_nodup (hl : T.N.length ≤ 65536) : T.nums.Nodup :=
  (Tr.nums_rise hl).imp fun {a b} h e => by subst e; simp [lt16] at h
theorem Cov.perm (h : Cov L T) (hl : T.N.length ≤ 65536) : (L.map Prod.fst).Perm T.nums :=
  List.perm_of_nodup_nodup_toFinset_eq' h.nd (Tr.nums_nodup hl) (fun x hx => (Tr.nums_mem hl x).2 ((h.mem x).1 hx)) fun x hx => (h.mem x).2 ((Tr.nums_mem hl x).1 hx)
end
end Go.AM
end
section
namespace Go.AM
section
variable {E : Sy} {H : AH} {Q : Value → AH → Prop}
def cutSl : List UInt8 → Option (List UInt8 × List UInt8)
  | [] => none
  | c :: s => if c = 47 then some ([], s) else (cutSl s).map fun p => (c :: p.1, p.2)
theorem splitF_cut : ∀ (s cur : List UInt8), splitF cur s = match cutSl s with
    | none => [cur ++ s]
    | some p => (cur ++ p.1) :: splitF [] p.2
  | [], cur => by simp [splitF, cutSl]
  | c :: s, cur => by
    by_cases h : c = 47
    · simp [splitF, cutSl, h]
    · simp only [splitF, cutSl, h, if_false]
      rw [splitF_cut s (cur ++ [c])]
      cases cutSl s <;> simp
theorem cutSl_index : ∀ s : List UInt8, Lib.indexByte s 47 = match cutSl s with | none => -1 | some p => (p.1.length : Int)
  | [] => rfl
  | c :: s => by
    have ih := cutSl_index s
    by_cases h : c = 47
    · subst h; simp [Lib.indexByte, cutSl]
    · have h' : (c == 47) = false := by simpa using h
      simp only [Lib.indexByte, h', cutSl, h, if_false, ih]
      cases hc : cutSl s with
      | none => simp
      | some p => simp
theorem cutSl_eq : ∀ {s : List UInt8} {p : List UInt8 × List UInt8}, cutSl s = some p → s = p.1 ++ 47 :: p.2
  | [], p, h => by simp [cutSl] at h
  | c :: s, p, h => by
    by_cases k : c = 47
    · subst k; simp [cutSl] at h; subst h; rfl
    · simp only [cutSl, k, if_false, Option.map_eq_some_iff] at h
      obtain ⟨q, h1, rfl⟩ := h
      simp [cutSl_eq h1]
theorem splitF_count : ∀ (s cur : List UInt8), (splitF cur s).length = s.count 47 + 1
  | [], _ => rfl
  | c :: s, cur => by
    by_cases h : c = 47
    · subst h; simp [splitF, splitF_count s []]
    · simp [splitF, h, splitF_count s (cur ++ [c])]
theorem count_le (s : List UInt8) : s.count 47 ≤ s.length := List.count_le_length
theorem S.f43 (hE : Fold E) (s : List UInt8) (hQ : Q (vi (s.count 47 : Nat)) H) : E.call (E.fid i.f43) [str s, str [47]] H Q := by
  apply hE.f43
  have h1 : ixStr (str [47]) (.int .i64 0) = some (.int .u8 47) := rfl
  simp [F.f43, h1]
  apply hE.f9
  exact hQ
theorem S.f45 (hE : Fold E) (s : List UInt8) (hQ : Q (vi (Lib.indexByte s 47)) H) : E.call (E.fid i.f45) [str s, str [47]] H Q := by
  apply hE.f45
  simp only [F.f45]
  apply hE.f15
  have h1 : ixStr (str [47]) (.int .i64 0) = some (.int .u8 47) := rfl
  by_cases hs : [47] = s
  · subst hs
    simp [F.f15]
    exact hQ
  · simp [F.f15, h1, hs]
    apply hE.f16
    simp only [F.f16]
    apply hE.f11
    exact hQ
theorem str_extract (l : List UInt8) (a b : Nat) : (⟨l.toArray⟩ : ByteArray).extract a b = ⟨((l.take b).drop a).toArray⟩ := by
  apply ByteArray.ext
  rw [ByteArray.data_extract]
  simp [List.extract_eq_take_drop, List.drop_take]
theorem slStr_take (l : List UInt8) (n : Nat) (h : n ≤ l.length) : slStr (str l) none (some (vi n)) = some (str (l.take n)) := by
  have h' : n ≤ (⟨l.toArray⟩ : ByteArray).size := h
  simp only [str, slStr, bnd]
  rw [if_pos ⟨by omega, by exact_mod_cast h'⟩]
  simp [str_extract]
theorem slStr_drop (l : List UInt8) (n : Nat) (h : n ≤ l.length) : slStr (str l) (some (vi n)) none = some (str (l.drop n)) := by
  have h' : n ≤ (⟨l.toArray⟩ : ByteArray).size := h
  have hz : (⟨l.toArray⟩ : ByteArray).size = l.length := rfl
  simp only [str, slStr, bnd, Option.bind_some]
  rw [if_pos ⟨by omega, by rw [hz]; exact_mod_cast h⟩]
  simp [str_extract, hz]
def fillS (done : List NameL) (n : Nat) : List (List Value) := strR done ++ List.replicate n [str []]
theorem fillS_set (done : List NameL) (n : Nat) (s : NameL) : (fillS done (n + 1)).set done.length [str s] = fillS (done ++ [s]) n := by
  have h : (strR done).length = done.length := strR_length done
  unfold fillS
  rw [← h, List.set_append_right _ _ (Nat.le_refl _), Nat.sub_self, List.replicate_succ, List.set_cons_zero]
  simp [strR]
theorem fillS_length (done : List NameL) (n : Nat) : (fillS done n).length = done.length + n := by simp [fillS, strR]
theorem S.f47 (hE : Fold E) (s : List UInt8) (hs : s.length < 2 ^ 40) (hQ : ∀ v H', Ext H H' → Rows H' 1 v (strR (splitF [] s)) → Q v H') : E.call (E.fid i.f47) [str s, str [47]] H Q := by
  apply hE.f47
  simp only [F.f47]
  apply hE.f49
  have hc := count_le s
  have hn1 : binInt .add (vi (s.count 47 : Nat)) (.int .i64 1) = some (vi ((s.count 47 + 1 : Nat) : Int)) := i64_inc (by omega)
  have hl1 : binInt .add (vi (s.length : Nat)) (.int .i64 1) = some (vi ((s.length + 1 : Nat) : Int)) := i64_inc (by omega)
  simp [F.f49]
  refine S.f43 hE s ?_
  have hcnt := splitF_count s []
  generalize hN : s.count 47 = c at *
  have hmin : fold2 min2 [vi ((c + 1 : Nat) : Int), vi ((s.length + 1 : Nat) : Int)] = some (vi ((c + 1 : Nat) : Int)) := by
    rw [i64_min]
    rw [if_neg (by omega)]
  have hsub : binInt .sub (vi ((c + 1 : Nat) : Int)) (.int .i64 1) = some (vi (c : Nat)) := by
    rw [i64_sub (by omega) (by omega)]; simp
  have hmk := makeS_all 1 16 (c + 1) [str []] rfl (by omega) (by omega)
  simp only [F.f49_j1, hn1, lenStr_s, hl1, hmin, tk_eq, opt_some]
  rw [show (#[(.string ⟨#[]⟩)] : Array Value) = [str []].toArray from rfl, hmk]
  simp only [AM.mk_some, hsub, tk_eq, opt_some]
  have g0 : Grow zH (H.new (.cells (List.replicate (c + 1) [str []]).flatten none)) 1 (slc H.next 0 (c + 1) (c + 1)) (fillS [] (c + 1)) :=
    Grow.made (f := none) (zH_get _) (by rw [AH.get_new_self]; simp [fillS, strR]) (.inl rfl) (by simp [fillS, strR]) (by
      intro r hr
      simp [fillS, strR] at hr
      subst hr
      exact ⟨rfl, rfl⟩)
  refine LoopL.count c (fun j ls H' => ∃ done rest, ls = [str rest, str [47], vi 0, vi c, slc H.next 0 (c + 1) (c + 1), vi j] ∧ done.length = j ∧ splitF [] s = done ++ splitF [] rest ∧ rest.length ≤ s.length ∧ Ext H H' ∧ Grow zH H' 1 (slc H.next 0 (c + 1) (c + 1)) (fillS done (c + 1 - j))) ?_ ⟨[], s, rfl, rfl, rfl, Nat.le_refl _, (Ext.refl H).new _, g0⟩
  rintro j _ H1 X hj hX ⟨done, rest, rfl, hd, hsp, hrl, e1, g1⟩
  have hrc : rest.count 47 + j = c := by
    have h1 := congrArg List.length hsp
    rw [hcnt, List.length_append, splitF_count, hd] at h1
    omega
  by_cases hjc : j < c
  · have hX := hX hjc
    have hjc' : (j : Int) < c := by omega
    have hjj := i64_inc (i := j) (by omega)
    have hix := cutSl_index rest
    have hcut := splitF_cut rest []
    cases hcs : cutSl rest with
    | none =>
      rw [hcs] at hcut
      have h1 := splitF_count rest []
      rw [hcut] at h1
      simp at h1
      omega
    | some p =>
      rw [hcs] at hix hcut
      have hre := cutSl_eq hcs
      have hpl : p.1.length + p.2.length + 1 = rest.length := by rw [hre]; simp; omega
      have hge : ¬ ((p.1.length : Int) < 0) := by omega
      have hadd0 : binInt .add (vi (p.1.length : Nat)) (vi 0) = some (vi (p.1.length : Nat)) := by rw [i64_add (by omega) (by omega)]; simp
      have hadd1 : binInt .add (vi (p.1.length : Nat)) (vi 1) = some (vi ((p.1.length + 1 : Nat) : Int)) := i64_inc (by omega)
      have hsl1 : slStr (str rest) none (some (vi (p.1.length : Nat))) = some (str p.1) := by
        rw [slStr_take _ _ (by omega), hre, List.take_left' rfl]
      have hsl2 : slStr (str rest) (some (vi ((p.1.length + 1 : Nat) : Int))) none = some (str p.2) := by
        rw [slStr_drop _ _ (by omega), hre]
        congr 2
        rw [show p.1 ++ 47 :: p.2 = (p.1 ++ [47]) ++ p.2 by simp, show p.1.length + 1 = (p.1 ++ [47]).length by simp, List.drop_left' rfl]
      obtain ⟨b, o, H2, q1, q2, q3, q4, q5⟩ := g1.store (i := j) (k := 0) (by rw [fillS_length]; omega) (by omega) (str p.1) rfl
      have hlast : (fillS done (c + 1 - j)).set j (((fillS done (c + 1 - j))[j]'(by rw [fillS_length]; omega)).set 0 (str p.1)) = fillS (done ++ [p.1]) (c + 1 - (j + 1)) := by
        have e : c + 1 - j = (c + 1 - (j + 1)) + 1 := by omega
        have h2 : (fillS done (c + 1 - j))[j]'(by rw [fillS_length]; omega) = [str []] := by
          subst hd
          simp [fillS, strR]
        rw [h2]
        subst hd
        rw [e]
        exact fillS_set done _ p.1
      rw [hlast] at q4
      simp [F.f49_l1, hjc']
      refine S.f45 hE rest ?_
      rw [hix]
      have q3' : store1 (ptr b o) (str p.1) H1 = some H2 := by simpa using q3
      simp [-Int.natCast_add, hge, hadd0, hadd1, hsl1, hsl2, q1, q3', hjj]
      refine hX _ _ ⟨done ++ [p.1], p.2, rfl, by simp [hd], by rw [hsp, hcut]; simp, by omega, ?_, q4⟩
      exact q5.ext e1 fun b hb => by rw [mem_blkL] at hb; simp [blk] at hb; omega
  · have hjc' : ¬ (j : Int) < c := by omega
    have hje : j = c := by omega
    have hrest : splitF [] rest = [rest] := by
      have hcut := splitF_cut rest []
      cases hcs : cutSl rest with
      | none => rw [hcs] at hcut; simpa using hcut
      | some p =>
        have := cutSl_eq hcs
        rw [this] at hrc
        simp at hrc
        omega
    have hjj : binInt .add (vi (j : Nat)) (vi 1) = some (vi ((j + 1 : Nat) : Int)) := i64_inc (by omega)
    obtain ⟨b, o, H2, q1, q2, q3, q4, q5⟩ := g1.store (i := j) (k := 0) (by rw [fillS_length]; omega) (by omega) (str rest) rfl
    have hlast : (fillS done (c + 1 - j)).set j (((fillS done (c + 1 - j))[j]'(by rw [fillS_length]; omega)).set 0 (str rest)) = fillS (done ++ [rest]) (c + 1 - (j + 1)) := by
      have e : c + 1 - j = (c + 1 - (j + 1)) + 1 := by omega
      have h2 : (fillS done (c + 1 - j))[j]'(by rw [fillS_length]; omega) = [str []] := by
        subst hd
        simp [fillS, strR]
      rw [h2]
      subst hd
      rw [e]
      exact fillS_set done _ rest
    rw [hlast] at q4
    have q3' : store1 (ptr b o) (str rest) H1 = some H2 := by simpa using q3
    have e2 : Ext H H2 := q5.ext e1 fun b hb => by rw [mem_blkL] at hb; simp [blk] at hb; omega
    have hrows : Rows H2 1 (slc H.next 0 (c + 1) (c + 1)) (strR (splitF [] s)) := by
      have := q4.toRows
      have h0 : c + 1 - (j + 1) = 0 := by omega
      rw [h0] at this
      rw [hsp, hrest]
      simpa [fillS] using this
    have hlen : (strR (splitF [] s)).length = j + 1 := by rw [strR_length, hcnt]; omega
    obtain ⟨hsl, hrows2⟩ := hrows.slice' (lo := none) (hi := some (vi ((j + 1 : Nat) : Int))) (i := 0) (j := j + 1) (.inr ⟨rfl, rfl⟩) (.inl rfl) (by omega) (by omega)
    rw [List.take_of_length_le (by omega), List.drop_zero] at hrows2
    simp [-Int.natCast_add, F.f49_l1, hjc', F.f49_j2, q1, q3', hjj, hsl]
    exact hQ _ _ e2 hrows2
theorem ix_strR {v : Value} {l : List NameL} (h : Rows H 1 v (strR l)) {i : Nat} (hi : i < l.length) : ∃ b o, ixSlc 1 v (vi i) = some (ptr b o) ∧ (H.get b).cell o = some (str l[i]) ∧ (H.get b).row o 1 = some [str l[i]] := by
  obtain ⟨b, o, h1, h2⟩ := h.ix (i := i) (by rw [strR_length]; exact hi)
  have hrow : (strR l)[i]'(by rw [strR_length]; exact hi) = [str l[i]] := by simp [strR]
  rw [hrow] at h2
  exact ⟨b, o, h1, by have := row_at h2 (j := 0) (by omega); simpa using this, h2⟩
theorem strR_lenSlc {v : Value} {l : List NameL} (h : Rows H 1 v (strR l)) : AM.lenSlc v = some (vi l.length) := by
  have := h.lenSlc
  rwa [strR_length] at this
theorem filter_take_succ {α : Type} (P : α → Bool) (l : List α) {j : Nat} (hj : j < l.length) : (l.take (j + 1)).filter P = (l.take j).filter P ++ if P l[j] then [l[j]] else [] := by
  rw [List.take_succ_eq_append_getElem hj, List.filter_append]
  congr 1
  by_cases h : P l[j] <;> simp [h]
theorem splitF_len (s : List UInt8) : (splitF [] s).length ≤ s.length + 1 := by
  rw [splitF_count]
  have := count_le s
  omega
theorem partsL_le (s : List UInt8) : (partsL s).length ≤ s.length + 1 := Nat.le_trans (List.length_filter_le _ _) (splitF_len s)
theorem S.f60 (hE : Fold E) (s : List UInt8) (hs : s.length < 2 ^ 40) (hQ : ∀ v H', Ext H H' → Grow zH H' 1 v (strR (partsL s)) → (∀ b, blk v = some b → H.next ≤ b) → Q v H') : E.call (E.fid i.f60) [str s] H Q := by
  apply hE.f60
  simp only [F.f60]
  refine S.f47 hE s hs fun v H1 e1 r1 => ?_
  have hl := strR_lenSlc r1
  have hlen := splitF_len s
  simp only [hl, opt_some]
  unfold partsL at hQ
  generalize splitF [] s = l at *
  refine LoopL.count l.length (fun j ls H' => ∃ w, ls = [w, v, vi l.length, vi j] ∧ Ext H1 H' ∧ Grow zH H' 1 w (strR ((l.take j).filter okPart)) ∧ FreshV H1.next w) ?_ ⟨nilS, rfl, Ext.refl _, by simpa [strR] using Grow.nil zH H1 1, by simp [blk, FreshV]⟩
  rintro j _ H2 X hj hX ⟨w, rfl, e2, g2, f2⟩
  by_cases hjl : j < l.length
  · have hX := hX hjl
    have hjl' : (j : Int) < l.length := by omega
    have hjj := i64_inc (i := j) (by omega)
    obtain ⟨b, o, q1, q2, _⟩ := ix_strR (r1.mono e2) hjl
    have hst := filter_take_succ okPart l hjl
    have hle : ((l.take j).filter okPart).length ≤ j := Nat.le_trans (List.length_filter_le _ _) (by rw [List.length_take]; omega)
    generalize hx : l[j] = x at *
    by_cases h1 : x = []
    · have h2 : okPart x = false := by simp [okPart, h1]
      rw [h2] at hst
      simp [-Int.natCast_add, F.f60_l1, hjl', q1, q2, h1, hjj]
      exact hX _ _ ⟨w, rfl, e2, by rw [hst]; simpa using g2, f2⟩
    · by_cases h3 : x = [46]
      · have h2 : okPart x = false := by simp [okPart, h3]
        rw [h2] at hst
        simp [-Int.natCast_add, F.f60_l1, hjl', q1, q2, h3, hjj]
        exact hX _ _ ⟨w, rfl, e2, by rw [hst]; simpa using g2, f2⟩
      · have h2 : okPart x = true := by simp [okPart, h1, h3]
        rw [h2] at hst
        obtain ⟨w', H3, a1, a2, a3⟩ := g2.app1 (Nat.zero_le _) (bytes := 16) [str x] rfl rfl (by decide) (by decide) (by rw [strR_length]; omega)
        have hb := buildS_val (str []) (str x) rfl rfl
        simp [-Int.natCast_add, -buildS_eq, F.f60_l1, hjl', q1, q2, h1, h3, hb, a1, hjj]
        obtain ⟨k1, k2⟩ := grew_ext a3 e2 (H0 := H1) f2
        refine hX _ _ ⟨w', rfl, k1, by rw [hst]; simpa [strR] using a2, k2⟩
  · have hjl' : ¬ (j : Int) < l.length := by omega
    simp [F.f60_l1, hjl']
    refine hQ w H2 (e1.trans e2) (by rw [List.take_of_length_le (by omega)] at g2; exact g2) fun b hb => Nat.le_trans e1.1 (f2 b hb)
end
end Go.AM
end
section
namespace Go.AM
structure WkAt (H : AH) (t : Nat) (T : Tr) (M : List MntD) : Prop where
  at_ : ∃ p m L q nx, H.get t = .cells [ptr p 0, ptr q 0] none ∧ Ino H p m L T ∧ TabAt H q M nx
  older : Older M
theorem WkAt.mono {H H' : AH} {t : Nat} {T : Tr} {M : List MntD} (h : WkAt H t T M) (e : Ext H H') : WkAt H' t T M := by
  obtain ⟨⟨p, m, L, q, nx, h1, h2, h3⟩, h4⟩ := h
  exact ⟨⟨p, m, L, q, nx, e.cells h1, h2.mono e, h3.mono e⟩, h4⟩
section
variable {E : Sy} {H : AH} {Q : Value → AH → Prop} {t : Nat} {T : Tr} {M : List MntD}
theorem nilp_p (b o : Nat) : binNil eqPtr .neq (ptr b o) (.pointer none) = some (.bool true) := rfl
theorem nilq_p (b o : Nat) : binNil eqPtr .eql (ptr b o) (.pointer none) = some (.bool false) := rfl
theorem S.f59 (hE : Fold E) (h : WkAt H t T M) (hQ : Q (vb true) H) : E.call (E.fid i.f59) [ptr t 0] H Q := by
  apply hE.f59
  obtain ⟨⟨p, m, L, q, nx, h1, h2, h3⟩, h4⟩ := h
  simp [F.f59, nilp_p, h1]
  exact hQ
theorem S.f55 (hE : Fold E) (h : WkAt H t T M) (c : PlaceD) (hQ : ∀ H', Ext H H' → Q (vb (dirP T M c)) H') : E.call (E.fid i.f55) [ptr t 0, c.v] H Q := by
  apply hE.f55
  have x1 : Ext H (H.new (.cells c.cells none)) := (Ext.refl H).new _
  have hb := AH.get_new_self H (.cells c.cells none)
  generalize hH1 : H.new (.cells c.cells none) = H1 at *
  simp [F.f55, hH1]
  refine S.f59 hE (h.mono x1) ?_
  obtain ⟨⟨p, m, L, q, nx, h1, h2, h3⟩, h4⟩ := h.mono x1
  simp [h1, hb, PlaceD.cells]
  refine S.f3 hE h2 c.i ?_
  simp [h1, hb, PlaceD.cells]
  have x2 : Ext H1 (H1.new (.cells [vi 0, vi 0, u16 0#16, u16 0#16, vi 0] none)) := (Ext.refl _).new _
  have hb2 := AH.get_new_self H1 (.cells [vi 0, vi 0, u16 0#16, u16 0#16, vi 0] none)
  refine S.f19 hE q M nx c.m (h3.mono x2) fun H5 e5 => ?_
  have hb5 := e5.cells hb2
  refine ⟨by rw [hb5, hb2], ?_⟩
  have hst : storeN 5 (ptr H1.next 0) (optM (getT M c.m)).v H5 = some (H5.put H1.next (.cells (optM (getT M c.m)).cells none)) := by
    rw [storeN_ptr, hb5]; rfl
  have x3 : Ext H (H5.put H1.next (.cells (optM (getT M c.m)).cells none)) := (x1.trans (x2.trans e5)).put (b := H1.next) x1.1 _
  have hQ := hQ _ x3
  have hg : ∀ b cs, H1.get b = .cells cs none → (H5.put H1.next (.cells (optM (getT M c.m)).cells none)).get b = .cells cs none := fun b cs hh => by
    rw [AH.get_put_ne _ _ (Nat.ne_of_lt (AH.lt_cells hh))]; exact (x2.trans e5).cells hh
  generalize H5.put H1.next (.cells (optM (getT M c.m)).cells none) = H6 at *
  unfold dirP at hQ
  cases hs : (getT M c.m).isSome with
  | false =>
    rw [hs] at hQ
    simp at hQ
    simp [hst]
    exact hQ
  | true =>
    rw [hs] at hQ
    rcases h2.get c.i with ⟨k0, _⟩ | ⟨kk, yy, k0, k1, k2, k3, k4⟩
    · simp [k0] at hQ
      simp [hst, nodeP_none h2.cov k0]
      exact hQ
    · have hk := hg _ _ k3
      have he : binInt .eql (u8 (T.node c.i).kind) (.int .u8 2) = some (vb (decide ((T.node c.i).kind = 2#8))) := by simp
      simp at hQ
      simp [hst, nodeP_some h2.cov.nd k1, nilp_p, hk, inC, he]
      exact hQ
def belowM (M : List MntD) (p : PlaceD) : Nat := (M.filter fun m => decide (m.id ≤ p.m)).length
theorem getT_some {id : Int} {m : MntD} (h : getT M id = some m) : m ∈ M ∧ m.id = id := ⟨List.mem_of_find?_eq_some h, by simpa using List.find?_some h⟩
theorem downT_some {p q : PlaceD} (h : downT M p = some q) : ∃ m, getT M p.m = some m ∧ m.id ≠ 0 ∧ m.root = p.i ∧ m.at_ = q := by
  unfold downT at h
  split at h
  · simp at h
  · rename_i m hm
    split at h
    · simp at h
    · rename_i hc
      simp only [not_or, Decidable.not_not] at hc
      exact ⟨m, hm, hc.1, hc.2, by simpa using h⟩
theorem below_step (ho : Older M) {p q : PlaceD} (h : downT M p = some q) : belowM M q < belowM M p := by
  obtain ⟨m, h1, h2, h3, rfl⟩ := downT_some h
  obtain ⟨hm, hi⟩ := getT_some h1
  have := ho m hm h2
  refine filter_lt _ _ M (fun x _ hx => ?_) m hm (by simpa using this) (by simpa using Int.le_of_eq hi)
  simp only [decide_eq_true_eq] at hx ⊢
  omega
theorem downsN_stable (ho : Older M) : ∀ (n : Nat) (p : PlaceD), belowM M p ≤ n → downsN M n p = downsN M (n + 1) p
  | 0, p, h => by
    cases hf : downT M p with
    | none => simp [downsN, hf]
    | some q => have := below_step ho hf; omega
  | n + 1, p, h => by
    cases hf : downT M p with
    | none => simp [downsN, hf]
    | some q =>
      have := below_step ho hf
      have ih := downsN_stable ho n q (by omega)
      rw [downsN, downsN, hf]
      exact ih
theorem below_le (M : List MntD) (p : PlaceD) : belowM M p ≤ M.length := List.length_filter_le _ _
theorem downs_none {p : PlaceD} (h : downT M p = none) : downs M p = p := by
  unfold downs
  cases M.length <;> simp [downsN, h]
theorem downs_some (ho : Older M) {p q : PlaceD} (h : downT M p = some q) : downs M p = downs M q := by
  have h1 := below_step ho h
  have h2 := below_le M p
  unfold downs
  obtain ⟨n, hn⟩ : ∃ n, M.length = n + 1 := ⟨M.length - 1, by omega⟩
  rw [hn, downsN, h]
  exact downsN_stable ho n _ (by omega)
theorem mkPlace (a : Int) (b : BitVec 16) : buildV [(0, 1), (1, 1)] #[(.int .i64 0), (.int .u16 0)] [(0, vi a), (1, u16 b)] = some (PlaceD.v ⟨a, b⟩) := rfl
theorem mkPlace0 : buildV [(0, 1), (1, 1)] #[(.int .i64 0), (.int .u16 0)] [] = some PlaceD.zero.v := rfl
theorem S.f57 (hE : Fold E) (h : WkAt H t T M) (c : PlaceD) (hQ : ∀ H', Ext H H' → Q (upP T M c).v H') : E.call (E.fid i.f57) [ptr t 0, c.v] H Q := by
  apply hE.f57
  simp [F.f57]
  generalize hH2 : (H.new _).new _ = H2
  have x2 : Ext H H2 := by subst hH2; exact ((Ext.refl H).new _).new _
  have k1 : H2.get H.next = .cells c.cells none := by subst hH2; simp [AH.get_new]
  have k2 : H2.get (H.next + 1) = .cells [vi 0, u16 0#16] none := by subst hH2; simp [AH.get_new]
  clear hH2
  have hl : loadN 2 (ptr H.next 0) H2 = some c.v := by rw [loadN_ptr, k1]; rfl
  simp [hl]
  refine S.f55 hE (h.mono x2) c fun H3 e3 => ?_
  have st : ∀ (z : PlaceD) (H' : AH), H'.get (H.next + 1) = .cells [vi 0, u16 0#16] none → storeN 2 (ptr (H.next + 1) 0) z.v H' = some (H'.put (H.next + 1) (.cells z.cells none)) ∧ loadN 2 (ptr (H.next + 1) 0) (H'.put (H.next + 1) (.cells z.cells none)) = some z.v := by
    intro z H' hh
    constructor
    · rw [storeN_ptr, hh]; rfl
    · rw [loadN_ptr, AH.get_put_self _ _ (AH.lt_cells hh)]; rfl
  unfold upP at hQ
  cases hd : dirP T M c with
  | false =>
    rw [hd] at hQ
    simp at hQ
    simp
    refine S.f24 hE fun H4 e4 => ?_
    obtain ⟨s1, s2⟩ := st ⟨0, 1#16⟩ H4 (e4.cells (e3.cells k2))
    simp [s1, s2]
    exact hQ _ ((x2.trans (e3.trans e4)).put (b := H.next + 1) (by omega) _)
  | true =>
    rw [hd] at hQ
    simp at hQ
    simp
    refine LoopL.ind (fun n s H' => ∃ r, n = belowM M r ∧ s = [ptr t 0, ptr H.next 0, ptr (H.next + 1) 0] ∧ Ext H H' ∧ downs M r = downs M c ∧ H'.get H.next = .cells r.cells none ∧ H'.get (H.next + 1) = .cells [vi 0, u16 0#16] none) ?_ (belowM M c) ⟨c, rfl, rfl, x2.trans e3, rfl, e3.cells k1, e3.cells k2⟩
    rintro n _ H4 X hX ⟨r, rfl, rfl, e4, hs, m1, m2⟩
    obtain ⟨⟨p, m, L, q, nx, h1, h2, h3⟩, ho⟩ := h.mono e4
    have l1 := AH.lt_cells m1
    have l2 := AH.lt_cells m2
    have hl : loadN 2 (ptr H.next 0) H4 = some r.v := by rw [loadN_ptr, m1]; rfl
    simp [F.f57_l1, h1, hl]
    have x5 : Ext H4 (H4.new (.cells [vi 0, u16 0#16] none)) := (Ext.refl _).new _
    have hb5 := AH.get_new_self H4 (.cells [vi 0, u16 0#16] none)
    refine S.f18 hE q M nx r (h3.mono x5) fun H5 e5 => ?_
    have hb5' := e5.cells hb5
    refine ⟨by rw [hb5', hb5], ?_⟩
    have hst : storeN 2 (ptr H4.next 0) (optP (downT M r)).v H5 = some (H5.put H4.next (.cells (optP (downT M r)).cells none)) := by rw [storeN_ptr, hb5']; rfl
    have hg : ∀ b cs, H4.get b = .cells cs none → (H5.put H4.next (.cells (optP (downT M r)).cells none)).get b = .cells cs none := fun b cs hh => by
      rw [AH.get_put_ne _ _ (Nat.ne_of_lt (AH.lt_cells hh))]; exact (x5.trans e5).cells hh
    have x6 : Ext H4 (H5.put H4.next (.cells (optP (downT M r)).cells none)) := (x5.trans e5).put (b := H4.next) (Nat.le_refl _) _
    have hb6 : (H5.put H4.next (.cells (optP (downT M r)).cells none)).get H4.next = .cells (optP (downT M r)).cells none := AH.get_put_self _ _ (AH.lt_cells hb5')
    simp [hst]
    generalize H5.put H4.next (.cells (optP (downT M r)).cells none) = H6 at *
    cases hdn : downT M r with
    | none =>
      have hdr := downs_none hdn
      rw [← hs, hdr] at hQ
      simp [hg _ _ h1, hg _ _ m1, PlaceD.cells]
      refine S.f3 hE (h2.mono x6) r.i ?_
      rcases (h2.mono x6).get r.i with ⟨k0, _⟩ | ⟨kk, yy, k0, k1, k2, k3, k4⟩
      · simp [nodeP_none h2.cov k0]
        refine S.f24 hE fun H7 e7 => ?_
        obtain ⟨s1, s2⟩ := st ⟨0, 1#16⟩ H7 (e7.cells (hg _ _ m2))
        simp [s1, s2]
        simp [k0] at hQ
        exact hQ _ ((e4.trans (x6.trans e7)).put (b := H.next + 1) (by omega) _)
      · simp [nodeP_some h2.cov.nd k1, nilq_p, hg _ _ h1, hg _ _ m1, PlaceD.cells, k3, inC, mkPlace]
        refine S.f20 hE q M nx ⟨r.m, (T.node r.i).parent⟩ (h3.mono x6) ho fun H7 e7 => ?_
        obtain ⟨s1, s2⟩ := st (seen M ⟨r.m, (T.node r.i).parent⟩) H7 (e7.cells (hg _ _ m2))
        simp [s1, s2]
        simp [k0] at hQ
        exact hQ _ ((e4.trans (x6.trans e7)).put (b := H.next + 1) (by omega) _)
    | some q' =>
      have hdr := downs_some ho hdn
      have hlt := below_step ho hdn
      rw [hdn] at hb6
      have hl6 : loadN 2 (ptr H4.next 0) H6 = some q'.v := by rw [loadN_ptr, hb6]; rfl
      have hs6 : storeN 2 (ptr H.next 0) q'.v H6 = some (H6.put H.next (.cells q'.cells none)) := by rw [storeN_ptr, hg _ _ m1]; rfl
      simp [hl6, hs6]
      refine hX (belowM M q') hlt _ _ ⟨q', rfl, rfl, (e4.trans x6).put (b := H.next) (Nat.le_refl _) _, by rw [← hdr]; exact hs, AH.get_put_self _ _ (AH.lt_cells (hg _ _ m1)), ?_⟩
      rw [AH.get_put_ne _ _ (by omega)]
      exact hg _ _ m2
end
end Go.AM
end
section
namespace Go.AM
def wayC (t : Nat) (w : WayD) (lv : Value) : List Value := [ptr t 0, vi w.at_.m, u16 w.at_.i, lv, vi (w.links : Nat)]
abbrev wayV (t : Nat) (w : WayD) (lv : Value) : Value := .agg (wayC t w lv).toArray
theorem Rows.plainV {H : AH} {v : Value} {rows : List (List Value)} {sz : Nat} (h : Rows H sz v rows) : plain1 v = true := by
  rcases h.at_ with ⟨_, c, rfl⟩ | ⟨b, o, c, rfl, _⟩
  · cases c <;> rfl
  · rfl
section
variable {E : Sy} {H H0 Z : AH} {Q : Value → AH → Prop} {t : Nat} {T : Tr} {M : List MntD} {L : List Res}
theorem wayC_plain (t : Nat) (w : WayD) {lv : Value} (h : plain1 lv = true) : (wayC t w lv).all plain1 = true := by
  simp only [wayC, List.all_cons, List.all_nil, h]; rfl
theorem way_store (t : Nat) (w : WayD) {lv : Value} (h : plain1 lv = true) {b : Nat} {cs : List Value} (hl : cs.length = 5) {H : AH} (hg : H.get b = .cells cs none) : storeN 5 (ptr b 0) (wayV t w lv) H = some (H.put b (.cells (wayC t w lv) none)) := by
  rw [storeN_ptr, hg]
  have h5 : (wayC t w lv).length = 5 := rfl
  have : AM.splice cs 0 (wayC t w lv) = wayC t w lv := by simp [splice, hl, h5]
  simp only [List.size_toArray, List.toList_toArray, wayC_plain t w h, h5, hl, Nat.zero_add, Nat.le_refl, and_self, if_true, this]
theorem way_load (t : Nat) (w : WayD) {lv : Value} {b : Nat} {H : AH} (hg : H.get b = .cells (wayC t w lv) none) : loadN 5 (ptr b 0) H = some (wayV t w lv) := by
  rw [loadN_ptr, hg]; rfl
theorem S.f58 (hE : Fold E) (h : WkAt H t T M) (c : PlaceD) (path : List UInt8) (hp : path.length < 2 ^ 63) (hQ : ∀ lv H', Ext H H' → Rows H' 1 lv (strR (beginW M c path).1.left) → FreshV H.next lv → Q (.tuple #[wayV t (beginW M c path).1 lv, vi (beginW M c path).2]) H') : E.call (E.fid i.f58) [ptr t 0, c.v, str path] H Q := by
  apply hE.f58
  have hz : ([.pointer none, vi 0, u16 0#16, nilS, vi 0] : List Value).length = 5 := rfl
  have hbv : buildV [(0, 1), (1, 2), (3, 1), (4, 1)] #[(.pointer none), (.int .i64 0), u16 0#16, (.slice none 0 0), (.int .i64 0)] [(0, ptr t 0), (1, c.v)] = some (wayV t ⟨c, [], 0⟩ nilS) := rfl
  simp only [F.f58, boxO_agg_z, AM.mk_some, mkPtr_eq_z, allocW_eq, AH.next_new_z, u16_lit0_z, tk_eq]
  generalize hH2 : (H.new _).new _ = H2
  have x2 : Ext H H2 := by subst hH2; exact ((Ext.refl H).new _).new _
  have k1 : H2.get H.next = .cells c.cells none := by subst hH2; simp [AH.get_new]
  have k2 : H2.get (H.next + 1) = .cells [.pointer none, vi 0, u16 0#16, nilS, vi 0] none := by subst hH2; simp [AH.get_new]
  have n2 : H2.next = H.next + 2 := by subst hH2; simp
  clear hH2
  have hl : loadN 2 (ptr H.next 0) H2 = some c.v := by rw [loadN_ptr, k1]; rfl
  have x3 : Ext H2 (H2.new (.cells [.pointer none, vi 0, u16 0#16, nilS, vi 0] none)) := (Ext.refl _).new _
  have k3 := AH.get_new_self H2 (.cells [.pointer none, vi 0, u16 0#16, nilS, vi 0] none)
  have s3 := way_store t ⟨c, [], 0⟩ (lv := nilS) rfl hz k3
  simp only [AH.next_new_z, hl, hbv, allocW_eq, u16_lit0_z, s3, tk_eq, opt_some]
  have x4 : Ext H2 ((H2.new (.cells [.pointer none, vi 0, u16 0#16, nilS, vi 0] none)).put H2.next (.cells (wayC t ⟨c, [], 0⟩ nilS) none)) := x3.put (b := H2.next) (Nat.le_refl _) _
  have k4 : ((H2.new (.cells [.pointer none, vi 0, u16 0#16, nilS, vi 0] none)).put H2.next (.cells (wayC t ⟨c, [], 0⟩ nilS) none)).get H2.next = .cells (wayC t ⟨c, [], 0⟩ nilS) none := AH.get_put_self _ _ (AH.lt_cells k3)
  generalize (H2.new (.cells [.pointer none, vi 0, u16 0#16, nilS, vi 0] none)).put H2.next (.cells (wayC t ⟨c, [], 0⟩ nilS) none) = H4 at *
  refine S.f59 hE (h.mono (x2.trans x4)) ?_
  have fin : ∀ (w : WayD) (lv : Value) (e : Int) (H' : AH) (R : Value → AH → Prop), H'.get H2.next = .cells (wayC t w lv) none → H'.get (H.next + 1) = .cells [.pointer none, vi 0, u16 0#16, nilS, vi 0] none → plain1 lv = true →
      R (.tuple #[wayV t w lv, vi e]) (H'.put (H.next + 1) (.cells (wayC t w lv) none)) →
      opt (loadN 5 (ptr H2.next 0) H') fun v8 => opt (storeN 5 (ptr (H.next + 1) 0) v8 H') fun H6 => opt (loadN 5 (ptr (H.next + 1) 0) H6) fun v9 => R (.tuple #[v9, vi e]) H6 := by
    intro w lv e H' R g1 g2 hpl hR
    simp only [way_load t w g1, way_store t w hpl hz g2, way_load t w (AH.get_put_self _ _ (AH.lt_cells g2)), tk_eq, opt_some]
    exact hR
  simp only [un_not_z, Bool.not_true, tk_eq, opt_some, ifB_false]
  unfold beginW at hQ
  have k24 := x4.cells k2
  have x24 := x2.trans x4
  by_cases h0 : path = []
  · subst h0
    simp only [show binStr .eql (str []) (.string ⟨#[]⟩) = some (vb true) from binStr_eql [] [], AH.next_new_z, tk_eq, opt_some, ifB_true]
    refine fin ⟨c, [], 0⟩ nilS 2 H4 Q k4 k24 rfl (hQ nilS _ (x24.put (b := H.next + 1) (by omega) _) ?_ (by simp [FreshV, blk]))
    simpa [strR] using Rows.nil _ 1 none
  have h0' : binStr .eql (str path) (.string ⟨#[]⟩) = some (vb false) := by
    show binStr .eql (str path) (str []) = _
    rw [binStr_eql]; simp [h0]
  by_cases h1 : 120 < path.length
  · have h1' : (120 : Int) < path.length := by omega
    simp only [h0', lenStr_s, i64_gtr, gt_iff_lt, h1', decide_true, tk_eq, opt_some, ifB_true, ifB_false]
    simp only [h0, h1, if_false, if_true] at hQ
    refine fin ⟨c, [], 0⟩ nilS 36 H4 Q k4 k24 rfl (hQ nilS _ (x24.put (b := H.next + 1) (by omega) _) ?_ (by simp [FreshV, blk]))
    simpa [strR] using Rows.nil _ 1 none
  have h1' : ¬ (120 : Int) < path.length := by omega
  simp only [h0, h1, if_false] at hQ
  have join : ∀ (a : PlaceD) (H' : AH), Ext H H' → H'.get H2.next = .cells (wayC t ⟨a, [], 0⟩ nilS) none → H'.get (H.next + 1) = .cells [.pointer none, vi 0, u16 0#16, nilS, vi 0] none →
      (∀ lv H', Ext H H' → Rows H' 1 lv (strR (partsL path)) → FreshV H.next lv → Q (.tuple #[wayV t ⟨a, partsL path, 0⟩ lv, vi 0]) H') → F.f58_j1 E Q (str path) (ptr (H.next + 1) 0) (ptr H2.next 0) H' := by
    intro a H' e g1 g2 hQ'
    simp only [F.f58_j1]
    refine S.f60 hE path (by omega) fun lv H5 e5 g5 f5 => ?_
    have m1 := e5.cells g1
    have m2 := e5.cells g2
    have hpl := g5.plain
    have hst : store1 (ptr H2.next 3) lv H5 = some (H5.put H2.next (.cells (wayC t ⟨a, partsL path, 0⟩ lv) none)) := by
      rw [store1_ptr, if_pos hpl, m1]; rfl
    simp only [addOff_ptr, Nat.zero_add, hst, tk_eq, opt_some]
    have l1 := AH.lt_cells m1
    refine fin ⟨a, partsL path, 0⟩ lv 0 _ Q (AH.get_put_self _ _ l1) (by rw [AH.get_put_ne _ _ (by omega)]; exact m2) hpl (hQ' lv _ (((e.trans e5).put (b := H2.next) (by omega) _).put (b := H.next + 1) (by omega) _) ?_ (fun b hb => Nat.le_trans e.1 (f5 b hb)))
    have hb : ∀ b, blk lv = some b → b ≠ H2.next ∧ b ≠ H.next + 1 := fun b hb => by
      have := f5 b hb
      have := AH.lt_cells g1
      have := AH.lt_cells g2
      omega
    exact (g5.keep fun b hb' _ => by rw [AH.get_put_ne _ _ (hb b hb').2, AH.get_put_ne _ _ (hb b hb').1]).toRows
  obtain ⟨ch, tl, rfl⟩ : ∃ ch tl, path = ch :: tl := by
    cases path with
    | nil => exact (h0 rfl).elim
    | cons ch tl => exact ⟨ch, tl, rfl⟩
  have hix : ixStr (str (ch :: tl)) (.int .i64 0) = some (.int .u8 ch.toNat) := rfl
  by_cases hc : ch = 47
  · subst hc
    have hc' : binInt .eql (.int .u8 (UInt8.toNat 47)) (.int .u8 47) = some (vb true) := rfl
    obtain ⟨⟨p, m, L, q, nx, h1, h2, h3⟩, ho⟩ := h.mono x24
    simp only [h0', lenStr_s, i64_gtr, gt_iff_lt, h1', decide_false, hix, hc', nilCk_p, addOff_ptr, load1_ptr, Nat.zero_add, h1, cell_cells_z, List.getElem?_cons_succ, List.getElem?_cons_zero, tk_eq, opt_some, ifB_true, ifB_false]
    refine S.f24 hE fun H5 e5 => ?_
    refine ⟨by rw [load1_ptr, load1_ptr, e5.cells h1, h1], ?_⟩
    refine S.f20 hE q M nx ⟨0, 1#16⟩ (h3.mono e5) ho fun H6 e6 => ?_
    have m1 := e6.cells (e5.cells k4)
    have hst : storeN 2 (ptr H2.next 1) (seen M ⟨0, 1#16⟩).v H6 = some (H6.put H2.next (.cells (wayC t ⟨seen M ⟨0, 1#16⟩, [], 0⟩ nilS) none)) := by
      rw [storeN_ptr, m1]; rfl
    simp only [addOff_ptr, Nat.zero_add, hst, AH.next_new_z, tk_eq, opt_some]
    refine join (seen M ⟨0, 1#16⟩) _ ((x24.trans (e5.trans e6)).put (b := H2.next) (by omega) _) (AH.get_put_self _ _ (AH.lt_cells m1)) (by rw [AH.get_put_ne _ _ (by omega)]; exact e6.cells (e5.cells k24)) ?_
    simpa [topP] using hQ
  · have hc' : binInt .eql (.int .u8 ch.toNat) (.int .u8 47) = some (vb false) := by
      have : ¬ ch.toNat = 47 := fun e => hc (UInt8.toNat_inj.1 e)
      show some (vb (((ch.toNat : Int)) == 47)) = _
      congr 2
      simp; omega
    simp only [h0', lenStr_s, i64_gtr, gt_iff_lt, h1', decide_false, hix, hc', tk_eq, opt_some, ifB_false]
    refine join c _ x24 k4 k24 ?_
    simpa [hc] using hQ
theorem set_last {α : Type} (L : List α) (r r' : α) : (L ++ [r]).set L.length r' = L ++ [r'] := by
  rw [List.set_append_right _ _ (Nat.le_refl _), Nat.sub_self]; rfl
theorem erase_last {α : Type} (L : List α) (r : α) : (L ++ [r]).eraseIdx L.length = L := by
  rw [List.eraseIdx_append_of_length_le (Nat.le_refl _), Nat.sub_self]; simp
theorem setL_snoc {α : Type} (L : List α) (r x : α) {k : Nat} (hk : k < L.length) : (L ++ [r]).set k x = L.set k x ++ [r] := List.set_append_left _ _ hk
theorem getE_lt {α : Type} {L : List α} {k : Nat} {r : α} (h : L[k]? = some r) : k < L.length := (List.getElem?_eq_some_iff.1 h).1
theorem getE_set {α : Type} {L : List α} {k : Nat} {r : α} (h : L[k]? = some r) (x : α) : (L.set k x)[k]? = some x := by
  have := getE_lt h
  simp [this]
theorem getE_snoc {α : Type} {L : List α} {k : Nat} {r : α} (h : L[k]? = some r) (x : α) : (L ++ [x])[k]? = some r := by
  rw [List.getElem?_append_left (getE_lt h)]; exact h
def followY (M : List MntD) (w : WayD) (text : List UInt8) : WayD × Int :=
  if 8 < w.links + 1 then (⟨w.at_, w.left, w.links + 1⟩, 40) else (⟨if text.head? = some 47 then seen M topP else w.at_, partsL text ++ w.left, w.links + 1⟩, 0)
theorem S.f61 (hE : Fold E) (h : WkAt H0 t T M) {w : WayD} {lv : Value} {k b : Nat} (hs : Has H0 Z H L) (hk : L[k]? = some (boxR b (wayC t w lv))) (hl : Rows Z 1 lv (strR w.left)) (hn : w.left.length < 2 ^ 40) (hlk : w.links ≤ 100) (text : List UInt8) (ht : text ≠ [] ∧ text.length ≤ 120)
    (hQ : ∀ lv' Z' H', Fz H0.next Z Z' → Has H0 Z' H' (L.set k (boxR b (wayC t (followY M w text).1 lv'))) → Rows Z' 1 lv' (strR (followY M w text).1.left) → Q (vi (followY M w text).2) H') : E.call (E.fid i.f61) [ptr b 0, str text] H Q := by
  apply hE.f61
  have hb := hs.box hk
  have hadd : binInt .add (vi (w.links : Nat)) (.int .i64 1) = some (vi ((w.links + 1 : Nat) : Int)) := i64_inc (by omega)
  have hst : store1 (ptr b 4) (vi ((w.links + 1 : Nat) : Int)) H = some (H.put b (.cells (wayC t ⟨w.at_, w.left, w.links + 1⟩ lv) none)) := by
    rw [store1_ptr, if_pos (show plain1 (vi ((w.links + 1 : Nat) : Int)) = true from rfl), hb]; rfl
  have h1 := hs.put hk (wayC t ⟨w.at_, w.left, w.links + 1⟩ lv)
  have hk1 := getE_set hk (boxR b (wayC t ⟨w.at_, w.left, w.links + 1⟩ lv))
  have c4 : (wayC t w lv)[4]? = some (vi (w.links : Nat)) := rfl
  simp only [F.f61, nilCk_p, addOff_ptr, load1_ptr, Nat.zero_add, hb, cell_cells_z, c4, hadd, hst, tk_eq, opt_some]
  generalize H.put b (.cells (wayC t ⟨w.at_, w.left, w.links + 1⟩ lv) none) = H1 at *
  have hb1 := h1.box hk1
  have c41 : (wayC t ⟨w.at_, w.left, w.links + 1⟩ lv)[4]? = some (vi ((w.links + 1 : Nat) : Int)) := rfl
  unfold followY at hQ
  by_cases h8 : 8 < w.links + 1
  · have h8' : (8 : Int) < ((w.links + 1 : Nat) : Int) := by omega
    simp only [hb1, cell_cells_z, c41, i64_gtr, gt_iff_lt, h8', decide_true, tk_eq, opt_some, ifB_true]
    rw [if_pos h8] at hQ
    exact hQ lv Z H1 (Fz.refl _ _) h1 hl
  rw [if_neg h8] at hQ
  have h8' : ¬ (8 : Int) < ((w.links + 1 : Nat) : Int) := by omega
  obtain ⟨ch, tl, rfl⟩ : ∃ ch tl, text = ch :: tl := by
    cases text with
    | nil => exact (ht.1 rfl).elim
    | cons ch tl => exact ⟨ch, tl, rfl⟩
  have hix : ixStr (str (ch :: tl)) (.int .i64 0) = some (.int .u8 ch.toNat) := rfl
  have join : ∀ (a : PlaceD) (H' : AH), Has H0 Z H' (L.set k (boxR b (wayC t ⟨a, w.left, w.links + 1⟩ lv))) →
      (∀ lv' Z' H', Fz H0.next Z Z' → Has H0 Z' H' (L.set k (boxR b (wayC t ⟨a, partsL (ch :: tl) ++ w.left, w.links + 1⟩ lv'))) → Rows Z' 1 lv' (strR (partsL (ch :: tl) ++ w.left)) → Q (vi 0) H') → F.f61_j1 E Q (ptr b 0) (str (ch :: tl)) H' := by
    intro a H' g hQ'
    have hkk := getE_set hk (boxR b (wayC t ⟨a, w.left, w.links + 1⟩ lv))
    have gb := g.box hkk
    have c3 : (wayC t ⟨a, w.left, w.links + 1⟩ lv)[3]? = some lv := rfl
    simp only [F.f61_j1, nilCk_p, addOff_ptr, load1_ptr, Nat.zero_add, gb, cell_cells_z, c3, tk_eq, opt_some]
    refine S.f60 hE _ (by omega) fun v H5 e5 g5 f5 => ?_
    have hpl := partsL_le (ch :: tl)
    have g1 : Has H0 Z H5 (L.set k (boxR b (wayC t ⟨a, w.left, w.links + 1⟩ lv)) ++ [growR 1 v (strR (partsL (ch :: tl)))]) :=
      g.add _ e5 g5 (fun x hx => ⟨f5 x (mem_blkL.1 hx), g5.blk_lt (mem_blkL.1 hx)⟩) (blkL_nodup v)
    generalize hLL : L.set k (boxR b (wayC t ⟨a, w.left, w.links + 1⟩ lv)) = LL at *
    have gb5 := g1.box (getE_snoc hkk _)
    refine ⟨by rw [load1_ptr, load1_ptr, gb5, gb], ?_⟩
    have hx := hl.sub g1.sub
    have hkl : (LL ++ [growR 1 v (strR (partsL (ch :: tl)))])[LL.length]? = some (growR 1 v (strR (partsL (ch :: tl)))) := by simp
    simp only [List.length_cons] at ht hpl
    obtain ⟨v', H6, a1, a2, a3⟩ := g1.app hkl (bytes := 16) hx (by intro r hr; simp only [strR, List.mem_map] at hr; obtain ⟨_, _, rfl⟩ := hr; rfl) (by decide) (by decide) (by rw [strR_length, strR_length]; omega) (by rw [strR_length, strR_length]; omega)
    rw [set_last] at a3
    have gb6 := a3.box (getE_snoc hkk _)
    have hst2 : store1 (ptr b 3) v' H6 = some (H6.put b (.cells (wayC t ⟨a, partsL (ch :: tl) ++ w.left, w.links + 1⟩ v') none)) := by
      rw [store1_ptr, if_pos a2, gb6]; rfl
    have a4 := a3.put (getE_snoc hkk _) (wayC t ⟨a, partsL (ch :: tl) ++ w.left, w.links + 1⟩ v')
    rw [setL_snoc _ _ _ (getE_lt hkk)] at a4
    have hlen : (LL.set k (boxR b (wayC t ⟨a, partsL (ch :: tl) ++ w.left, w.links + 1⟩ v'))).length = LL.length := by simp
    obtain ⟨Z', z1, z2, z3⟩ := a4.freeze (k := LL.length) (r := growR 1 v' (strR (partsL (ch :: tl)) ++ strR w.left)) (by rw [← hlen]; simp)
    rw [← hlen, erase_last] at z3
    subst hLL
    rw [List.set_set] at z3
    simp only [a1, nilCk_p, addOff_ptr, Nat.zero_add, hst2, tk_eq, opt2_some, opt_some]
    refine hQ' v' Z' _ z1 z3 ?_
    have := Grow.toRows z2
    rw [← show strR (partsL (ch :: tl)) ++ strR w.left = strR (partsL (ch :: tl) ++ w.left) by simp [strR]]
    exact this
  by_cases hc : ch = 47
  · subst hc
    have hc' : binInt .eql (.int .u8 (UInt8.toNat 47)) (.int .u8 47) = some (vb true) := rfl
    obtain ⟨⟨p, m, L', q, nx, q1, q2, q3⟩, ho⟩ := h.mono h1.ext
    have c0 : (wayC t ⟨w.at_, w.left, w.links + 1⟩ lv)[0]? = some (ptr t 0) := rfl
    simp only [hb1, cell_cells_z, c41, i64_gtr, gt_iff_lt, h8', decide_false, hix, hc', c0, nilCk_p, addOff_ptr, load1_ptr, Nat.zero_add, Nat.add_zero, q1, List.getElem?_cons_succ, List.getElem?_cons_zero, tk_eq, opt_some, ifB_true, ifB_false]
    refine S.f24 hE fun H5 e5 => ?_
    have h5 := h1.grow e5
    refine ⟨by rw [load1_ptr, load1_ptr, e5.cells q1, q1], by rw [load1_ptr, load1_ptr, h5.box hk1, hb1], ?_⟩
    refine S.f20 hE q M nx ⟨0, 1#16⟩ (q3.mono e5) ho fun H6 e6 => ?_
    have h6 := h5.grow e6
    have hb6 := h6.box hk1
    have hst3 : storeN 2 (ptr b 1) (seen M ⟨0, 1#16⟩).v H6 = some (H6.put b (.cells (wayC t ⟨seen M ⟨0, 1#16⟩, w.left, w.links + 1⟩ lv) none)) := by
      rw [storeN_ptr, hb6]; rfl
    have h7 := h6.put hk1 (wayC t ⟨seen M ⟨0, 1#16⟩, w.left, w.links + 1⟩ lv)
    rw [List.set_set] at h7
    simp only [nilCk_p, addOff_ptr, Nat.zero_add, hst3, tk_eq, opt_some]
    refine join _ _ h7 ?_
    simpa [topP] using hQ
  · have hc' : binInt .eql (.int .u8 ch.toNat) (.int .u8 47) = some (vb false) := by
      have : ¬ ch.toNat = 47 := fun e => hc (UInt8.toNat_inj.1 e)
      show some (vb (((ch.toNat : Int)) == 47)) = _
      congr 2
      simp; omega
    simp only [hb1, cell_cells_z, c41, i64_gtr, gt_iff_lt, h8', decide_false, hix, hc', tk_eq, opt_some, ifB_false]
    refine join _ _ h1 ?_
    simpa [hc] using hQ
end
end Go.AM
end
section
namespace Go.AM
def Tr.LT (T : Tr) : Prop := ∀ n, (T.node n).kind = 3#8 → (T.node n).text ≠ [] ∧ (T.node n).text.length ≤ 120
section
variable {E : Sy} {H H0 Z : AH} {Q : Value → AH → Prop} {t : Nat} {T : Tr} {M : List MntD} {L : List Res}
theorem S.f62 (hE : Fold E) (h : WkAt H0 t T M) (wf : T.WF) (lt : T.LT) {w : WayD} {lv : Value} {k b : Nat} (hs : Has H0 Z H L) (hk : L[k]? = some (boxR b (wayC t w lv))) (hl : Rows Z 1 lv (strR w.left)) (hn : w.left.length < 2 ^ 40) (hlk : w.links ≤ 100) (hne : w.left ≠ []) (follow : Bool)
    (hQ : ∀ lv' Z' H', Fz H0.next Z Z' → Has H0 Z' H' (L.set k (boxR b (wayC t (stepY T M w follow).1 lv'))) → Rows Z' 1 lv' (strR (stepY T M w follow).1.left) → Q (vi (stepY T M w follow).2) H') : E.call (E.fid i.f62) [ptr b 0, vb follow] H Q := by
  apply hE.f62
  obtain ⟨a0, left, links⟩ := w
  cases left with
  | nil => exact (hne rfl).elim
  | cons name left =>
  have hb := hs.box hk
  have hl1 := hl.sub hs.sub
  obtain ⟨b1, o1, p1, p2, _⟩ := ix_strR hl1 (i := 0) (by simp)
  have p1 : ixSlc 1 lv (vi 0) = some (ptr b1 o1) := p1
  have p2 : (H.get b1).cell o1 = some (str name) := p2
  have hlenL : (strR (name :: left)).length = left.length + 1 := by simp [strR]
  obtain ⟨s1, _⟩ := hl1.slice' (lo := some (vi (1 : Nat))) (hi := none) (i := 1) (j := left.length + 1) (.inl rfl) (.inr ⟨rfl, by rw [hlenL]⟩) (by omega) (by rw [hlenL]; exact Nat.le_refl _)
  obtain ⟨_, s2⟩ := hl.slice' (lo := some (vi (1 : Nat))) (hi := none) (i := 1) (j := left.length + 1) (.inl rfl) (.inr ⟨rfl, by rw [hlenL]⟩) (by omega) (by rw [hlenL]; exact Nat.le_refl _)
  rw [List.take_of_length_le (by rw [hlenL]; exact Nat.le_refl _)] at s2
  have s2 : Rows Z 1 (sliceV 1 lv 1 (left.length + 1)) (strR left) := by simpa [strR] using s2
  have s1 : slSlc 1 lv (some (vi 1)) none none H = some (sliceV 1 lv 1 (left.length + 1)) := s1
  have hpl := s2.plainV
  generalize sliceV 1 lv 1 (left.length + 1) = lv1 at *
  have hst : store1 (ptr b 3) lv1 H = some (H.put b (.cells (wayC t ⟨a0, left, links⟩ lv1) none)) := by
    rw [store1_ptr, if_pos hpl, hb]; rfl
  have h1 := hs.put hk (wayC t ⟨a0, left, links⟩ lv1)
  have hk1 := getE_set hk (boxR b (wayC t ⟨a0, left, links⟩ lv1))
  have c3 : (wayC t ⟨a0, name :: left, links⟩ lv)[3]? = some lv := rfl
  simp only [F.f62, hb, c3, p1, p2, s1, hst, nth_0, nth_1, nth_2, nth_3, nth_4, nth_5, nth_6, nth_7, nth_8, nth_9, nth_10, nth_11, nth_12, nth_13, nth_14, nth_15, nilCk_p, addOff_ptr, load1_ptr, Nat.zero_add, Nat.add_zero, cell_cells_z, List.getElem?_cons_zero, List.getElem?_cons_succ, gd_tt, gd_tf, gd_ft, gd_ff, gd_skip, pick_true_z, pick_false_z, un_not_z, Bool.not_true, Bool.not_false, ext_tuple, boxO_agg_z, List.toList_toArray, mkPtr_eq_z, AM.mk_some, mkSlc_eq, opt2_some, AH.next_new_z, tk_eq, opt_some, ifB_true, ifB_false]
  generalize H.put b (.cells (wayC t ⟨a0, left, links⟩ lv1) none) = H1 at *
  have hb1 := h1.box hk1
  have c0 : (wayC t ⟨a0, left, links⟩ lv1)[0]? = some (ptr t 0) := rfl
  have hlo : loadN 2 (ptr b 1) H1 = some a0.v := by rw [loadN_ptr, hb1]; rfl
  simp only [hb1, c0, hlo, nth_0, nth_1, nth_2, nth_3, nth_4, nth_5, nth_6, nth_7, nth_8, nth_9, nth_10, nth_11, nth_12, nth_13, nth_14, nth_15, nilCk_p, addOff_ptr, load1_ptr, Nat.zero_add, Nat.add_zero, cell_cells_z, List.getElem?_cons_zero, List.getElem?_cons_succ, gd_tt, gd_tf, gd_ft, gd_ff, gd_skip, pick_true_z, pick_false_z, un_not_z, Bool.not_true, Bool.not_false, ext_tuple, boxO_agg_z, List.toList_toArray, mkPtr_eq_z, AM.mk_some, mkSlc_eq, opt2_some, AH.next_new_z, tk_eq, opt_some, ifB_true, ifB_false]
  refine S.f55 hE (h.mono h1.ext) a0 fun H2 e2 => ?_
  have h2 := h1.grow e2
  have hb2 := h2.box hk1
  have fin : ∀ (a : PlaceD) (e : Int) (H' : AH), Has H0 Z H' (L.set k (boxR b (wayC t ⟨a, left, links⟩ lv1))) → (stepY T M ⟨a0, name :: left, links⟩ follow) = (⟨a, left, links⟩, e) → Q (vi e) H' := by
    intro a e H' g he
    rw [he] at hQ
    exact hQ lv1 Z H' (Fz.refl _ _) g s2
  simp only [un_not_z, nth_0, nth_1, nth_2, nth_3, nth_4, nth_5, nth_6, nth_7, nth_8, nth_9, nth_10, nth_11, nth_12, nth_13, nth_14, nth_15, nilCk_p, addOff_ptr, load1_ptr, Nat.zero_add, Nat.add_zero, cell_cells_z, List.getElem?_cons_zero, List.getElem?_cons_succ, gd_tt, gd_tf, gd_ft, gd_ff, gd_skip, pick_true_z, pick_false_z, un_not_z, Bool.not_true, Bool.not_false, ext_tuple, boxO_agg_z, List.toList_toArray, mkPtr_eq_z, AM.mk_some, mkSlc_eq, opt2_some, AH.next_new_z, tk_eq, opt_some, ifB_true, ifB_false]
  cases hd : dirP T M a0 with
  | false =>
    simp only [Bool.not_false, ifB_true]
    refine fin a0 20 _ h2 ?_
    simp [stepY, hd]
  | true =>
  simp only [Bool.not_true, ifB_false]
  by_cases hdd : name = [46, 46]
  · have hdd' : binStr .eql (str name) (.string ⟨#[46, 46]⟩) = some (vb true) := by
      show binStr .eql (str name) (str [46, 46]) = _
      rw [binStr_eql]; simp [hdd]
    have hlo2 : loadN 2 (ptr b 1) H2 = some a0.v := by rw [loadN_ptr, hb2]; rfl
    simp only [hdd', hb2, c0, hlo2, nth_0, nth_1, nth_2, nth_3, nth_4, nth_5, nth_6, nth_7, nth_8, nth_9, nth_10, nth_11, nth_12, nth_13, nth_14, nth_15, nilCk_p, addOff_ptr, load1_ptr, Nat.zero_add, Nat.add_zero, cell_cells_z, List.getElem?_cons_zero, List.getElem?_cons_succ, gd_tt, gd_tf, gd_ft, gd_ff, gd_skip, pick_true_z, pick_false_z, un_not_z, Bool.not_true, Bool.not_false, ext_tuple, boxO_agg_z, List.toList_toArray, mkPtr_eq_z, AM.mk_some, mkSlc_eq, opt2_some, AH.next_new_z, tk_eq, opt_some, ifB_true, ifB_false]
    refine S.f57 hE (h.mono h2.ext) a0 fun H3 e3 => ?_
    have h3 := h2.grow e3
    have hb3 := h3.box hk1
    have hst3 : storeN 2 (ptr b 1) (upP T M a0).v H3 = some (H3.put b (.cells (wayC t ⟨upP T M a0, left, links⟩ lv1) none)) := by
      rw [storeN_ptr, hb3]; rfl
    have h4 := h3.put hk1 (wayC t ⟨upP T M a0, left, links⟩ lv1)
    rw [List.set_set] at h4
    have hk4 := getE_set hk (boxR b (wayC t ⟨upP T M a0, left, links⟩ lv1))
    generalize hu : upP T M a0 = u at *
    simp only [hst3, nth_0, nth_1, nth_2, nth_3, nth_4, nth_5, nth_6, nth_7, nth_8, nth_9, nth_10, nth_11, nth_12, nth_13, nth_14, nth_15, nilCk_p, addOff_ptr, load1_ptr, Nat.zero_add, Nat.add_zero, cell_cells_z, List.getElem?_cons_zero, List.getElem?_cons_succ, gd_tt, gd_tf, gd_ft, gd_ff, gd_skip, pick_true_z, pick_false_z, un_not_z, Bool.not_true, Bool.not_false, ext_tuple, boxO_agg_z, List.toList_toArray, mkPtr_eq_z, AM.mk_some, mkSlc_eq, opt2_some, AH.next_new_z, tk_eq, opt_some, ifB_true, ifB_false]
    generalize H3.put b (.cells (wayC t ⟨u, left, links⟩ lv1) none) = H4 at *
    have hb4 := h4.box hk4
    obtain ⟨⟨p, m, L', q, nx, q1, q2, q3⟩, ho⟩ := h.mono h4.ext
    have c04 : (wayC t ⟨u, left, links⟩ lv1)[0]? = some (ptr t 0) := rfl
    have c24 : (wayC t ⟨u, left, links⟩ lv1)[2]? = some (u16 u.i) := rfl
    simp only [hb4, c04, c24, q1, nth_0, nth_1, nth_2, nth_3, nth_4, nth_5, nth_6, nth_7, nth_8, nth_9, nth_10, nth_11, nth_12, nth_13, nth_14, nth_15, nilCk_p, addOff_ptr, load1_ptr, Nat.zero_add, Nat.add_zero, cell_cells_z, List.getElem?_cons_zero, List.getElem?_cons_succ, gd_tt, gd_tf, gd_ft, gd_ff, gd_skip, pick_true_z, pick_false_z, un_not_z, Bool.not_true, Bool.not_false, ext_tuple, boxO_agg_z, List.toList_toArray, mkPtr_eq_z, AM.mk_some, mkSlc_eq, opt2_some, AH.next_new_z, tk_eq, opt_some, ifB_true, ifB_false]
    refine S.f3 hE q2 u.i ?_
    have hlo4 : loadN 2 (ptr b 1) H4 = some u.v := by rw [loadN_ptr, hb4]; rfl
    rcases q2.get u.i with ⟨k0, _⟩ | ⟨kk, yy, k0, k1, k2, k3, k4⟩
    · simp [nodeP_none q2.cov k0]
      refine fin u 0 _ h4 ?_
      simp [stepY, hd, hdd, hu, k0]
    · simp [-loadN_ptr, nodeP_some q2.cov.nd k1, nilp_p, hb4, c04, hlo4]
      refine S.f55 hE (h.mono h4.ext) u fun H5 e5 => ?_
      have h5 := h4.grow e5
      cases hdu : dirP T M u with
      | false =>
        simp
        refine fin u 2 _ h5 ?_
        simp [stepY, hd, hdd, hu, k0, hdu]
      | true =>
        simp
        refine fin u 0 _ h5 ?_
        simp [stepY, hd, hdd, hu, k0, hdu]
  have hdd' : binStr .eql (str name) (.string ⟨#[46, 46]⟩) = some (vb false) := by
    show binStr .eql (str name) (str [46, 46]) = _
    rw [binStr_eql]; simp [hdd]
  by_cases h14 : 14 < name.length
  · have h14' : (14 : Int) < name.length := by omega
    simp only [hdd', lenStr_s, i64_gtr, gt_iff_lt, h14', decide_true, nth_0, nth_1, nth_2, nth_3, nth_4, nth_5, nth_6, nth_7, nth_8, nth_9, nth_10, nth_11, nth_12, nth_13, nth_14, nth_15, nilCk_p, addOff_ptr, load1_ptr, Nat.zero_add, Nat.add_zero, cell_cells_z, List.getElem?_cons_zero, List.getElem?_cons_succ, gd_tt, gd_tf, gd_ft, gd_ff, gd_skip, pick_true_z, pick_false_z, un_not_z, Bool.not_true, Bool.not_false, ext_tuple, boxO_agg_z, List.toList_toArray, mkPtr_eq_z, AM.mk_some, mkSlc_eq, opt2_some, AH.next_new_z, tk_eq, opt_some, ifB_true, ifB_false]
    refine fin a0 36 _ h2 ?_
    simp [stepY, hd, hdd, h14]
  have h14' : ¬ (14 : Int) < name.length := by omega
  obtain ⟨⟨p, m, L', q, nx, q1', q2', q3'⟩, ho⟩ := id h
  have q1 := h2.ext.cells q1'
  have q2 := q2'.mono h2.ext
  have q3 := q3'.mono h2.ext
  have c2 : (wayC t ⟨a0, left, links⟩ lv1)[2]? = some (u16 a0.i) := rfl
  simp only [hdd', lenStr_s, i64_gtr, gt_iff_lt, h14', decide_false, hb2, c0, c2, q1, nth_0, nth_1, nth_2, nth_3, nth_4, nth_5, nth_6, nth_7, nth_8, nth_9, nth_10, nth_11, nth_12, nth_13, nth_14, nth_15, nilCk_p, addOff_ptr, load1_ptr, Nat.zero_add, Nat.add_zero, cell_cells_z, List.getElem?_cons_zero, List.getElem?_cons_succ, gd_tt, gd_tf, gd_ft, gd_ff, gd_skip, pick_true_z, pick_false_z, un_not_z, Bool.not_true, Bool.not_false, ext_tuple, boxO_agg_z, List.toList_toArray, mkPtr_eq_z, AM.mk_some, mkSlc_eq, opt2_some, AH.next_new_z, tk_eq, opt_some, ifB_true, ifB_false]
  refine S.f4 hE q2 a0.i name ?_
  have hstep : stepY T M ⟨a0, name :: left, links⟩ follow = if (T.look a0.i name).2 ≠ 0 then (⟨a0, left, links⟩, (T.look a0.i name).2) else
      if (T.node (T.look a0.i name).1).kind = 3#8 ∧ (follow = true ∨ left ≠ []) then followY M ⟨a0, left, links⟩ (T.node (T.look a0.i name).1).text
      else if (T.node (T.look a0.i name).1).kind = 2#8 then (⟨seen M ⟨a0.m, (T.look a0.i name).1⟩, left, links⟩, 0) else (⟨⟨a0.m, (T.look a0.i name).1⟩, left, links⟩, 0) := by
    simp [stepY, hd, hdd, h14, followY]
  rw [hstep] at fin hQ
  have hlook : (T.look a0.i name).2 = 0 → (T.node (T.look a0.i name).1).kind ≠ 0#8 := fun e => (wf.pos (Tr.look_ok e).2).2.2.2.1
  generalize T.look a0.i name = lk at *
  simp only [ext_tuple, i64_neq, nth_0, nth_1, nth_2, nth_3, nth_4, nth_5, nth_6, nth_7, nth_8, nth_9, nth_10, nth_11, nth_12, nth_13, nth_14, nth_15, nilCk_p, addOff_ptr, load1_ptr, Nat.zero_add, Nat.add_zero, cell_cells_z, List.getElem?_cons_zero, List.getElem?_cons_succ, gd_tt, gd_tf, gd_ft, gd_ff, gd_skip, pick_true_z, pick_false_z, un_not_z, Bool.not_true, Bool.not_false, ext_tuple, boxO_agg_z, List.toList_toArray, mkPtr_eq_z, AM.mk_some, mkSlc_eq, opt2_some, AH.next_new_z, tk_eq, opt_some, ifB_true, ifB_false]
  by_cases he : lk.2 = 0
  rotate_left
  · simp only [ne_eq, he, not_false_eq_true, decide_true, ifB_true]
    refine fin a0 lk.2 _ h2 ?_
    simp [he]
  rw [if_neg (by simpa using he)] at fin hQ
  simp only [ne_eq, he, not_true, decide_false, hb2, c0, q1, nth_0, nth_1, nth_2, nth_3, nth_4, nth_5, nth_6, nth_7, nth_8, nth_9, nth_10, nth_11, nth_12, nth_13, nth_14, nth_15, nilCk_p, addOff_ptr, load1_ptr, Nat.zero_add, Nat.add_zero, cell_cells_z, List.getElem?_cons_zero, List.getElem?_cons_succ, gd_tt, gd_tf, gd_ft, gd_ff, gd_skip, pick_true_z, pick_false_z, un_not_z, Bool.not_true, Bool.not_false, ext_tuple, boxO_agg_z, List.toList_toArray, mkPtr_eq_z, AM.mk_some, mkSlc_eq, opt2_some, AH.next_new_z, tk_eq, opt_some, ifB_true, ifB_false]
  refine S.f3 hE q2 lk.1 ?_
  rcases q2'.get lk.1 with ⟨k0, _⟩ | ⟨kk, yy, k0, k1, k2, k3', k4⟩
  · exact (hlook he k0).elim
  have k3 := h2.ext.cells k3'
  simp only [nodeP_some q2.cov.nd k1, k3, inC, nth_0, nth_1, nth_2, nth_3, nth_4, nth_5, nth_6, nth_7, nth_8, nth_9, nth_10, nth_11, nth_12, nth_13, nth_14, nth_15, nilCk_p, addOff_ptr, load1_ptr, Nat.zero_add, Nat.add_zero, cell_cells_z, List.getElem?_cons_zero, List.getElem?_cons_succ, gd_tt, gd_tf, gd_ft, gd_ff, gd_skip, pick_true_z, pick_false_z, un_not_z, Bool.not_true, Bool.not_false, ext_tuple, boxO_agg_z, List.toList_toArray, mkPtr_eq_z, AM.mk_some, mkSlc_eq, opt2_some, AH.next_new_z, tk_eq, opt_some, ifB_true, ifB_false]
  have hl2 := strR_lenSlc (s2.sub h2.sub)
  have c3' : (wayC t ⟨a0, left, links⟩ lv1)[3]? = some lv1 := rfl
  have c1' : (wayC t ⟨a0, left, links⟩ lv1)[1]? = some (vi a0.m) := rfl
  have hnp := nodeP_some q2.cov.nd k1
  have hnl : left.length < 2 ^ 40 := by simp only [List.length_cons] at hn; omega
  have stay : ¬ ((T.node lk.1).kind = 3#8 ∧ (follow = true ∨ left ≠ [])) → 
      opt (nilCk (ptr b 0)) fun v94 => opt (addOff v94 1) fun v95 => opt (addOff v95 0) fun v96 => opt (load1 v96 H2) fun v97 =>
        opt (buildV [(0, 1), (1, 1)] #[(.int .i64 0), (.int .u16 0)] [(0, v97), (1, u16 lk.1)]) fun v98 =>
        opt (nilCk (ptr b 0)) fun v99 => opt (addOff v99 1) fun v100 => opt (storeN 2 v100 v98 H2) fun H28 =>
        opt (nilCk (nodeP L' lk.1)) fun v101 => opt (addOff v101 1) fun v102 => opt (load1 v102 H28) fun v103 => opt (binInt .eql v103 (.int .u8 2)) fun v104 =>
        ifB v104 (opt (nilCk (ptr b 0)) fun v105 => opt (addOff v105 0) fun v106 => opt (load1 v106 H28) fun v107 => opt (nilCk v107) fun v108 => opt (addOff v108 1) fun v109 => opt (load1 v109 H28) fun v110 =>
          opt (nilCk (ptr b 0)) fun v111 => opt (addOff v111 1) fun v112 => opt (loadN 2 v112 H28) fun v113 =>
          E.call (E.fid i.f20) [v110, v113] H28 fun v114 H29 => opt (nilCk (ptr b 0)) fun v115 => opt (addOff v115 1) fun v116 => opt (storeN 2 v116 v114 H29) fun H30 => Q (.int .i64 0) H30) (Q (.int .i64 0) H28) := by
    intro hnf
    rw [if_neg hnf] at fin
    have hst5 : storeN 2 (ptr b 1) (PlaceD.v ⟨a0.m, lk.1⟩) H2 = some (H2.put b (.cells (wayC t ⟨⟨a0.m, lk.1⟩, left, links⟩ lv1) none)) := by
      rw [storeN_ptr, hb2]; rfl
    have h5 := h2.put hk1 (wayC t ⟨⟨a0.m, lk.1⟩, left, links⟩ lv1)
    rw [List.set_set] at h5
    have hk5 := getE_set hk (boxR b (wayC t ⟨⟨a0.m, lk.1⟩, left, links⟩ lv1))
    simp only [hb2, c1', mkPlace, hst5, nth_0, nth_1, nth_2, nth_3, nth_4, nth_5, nth_6, nth_7, nth_8, nth_9, nth_10, nth_11, nth_12, nth_13, nth_14, nth_15, nilCk_p, addOff_ptr, load1_ptr, Nat.zero_add, Nat.add_zero, cell_cells_z, List.getElem?_cons_zero, List.getElem?_cons_succ, gd_tt, gd_tf, gd_ft, gd_ff, gd_skip, pick_true_z, pick_false_z, un_not_z, Bool.not_true, Bool.not_false, ext_tuple, boxO_agg_z, List.toList_toArray, mkPtr_eq_z, AM.mk_some, mkSlc_eq, opt2_some, AH.next_new_z, tk_eq, opt_some, ifB_true, ifB_false]
    generalize H2.put b (.cells (wayC t ⟨⟨a0.m, lk.1⟩, left, links⟩ lv1) none) = H5 at *
    have hb5 := h5.box hk5
    have w1 := h5.ext.cells q1'
    have w3 := q3'.mono h5.ext
    have c05 : (wayC t ⟨⟨a0.m, lk.1⟩, left, links⟩ lv1)[0]? = some (ptr t 0) := rfl
    have hk : load1 (ptr yy.blk 1) H5 = some (u8 (T.node lk.1).kind) := by
      rw [load1_ptr, h5.ext.cells k3']; rfl
    simp only [hnp, hk, nth_0, nth_1, nth_2, nth_3, nth_4, nth_5, nth_6, nth_7, nth_8, nth_9, nth_10, nth_11, nth_12, nth_13, nth_14, nth_15, nilCk_p, addOff_ptr, load1_ptr, Nat.zero_add, Nat.add_zero, cell_cells_z, List.getElem?_cons_zero, List.getElem?_cons_succ, gd_tt, gd_tf, gd_ft, gd_ff, gd_skip, pick_true_z, pick_false_z, un_not_z, Bool.not_true, Bool.not_false, ext_tuple, boxO_agg_z, List.toList_toArray, mkPtr_eq_z, AM.mk_some, mkSlc_eq, opt2_some, AH.next_new_z, tk_eq, opt_some, ifB_true, ifB_false]
    by_cases h2k : (T.node lk.1).kind = 2#8
    · have e2 : binInt .eql (u8 (T.node lk.1).kind) (.int .u8 2) = some (vb true) := by
        show binInt .eql (u8 (T.node lk.1).kind) (u8 2#8) = _
        rw [u8_eql]; simp [h2k]
      have hlo5 : loadN 2 (ptr b 1) H5 = some (PlaceD.v ⟨a0.m, lk.1⟩) := by rw [loadN_ptr, hb5]; rfl
      simp only [e2, hb5, c05, w1, hlo5, nth_0, nth_1, nth_2, nth_3, nth_4, nth_5, nth_6, nth_7, nth_8, nth_9, nth_10, nth_11, nth_12, nth_13, nth_14, nth_15, nilCk_p, addOff_ptr, load1_ptr, Nat.zero_add, Nat.add_zero, cell_cells_z, List.getElem?_cons_zero, List.getElem?_cons_succ, gd_tt, gd_tf, gd_ft, gd_ff, gd_skip, pick_true_z, pick_false_z, un_not_z, Bool.not_true, Bool.not_false, ext_tuple, boxO_agg_z, List.toList_toArray, mkPtr_eq_z, AM.mk_some, mkSlc_eq, opt2_some, AH.next_new_z, tk_eq, opt_some, ifB_true, ifB_false]
      refine S.f20 hE q M nx ⟨a0.m, lk.1⟩ w3 ho fun H6 e6 => ?_
      have h6 := h5.grow e6
      have hb6 := h6.box hk5
      have hst6 : storeN 2 (ptr b 1) (seen M ⟨a0.m, lk.1⟩).v H6 = some (H6.put b (.cells (wayC t ⟨seen M ⟨a0.m, lk.1⟩, left, links⟩ lv1) none)) := by
        rw [storeN_ptr, hb6]; rfl
      have h7 := h6.put hk5 (wayC t ⟨seen M ⟨a0.m, lk.1⟩, left, links⟩ lv1)
      rw [List.set_set] at h7
      simp only [hst6, nth_0, nth_1, nth_2, nth_3, nth_4, nth_5, nth_6, nth_7, nth_8, nth_9, nth_10, nth_11, nth_12, nth_13, nth_14, nth_15, nilCk_p, addOff_ptr, load1_ptr, Nat.zero_add, Nat.add_zero, cell_cells_z, List.getElem?_cons_zero, List.getElem?_cons_succ, gd_tt, gd_tf, gd_ft, gd_ff, gd_skip, pick_true_z, pick_false_z, un_not_z, Bool.not_true, Bool.not_false, ext_tuple, boxO_agg_z, List.toList_toArray, mkPtr_eq_z, AM.mk_some, mkSlc_eq, opt2_some, AH.next_new_z, tk_eq, opt_some, ifB_true, ifB_false]
      exact fin _ 0 _ h7 (by rw [if_pos h2k])
    · have e2 : binInt .eql (u8 (T.node lk.1).kind) (.int .u8 2) = some (vb false) := by
        show binInt .eql (u8 (T.node lk.1).kind) (u8 2#8) = _
        rw [u8_eql]; simp [h2k]
      simp only [e2, nth_0, nth_1, nth_2, nth_3, nth_4, nth_5, nth_6, nth_7, nth_8, nth_9, nth_10, nth_11, nth_12, nth_13, nth_14, nth_15, nilCk_p, addOff_ptr, load1_ptr, Nat.zero_add, Nat.add_zero, cell_cells_z, List.getElem?_cons_zero, List.getElem?_cons_succ, gd_tt, gd_tf, gd_ft, gd_ff, gd_skip, pick_true_z, pick_false_z, un_not_z, Bool.not_true, Bool.not_false, ext_tuple, boxO_agg_z, List.toList_toArray, mkPtr_eq_z, AM.mk_some, mkSlc_eq, opt2_some, AH.next_new_z, tk_eq, opt_some, ifB_true, ifB_false]
      exact fin _ 0 _ h5 (by rw [if_neg h2k])
  by_cases hk3 : (T.node lk.1).kind = 3#8
  · have ht := lt lk.1 hk3
    by_cases hf : follow = true ∨ left ≠ []
    · rw [if_pos ⟨hk3, hf⟩] at hQ
      have hfol := S.f61 (Q := fun v H => Q v H) hE h h2 hk1 s2 hnl hlk (T.node lk.1).text ht (fun lv' Z' H' z1 z2 z3 => hQ lv' Z' H' z1 (by rwa [List.set_set] at z2) z3)
      cases follow with
      | true =>
        simp [hk3, hnp, k3, inC]
        exact hfol
      | false =>
        have hpos : 0 < left.length := List.length_pos_iff.2 (by simpa using hf)
        simp [hk3, hnp, k3, inC, hb2, c3', hl2, hpos]
        exact hfol
    · have hf1 : follow = false := by cases follow <;> simp_all
      have hf2 : left = [] := by
        refine Classical.byContradiction fun hc => hf (.inr hc)
      have st2 := stay fun hc => hf hc.2
      subst hf1
      subst hf2
      have e3 : binInt .eql (u8 (T.node lk.1).kind) (.int .u8 3) = some (vb true) := by
        show binInt .eql (u8 (T.node lk.1).kind) (u8 3#8) = _
        rw [u8_eql]; simp [hk3]
      have hl3 : AM.lenSlc lv1 = some (vi 0) := hl2
      simp only [e3, gd_tt, gd_ff, hb2, c3', hl3, i64_gtr, gt_iff_lt, Int.lt_irrefl, decide_false, pick_true_z, pick_false_z, nth_0, nth_1, nth_2, nth_3, nth_4, nth_5, nth_6, nth_7, nth_8, nth_9, nth_10, nth_11, nth_12, nth_13, nth_14, nth_15, nilCk_p, addOff_ptr, load1_ptr, Nat.zero_add, Nat.add_zero, cell_cells_z, List.getElem?_cons_zero, List.getElem?_cons_succ, gd_tt, gd_tf, gd_ft, gd_ff, gd_skip, pick_true_z, pick_false_z, un_not_z, Bool.not_true, Bool.not_false, ext_tuple, boxO_agg_z, List.toList_toArray, mkPtr_eq_z, AM.mk_some, mkSlc_eq, opt2_some, AH.next_new_z, tk_eq, opt_some, ifB_true, ifB_false]
      simp only [hb2, nth_0, nth_1, nth_2, nth_3, nth_4, nth_5, nth_6, nth_7, nth_8, nth_9, nth_10, nth_11, nth_12, nth_13, nth_14, nth_15, nilCk_p, addOff_ptr, load1_ptr, Nat.zero_add, Nat.add_zero, cell_cells_z, List.getElem?_cons_zero, List.getElem?_cons_succ, gd_tt, gd_tf, gd_ft, gd_ff, gd_skip, pick_true_z, pick_false_z, un_not_z, Bool.not_true, Bool.not_false, ext_tuple, boxO_agg_z, List.toList_toArray, mkPtr_eq_z, AM.mk_some, mkSlc_eq, opt2_some, AH.next_new_z, tk_eq, opt_some, ifB_true, ifB_false] at st2
      exact st2
  · have st2 := stay fun hc => hk3 hc.1
    have e3 : binInt .eql (u8 (T.node lk.1).kind) (.int .u8 3) = some (vb false) := by
      show binInt .eql (u8 (T.node lk.1).kind) (u8 3#8) = _
      rw [u8_eql]; simp [hk3]
    simp only [e3, gd_ft, gd_skip, pick_false_z, hb2, nth_0, nth_1, nth_2, nth_3, nth_4, nth_5, nth_6, nth_7, nth_8, nth_9, nth_10, nth_11, nth_12, nth_13, nth_14, nth_15, nilCk_p, addOff_ptr, load1_ptr, Nat.zero_add, Nat.add_zero, cell_cells_z, List.getElem?_cons_zero, List.getElem?_cons_succ, gd_tt, gd_tf, gd_ft, gd_ff, gd_skip, pick_true_z, pick_false_z, un_not_z, Bool.not_true, Bool.not_false, ext_tuple, boxO_agg_z, List.toList_toArray, mkPtr_eq_z, AM.mk_some, mkSlc_eq, opt2_some, AH.next_new_z, tk_eq, opt_some, ifB_true, ifB_false]
    simp only [hb2, nth_0, nth_1, nth_2, nth_3, nth_4, nth_5, nth_6, nth_7, nth_8, nth_9, nth_10, nth_11, nth_12, nth_13, nth_14, nth_15, nilCk_p, addOff_ptr, load1_ptr, Nat.zero_add, Nat.add_zero, cell_cells_z, List.getElem?_cons_zero, List.getElem?_cons_succ, gd_tt, gd_tf, gd_ft, gd_ff, gd_skip, pick_true_z, pick_false_z, un_not_z, Bool.not_true, Bool.not_false, ext_tuple, boxO_agg_z, List.toList_toArray, mkPtr_eq_z, AM.mk_some, mkSlc_eq, opt2_some, AH.next_new_z, tk_eq, opt_some, ifB_true, ifB_false] at st2
    exact st2
end
end Go.AM
end
section
namespace Go.AM
section
variable {E : Sy} {H H' H0 Z : AH} {Q : Value → AH → Prop} {t : Nat} {T : Tr} {M : List MntD} {L : List Res}
theorem Has.callee (h : Has H0 Z H L) (e : Ext H H') : ∃ Z', Fz H.next Z Z' ∧ Has H0 Z' H' L ∧ ∀ sz v rows, Rows H' sz v rows → FreshV H.next v → Rows Z' sz v rows := by
  have hg : ∀ b, (AH.mk H'.next fun b => if b < H.next then Z.get b else H'.get b).get b = if b < H.next then Z.get b else H'.get b := by
    intro b
    simp only [AH.get]
    by_cases hb : b < H'.next
    · rw [if_pos hb]
    · have h1 : ¬ b < H.next := fun hb' => hb (Nat.lt_of_lt_of_le hb' e.1)
      have h2 : ¬ b < H'.next := hb
      simp [h1, h2]
  refine ⟨⟨H'.next, fun b => if b < H.next then Z.get b else H'.get b⟩, ⟨⟨Nat.le_trans h.sub.1 e.1, fun b hb => ?_⟩, fun b hb => by rw [hg, if_pos hb]⟩, ?_, ?_⟩
  · rw [hg]
    split
    · rfl
    · rename_i hn
      exact (hb (AH.get_ge _ (Nat.le_trans h.sub.1 (by omega)))).elim
  · refine h.refreeze e ⟨⟨Nat.le_trans h.sub.1 e.1, fun b hb => ?_⟩, fun b hb => by rw [hg, if_pos hb]⟩ ⟨Nat.le_refl _, fun b hb => ?_⟩
    · rw [hg]
      split
      · rfl
      · rename_i hn
        exact (hb (AH.get_ge _ (Nat.le_trans h.sub.1 (by omega)))).elim
    · rw [hg] at hb ⊢
      split
      · rename_i hlt
        rw [if_pos hlt] at hb
        rw [e.get hlt]
        exact h.sub.2 b hb
      · rfl
  · intro sz v rows hr hf
    refine ⟨hr.len, ?_⟩
    rcases hr.at_ with g | ⟨b, o, c, g1, g2, g3, g4⟩
    · exact .inl g
    · by_cases hrn : rows = []
      · have hz : ¬ b < H.next := by
          have := hf b (by rw [g1]; rfl)
          omega
        exact .inr ⟨b, o, c, g1, g2, by rw [hg, if_neg hz]; exact g3, by rw [hg, if_neg hz]; exact g4⟩
      · have hz : ¬ b < H.next := by
          have := hf b (by rw [g1]; rfl)
          omega
        exact .inr ⟨b, o, c, g1, g2, by rw [hg, if_neg hz]; exact g3, by rw [hg, if_neg hz]; exact g4⟩
theorem stepY_need (lt : T.LT) {w : WayD} (follow : Bool) (hne : w.left ≠ []) (hlk : w.links ≤ 8) (h0 : (stepY T M w follow).2 = 0) : (stepY T M w follow).1.need < w.need ∧ (stepY T M w follow).1.links ≤ 8 := by
  obtain ⟨a, left, links⟩ := w
  cases left with
  | nil => exact (hne rfl).elim
  | cons name left =>
    have hlk : links ≤ 8 := hlk
    have stay : ∀ a' : PlaceD, (WayD.mk a' left links).need < (WayD.mk a (name :: left) links).need ∧ (WayD.mk a' left links).links ≤ 8 := by
      intro a'
      refine ⟨?_, hlk⟩
      simp only [WayD.need, List.length_cons]
      omega
    revert h0
    unfold stepY
    simp only
    split
    · intro h; simp at h
    split
    · split
      · intro h; simp at h
      · intro _; exact stay _
    split
    · intro h; simp at h
    split
    · rename_i h4
      intro h; exact (h4 h).elim
    split
    · rename_i h5
      split
      · intro h; simp at h
      · rename_i h6
        intro _
        have ht := (lt _ h5.1).2
        have hp := partsL_le (T.node (T.look a.i name).1).text
        refine ⟨?_, by show links + 1 ≤ 8; omega⟩
        simp only [WayD.need, List.length_cons, List.length_append]
        omega
    · split
      · intro _; exact stay _
      · intro _; exact stay _
theorem walkN_stable (lt : T.LT) (follow : Bool) : ∀ (n : Nat) (w : WayD), w.need ≤ n → w.links ≤ 8 → walkN T M follow n w = walkN T M follow (n + 1) w
  | 0, w, h, hl => by
    have : w.left = [] := List.eq_nil_of_length_eq_zero (by unfold WayD.need at h; omega)
    simp [walkN, this]
  | n + 1, w, h, hl => by
    rw [walkN, walkN]
    split
    · rfl
    · rename_i hne
      split
      · rfl
      · rename_i h0
        have := stepY_need (M := M) lt follow hne hl (by simpa using h0)
        exact walkN_stable lt follow n _ (by omega) this.2
theorem walkN_enough (lt : T.LT) (follow : Bool) (w : WayD) (hl : w.links ≤ 8) : ∀ (d n : Nat), w.need ≤ n → walkN T M follow (n + d) w = walkN T M follow n w
  | 0, _, _ => rfl
  | d + 1, n, h => by rw [← Nat.add_assoc, ← walkN_stable lt follow (n + d) w (by omega) hl, walkN_enough lt follow w hl d n h]
theorem walkW_nil (follow : Bool) {w : WayD} (h : w.left = []) : walkW T M follow w = (w, 0) := by
  unfold walkW
  cases w.need <;> simp [walkN, h]
theorem walkW_step (lt : T.LT) (follow : Bool) {w : WayD} (h : w.left ≠ []) (hl : w.links ≤ 8) : walkW T M follow w = if (stepY T M w follow).2 ≠ 0 then stepY T M w follow else walkW T M follow (stepY T M w follow).1 := by
  have hpos : 0 < w.need := by
    have := List.length_pos_iff.2 h
    unfold WayD.need; omega
  unfold walkW
  obtain ⟨n, hn⟩ : ∃ n, w.need = n + 1 := ⟨w.need - 1, by omega⟩
  rw [hn, walkN, if_neg h]
  split
  · rfl
  · rename_i h0
    have := stepY_need (M := M) lt follow h hl (by simpa using h0)
    obtain ⟨d, hd⟩ : ∃ d, n = (stepY T M w follow).1.need + d := ⟨n - (stepY T M w follow).1.need, by omega⟩
    rw [hd]
    exact walkN_enough lt follow _ this.2 d _ (Nat.le_refl _)
theorem S.f44 (hE : Fold E) (s : List UInt8) (hs : s.length < 2 ^ 63) (hQ : Q (vb (endsSlash s)) H) : E.call (E.fid i.f44) [str s, str [47]] H Q := by
  apply hE.f44
  simp only [F.f44]
  apply hE.f14
  unfold endsSlash at hQ
  cases hs0 : s.reverse with
  | nil =>
    obtain rfl : s = [] := by simpa using hs0
    simp [F.f14]
    simpa using hQ
  | cons c l =>
    obtain rfl : s = l.reverse ++ [c] := by
      have := congrArg List.reverse hs0
      simpa using this
    have hl : ((l.reverse ++ [c]).length : Int) = (l.length : Int) + 1 := by simp
    have h1 : (1 : Int) ≤ (l.length : Int) + 1 := by omega
    simp only [List.length_append, List.length_reverse, List.length_cons, List.length_nil] at hs
    have hsub : binInt .sub (vi ((l.length : Int) + 1)) (vi 1) = some (vi (l.length : Nat)) := by
      rw [i64_sub (by omega) (by omega)]; simp
    have hsl : slStr (str (l.reverse ++ [c])) (some (vi (l.length : Nat))) none = some (str [c]) := by
      rw [slStr_drop _ _ (by simp)]
      congr 2
      rw [List.drop_append]
      simp
    simp [F.f14, h1, hsub, hsl]
    simpa using hQ
end
end Go.AM
end
section
namespace Go.AM
section
variable {E : Sy} {H H' H0 Z : AH} {Q : Value → AH → Prop} {t : Nat} {T : Tr} {M : List MntD} {L : List Res}
theorem beginW_links (M : List MntD) (c : PlaceD) (path : List UInt8) : (beginW M c path).1.links = 0 ∧ (beginW M c path).1.left.length ≤ 121 := by
  unfold beginW
  split
  · exact ⟨rfl, by simp⟩
  · split
    · exact ⟨rfl, by simp⟩
    · exact ⟨rfl, by have := partsL_le path; show (partsL path).length ≤ 121; omega⟩
theorem answer {rb : Nat} {z : PlaceD} (hz : H.get rb = .cells z.cells none) (p : PlaceD) {R : Value → AH → Prop} (hR : R p.v (H.put rb (.cells p.cells none))) :
    opt (storeN 2 (ptr rb 0) p.v H) fun H3 => opt (loadN 2 (ptr rb 0) H3) fun v10 => R v10 H3 := by
  have h1 : storeN 2 (ptr rb 0) p.v H = some (H.put rb (.cells p.cells none)) := by rw [storeN_ptr, hz]; rfl
  have h2 : loadN 2 (ptr rb 0) (H.put rb (.cells p.cells none)) = some p.v := by rw [loadN_ptr, AH.get_put_self _ _ (AH.lt_cells hz)]; rfl
  simp only [h1, h2, tk_eq, opt_some]
  exact hR
theorem S.f56 (hE : Fold E) (h : WkAt H t T M) (wf : T.WF) (lt : T.LT) (c : PlaceD) (path : List UInt8) (hp : path.length < 2 ^ 63) (follow : Bool)
    (hQ : ∀ H', Ext H H' → Q (.tuple #[(findW T M c path follow).1.v, vi (findW T M c path follow).2]) H') : E.call (E.fid i.f56) [ptr t 0, c.v, str path, vb follow] H Q := by
  apply hE.f56
  have g0 : Has H H H [] := Has.start (Ext.refl H)
  have g1 := g0.newbox c.cells
  have g2 := g1.newbox PlaceD.zero.cells
  have hz2 : ([(.int .i64 0), (.int .u16 0)] : List Value) = PlaceD.zero.cells := rfl
  simp only [F.f56, boxO_agg_z, AM.mk_some, mkPtr_eq_z, allocW_eq, hz2, List.toList_toArray, tk_eq]
  have hb1 := g2.box (k := 0) rfl
  have hl1 : loadN 2 (ptr H.next 0) ((H.new (.cells c.cells none)).new (.cells PlaceD.zero.cells none)) = some c.v := by rw [loadN_ptr, hb1]; rfl
  generalize hrb : (H.new (.cells c.cells none)).next = rb at *
  simp only [hl1, nth_0, nth_1, nth_2, nth_3, nth_4, nth_5, nth_6, nth_7, nth_8, nth_9, nth_10, nth_11, nth_12, nth_13, nth_14, nth_15, nilCk_p, addOff_ptr, load1_ptr, Nat.zero_add, Nat.add_zero, cell_cells_z, List.getElem?_cons_zero, List.getElem?_cons_succ, gd_tt, gd_tf, gd_ft, gd_ff, gd_skip, pick_true_z, pick_false_z, un_not_z, Bool.not_true, Bool.not_false, ext_tuple, boxO_agg_z, List.toList_toArray, mkPtr_eq_z, AM.mk_some, mkSlc_eq, opt2_some, AH.next_new_z, tk_eq, opt_some, ifB_true, ifB_false]
  generalize (H.new (.cells c.cells none)).new (.cells PlaceD.zero.cells none) = H2 at *
  refine S.f58 hE (h.mono g2.ext) c path hp fun lv H3 e3 r3 f3 => ?_
  obtain ⟨Z3, z1, g3, z3⟩ := g2.callee e3
  have rz := z3 1 lv _ r3 f3
  have hlv := rz.plainV
  have hbg := beginW_links M c path
  unfold findW at hQ
  generalize hbw : beginW M c path = bw at *
  have hz5 : ([(.pointer none), (.int .i64 0), (.int .u16 0), (.slice none 0 0), (.int .i64 0)] : List Value).length = 5 := rfl
  have g4 := g3.newbox [(.pointer none), (.int .i64 0), (.int .u16 0), (.slice none 0 0), (.int .i64 0)]
  have hb4 := g4.box (k := 2) (b := H3.next) rfl
  have hst := way_store t bw.1 hlv hz5 hb4
  have g5 := g4.put (k := 2) (b := H3.next) rfl (wayC t bw.1 lv)
  simp only [ext_tuple, allocW_eq, hst, nth_0, nth_1, nth_2, nth_3, nth_4, nth_5, nth_6, nth_7, nth_8, nth_9, nth_10, nth_11, nth_12, nth_13, nth_14, nth_15, nilCk_p, addOff_ptr, load1_ptr, Nat.zero_add, Nat.add_zero, cell_cells_z, List.getElem?_cons_zero, List.getElem?_cons_succ, gd_tt, gd_tf, gd_ft, gd_ff, gd_skip, pick_true_z, pick_false_z, un_not_z, Bool.not_true, Bool.not_false, ext_tuple, boxO_agg_z, List.toList_toArray, mkPtr_eq_z, AM.mk_some, mkSlc_eq, opt2_some, AH.next_new_z, tk_eq, opt_some, ifB_true, ifB_false]
  generalize hwb : H3.next = wb at *
  generalize (H3.new (.cells [(.pointer none), (.int .i64 0), (.int .u16 0), (.slice none 0 0), (.int .i64 0)] none)).put wb (.cells (wayC t bw.1 lv) none) = H5 at *
  have g5 : Has H Z3 H5 [boxR H.next c.cells, boxR rb PlaceD.zero.cells, boxR wb (wayC t bw.1 lv)] := g5
  simp only [i64_neq, nth_0, nth_1, nth_2, nth_3, nth_4, nth_5, nth_6, nth_7, nth_8, nth_9, nth_10, nth_11, nth_12, nth_13, nth_14, nth_15, nilCk_p, addOff_ptr, load1_ptr, Nat.zero_add, Nat.add_zero, cell_cells_z, List.getElem?_cons_zero, List.getElem?_cons_succ, gd_tt, gd_tf, gd_ft, gd_ff, gd_skip, pick_true_z, pick_false_z, un_not_z, Bool.not_true, Bool.not_false, ext_tuple, boxO_agg_z, List.toList_toArray, mkPtr_eq_z, AM.mk_some, mkSlc_eq, opt2_some, AH.next_new_z, tk_eq, opt_some, ifB_true, ifB_false]
  by_cases he : bw.2 = 0
  rotate_left
  · simp only [ne_eq, he, not_false_eq_true, decide_true, mkPlace0, nth_0, nth_1, nth_2, nth_3, nth_4, nth_5, nth_6, nth_7, nth_8, nth_9, nth_10, nth_11, nth_12, nth_13, nth_14, nth_15, nilCk_p, addOff_ptr, load1_ptr, Nat.zero_add, Nat.add_zero, cell_cells_z, List.getElem?_cons_zero, List.getElem?_cons_succ, gd_tt, gd_tf, gd_ft, gd_ff, gd_skip, pick_true_z, pick_false_z, un_not_z, Bool.not_true, Bool.not_false, ext_tuple, boxO_agg_z, List.toList_toArray, mkPtr_eq_z, AM.mk_some, mkSlc_eq, opt2_some, AH.next_new_z, tk_eq, opt_some, ifB_true, ifB_false]
    rw [if_pos (by simpa using he)] at hQ
    refine answer (R := fun v H => Q (.tuple #[v, vi bw.2]) H) (g5.box (k := 1) rfl) PlaceD.zero ?_
    exact hQ _ (g5.put (k := 1) (b := rb) rfl PlaceD.zero.cells).ext
  rw [if_neg (by simpa using he)] at hQ
  simp only [ne_eq, he, not_true, decide_false, nth_0, nth_1, nth_2, nth_3, nth_4, nth_5, nth_6, nth_7, nth_8, nth_9, nth_10, nth_11, nth_12, nth_13, nth_14, nth_15, nilCk_p, addOff_ptr, load1_ptr, Nat.zero_add, Nat.add_zero, cell_cells_z, List.getElem?_cons_zero, List.getElem?_cons_succ, gd_tt, gd_tf, gd_ft, gd_ff, gd_skip, pick_true_z, pick_false_z, un_not_z, Bool.not_true, Bool.not_false, ext_tuple, boxO_agg_z, List.toList_toArray, mkPtr_eq_z, AM.mk_some, mkSlc_eq, opt2_some, AH.next_new_z, tk_eq, opt_some, ifB_true, ifB_false]
  refine S.f44 hE path hp ?_
  generalize endsSlash path = slash at *
  refine LoopL.ind (fun n ls H' => ∃ w lv Z', n = w.need ∧ ls = [ptr t 0, vb follow, ptr rb 0, ptr wb 0, vb slash] ∧ Has H Z' H' [boxR H.next c.cells, boxR rb PlaceD.zero.cells, boxR wb (wayC t w lv)] ∧ Rows Z' 1 lv (strR w.left) ∧ w.links ≤ 8 ∧ w.need ≤ 5000 ∧ walkW T M (follow || slash) w = walkW T M (follow || slash) bw.1) ?_ bw.1.need ⟨bw.1, lv, Z3, rfl, rfl, g5, rz, by omega, by unfold WayD.need; omega, rfl⟩
  rintro n _ H6 X hX ⟨w, lv, Z', rfl, rfl, g6, r6, hlk, hnd, hww⟩
  have hb6 := g6.box (k := 2) (b := wb) rfl
  have c3 : (wayC t w lv)[3]? = some lv := rfl
  have hl6 := strR_lenSlc (r6.sub g6.sub)
  have hneed : w.left.length ≤ w.need := by unfold WayD.need; omega
  by_cases hne : w.left = []
  · rw [← hww, walkW_nil _ hne] at hQ
    simp only [ne_eq, not_true, if_false] at hQ
    have hl0 : AM.lenSlc lv = some (vi 0) := by rw [hl6, hne]; rfl
    obtain ⟨⟨p, m, L', q, nx, q1, q2, q3⟩, ho⟩ := h.mono g6.ext
    have c2 : (wayC t w lv)[2]? = some (u16 w.at_.i) := rfl
    simp only [F.f56_l1, nth_0, nth_1, nth_2, nth_3, nth_4, hb6, c3, hl0, i64_gtr, gt_iff_lt, Int.lt_irrefl, decide_false, q1, c2, nth_0, nth_1, nth_2, nth_3, nth_4, nth_5, nth_6, nth_7, nth_8, nth_9, nth_10, nth_11, nth_12, nth_13, nth_14, nth_15, nilCk_p, addOff_ptr, load1_ptr, Nat.zero_add, Nat.add_zero, cell_cells_z, List.getElem?_cons_zero, List.getElem?_cons_succ, gd_tt, gd_tf, gd_ft, gd_ff, gd_skip, pick_true_z, pick_false_z, un_not_z, Bool.not_true, Bool.not_false, ext_tuple, boxO_agg_z, List.toList_toArray, mkPtr_eq_z, AM.mk_some, mkSlc_eq, opt2_some, AH.next_new_z, tk_eq, opt_some, ifB_true, ifB_false]
    refine S.f3 hE q2 w.at_.i ?_
    have hz6 := g6.box (k := 1) rfl
    rcases q2.get w.at_.i with ⟨k0, _⟩ | ⟨kk, yy, k0, k1, k2, k3, k4⟩
    · rw [if_pos k0] at hQ
      simp only [nodeP_none q2.cov k0, nilp_none_z, mkPlace0, nth_0, nth_1, nth_2, nth_3, nth_4, nth_5, nth_6, nth_7, nth_8, nth_9, nth_10, nth_11, nth_12, nth_13, nth_14, nth_15, nilCk_p, addOff_ptr, load1_ptr, Nat.zero_add, Nat.add_zero, cell_cells_z, List.getElem?_cons_zero, List.getElem?_cons_succ, gd_tt, gd_tf, gd_ft, gd_ff, gd_skip, pick_true_z, pick_false_z, un_not_z, Bool.not_true, Bool.not_false, ext_tuple, boxO_agg_z, List.toList_toArray, mkPtr_eq_z, AM.mk_some, mkSlc_eq, opt2_some, AH.next_new_z, tk_eq, opt_some, ifB_true, ifB_false]
      refine answer (R := fun v H => Q (.tuple #[v, vi 2]) H) hz6 PlaceD.zero ?_
      exact hQ _ (g6.put (k := 1) (b := rb) rfl PlaceD.zero.cells).ext
    · rw [if_neg k0] at hQ
      simp only [nodeP_some q2.cov.nd k1, nilq_p, nth_0, nth_1, nth_2, nth_3, nth_4, nth_5, nth_6, nth_7, nth_8, nth_9, nth_10, nth_11, nth_12, nth_13, nth_14, nth_15, nilCk_p, addOff_ptr, load1_ptr, Nat.zero_add, Nat.add_zero, cell_cells_z, List.getElem?_cons_zero, List.getElem?_cons_succ, gd_tt, gd_tf, gd_ft, gd_ff, gd_skip, pick_true_z, pick_false_z, un_not_z, Bool.not_true, Bool.not_false, ext_tuple, boxO_agg_z, List.toList_toArray, mkPtr_eq_z, AM.mk_some, mkSlc_eq, opt2_some, AH.next_new_z, tk_eq, opt_some, ifB_true, ifB_false]
      have hlo6 : loadN 2 (ptr wb 1) H6 = some w.at_.v := by rw [loadN_ptr, hb6]; rfl
      cases slash with
      | false =>
        simp only [Bool.false_eq_true, false_and, if_false] at hQ
        simp only [gd_ft, gd_skip, pick_false_z, hlo6, nth_0, nth_1, nth_2, nth_3, nth_4, nth_5, nth_6, nth_7, nth_8, nth_9, nth_10, nth_11, nth_12, nth_13, nth_14, nth_15, nilCk_p, addOff_ptr, load1_ptr, Nat.zero_add, Nat.add_zero, cell_cells_z, List.getElem?_cons_zero, List.getElem?_cons_succ, gd_tt, gd_tf, gd_ft, gd_ff, gd_skip, pick_true_z, pick_false_z, un_not_z, Bool.not_true, Bool.not_false, ext_tuple, boxO_agg_z, List.toList_toArray, mkPtr_eq_z, AM.mk_some, mkSlc_eq, opt2_some, AH.next_new_z, tk_eq, opt_some, ifB_true, ifB_false]
        refine answer (R := fun v H => Q (.tuple #[v, vi 0]) H) hz6 w.at_ ?_
        exact hQ _ (g6.put (k := 1) (b := rb) rfl w.at_.cells).ext
      | true =>
        simp only [gd_tt, hlo6, nth_0, nth_1, nth_2, nth_3, nth_4, nth_5, nth_6, nth_7, nth_8, nth_9, nth_10, nth_11, nth_12, nth_13, nth_14, nth_15, nilCk_p, addOff_ptr, load1_ptr, Nat.zero_add, Nat.add_zero, cell_cells_z, List.getElem?_cons_zero, List.getElem?_cons_succ, gd_tt, gd_tf, gd_ft, gd_ff, gd_skip, pick_true_z, pick_false_z, un_not_z, Bool.not_true, Bool.not_false, ext_tuple, boxO_agg_z, List.toList_toArray, mkPtr_eq_z, AM.mk_some, mkSlc_eq, opt2_some, AH.next_new_z, tk_eq, opt_some, ifB_true, ifB_false]
        refine S.f55 hE (h.mono g6.ext) w.at_ fun H7 e7 => ?_
        have g7 := g6.grow e7
        have hz7 := g7.box (k := 1) rfl
        have hlo7 : loadN 2 (ptr wb 1) H7 = some w.at_.v := by rw [loadN_ptr, g7.box (k := 2) (b := wb) rfl]; rfl
        cases hd : dirP T M w.at_ with
        | false =>
          simp only [hd, and_self, if_true] at hQ
          simp only [gd_tt, un_not_z, Bool.not_false, pick_true_z, mkPlace0, nth_0, nth_1, nth_2, nth_3, nth_4, nth_5, nth_6, nth_7, nth_8, nth_9, nth_10, nth_11, nth_12, nth_13, nth_14, nth_15, nilCk_p, addOff_ptr, load1_ptr, Nat.zero_add, Nat.add_zero, cell_cells_z, List.getElem?_cons_zero, List.getElem?_cons_succ, gd_tt, gd_tf, gd_ft, gd_ff, gd_skip, pick_true_z, pick_false_z, un_not_z, Bool.not_true, Bool.not_false, ext_tuple, boxO_agg_z, List.toList_toArray, mkPtr_eq_z, AM.mk_some, mkSlc_eq, opt2_some, AH.next_new_z, tk_eq, opt_some, ifB_true, ifB_false]
          refine answer (R := fun v H => Q (.tuple #[v, vi 20]) H) hz7 PlaceD.zero ?_
          exact hQ _ (g7.put (k := 1) (b := rb) rfl PlaceD.zero.cells).ext
        | true =>
          simp only [hd, Bool.true_eq_false, and_false, if_false] at hQ
          simp only [gd_tt, un_not_z, Bool.not_true, pick_true_z, hlo7, nth_0, nth_1, nth_2, nth_3, nth_4, nth_5, nth_6, nth_7, nth_8, nth_9, nth_10, nth_11, nth_12, nth_13, nth_14, nth_15, nilCk_p, addOff_ptr, load1_ptr, Nat.zero_add, Nat.add_zero, cell_cells_z, List.getElem?_cons_zero, List.getElem?_cons_succ, gd_tt, gd_tf, gd_ft, gd_ff, gd_skip, pick_true_z, pick_false_z, un_not_z, Bool.not_true, Bool.not_false, ext_tuple, boxO_agg_z, List.toList_toArray, mkPtr_eq_z, AM.mk_some, mkSlc_eq, opt2_some, AH.next_new_z, tk_eq, opt_some, ifB_true, ifB_false]
          refine answer (R := fun v H => Q (.tuple #[v, vi 0]) H) hz7 w.at_ ?_
          exact hQ _ (g7.put (k := 1) (b := rb) rfl w.at_.cells).ext
  · have hpos : (0 : Int) < (w.left.length : Nat) := by have := List.length_pos_iff.2 hne; omega
    simp only [F.f56_l1, nth_0, nth_1, nth_2, nth_3, nth_4, hb6, c3, hl6, i64_gtr, gt_iff_lt, hpos, decide_true, nth_0, nth_1, nth_2, nth_3, nth_4, nth_5, nth_6, nth_7, nth_8, nth_9, nth_10, nth_11, nth_12, nth_13, nth_14, nth_15, nilCk_p, addOff_ptr, load1_ptr, Nat.zero_add, Nat.add_zero, cell_cells_z, List.getElem?_cons_zero, List.getElem?_cons_succ, gd_tt, gd_tf, gd_ft, gd_ff, gd_skip, pick_true_z, pick_false_z, un_not_z, Bool.not_true, Bool.not_false, ext_tuple, boxO_agg_z, List.toList_toArray, mkPtr_eq_z, AM.mk_some, mkSlc_eq, opt2_some, AH.next_new_z, tk_eq, opt_some, ifB_true, ifB_false]
    have hpk : ∀ (K : Value → AH → Prop), K (vb (follow || slash)) H6 → gd (vb follow) false (fun k => k (vb slash) H6) H6 fun v5 H1 => opt (pick (vb follow) (.bool true) v5) fun v6 => K v6 H1 := by
      intro K hK
      cases follow <;> simpa using hK
    refine hpk _ ?_
    refine S.f62 hE h wf lt (k := 2) (b := wb) g6 rfl r6 (by omega) (by omega) hne (follow || slash) fun lv' Z7 H7 y1 y2 y3 => ?_
    have hst7 := walkW_step (M := M) lt (follow || slash) hne hlk
    have hnd7 := stepY_need (M := M) lt (follow || slash) hne hlk
    have y2 : Has H Z7 H7 [boxR H.next c.cells, boxR rb PlaceD.zero.cells, boxR wb (wayC t (stepY T M w (follow || slash)).1 lv')] := y2
    generalize stepY T M w (follow || slash) = st at *
    simp only [i64_neq, nth_0, nth_1, nth_2, nth_3, nth_4, nth_5, nth_6, nth_7, nth_8, nth_9, nth_10, nth_11, nth_12, nth_13, nth_14, nth_15, nilCk_p, addOff_ptr, load1_ptr, Nat.zero_add, Nat.add_zero, cell_cells_z, List.getElem?_cons_zero, List.getElem?_cons_succ, gd_tt, gd_tf, gd_ft, gd_ff, gd_skip, pick_true_z, pick_false_z, un_not_z, Bool.not_true, Bool.not_false, ext_tuple, boxO_agg_z, List.toList_toArray, mkPtr_eq_z, AM.mk_some, mkSlc_eq, opt2_some, AH.next_new_z, tk_eq, opt_some, ifB_true, ifB_false]
    by_cases h0 : st.2 = 0
    · rw [if_neg (by simpa using h0)] at hst7
      obtain ⟨n1, n2⟩ := hnd7 h0
      simp only [ne_eq, h0, not_true, decide_false, nth_0, nth_1, nth_2, nth_3, nth_4, nth_5, nth_6, nth_7, nth_8, nth_9, nth_10, nth_11, nth_12, nth_13, nth_14, nth_15, nilCk_p, addOff_ptr, load1_ptr, Nat.zero_add, Nat.add_zero, cell_cells_z, List.getElem?_cons_zero, List.getElem?_cons_succ, gd_tt, gd_tf, gd_ft, gd_ff, gd_skip, pick_true_z, pick_false_z, un_not_z, Bool.not_true, Bool.not_false, ext_tuple, boxO_agg_z, List.toList_toArray, mkPtr_eq_z, AM.mk_some, mkSlc_eq, opt2_some, AH.next_new_z, tk_eq, opt_some, ifB_true, ifB_false]
      exact hX _ n1 _ _ ⟨st.1, lv', Z7, rfl, rfl, y2, y3, n2, by omega, by rw [← hww, hst7]⟩
    · rw [if_pos (by simpa using h0)] at hst7
      rw [← hww, hst7, if_pos (by simpa using h0)] at hQ
      simp only [ne_eq, h0, not_false_eq_true, decide_true, mkPlace0, nth_0, nth_1, nth_2, nth_3, nth_4, nth_5, nth_6, nth_7, nth_8, nth_9, nth_10, nth_11, nth_12, nth_13, nth_14, nth_15, nilCk_p, addOff_ptr, load1_ptr, Nat.zero_add, Nat.add_zero, cell_cells_z, List.getElem?_cons_zero, List.getElem?_cons_succ, gd_tt, gd_tf, gd_ft, gd_ff, gd_skip, pick_true_z, pick_false_z, un_not_z, Bool.not_true, Bool.not_false, ext_tuple, boxO_agg_z, List.toList_toArray, mkPtr_eq_z, AM.mk_some, mkSlc_eq, opt2_some, AH.next_new_z, tk_eq, opt_some, ifB_true, ifB_false]
      refine answer (R := fun v H => Q (.tuple #[v, vi st.2]) H) (y2.box (k := 1) rfl) PlaceD.zero ?_
      exact hQ _ (y2.put (k := 1) (b := rb) rfl PlaceD.zero.cells).ext
end
end Go.AM
end
section
namespace Go.AM
section
variable {E : Sy} {H H' H0 Z : AH} {Q : Value → AH → Prop} {t : Nat} {T : Tr} {M : List MntD} {L : List Res}
def cutV (v : Value) (n : Nat) : Value := match v with | .slice a _ _ => .slice a n n | v => v
theorem Rows.cut {sz : Nat} {v : Value} {rows : List (List Value)} (h : Rows H sz v rows) {n : Nat} (hn : n + 1 = rows.length) : slSlc sz v none (some (vi n)) (some (vi n)) H = some (cutV v n) ∧ Rows H sz (cutV v n) rows.dropLast := by
  rcases h.at_ with ⟨rfl, _⟩ | ⟨b, o, c, rfl, h2, h3, h4⟩
  · simp at hn
  · have hd : rows.dropLast.length = n := by rw [List.length_dropLast]; omega
    have e1 : bnd (some (vi n)) c c = some n := by simp only [bnd]; rw [if_pos (by omega)]; simp
    have e2 : bnd (some (vi n)) rows.length n = some n := by simp only [bnd]; rw [if_pos (by omega)]; simp
    have e3 : bnd (none : Option Value) 0 n = some 0 := rfl
    refine ⟨?_, fun r hr => h.len r ((List.dropLast_sublist _).subset hr), .inr ⟨b, o, n, by simp [cutV, hd], by omega, h3, ?_⟩⟩
    · simp only [slSlc, Option.isSome_some, Option.isNone_some, Bool.and_false, h3, Bool.or_true, Bool.not_true, Bool.or_self, Bool.false_eq_true, if_false, e1, e2, e3, Option.bind_some]
      rw [if_pos (Nat.le_refl _)]
      simp only [Nat.sub_zero, cutV]
      congr 2
      split
      · rfl
      · simp [Addr.add]
    · rw [hd]
      have hle : 0 + n * sz ≤ rows.length * sz := by rw [Nat.zero_add]; exact Nat.mul_le_mul_right _ (by omega)
      have := row_part h4 hle
      rw [Nat.add_zero, List.drop_zero, flatten_take rows h.len] at this
      rw [this, List.dropLast_eq_take]
      congr 3
      omega
end
end Go.AM
end
section
namespace Go.AM
set_option maxRecDepth 20000
def placeR (l : List PlaceD) : List (List Value) := l.map PlaceD.cells
section
variable {E : Sy} {H H' H0 Z : AH} {Q : Value → AH → Prop} {t : Nat} {T : Tr} {M : List MntD} {L : List Res}
theorem placeR_length (l : List PlaceD) : (placeR l).length = l.length := by simp [placeR]
end
end Go.AM
end
section
namespace Go.AM
structure InoX (H0 H : AH) (p m : Nat) (L : LyL) (T : Tr) : Prop where
  ext : Ext H0 H
  ino : Ino H p m L T
  own : ∀ b ∈ (inoR p m L T).fp, H0.next ≤ b
section
variable {E : Sy} {H0 H H' H'' : AH} {Q : Value → AH → Prop} {p m : Nat} {L L' L'' : LyL} {T T' T'' : Tr}
theorem InoX.step (h : InoX H0 H p m L T) (u : UpdI p m L T L' T' H H') : InoX H0 H' p m L' T' :=
  ⟨u.upd.only.ext h.ext h.own, u.ino h.ino, fun b hb => (u.upd.fp b hb).1.elim (h.own b) fun k => Nat.le_trans h.ext.1 k⟩
theorem InoX.mono (h : InoX H0 H p m L T) (e : Ext H H') : InoX H0 H' p m L T := h.step (h.ino.same e)
theorem InoX.less {H1 : AH} (h : InoX H1 H p m L T) (e : Ext H0 H1) : InoX H0 H p m L T := ⟨e.trans h.ext, h.ino, fun b hb => Nat.le_trans e.1 (h.own b hb)⟩
theorem S.f2' (hE : Fold E) (limit : Int) (hQ : ∀ p m L H', InoX H H' p m L (Tr.new limit) → Q (ptr p 0) H') : E.call (E.fid i.f2) [vi limit] H Q :=
  S.f2 hE limit fun p m L H' e h hf => hQ p m L H' ⟨e, h, hf⟩
end
end Go.AM
end
section
namespace Go.AM
section
variable {E : Sy} {H H' H'' : AH} {Q : Value → AH → Prop} {t : Nat} {nv nv' nv'' mv : Value} {nx : Int} {mr : List (List Value)} {T T' T'' : Tr}
def Tr.small (T : Tr) : Prop := ∀ n, (T.node n).ents.length < 2 ^ 40
end
end Go.AM
end
section
namespace Go.AM
section
variable {E : Sy} {H0 H H' H'' H1 : AH} {Q : Value → AH → Prop} {t : Nat} {nv nv' nv'' mv : Value} {nx : Int} {mr : List (List Value)} {T T' T'' : Tr}
theorem Upd.fresh {sz : Nat} {v v' : Value} {rows rows' : List (List Value)} (e : Ext H H') (g : Grow zH H' sz v' rows') (f : FreshV H.next v') : Upd (growR sz v rows) (growR sz v' rows') H H' :=
  Grow.upd ⟨e.only, fun b hb => .inr (f b hb)⟩ g
end
end Go.AM
end
section
namespace Go.AM
section
variable {E : Sy} {H0 H H' H'' H1 : AH} {Q : Value → AH → Prop} {t : Nat} {nv nv' nv'' mv : Value} {nx : Int} {mr : List (List Value)} {T T' T'' : Tr}
theorem Tr.put_same {a : Nat} (x : Nd) (h : a < T.N.length) (hlt : a < 65536) : T.upd (BitVec.ofNat 16 a) (fun _ => x) = T.put a x := by
  have e : (BitVec.ofNat 16 a).toNat = a := by rw [BitVec.toNat_ofNat, Nat.mod_eq_of_lt (by omega)]
  unfold Tr.upd Tr.put
  rw [if_pos h, e]
  congr 1
  apply List.ext_getElem?
  intro i
  rw [List.getElem?_modify, List.getElem?_set]
  by_cases hi : a = i
  · subst hi
    simp [h]
  · simp [hi]
end
end Go.AM
end
section
namespace Go.AM
theorem Grow.cut {Z H : AH} {sz : Nat} {v : Value} {rows : List (List Value)} (h : Grow Z H sz v rows) {k : Nat} (hk : k ≤ rows.length) :
    ∃ v', slSlc sz v none (some (vi k)) none H = some v' ∧ Grow Z H sz v' (rows.take k) ∧ blk v' = blk v := by
  have hs := (h.toRows.slice' (lo := none) (hi := some (vi k)) (i := 0) (j := k) (.inr ⟨rfl, rfl⟩) (.inl rfl) (Nat.zero_le _) hk).1
  refine ⟨_, hs, ?_⟩
  rcases h.2 with ⟨rfl, rfl⟩ | ⟨b, f, c, cs, g1, rfl, g3, g4, g5, g6, g7⟩
  · have : k = 0 := by simpa using hk
    subst this
    exact ⟨⟨by simp, .inl ⟨by simp, rfl⟩⟩, rfl⟩
  · have e : sliceV sz (slc b 0 rows.length c) 0 k = slc b 0 k c := by
      simp [sliceV, Addr.add]
    rw [e]
    refine ⟨⟨fun r hr => h.1 r (List.mem_of_mem_take hr), .inr ⟨b, f, c, cs, g1, by rw [List.length_take, Nat.min_eq_left hk], g3, by rw [List.length_take]; omega, g5, ?_, g7⟩⟩, rfl⟩
    rw [List.length_take, Nat.min_eq_left hk, ← flatten_take rows (fun r hr => (h.1 r hr).1), ← g6, List.take_take, Nat.min_eq_left (Nat.mul_le_mul_right _ hk)]
end Go.AM
end
section
namespace Go.AM
section
variable {X : List Res} {E : Sy} {H0 H H' H'' : AH} {Q : Value → AH → Prop} {p m : Nat} {L L' L'' : LyL} {T T' T'' T2 T2' : Tr} {t : Nat} {nv nv' mv : Value} {nx : Int} {mr : List (List Value)}
theorem Tr.WF.small (h : T.WF) : T.small := fun n => by have := h.size n; omega
end
end Go.AM
end
section
namespace Go.AM
theorem Ow.perm {rs rs' : List Res} {H : AH} (h : Ow (joinR rs) H) (hp : rs.Perm rs') : Ow (joinR rs') H :=
  ⟨fun r hr => h.holds r (hp.mem_iff.2 hr), fun b hb => h.lt b ((hp.flatMap_right Res.fp).mem_iff.2 hb), (hp.flatMap_right Res.fp).nodup_iff.1 h.nd⟩
def wkRs (p m : Nat) (L : LyL) (T : Tr) (q : Nat) (v : Value) (M : List MntD) (nx : Int) (w : Nat) (X : List Res) : List Res := inoR p m L T :: tabR q v M nx :: boxR w [ptr p 0, ptr q 0] :: X
def WkO (X : List Res) (H0 H : AH) (w : Nat) (T : Tr) (M : List MntD) (nx : Int) : Prop :=
  ∃ p m L q v, Ext H0 H ∧ Ow (joinR (wkRs p m L T q v M nx w X)) H ∧ (∀ b ∈ (joinR (wkRs p m L T q v M nx w X)).fp, H0.next ≤ b) ∧ Cov L T ∧ TabOk M nx
section
variable {E : Sy} {X : List Res} {H H' H0 Z : AH} {Q : Value → AH → Prop} {w : Nat} {T T' : Tr} {M M' : List MntD} {nx nx' : Int} {L : List Res}
theorem WkO.ext (h : WkO X H0 H w T M nx) : Ext H0 H := by obtain ⟨_, _, _, _, _, h, _⟩ := h; exact h
theorem WkO.tab (h : WkO X H0 H w T M nx) : TabOk M nx := by obtain ⟨_, _, _, _, _, _, _, _, _, h⟩ := h; exact h
theorem own_upd {r r' : Res} (e : Ext H0 H) (o : Ow r H) (own : ∀ b ∈ r.fp, H0.next ≤ b) (u : Upd r r' H H') : Ext H0 H' ∧ Ow r' H' ∧ ∀ b ∈ r'.fp, H0.next ≤ b :=
  ⟨u.only.ext e own, o.upd u, fun b hb => (u.fp b hb).1.elim (own b) fun k => Nat.le_trans e.1 k⟩
theorem WkO.open_ (h : WkO X H0 H w T M nx) : ∃ p q, H.get w = .cells [ptr p 0, ptr q 0] none ∧
    (∃ m L, Ino H p m L T ∧ ∀ L' T' H', UpdI p m L T L' T' H H' → WkO X H0 H' w T' M nx) ∧
    (∃ v, (tabR q v M nx).P H ∧ (tabR q v M nx).fp.Nodup ∧ ∀ v' M' nx' H', Upd (tabR q v M nx) (tabR q v' M' nx') H H' → TabOk M' nx' → WkO X H0 H' w T M' nx') := by
  obtain ⟨p, m, L, q, v, e, o, own, cov, tab⟩ := h
  refine ⟨p, q, o.holds (boxR w [ptr p 0, ptr q 0]) (by simp [wkRs]), ⟨m, L, ⟨o.part (k := 0) rfl, cov⟩, fun L' T' H' u => ?_⟩, ⟨v, o.holds (tabR q v M nx) (by simp [wkRs]), (o.part (k := 1) rfl).nd, fun v' M' nx' H' u ok => ?_⟩⟩
  · obtain ⟨a, b, c⟩ := own_upd e o own (o.set (k := 0) rfl u.upd)
    exact ⟨p, m, L', q, v, a, b, c, u.cov, tab⟩
  · obtain ⟨a, b, c⟩ := own_upd e o own (o.set (k := 1) rfl u)
    exact ⟨p, m, L, q, v', a, b, c, cov, ok⟩
theorem WkO.openX (h : WkO X H0 H w T M nx) {k : Nat} {r : Res} (hk : X[k]? = some r) : Ow r H ∧ ∀ r' H', Upd r r' H H' → WkO (X.set k r') H0 H' w T M nx := by
  obtain ⟨p, m, L, q, v, e, o, own, cov, tab⟩ := h
  have hk' : (wkRs p m L T q v M nx w X)[k + 3]? = some r := by simpa [wkRs] using hk
  refine ⟨o.part hk', fun r' H' u => ?_⟩
  obtain ⟨a, b, c⟩ := own_upd e o own (o.set hk' u)
  exact ⟨p, m, L, q, v, a, b, c, cov, tab⟩
theorem WkO.mono (h : WkO X H0 H w T M nx) (e : Ext H H') : WkO X H0 H' w T M nx := by
  obtain ⟨p, m, L, q, v, e0, o, own, cov, tab⟩ := h
  exact ⟨p, m, L, q, v, e0.trans e, o.mono e, own, cov, tab⟩
theorem WkO.less {H1 : AH} (h : WkO X H1 H w T M nx) (e : Ext H0 H1) : WkO X H0 H w T M nx := by
  obtain ⟨p, m, L, q, v, e0, o, own, cov, tab⟩ := h
  exact ⟨p, m, L, q, v, e.trans e0, o, fun b hb => Nat.le_trans e.1 (own b hb), cov, tab⟩
theorem WkO.add (h : WkO X H0 H w T M nx) {r : Res} (n : NewRes r H H') : WkO (X ++ [r]) H0 H' w T M nx := by
  obtain ⟨p, m, L, q, v, e0, o, own, cov, tab⟩ := h
  obtain ⟨a, b, c⟩ := own_upd e0 o own (o.add r n.1 n.2.1 n.2.2.1 n.2.2.2)
  exact ⟨p, m, L, q, v, a, b, c, cov, tab⟩
theorem newbox (H : AH) (c : List Value) : NewRes (boxR H.next c) H (H.new (.cells c none)) := ⟨(Ext.refl H).new _, AH.get_new_self _ _, fun b hb => by simp [boxR] at hb; subst hb; simp, by simp [boxR]⟩
theorem WkO.box (h : WkO X H0 H w T M nx) (c : List Value) : WkO (X ++ [boxR H.next c]) H0 (H.new (.cells c none)) w T M nx := h.add (newbox H c)
theorem WkO.drop {r : Res} (h : WkO (X ++ [r]) H0 H w T M nx) : WkO X H0 H w T M nx := by
  obtain ⟨p, m, L, q, v, e0, o, own, cov, tab⟩ := h
  have u := o.erase (X.length + 3)
  have e : (wkRs p m L T q v M nx w (X ++ [r])).eraseIdx (X.length + 3) = wkRs p m L T q v M nx w X := by simp [wkRs, List.eraseIdx_append]
  rw [e] at u
  obtain ⟨a, b, c⟩ := own_upd e0 o own u
  exact ⟨p, m, L, q, v, a, b, c, cov, tab⟩
theorem WkO.held {k : Nat} {c : List Value} (h : WkO (X ++ [boxR k c]) H0 H w T M nx) : H.get k = .cells c none := (h.openX (k := X.length) (r := boxR k c) (by simp)).1.holds
theorem WkO.put {k : Nat} {c : List Value} (h : WkO (X ++ [boxR k c]) H0 H w T M nx) (c' : List Value) : WkO (X ++ [boxR k c']) H0 (H.put k (.cells c' none)) w T M nx := by
  have := (h.openX (k := X.length) (r := boxR k c) (by simp)).2 _ _ (boxR.put h.held c')
  rwa [set_last] at this
theorem WkO.at_ (h : WkO X H0 H w T M nx) : WkAt H w T M := by
  obtain ⟨p, q, hw, ⟨m, L, hi, _⟩, ⟨v, ht, _, _⟩⟩ := h.open_
  have := h.tab.len
  exact ⟨⟨p, m, L, q, nx, hw, hi, tabR.at_ ht (by omega)⟩, h.tab.older⟩
theorem S.f54 (hE : Fold E) (limit : Int) (hQ : ∀ w H', WkO [] H H' w (Tr.new limit) tab0 1 → Q (ptr w 0) H') : E.call (E.fid i.f54) [vi limit] H Q := by
  apply hE.f54
  simp only [F.f54]
  refine S.f2' hE limit fun p m L H1 h1 => ?_
  refine S.f17 hE fun q v H2 n2 => ?_
  have hb : buildV [(0, 1), (1, 1)] #[(.pointer none), (.pointer none)] [(0, ptr p 0), (1, ptr q 0)] = some (.agg #[ptr p 0, ptr q 0]) := rfl
  simp only [hb, boxO_agg_z, AM.mk_some, mkPtr_eq_z, nth_0, nth_1, nth_2, nth_3, nth_4, nth_5, nth_6, nth_7, nth_8, nth_9, nth_10, nth_11, nth_12, nth_13, nth_14, nth_15, nilCk_p, addOff_ptr, load1_ptr, Nat.zero_add, Nat.add_zero, cell_cells_z, List.getElem?_cons_zero, List.getElem?_cons_succ, gd_tt, gd_tf, gd_ft, gd_ff, gd_skip, pick_true_z, pick_false_z, un_not_z, Bool.not_true, Bool.not_false, ext_tuple, boxO_agg_z, List.toList_toArray, mkPtr_eq_z, AM.mk_some, mkSlc_eq, opt2_some, AH.next_new_z, tk_eq, opt_some, ifB_true, ifB_false]
  refine hQ H2.next _ ⟨p, m, L, q, v, ?_⟩
  have o1 : Ow (joinR [inoR p m L (Tr.new limit)]) H1 := by
    refine ⟨fun r hr => by rw [List.mem_singleton] at hr; rw [hr]; exact h1.ino.ow.holds, ?_, ?_⟩
    · intro b hb; exact h1.ino.ow.lt b (by simpa [joinR] using hb)
    · simpa [joinR] using h1.ino.ow.nd
  have own1 : ∀ b ∈ (joinR [inoR p m L (Tr.new limit)]).fp, H.next ≤ b := fun b hb => h1.own b (by simpa [joinR] using hb)
  obtain ⟨a2, b2, c2⟩ := own_upd h1.ext o1 own1 (o1.add _ n2.1 n2.2.1 n2.2.2.1 n2.2.2.2)
  have n3 := newbox H2 [ptr p 0, ptr q 0]
  obtain ⟨a3, b3, c3⟩ := own_upd a2 b2 c2 (b2.add _ n3.1 n3.2.1 n3.2.2.1 n3.2.2.2)
  exact ⟨a3, b3, c3, h1.ino.cov, tabOk0⟩
end
end Go.AM
end
section
namespace Go.AM
def Tr.Each (P : Nd → Prop) (T : Tr) : Prop := ∀ n, P (T.node n)
structure Keeps (P : Nd → Prop) : Prop where
  none : P Nd.none
  addE : ∀ s k x, P x → P (Nd.addE s k x)
  delE : ∀ s x, P x → P (Nd.delE s x)
  addL : ∀ k x, P x → P (Nd.addL k x)
  addH : ∀ k x, P x → P (Nd.addH k x)
  par : ∀ (q : BitVec 16) (x : Nd), P x → P { x with parent := q }
  made : ∀ inn k text, ¬ (k = 0#8 ∨ 3#8 < k ∨ (k = 3#8 ∧ (text.length < 1 ∨ 120 < text.length))) → P (Nd.made inn k text)
  data : ∀ (x : Nd) (d : List (BitVec 8)), x.kind = 1#8 → P x → P { x with data := d }
section
variable {T : Tr} {P : Nd → Prop} (K : Keeps P)
theorem Tr.Each.upd (h : T.Each P) {n : BitVec 16} {f : Nd → Nd} (hf : ∀ x : Nd, P x → P (f x)) : (T.upd n f).Each P := by
  intro k
  rcases T.upd_or n k f with e | e
  · rw [e]; exact h k
  · rw [e]; exact hf _ (h k)
theorem Tr.Each.updAt (h : T.Each P) {n : BitVec 16} {f : Nd → Nd} (hf : P (f (T.node n))) : (T.upd n f).Each P := by
  intro k
  unfold Tr.upd Tr.node
  simp only [List.getD_eq_getElem?_getD, List.getElem?_modify]
  have hk := h k
  unfold Tr.node at hk hf
  simp only [List.getD_eq_getElem?_getD] at hk hf
  by_cases e : n.toNat = k.toNat
  · rw [e] at hf
    cases hh : T.N[k.toNat]? with
    | none => rw [hh] at hk; exact hk
    | some x => rw [hh] at hf; simpa [e] using hf
  · simp only [e, if_false]
    cases hh : T.N[k.toNat]? with
    | none => rw [hh] at hk; exact hk
    | some x => rw [hh] at hk; exact hk
theorem Tr.Each.bump (h : T.Each P) : T.bump.Each P := h
include K
theorem Tr.Each.tidy (h : T.Each P) (n : BitVec 16) : (T.tidy n).Each P := by
  unfold Tr.tidy
  split
  · exact h.upd fun _ _ => K.none
  · exact h
theorem Tr.Each.put (h : T.Each P) (a : Nat) (x : Nd) (hx : P x) : (T.put a x).Each P := by
  intro k
  unfold Tr.put Tr.node
  simp only [List.getD_eq_getElem?_getD]
  have hk := h k
  unfold Tr.node at hk
  simp only [List.getD_eq_getElem?_getD] at hk
  split
  · rw [List.getElem?_set]
    split
    · exact hx
    · exact hk
  · rw [List.getElem?_append]
    split
    · exact hk
    · cases hz : ([x][k.toNat - T.N.length]? : Option Nd) with
      | none => exact K.none
      | some z =>
        have := List.mem_of_getElem? hz
        simp at this
        subst this
        exact hx
theorem Tr.Each.make (h : T.Each P) (inn : BitVec 16) (s : NameL) (kd : BitVec 8) (text : List UInt8) : (T.make inn s kd text).1.Each P := by
  unfold Tr.make
  split
  · exact h
  split
  · exact h
  rename_i hc
  split
  · exact h
  exact ((h.put K T.free (Nd.made inn kd text) (K.made inn kd text hc)).upd (f := Nd.addE s (BitVec.ofNat 16 T.free)) fun x hx => K.addE _ _ _ hx).bump
theorem Tr.Each.add (h : T.Each P) (inn : BitVec 16) (s : NameL) (v : BitVec 16) : (T.add inn s v).1.Each P := by
  unfold Tr.add
  repeat' split
  all_goals try exact h
  exact ((h.upd (f := Nd.addE s v) fun x hx => K.addE _ _ _ hx).upd (f := Nd.addL 1) fun x hx => K.addL _ _ hx).bump
theorem Tr.Each.drop (h : T.Each P) (inn : BitVec 16) (s : NameL) (d : Bool) : (T.drop inn s d).1.Each P := by
  unfold Tr.drop
  repeat' split
  all_goals try exact h
  exact Tr.Each.tidy K ((h.upd (f := Nd.delE s) fun x hx => K.delE _ _ hx).upd (f := Nd.addL (-1)) fun x hx => K.addL _ _ hx).bump _
theorem Tr.Each.hold (h : T.Each P) (n : BitVec 16) (more : Bool) : (T.hold n more).1.Each P := by
  unfold Tr.hold
  repeat' split
  all_goals try exact h
  · exact h.upd fun x hx => K.addH _ _ hx
  · exact Tr.Each.tidy K (h.upd fun x hx => K.addH _ _ hx) _
theorem Tr.Each.move (h : T.Each P) (fr : BitVec 16) (s : NameL) (to : BitVec 16) (other : NameL) : (T.move fr s to other).1.Each P := by
  have key : ∀ (U : Tr) (n : BitVec 16), U.Each P → (Tr.moved U fr s to other n).Each P := by
    intro U n hU
    have h2 : ((U.upd fr (Nd.delE s)).upd to (Nd.addE other n)).Each P := (hU.upd (f := Nd.delE s) fun x hx => K.delE _ _ hx).upd (f := Nd.addE other n) fun x hx => K.addE _ _ _ hx
    unfold Tr.moved
    simp only
    split
    · exact (h2.upd (f := fun x => { x with parent := to }) fun x hx => K.par _ _ hx).bump
    · exact h2.bump
  unfold Tr.move
  split
  · exact h
  split
  · exact h
  split
  · exact h
  split
  · exact h
  split
  · exact h
  refine key _ _ ?_
  split
  · exact h.drop K _ _ _
  · exact h
theorem Tr.Each.cut (h : T.Each P) (n : BitVec 16) (size : Int) : (T.cut n size).1.Each P := by
  unfold Tr.cut
  split
  · exact h
  split
  · exact h
  split
  · exact h
  rename_i hc
  split
  · exact h
  refine Tr.Each.bump (Tr.Each.updAt h ?_)
  exact K.data _ _ (by simp only [not_or, Decidable.not_not] at hc; exact hc.1) (h n)
omit K in
theorem Tr.Each.new (limit : Int) (h0 : P Nd.none) (h1 : P { Nd.none with kind := 2#8, parent := 1#16, links := 1 }) : (Tr.new limit).Each P := by
  intro n
  unfold Tr.new Tr.node
  simp only [List.getD_eq_getElem?_getD]
  by_cases e0 : n.toNat = 0
  · rw [e0]; exact h0
  · by_cases e1 : n.toNat = 1
    · rw [e1]; exact h1
    · rw [List.getElem?_eq_none (by simp; omega)]; exact h0
end
structure Nd.KD (x : Nd) : Prop where
  kind : x.kind = 0#8 ∨ x.kind = 1#8 ∨ x.kind = 2#8 ∨ x.kind = 3#8
  text : x.kind = 3#8 → x.text ≠ [] ∧ x.text.length ≤ 120
  notext : x.kind ≠ 3#8 → x.text = []
  nodata : x.kind ≠ 1#8 → x.data = []
theorem keeps_KD : Keeps Nd.KD where
  none := ⟨.inl rfl, by simp [Nd.none], by simp [Nd.none], by simp [Nd.none]⟩
  addE := fun _ _ _ h => ⟨h.kind, h.text, h.notext, h.nodata⟩
  delE := fun _ _ h => ⟨h.kind, h.text, h.notext, h.nodata⟩
  addL := fun _ _ h => ⟨h.kind, h.text, h.notext, h.nodata⟩
  addH := fun _ _ h => ⟨h.kind, h.text, h.notext, h.nodata⟩
  par := fun _ _ h => ⟨h.kind, h.text, h.notext, h.nodata⟩
  made := fun inn k text h => by
    simp only [not_or, not_and] at h
    obtain ⟨h1, h2, h3⟩ := h
    have hk : k = 1#8 ∨ k = 2#8 ∨ k = 3#8 := by
      have h2 : ¬ (3 < k.toNat) := h2
      have h1 : k.toNat ≠ 0 := fun e => h1 (BitVec.eq_of_toNat_eq e)
      have : k.toNat = 1 ∨ k.toNat = 2 ∨ k.toNat = 3 := by omega
      rcases this with e | e | e
      · exact .inl (BitVec.eq_of_toNat_eq e)
      · exact .inr (.inl (BitVec.eq_of_toNat_eq e))
      · exact .inr (.inr (BitVec.eq_of_toNat_eq e))
    refine ⟨.inr hk, fun e => ?_, fun e => ?_, fun _ => rfl⟩
    · have e : k = 3#8 := e
      obtain ⟨a, b⟩ := h3 e
      have ht : (Nd.made inn k text).text = text := by simp [Nd.made, e]
      rw [ht]
      refine ⟨fun e0 => a (by rw [e0]; decide), by omega⟩
    · have e : k ≠ 3#8 := e
      simp [Nd.made, e]
  data := fun x d hk h => ⟨h.kind, h.text, h.notext, fun e => (e hk).elim⟩
abbrev Tr.KD (T : Tr) : Prop := T.Each Nd.KD
theorem Tr.KD.new (limit : Int) : (Tr.new limit).KD := Tr.Each.new limit keeps_KD.none ⟨.inr (.inr (.inl rfl)), by simp, by simp [Nd.none], by simp [Nd.none]⟩
end Go.AM
end
section
namespace Go.AM
section
variable {E : Sy} {X : List Res} {H H' H0 Z : AH} {Q : Value → AH → Prop} {w p m : Nat} {T T' : Tr} {M M' : List MntD} {nx nx' : Int} {L : LyL}
abbrev Tr.CO (T : Tr) : Prop := -9223372036854775808 ≤ T.change ∧ T.change < 9223372036854775806
theorem Ino.cMake (hE : Fold E) (h : Ino H p m L T) (wf : T.WF) (n : BitVec 16) (s : NameL) (hs : s.length < 2 ^ 63) (k : BitVec 8) (text : List UInt8) (ht : text.length < 2 ^ 63) (hc : T.CO)
    (hQ : ∀ L' H', UpdI p m L T L' (T.make n s k text).1 H H' → Q (.tuple #[u16 (T.make n s k text).2.1, vi (T.make n s k text).2.2]) H') : E.call (E.fid i.f5) [ptr p 0, u16 n, str s, u8 k, str text] H Q := by
  have hlen := wf.len16
  have hl2 := wf.len.1
  exact S.f5 hE h n s hs k text ht ⟨hc.1, by have := hc.2; omega⟩ ⟨by omega, by omega⟩ (fun _ r => wf.chain ⟨(Tr.room_ok r).1, (Tr.room_ok r).2.2.1⟩ 17) fun L1 H1 _ u1 => hQ _ _ u1
theorem Tr.KD.lt (h : T.KD) : T.LT := fun n hk => (h n).text hk
end
end Go.AM
end
section
namespace Go.AM
structure SetD where
  h : BitVec 16
  paths : List (BitVec 16 × BitVec 16)
  ports : List (BitVec 16 × BitVec 16)
abbrev getR (n : BitVec 16) (l : List (BitVec 16 × BitVec 16)) : BitVec 16 := (l.lookup n).getD 0#16
def fitsR (dir : Bool) (r : BitVec 16) : BitVec 16 := if dir then r &&& 2047#16 else r &&& 1031#16
def addR (n r : BitVec 16) (l : List (BitVec 16 × BitVec 16)) : List (BitVec 16 × BitVec 16) := aset n (getR n l ||| r) l
def ofStep (T : Tr) (M : List MntD) (cwd : PlaceD) (l : List (BitVec 16 × BitVec 16)) (b : List UInt8 × BitVec 16) : List (BitVec 16 × BitVec 16) × Int :=
  if (findW T M cwd b.1 true).2 ≠ 0 then (l, (findW T M cwd b.1 true).2)
  else if fitsR (decide ((T.node (findW T M cwd b.1 true).1.i).kind = 2#8)) b.2 ≠ b.2 then (l, 22)
  else (addR (findW T M cwd b.1 true).1.i b.2 l, 0)
def ofPaths (T : Tr) (M : List MntD) (cwd : PlaceD) : List (BitVec 16 × BitVec 16) → List (List UInt8 × BitVec 16) → List (BitVec 16 × BitVec 16) × Int
  | l, [] => (l, 0)
  | l, b :: bs => if (ofStep T M cwd l b).2 ≠ 0 then ofStep T M cwd l b else ofPaths T M cwd (ofStep T M cwd l b).1 bs
def ofPorts (ps : List (BitVec 16 × BitVec 16)) : List (BitVec 16 × BitVec 16) := ps.foldl (fun l x => addR x.1 x.2 l) []
def PolX.set (T : Tr) (M : List MntD) (cwd : PlaceD) (x : PolX) : SetD × Int := (⟨x.handled, (ofPaths T M cwd [] x.paths).1, ofPorts x.ports⟩, (ofPaths T M cwd [] x.paths).2)
def SetD.at_ (d : SetD) (n : BitVec 16) : BitVec 16 := getR n d.paths
def SetD.granted (d : SetD) (n : BitVec 16) (above : List PlaceD) : BitVec 16 := above.foldl (fun r p => r ||| d.at_ p.i) (d.at_ n)
def SetD.denied (d : SetD) (want n : BitVec 16) (above : List PlaceD) : BitVec 16 := (want &&& d.h) &&& ~~~ d.granted n above
def SetD.port (d : SetD) (want number : BitVec 16) : Bool := decide ((want &&& d.h) &&& ~~~ getR number d.ports = 0#16)
def SetAt (H : AH) (s : Nat) (d : SetD) : Prop := ∃ r1 r2, H.get s = .cells [u16 d.h, .map (some r1), .map (some r2)] none ∧ MapAt u16 u16 H r1 d.paths ∧ MapAt u16 u16 H r2 d.ports
section
variable {E : Sy} {X : List Res} {H H' H0 Z : AH} {Q : Value → AH → Prop} {t w : Nat} {T T' : Tr} {M M' : List MntD} {nx nx' : Int} {L : List Res} {s : Nat} {d : SetD}
theorem SetAt.mono (h : SetAt H s d) (e : Ext H H') : SetAt H' s d := by
  obtain ⟨r1, r2, h1, h2, h3⟩ := h
  exact ⟨r1, r2, e.cells h1, h2.keep (e.get h2.lt), h3.keep (e.get h3.lt)⟩
theorem look_u16 {r : Nat} {l : List (BitVec 16 × BitVec 16)} (h : MapAt u16 u16 H r l) (n : BitVec 16) : look 0 (.int .u16 0) false (.map (some r)) (u16 n) H = some (u16 (getR n l)) := by
  have := h.look (kd := 0) (fun a b => same_u16 a b) n (.int .u16 0) false
  rw [this]
  unfold getR
  cases l.lookup n <;> rfl
theorem look_u16' {r : Nat} {l : List (BitVec 16 × BitVec 16)} (h : MapAt u16 u16 H r l) (n : BitVec 16) : look 0 (u16 0#16) false (.map (some r)) (u16 n) H = some (u16 (getR n l)) := look_u16 h n
theorem S.f35 (hE : Fold E) (r : BitVec 16) (dir : Bool) (hQ : Q (u16 (fitsR dir r)) H) : E.call (E.fid i.f35) [u16 r, vb dir] H Q := by
  apply hE.f35
  cases dir <;> simpa [F.f35, fitsR] using hQ
theorem S.f40 (hE : Fold E) (h : SetAt H s d) (hQ : Q (u16 d.h) H) : E.call (E.fid i.f40) [ptr s 0] H Q := by
  apply hE.f40
  obtain ⟨r1, r2, h1, h2, h3⟩ := h
  simp only [F.f40, nilq_p, h1, nth_0, nth_1, nth_2, nth_3, nth_4, nth_5, nth_6, nth_7, nth_8, nth_9, nth_10, nth_11, nth_12, nth_13, nth_14, nth_15, nilCk_p, addOff_ptr, load1_ptr, Nat.zero_add, Nat.add_zero, cell_cells_z, List.getElem?_cons_zero, List.getElem?_cons_succ, gd_tt, gd_tf, gd_ft, gd_ff, gd_skip, pick_true_z, pick_false_z, un_not_z, Bool.not_true, Bool.not_false, ext_tuple, boxO_agg_z, List.toList_toArray, mkPtr_eq_z, AM.mk_some, mkSlc_eq, opt2_some, AH.next_new_z, tk_eq, opt_some, ifB_true, ifB_false]
  exact hQ
theorem S.f37 (hE : Fold E) (h : SetAt H s d) (n : BitVec 16) (hQ : Q (u16 (d.at_ n)) H) : E.call (E.fid i.f37) [ptr s 0, u16 n] H Q := by
  apply hE.f37
  obtain ⟨r1, r2, h1, h2, h3⟩ := h
  simp only [F.f37, nilq_p, h1, look_u16 h2, nth_0, nth_1, nth_2, nth_3, nth_4, nth_5, nth_6, nth_7, nth_8, nth_9, nth_10, nth_11, nth_12, nth_13, nth_14, nth_15, nilCk_p, addOff_ptr, load1_ptr, Nat.zero_add, Nat.add_zero, cell_cells_z, List.getElem?_cons_zero, List.getElem?_cons_succ, gd_tt, gd_tf, gd_ft, gd_ff, gd_skip, pick_true_z, pick_false_z, un_not_z, Bool.not_true, Bool.not_false, ext_tuple, boxO_agg_z, List.toList_toArray, mkPtr_eq_z, AM.mk_some, mkSlc_eq, opt2_some, AH.next_new_z, tk_eq, opt_some, ifB_true, ifB_false]
  exact hQ
theorem S.f41 (hE : Fold E) (h : SetAt H s d) (want n : BitVec 16) (hQ : Q (vb (d.port want n)) H) : E.call (E.fid i.f41) [ptr s 0, u16 want, u16 n] H Q := by
  apply hE.f41
  obtain ⟨r1, r2, h1, h2, h3⟩ := h
  have n0 : (.int .u16 0 : Value) = u16 0#16 := rfl
  simp only [F.f41, nilq_p, h1, look_u16 h3, u16_and, u16_andNot, n0, look_u16' h3, u16_eql, nth_0, nth_1, nth_2, nth_3, nth_4, nth_5, nth_6, nth_7, nth_8, nth_9, nth_10, nth_11, nth_12, nth_13, nth_14, nth_15, nilCk_p, addOff_ptr, load1_ptr, Nat.zero_add, Nat.add_zero, cell_cells_z, List.getElem?_cons_zero, List.getElem?_cons_succ, gd_tt, gd_tf, gd_ft, gd_ff, gd_skip, pick_true_z, pick_false_z, un_not_z, Bool.not_true, Bool.not_false, ext_tuple, boxO_agg_z, List.toList_toArray, mkPtr_eq_z, AM.mk_some, mkSlc_eq, opt2_some, AH.next_new_z, tk_eq, opt_some, ifB_true, ifB_false]
  exact hQ
theorem S.f39 (hE : Fold E) (h : SetAt H s d) (n : BitVec 16) (v : Value) (l : List PlaceD) (hv : Rows H 2 v (placeR l)) (hl : l.length < 2 ^ 63) (hQ : ∀ H', Ext H H' → Q (u16 (d.granted n l)) H') : E.call (E.fid i.f39) [ptr s 0, u16 n, v] H Q := by
  apply hE.f39
  simp only [F.f39]
  refine S.f37 hE h n ?_
  have hls := hv.lenSlc
  rw [placeR_length] at hls
  simp only [hls, nth_0, nth_1, nth_2, nth_3, nth_4, nth_5, nth_6, nth_7, nth_8, nth_9, nth_10, nth_11, nth_12, nth_13, nth_14, nth_15, nilCk_p, addOff_ptr, load1_ptr, Nat.zero_add, Nat.add_zero, cell_cells_z, List.getElem?_cons_zero, List.getElem?_cons_succ, gd_tt, gd_tf, gd_ft, gd_ff, gd_skip, pick_true_z, pick_false_z, un_not_z, Bool.not_true, Bool.not_false, ext_tuple, boxO_agg_z, List.toList_toArray, mkPtr_eq_z, AM.mk_some, mkSlc_eq, opt2_some, AH.next_new_z, tk_eq, opt_some, ifB_true, ifB_false]
  unfold SetD.granted at hQ
  refine LoopL.count l.length (fun j ls H' => ls = [ptr s 0, u16 ((l.take j).foldl (fun r p => r ||| d.at_ p.i) (d.at_ n)), v, vi l.length, vi j] ∧ Ext H H') ?_ ⟨rfl, Ext.refl _⟩
  rintro j _ H1 X hj hX ⟨rfl, e1⟩
  rcases Nat.lt_or_ge j l.length with hjl | hjl
  · have hX := hX hjl
    have hjl' : (j : Int) < l.length := by omega
    have hjj := i64_inc (i := j) (by omega)
    obtain ⟨b, o, f1, f2⟩ := (hv.mono e1).ix (i := j) (by rw [placeR_length]; exact hjl)
    have hrow : (placeR l)[j]'(by rw [placeR_length]; exact hjl) = (l[j]).cells := by simp [placeR]
    rw [hrow] at f2
    rw [List.take_succ_eq_append_getElem hjl, List.foldl_append, List.foldl_cons, List.foldl_nil] at hX
    generalize l[j] = p at *
    have hlo : loadN 2 (ptr b o) H1 = some p.v := by rw [loadN_ptr, f2]; rfl
    have hz2 : ([(.int .i64 0), (.int .u16 0)] : List Value) = PlaceD.zero.cells := rfl
    have hst : storeN 2 (ptr H1.next 0) p.v (H1.new (.cells PlaceD.zero.cells none)) = some (H1.new (.cells p.cells none)) := by
      rw [storeN_ptr, AH.get_new_self]
      have : AM.splice PlaceD.zero.cells 0 p.cells = p.cells := rfl
      simp only [List.size_toArray, List.toList_toArray, show p.cells.length = 2 from rfl, show PlaceD.zero.cells.length = 2 from rfl, show p.cells.all plain1 = true from rfl, Nat.zero_add, Nat.le_refl, and_self, if_true, this, AH.new_put]
    have x2 : Ext H1 (H1.new (.cells p.cells none)) := (Ext.refl _).new _
    have c1 : p.cells[1]? = some (u16 p.i) := rfl
    simp only [F.f39_l1, i64_lss, hjl', decide_true, f1, hlo, allocW_eq, hz2, hst, AH.get_new_self, c1, nth_0, nth_1, nth_2, nth_3, nth_4, nth_5, nth_6, nth_7, nth_8, nth_9, nth_10, nth_11, nth_12, nth_13, nth_14, nth_15, nilCk_p, addOff_ptr, load1_ptr, Nat.zero_add, Nat.add_zero, cell_cells_z, List.getElem?_cons_zero, List.getElem?_cons_succ, gd_tt, gd_tf, gd_ft, gd_ff, gd_skip, pick_true_z, pick_false_z, un_not_z, Bool.not_true, Bool.not_false, ext_tuple, boxO_agg_z, List.toList_toArray, mkPtr_eq_z, AM.mk_some, mkSlc_eq, opt2_some, AH.next_new_z, tk_eq, opt_some, ifB_true, ifB_false]
    refine S.f37 hE (h.mono (e1.trans x2)) p.i ?_
    simp only [u16_or, hjj, nth_0, nth_1, nth_2, nth_3, nth_4, nth_5, nth_6, nth_7, nth_8, nth_9, nth_10, nth_11, nth_12, nth_13, nth_14, nth_15, nilCk_p, addOff_ptr, load1_ptr, Nat.zero_add, Nat.add_zero, cell_cells_z, List.getElem?_cons_zero, List.getElem?_cons_succ, gd_tt, gd_tf, gd_ft, gd_ff, gd_skip, pick_true_z, pick_false_z, un_not_z, Bool.not_true, Bool.not_false, ext_tuple, boxO_agg_z, List.toList_toArray, mkPtr_eq_z, AM.mk_some, mkSlc_eq, opt2_some, AH.next_new_z, tk_eq, opt_some, ifB_true, ifB_false]
    exact hX _ _ ⟨rfl, e1.trans x2⟩
  · have hjl' : ¬ (j : Int) < l.length := by omega
    rw [List.take_of_length_le hjl]
    simp only [F.f39_l1, i64_lss, hjl', decide_false, nth_0, nth_1, nth_2, nth_3, nth_4, nth_5, nth_6, nth_7, nth_8, nth_9, nth_10, nth_11, nth_12, nth_13, nth_14, nth_15, nilCk_p, addOff_ptr, load1_ptr, Nat.zero_add, Nat.add_zero, cell_cells_z, List.getElem?_cons_zero, List.getElem?_cons_succ, gd_tt, gd_tf, gd_ft, gd_ff, gd_skip, pick_true_z, pick_false_z, un_not_z, Bool.not_true, Bool.not_false, ext_tuple, boxO_agg_z, List.toList_toArray, mkPtr_eq_z, AM.mk_some, mkSlc_eq, opt2_some, AH.next_new_z, tk_eq, opt_some, ifB_true, ifB_false]
    exact hQ _ e1
theorem S.f38 (hE : Fold E) (h : SetAt H s d) (want n : BitVec 16) (v : Value) (l : List PlaceD) (hv : Rows H 2 v (placeR l)) (hl : l.length < 2 ^ 63) (hQ : ∀ H', Ext H H' → Q (u16 (d.denied want n l)) H') : E.call (E.fid i.f38) [ptr s 0, u16 want, u16 n, v] H Q := by
  apply hE.f38
  simp only [F.f38]
  refine S.f40 hE h ?_
  simp only [u16_and, nth_0, nth_1, nth_2, nth_3, nth_4, nth_5, nth_6, nth_7, nth_8, nth_9, nth_10, nth_11, nth_12, nth_13, nth_14, nth_15, nilCk_p, addOff_ptr, load1_ptr, Nat.zero_add, Nat.add_zero, cell_cells_z, List.getElem?_cons_zero, List.getElem?_cons_succ, gd_tt, gd_tf, gd_ft, gd_ff, gd_skip, pick_true_z, pick_false_z, un_not_z, Bool.not_true, Bool.not_false, ext_tuple, boxO_agg_z, List.toList_toArray, mkPtr_eq_z, AM.mk_some, mkSlc_eq, opt2_some, AH.next_new_z, tk_eq, opt_some, ifB_true, ifB_false]
  refine S.f39 hE h n v l hv hl fun H1 e1 => ?_
  simp only [u16_andNot, nth_0, nth_1, nth_2, nth_3, nth_4, nth_5, nth_6, nth_7, nth_8, nth_9, nth_10, nth_11, nth_12, nth_13, nth_14, nth_15, nilCk_p, addOff_ptr, load1_ptr, Nat.zero_add, Nat.add_zero, cell_cells_z, List.getElem?_cons_zero, List.getElem?_cons_succ, gd_tt, gd_tf, gd_ft, gd_ff, gd_skip, pick_true_z, pick_false_z, un_not_z, Bool.not_true, Bool.not_false, ext_tuple, boxO_agg_z, List.toList_toArray, mkPtr_eq_z, AM.mk_some, mkSlc_eq, opt2_some, AH.next_new_z, tk_eq, opt_some, ifB_true, ifB_false]
  exact hQ _ e1
end
end Go.AM
end
section
namespace Go.AM
section
variable {E : Sy} {X : List Res} {H H' H0 Z : AH} {Q : Value → AH → Prop} {t w : Nat} {T T' : Tr} {M M' : List MntD} {nx nx' : Int} {L : List Res} {s : Nat} {d : SetD}
theorem findW_kind (T : Tr) (M : List MntD) (c : PlaceD) (path : List UInt8) (follow : Bool) : (findW T M c path follow).2 = 0 → (T.node (findW T M c path follow).1.i).kind ≠ 0#8 := by
  unfold findW
  split
  · rename_i h; intro e; exact (h e).elim
  · simp only
    split
    · rename_i h; intro e; exact (h e).elim
    · split
      · intro e; simp at e
      · rename_i h
        split
        · intro e; simp at e
        · intro _; exact h
theorem two_store {H : AH} {z c : List Value} (hz : z.length = 2) (hc : c.length = 2) (hp : c.all plain1 = true) : storeN 2 (ptr H.next 0) (.agg c.toArray) (H.new (.cells z none)) = some (H.new (.cells c none)) := by
  rw [storeN_ptr, AH.get_new_self]
  have : AM.splice z 0 c = c := by simp [splice, hz, hc]
  simp only [List.size_toArray, List.toList_toArray, hc, hz, hp, Nat.zero_add, Nat.le_refl, and_self, if_true, this, AH.new_put]
theorem of_ports {l : List (BitVec 16 × BitVec 16)} (ps : List (BitVec 16 × BitVec 16)) {v : Value} (hv : Rows H 2 v (ps.map fun p => [u16 p.1, u16 p.2])) (hn : ps.length < 2 ^ 63) {r1 r2 : Nat} {b0 b1 : List Value} {x0 x1 h : Nat} {hd : BitVec 16} {pl : List (BitVec 16 × BitVec 16)} {H1 : AH} (hl : l = [])
    (g : Has H H H1 [boxR x0 b0, boxR x1 b1, mapR u16 u16 r1 pl, mapR u16 u16 r2 l, boxR h [u16 hd, .map (some r1), .map (some r2)]])
    (hQ : ∀ H', Ext H H' → SetAt H' h ⟨hd, pl, ofPorts ps⟩ → Q (.tuple #[ptr h 0, vi 0]) H') :
    LoopL (fun l H X0 => F.f36_l2 E Q (nth l 0) (nth l 1) (nth l 2) (nth l 3) H X0) [ptr h 0, v, vi ps.length, (.int .i64 0)] H1 := by
  subst hl
  refine LoopL.count ps.length (fun j ls H' => ls = [ptr h 0, v, vi ps.length, vi j] ∧ Has H H H' [boxR x0 b0, boxR x1 b1, mapR u16 u16 r1 pl, mapR u16 u16 r2 (ofPorts (ps.take j)), boxR h [u16 hd, .map (some r1), .map (some r2)]]) ?_ ⟨rfl, g⟩
  rintro j _ H2 X hj hX ⟨rfl, g2⟩
  rcases Nat.lt_or_ge j ps.length with hjl | hjl
  · have hX := hX hjl
    have hjl' : (j : Int) < ps.length := by omega
    have hjj := i64_inc (i := j) (by omega)
    obtain ⟨b, o, f1, f2⟩ := (hv.mono g2.ext).ix (i := j) (by simpa using hjl)
    rw [List.getElem_map] at f2
    have hst : ofPorts (ps.take (j + 1)) = addR ps[j].1 ps[j].2 (ofPorts (ps.take j)) := by
      unfold ofPorts
      rw [List.take_succ_eq_append_getElem hjl, List.foldl_append]; rfl
    rw [hst] at hX
    generalize ps[j] = p at *
    generalize ofPorts (ps.take j) = l at *
    have hlo : loadN 2 (ptr b o) H2 = some (.agg [u16 p.1, u16 p.2].toArray) := by rw [loadN_ptr, f2]; rfl
    have hz2 : storeN 2 (ptr H2.next 0) (.agg [u16 p.1, u16 p.2].toArray) (H2.new (.cells [(.int .u16 0), (.int .u16 0)] none)) = some (H2.new (.cells [u16 p.1, u16 p.2] none)) := two_store rfl rfl rfl
    have g3 := g2.newbox [u16 p.1, u16 p.2]
    have hb3 := g3.box (k := 4) (b := h) rfl
    have hp3 := g3.box (k := 5) (b := H2.next) rfl
    have hm3 := g3.mapAt (k := 3) rfl
    obtain ⟨H4, m1, m2⟩ := g3.mapset (n := 3) (kd := 0) rfl (fun a b => same_u16 a b) p.1 (getR p.1 l ||| p.2)
    have m2 := m2.drop 5
    simp only [F.f36_l2, i64_lss, hjl', decide_true, f1, hlo, allocW_eq, hz2, hb3, hp3, look_u16 hm3, u16_or, m1, hjj, nth_0, nth_1, nth_2, nth_3, nth_4, nth_5, nth_6, nth_7, nth_8, nth_9, nth_10, nth_11, nth_12, nth_13, nth_14, nth_15, nilCk_p, addOff_ptr, load1_ptr, Nat.zero_add, Nat.add_zero, cell_cells_z, List.getElem?_cons_zero, List.getElem?_cons_succ, gd_tt, gd_tf, gd_ft, gd_ff, gd_skip, pick_true_z, pick_false_z, un_not_z, Bool.not_true, Bool.not_false, ext_tuple, boxO_agg_z, List.toList_toArray, mkPtr_eq_z, AM.mk_some, mkSlc_eq, opt2_some, AH.next_new_z, tk_eq, opt_some, ifB_true, ifB_false]
    exact hX _ _ ⟨rfl, m2⟩
  · have hjl' : ¬ (j : Int) < ps.length := by omega
    rw [List.take_of_length_le hjl] at g2
    simp only [F.f36_l2, i64_lss, hjl', decide_false, nth_0, nth_1, nth_2, nth_3, nth_4, nth_5, nth_6, nth_7, nth_8, nth_9, nth_10, nth_11, nth_12, nth_13, nth_14, nth_15, nilCk_p, addOff_ptr, load1_ptr, Nat.zero_add, Nat.add_zero, cell_cells_z, List.getElem?_cons_zero, List.getElem?_cons_succ, gd_tt, gd_tf, gd_ft, gd_ff, gd_skip, pick_true_z, pick_false_z, un_not_z, Bool.not_true, Bool.not_false, ext_tuple, boxO_agg_z, List.toList_toArray, mkPtr_eq_z, AM.mk_some, mkSlc_eq, opt2_some, AH.next_new_z, tk_eq, opt_some, ifB_true, ifB_false]
    exact hQ _ g2.ext ⟨r1, r2, g2.box (k := 4) rfl, g2.mapAt (k := 2) rfl, g2.mapAt (k := 3) rfl⟩
theorem S.f36 (hE : Fold E) (h : WkAt H t T M) (wf : T.WF) (lt : T.LT) (x : PolX) (cs : List Value) (hx : PolXAt H x cs) (hf : x.paths.length < 2 ^ 63 ∧ x.ports.length < 2 ^ 63) (hpl : ∀ b ∈ x.paths, b.1.length < 2 ^ 63) (c : PlaceD)
    (hbad : (x.set T M c).2 ≠ 0 → ∀ H', Ext H H' → Q (.tuple #[.pointer none, vi (x.set T M c).2]) H')
    (hok : (x.set T M c).2 = 0 → ∀ s H', Ext H H' → H.next ≤ s → SetAt H' s (x.set T M c).1 → Q (.tuple #[ptr s 0, vi 0]) H') : E.call (E.fid i.f36) [.agg cs.toArray, ptr t 0, c.v] H Q := by
  apply hE.f36
  obtain ⟨v, pv, qv, rfl, _, hp, hq⟩ := hx
  have g0 : Has H H H [] := Has.start (Ext.refl H)
  have g1 := g0.newbox [str x.name, u32 x.pol.default, v, u16 x.handled, pv, qv]
  have g2 := g1.newbox c.cells
  have g3 := g2.newmap u16 u16
  have g4 := g3.newmap u16 u16
  have hbv : ∀ r1 r2, buildV [(0, 1), (1, 1), (2, 1)] #[(.int .u16 0), (.map none), (.map none)] [(0, u16 x.handled), (1, .map (some r1)), (2, .map (some r2))] = some (.agg #[u16 x.handled, .map (some r1), .map (some r2)]) := fun r1 r2 => rfl
  simp only [F.f36, boxO_agg_z, AM.mk_some, mkPtr_eq_z, List.toList_toArray, nilq_p, nth_0, nth_1, nth_2, nth_3, nth_4, nth_5, nth_6, nth_7, nth_8, nth_9, nth_10, nth_11, nth_12, nth_13, nth_14, nth_15, nilCk_p, addOff_ptr, load1_ptr, Nat.zero_add, Nat.add_zero, cell_cells_z, List.getElem?_cons_zero, List.getElem?_cons_succ, gd_tt, gd_tf, gd_ft, gd_ff, gd_skip, pick_true_z, pick_false_z, un_not_z, Bool.not_true, Bool.not_false, ext_tuple, boxO_agg_z, List.toList_toArray, mkPtr_eq_z, AM.mk_some, mkSlc_eq, opt2_some, AH.next_new_z, tk_eq, opt_some, ifB_true, ifB_false]
  have hb2 := g2.box (k := 0) (b := H.next) rfl
  have d3 : ([str x.name, u32 x.pol.default, v, u16 x.handled, pv, qv] : List Value)[3]? = some (u16 x.handled) := rfl
  generalize hH2 : (H.new (.cells [str x.name, u32 x.pol.default, v, u16 x.handled, pv, qv] none)).new (.cells c.cells none) = H2 at *
  have n2 : H2.next = H.next + 2 := by subst hH2; simp
  simp only [hb2, mapW_eq, hbv, AM.mk_some, mkPtr_eq_z, nth_0, nth_1, nth_2, nth_3, nth_4, nth_5, nth_6, nth_7, nth_8, nth_9, nth_10, nth_11, nth_12, nth_13, nth_14, nth_15, nilCk_p, addOff_ptr, load1_ptr, Nat.zero_add, Nat.add_zero, cell_cells_z, List.getElem?_cons_zero, List.getElem?_cons_succ, gd_tt, gd_tf, gd_ft, gd_ff, gd_skip, pick_true_z, pick_false_z, un_not_z, Bool.not_true, Bool.not_false, ext_tuple, boxO_agg_z, List.toList_toArray, mkPtr_eq_z, AM.mk_some, mkSlc_eq, opt2_some, AH.next_new_z, tk_eq, opt_some, ifB_true, ifB_false]
  have hlt1 := g2.ext.1
  have g5 := g4.newbox [u16 x.handled, .map (some H2.next), .map (some (H2.new (.map [] 0 true)).next)]
  have hb5 := g5.box (k := 0) (b := H.next) rfl
  have d4 : ([str x.name, u32 x.pol.default, v, u16 x.handled, pv, qv] : List Value)[4]? = some pv := rfl
  have hlp := hp.lenSlc
  rw [List.length_map] at hlp
  generalize hs : ((H2.new (.map [] 0 true)).new (.map [] 0 true)).next = s at *
  have hsn : H.next ≤ s := by subst hs; simp; omega
  simp only [AH.next_new_z] at hb5 g5 hs ⊢
  generalize hH5 : ((H2.new (.map [] 0 true)).new (.map [] 0 true)).new (.cells [u16 x.handled, .map (some H2.next), .map (some (H2.next + 1))] none) = H5 at *
  simp only [hb5, d4, hlp, nth_0, nth_1, nth_2, nth_3, nth_4, nth_5, nth_6, nth_7, nth_8, nth_9, nth_10, nth_11, nth_12, nth_13, nth_14, nth_15, nilCk_p, addOff_ptr, load1_ptr, Nat.zero_add, Nat.add_zero, cell_cells_z, List.getElem?_cons_zero, List.getElem?_cons_succ, gd_tt, gd_tf, gd_ft, gd_ff, gd_skip, pick_true_z, pick_false_z, un_not_z, Bool.not_true, Bool.not_false, ext_tuple, boxO_agg_z, List.toList_toArray, mkPtr_eq_z, AM.mk_some, mkSlc_eq, opt2_some, AH.next_new_z, tk_eq, opt_some, ifB_true, ifB_false]
  have g5 : Has H H H5 [boxR H.next [str x.name, u32 x.pol.default, v, u16 x.handled, pv, qv], boxR (H.next + 1) c.cells, mapR u16 u16 H2.next [], mapR u16 u16 (H2.next + 1) [], boxR s [u16 x.handled, .map (some H2.next), .map (some (H2.next + 1))]] := g5
  clear hH5 hs hH2 g4 g3 g2 g1
  generalize H2.next = r1 at *
  unfold PolX.set at hbad hok
  simp only at hbad hok
  refine LoopL.count x.paths.length (fun j ls H' => ∃ l, ls = [ptr t 0, ptr H.next 0, ptr (H.next + 1) 0, ptr s 0, pv, vi x.paths.length, vi j] ∧ Has H H H' [boxR H.next [str x.name, u32 x.pol.default, v, u16 x.handled, pv, qv], boxR (H.next + 1) c.cells, mapR u16 u16 r1 l, mapR u16 u16 (r1 + 1) [], boxR s [u16 x.handled, .map (some r1), .map (some (r1 + 1))]] ∧ ofPaths T M c [] x.paths = ofPaths T M c l (x.paths.drop j)) ?_ ⟨[], rfl, g5, rfl⟩
  rintro j _ H6 X hj hX ⟨l, rfl, g6, hof⟩
  rcases Nat.lt_or_ge j x.paths.length with hjl | hjl
  · have hX := hX hjl
    have hjl' : (j : Int) < x.paths.length := by omega
    have hjj := i64_inc (i := j) (by omega)
    obtain ⟨b, o, f1, f2⟩ := (hp.mono g6.ext).ix (i := j) (by simpa using hjl)
    rw [List.getElem_map] at f2
    rw [List.drop_eq_getElem_cons hjl] at hof
    have hpj := hpl x.paths[j] (List.getElem_mem hjl)
    generalize x.paths[j] = p at *
    have hlo : loadN 2 (ptr b o) H6 = some (.agg [str p.1, u16 p.2].toArray) := by rw [loadN_ptr, f2]; rfl
    have hst : storeN 2 (ptr H6.next 0) (.agg [str p.1, u16 p.2].toArray) (H6.new (.cells [(.string ⟨#[]⟩), (.int .u16 0)] none)) = some (H6.new (.cells [str p.1, u16 p.2] none)) := two_store rfl rfl rfl
    have g7 := g6.newbox [str p.1, u16 p.2]
    have hb7 := g7.box (k := 5) (b := H6.next) rfl
    have hlc : loadN 2 (ptr (H.next + 1) 0) (H6.new (.cells [str p.1, u16 p.2] none)) = some c.v := by rw [loadN_ptr, g7.box (k := 1) (b := H.next + 1) rfl]; rfl
    simp only [F.f36_l1, i64_lss, hjl', decide_true, f1, hlo, allocW_eq, hst, hlc, hb7, nth_0, nth_1, nth_2, nth_3, nth_4, nth_5, nth_6, nth_7, nth_8, nth_9, nth_10, nth_11, nth_12, nth_13, nth_14, nth_15, nilCk_p, addOff_ptr, load1_ptr, Nat.zero_add, Nat.add_zero, cell_cells_z, List.getElem?_cons_zero, List.getElem?_cons_succ, gd_tt, gd_tf, gd_ft, gd_ff, gd_skip, pick_true_z, pick_false_z, un_not_z, Bool.not_true, Bool.not_false, ext_tuple, boxO_agg_z, List.toList_toArray, mkPtr_eq_z, AM.mk_some, mkSlc_eq, opt2_some, AH.next_new_z, tk_eq, opt_some, ifB_true, ifB_false]
    refine S.f56 hE (h.mono g7.ext) wf lt c p.1 hpj true fun H8 e8 => ?_
    have g8 := g7.grow e8
    have hstep : ofStep T M c l p = if (findW T M c p.1 true).2 ≠ 0 then (l, (findW T M c p.1 true).2) else if fitsR (decide ((T.node (findW T M c p.1 true).1.i).kind = 2#8)) p.2 ≠ p.2 then (l, 22) else (addR (findW T M c p.1 true).1.i p.2 l, 0) := rfl
    have hfk : (findW T M c p.1 true).2 = 0 → (T.node (findW T M c p.1 true).1.i).kind ≠ 0#8 := findW_kind T M c p.1 true
    generalize findW T M c p.1 true = r at *
    have hst8 : storeN 2 (ptr H8.next 0) r.1.v (H8.new (.cells [(.int .i64 0), (.int .u16 0)] none)) = some (H8.new (.cells r.1.cells none)) := two_store rfl rfl rfl
    have g9 := g8.newbox r.1.cells
    simp only [allocW_eq, hst8, i64_neq, nth_0, nth_1, nth_2, nth_3, nth_4, nth_5, nth_6, nth_7, nth_8, nth_9, nth_10, nth_11, nth_12, nth_13, nth_14, nth_15, nilCk_p, addOff_ptr, load1_ptr, Nat.zero_add, Nat.add_zero, cell_cells_z, List.getElem?_cons_zero, List.getElem?_cons_succ, gd_tt, gd_tf, gd_ft, gd_ff, gd_skip, pick_true_z, pick_false_z, un_not_z, Bool.not_true, Bool.not_false, ext_tuple, boxO_agg_z, List.toList_toArray, mkPtr_eq_z, AM.mk_some, mkSlc_eq, opt2_some, AH.next_new_z, tk_eq, opt_some, ifB_true, ifB_false]
    by_cases he : r.2 = 0
    rotate_left
    · rw [if_pos (by simpa using he)] at hstep
      have hof2 : ofPaths T M c [] x.paths = (l, r.2) := by rw [hof, ofPaths, hstep, if_pos (by simpa using he)]
      rw [hof2] at hbad
      simp only [ne_eq, he, not_false_eq_true, decide_true, nth_0, nth_1, nth_2, nth_3, nth_4, nth_5, nth_6, nth_7, nth_8, nth_9, nth_10, nth_11, nth_12, nth_13, nth_14, nth_15, nilCk_p, addOff_ptr, load1_ptr, Nat.zero_add, Nat.add_zero, cell_cells_z, List.getElem?_cons_zero, List.getElem?_cons_succ, gd_tt, gd_tf, gd_ft, gd_ff, gd_skip, pick_true_z, pick_false_z, un_not_z, Bool.not_true, Bool.not_false, ext_tuple, boxO_agg_z, List.toList_toArray, mkPtr_eq_z, AM.mk_some, mkSlc_eq, opt2_some, AH.next_new_z, tk_eq, opt_some, ifB_true, ifB_false]
      exact hbad he _ g9.ext
    rw [if_neg (by simpa using he)] at hstep
    obtain ⟨⟨q, m, L', q', nx, q1, q2, q3⟩, _⟩ := h.mono g9.ext
    have hb9 := g9.box (k := 6) (b := H8.next) rfl
    have hb9' := g9.box (k := 5) (b := H6.next) rfl
    have hb9s := g9.box (k := 4) (b := s) rfl
    have hm9 := g9.mapAt (k := 2) rfl
    have e1 : r.1.cells[1]? = some (u16 r.1.i) := rfl
    have n2' : (.int .u8 2 : Value) = u8 2#8 := rfl
    simp only [ne_eq, he, not_true, decide_false, q1, hb9, e1, nth_0, nth_1, nth_2, nth_3, nth_4, nth_5, nth_6, nth_7, nth_8, nth_9, nth_10, nth_11, nth_12, nth_13, nth_14, nth_15, nilCk_p, addOff_ptr, load1_ptr, Nat.zero_add, Nat.add_zero, cell_cells_z, List.getElem?_cons_zero, List.getElem?_cons_succ, gd_tt, gd_tf, gd_ft, gd_ff, gd_skip, pick_true_z, pick_false_z, un_not_z, Bool.not_true, Bool.not_false, ext_tuple, boxO_agg_z, List.toList_toArray, mkPtr_eq_z, AM.mk_some, mkSlc_eq, opt2_some, AH.next_new_z, tk_eq, opt_some, ifB_true, ifB_false]
    refine S.f3 hE q2 r.1.i ?_
    rcases q2.get r.1.i with ⟨k0, _⟩ | ⟨kk, yy, k0, k1, k2, k3, k4⟩
    · exact (hfk he k0).elim
    simp only [nodeP_some q2.cov.nd k1, k3, inC, n2', u8_eql, hb9', nth_0, nth_1, nth_2, nth_3, nth_4, nth_5, nth_6, nth_7, nth_8, nth_9, nth_10, nth_11, nth_12, nth_13, nth_14, nth_15, nilCk_p, addOff_ptr, load1_ptr, Nat.zero_add, Nat.add_zero, cell_cells_z, List.getElem?_cons_zero, List.getElem?_cons_succ, gd_tt, gd_tf, gd_ft, gd_ff, gd_skip, pick_true_z, pick_false_z, un_not_z, Bool.not_true, Bool.not_false, ext_tuple, boxO_agg_z, List.toList_toArray, mkPtr_eq_z, AM.mk_some, mkSlc_eq, opt2_some, AH.next_new_z, tk_eq, opt_some, ifB_true, ifB_false]
    refine S.f35 hE p.2 _ ?_
    refine ⟨rfl, ?_⟩
    simp only [u16_neq, nth_0, nth_1, nth_2, nth_3, nth_4, nth_5, nth_6, nth_7, nth_8, nth_9, nth_10, nth_11, nth_12, nth_13, nth_14, nth_15, nilCk_p, addOff_ptr, load1_ptr, Nat.zero_add, Nat.add_zero, cell_cells_z, List.getElem?_cons_zero, List.getElem?_cons_succ, gd_tt, gd_tf, gd_ft, gd_ff, gd_skip, pick_true_z, pick_false_z, un_not_z, Bool.not_true, Bool.not_false, ext_tuple, boxO_agg_z, List.toList_toArray, mkPtr_eq_z, AM.mk_some, mkSlc_eq, opt2_some, AH.next_new_z, tk_eq, opt_some, ifB_true, ifB_false]
    by_cases hfit : fitsR (decide ((T.node r.1.i).kind = 2#8)) p.2 = p.2
    · rw [if_neg (by simpa using hfit)] at hstep
      have hof2 : ofPaths T M c [] x.paths = ofPaths T M c (addR r.1.i p.2 l) (x.paths.drop (j + 1)) := by rw [hof, ofPaths, hstep, if_neg (by simp)]
      obtain ⟨H10, m1, m2⟩ := g9.mapset (n := 2) (kd := 0) rfl (fun a b => same_u16 a b) r.1.i (getR r.1.i l ||| p.2)
      have m2 := (m2.drop 6).drop 5
      simp only [ne_eq, hfit, not_true, decide_false, hb9s, hb9, hb9', e1, look_u16 hm9, u16_or, m1, hjj, nth_0, nth_1, nth_2, nth_3, nth_4, nth_5, nth_6, nth_7, nth_8, nth_9, nth_10, nth_11, nth_12, nth_13, nth_14, nth_15, nilCk_p, addOff_ptr, load1_ptr, Nat.zero_add, Nat.add_zero, cell_cells_z, List.getElem?_cons_zero, List.getElem?_cons_succ, gd_tt, gd_tf, gd_ft, gd_ff, gd_skip, pick_true_z, pick_false_z, un_not_z, Bool.not_true, Bool.not_false, ext_tuple, boxO_agg_z, List.toList_toArray, mkPtr_eq_z, AM.mk_some, mkSlc_eq, opt2_some, AH.next_new_z, tk_eq, opt_some, ifB_true, ifB_false]
      exact hX _ _ ⟨addR r.1.i p.2 l, rfl, m2, hof2⟩
    · rw [if_pos (by simpa using hfit)] at hstep
      have hof2 : ofPaths T M c [] x.paths = (l, 22) := by rw [hof, ofPaths, hstep, if_pos (by simp)]
      rw [hof2] at hbad
      simp only [ne_eq, hfit, not_false_eq_true, decide_true, nth_0, nth_1, nth_2, nth_3, nth_4, nth_5, nth_6, nth_7, nth_8, nth_9, nth_10, nth_11, nth_12, nth_13, nth_14, nth_15, nilCk_p, addOff_ptr, load1_ptr, Nat.zero_add, Nat.add_zero, cell_cells_z, List.getElem?_cons_zero, List.getElem?_cons_succ, gd_tt, gd_tf, gd_ft, gd_ff, gd_skip, pick_true_z, pick_false_z, un_not_z, Bool.not_true, Bool.not_false, ext_tuple, boxO_agg_z, List.toList_toArray, mkPtr_eq_z, AM.mk_some, mkSlc_eq, opt2_some, AH.next_new_z, tk_eq, opt_some, ifB_true, ifB_false]
      exact hbad (by simp) _ g9.ext
  · have hjl' : ¬ (j : Int) < x.paths.length := by omega
    rw [List.drop_of_length_le hjl] at hof
    have hof : ofPaths T M c [] x.paths = (l, 0) := hof
    rw [hof] at hok
    have d5 : ([str x.name, u32 x.pol.default, v, u16 x.handled, pv, qv] : List Value)[5]? = some qv := rfl
    have hlq := hq.lenSlc
    rw [List.length_map] at hlq
    simp only [F.f36_l1, i64_lss, hjl', decide_false, g6.box (k := 0) (b := H.next) rfl, d5, hlq, nth_0, nth_1, nth_2, nth_3, nth_4, nth_5, nth_6, nth_7, nth_8, nth_9, nth_10, nth_11, nth_12, nth_13, nth_14, nth_15, nilCk_p, addOff_ptr, load1_ptr, Nat.zero_add, Nat.add_zero, cell_cells_z, List.getElem?_cons_zero, List.getElem?_cons_succ, gd_tt, gd_tf, gd_ft, gd_ff, gd_skip, pick_true_z, pick_false_z, un_not_z, Bool.not_true, Bool.not_false, ext_tuple, boxO_agg_z, List.toList_toArray, mkPtr_eq_z, AM.mk_some, mkSlc_eq, opt2_some, AH.next_new_z, tk_eq, opt_some, ifB_true, ifB_false]
    exact of_ports x.ports hq hf.2 rfl g6 fun H' e hs => hok rfl s H' e hsn hs
end
end Go.AM
end
section
namespace Go.AM
section
variable {E : Sy} {X : List Res} {H H' H0 Z : AH} {Q : Value → AH → Prop} {t w : Nat} {T T' : Tr} {M M' : List MntD} {nx nx' : Int} {L : List Res} {s : Nat} {d : SetD}
def awkPol : PolX := ⟨[], ⟨0#32, []⟩, 4#16, [([47, 97], 4#16)], []⟩
theorem S.f31 (hE : Fold E) (hQ : ∀ H', Ext H H' → Q (vb true) H') : E.call (E.fid i.f31) [] H Q := by
  apply hE.f31
  simp only [F.f31]
  refine S.f54 hE 9 fun w H1 h1 => ?_
  obtain ⟨p, q, hw, ⟨m, L, hi, ki⟩, _⟩ := h1.open_
  have s97 : (.string ⟨#[97]⟩ : Value) = str [97] := rfl
  have s0 : (.string ⟨#[]⟩ : Value) = str [] := rfl
  have n1 : (.int .u16 1 : Value) = u16 1#16 := rfl
  have n4 : (.int .u16 4 : Value) = u16 4#16 := rfl
  have n7 : (.int .u16 7 : Value) = u16 7#16 := rfl
  have n0 : (.int .u16 0 : Value) = u16 0#16 := rfl
  have k2 : (.int .u8 2 : Value) = u8 2#8 := rfl
  simp only [nilq_p, hw, s97, s0, n1, k2, nth_0, nth_1, nth_2, nth_3, nth_4, nth_5, nth_6, nth_7, nth_8, nth_9, nth_10, nth_11, nth_12, nth_13, nth_14, nth_15, nilCk_p, addOff_ptr, load1_ptr, Nat.zero_add, Nat.add_zero, cell_cells_z, List.getElem?_cons_zero, List.getElem?_cons_succ, gd_tt, gd_tf, gd_ft, gd_ff, gd_skip, pick_true_z, pick_false_z, un_not_z, Bool.not_true, Bool.not_false, ext_tuple, boxO_agg_z, List.toList_toArray, mkPtr_eq_z, AM.mk_some, mkSlc_eq, opt2_some, AH.next_new_z, tk_eq, opt_some, ifB_true, ifB_false]
  have f1 : ((Tr.new 9).make 1#16 [97] 2#8 []).2 = (2#16, 0) := by decide +kernel
  refine Ino.cMake hE hi (Tr.new_wf 9) 1#16 [97] (by decide) 2#8 [] (by decide) (by decide) fun L2 H2 u2 => ?_
  have h2 := ki _ _ _ u2
  have w2 := (Tr.new_wf 9).make 1#16 [97] 2#8 []
  have d2 := (Tr.KD.new 9).make keeps_KD 1#16 [97] 2#8 []
  rw [f1]
  generalize hT2 : ((Tr.new 9).make 1#16 [97] 2#8 []).1 = T2 at *
  have sp : (.string ⟨#[47, 97]⟩ : Value) = str [47, 97] := rfl
  have b1 : buildV [(0, 1), (1, 1)] #[str [], u16 0#16] [(0, str [47, 97]), (1, u16 4#16)] = some (.agg #[str [47, 97], u16 4#16]) := rfl
  have b2 := buildS_one 2 [str [], u16 0#16] [str [47, 97], u16 4#16] rfl rfl
  have b2 : buildS 1 2 #[str [], u16 0#16] [(0, .agg #[str [47, 97], u16 4#16])] = some (.cells [str [47, 97], u16 4#16] none, mkSlc 1 1) := b2
  have z32 : (.int .u32 0 : Value) = u32 0#32 := rfl
  have b3 : ∀ v, buildV [(0, 1), (1, 1), (2, 1), (3, 1), (4, 1), (5, 1)] #[str [], u32 0#32, (.slice none 0 0), u16 0#16, (.slice none 0 0), (.slice none 0 0)] [(3, u16 4#16), (4, slc v 0 1 1)] = some (.agg #[str [], u32 0#32, nilS, u16 4#16, slc v 0 1 1, nilS]) := fun v => rfl
  simp only [sp, s0, n4, n0, b1, b2, z32, b3, nth_0, nth_1, nth_2, nth_3, nth_4, nth_5, nth_6, nth_7, nth_8, nth_9, nth_10, nth_11, nth_12, nth_13, nth_14, nth_15, nilCk_p, addOff_ptr, load1_ptr, Nat.zero_add, Nat.add_zero, cell_cells_z, List.getElem?_cons_zero, List.getElem?_cons_succ, gd_tt, gd_tf, gd_ft, gd_ff, gd_skip, pick_true_z, pick_false_z, un_not_z, Bool.not_true, Bool.not_false, ext_tuple, boxO_agg_z, List.toList_toArray, mkPtr_eq_z, AM.mk_some, mkSlc_eq, opt2_some, AH.next_new_z, tk_eq, opt_some, ifB_true, ifB_false]
  have x3 : Ext H2 (H2.new (.cells [str [47, 97], u16 4#16] none)) := (Ext.refl _).new _
  have r3 : Rows (H2.new (.cells [str [47, 97], u16 4#16] none)) 2 (slc H2.next 0 1 1) ([([47, 97], 4#16)].map fun p : List UInt8 × BitVec 16 => [str p.1, u16 p.2]) := Rows.made (f := none) (by rw [AH.get_new_self]; rfl) (.inl rfl) rfl (by simp)
  have h3 := h2.mono x3
  generalize H2.new (.cells [str [47, 97], u16 4#16] none) = H3 at *
  refine S.f24 hE fun H4 e4 => ?_
  have h4 := h3.mono e4
  have hp : PolXAt H4 awkPol [str [], u32 0#32, nilS, u16 4#16, slc H2.next 0 1 1, nilS] := ⟨nilS, _, nilS, rfl, ⟨[], Rows.nil _ _ none, rfl, fun i h => by simp [awkPol] at h⟩, r3.mono e4, Rows.nil _ _ none⟩
  have f2 : (awkPol.set T2 tab0 ⟨0, 1#16⟩).2 = 0 := by subst hT2; decide +kernel
  have f3 : (awkPol.set T2 tab0 ⟨0, 1#16⟩).1.at_ 2#16 = 4#16 := by subst hT2; decide +kernel
  have f4 : (awkPol.set T2 tab0 ⟨0, 1#16⟩).1.denied 4#16 7#16 [⟨0, 1#16⟩] = 4#16 := by subst hT2; decide +kernel
  have f5 : (awkPol.set T2 tab0 ⟨0, 1#16⟩).1.denied 4#16 7#16 [⟨0, 2#16⟩] = 0#16 := by subst hT2; decide +kernel
  refine S.f36 hE h4.at_ w2 (Tr.KD.lt d2) awkPol _ hp ⟨by decide, by decide⟩ (by simp [awkPol]) ⟨0, 1#16⟩ (fun h => (h f2).elim) fun _ s H5 e5 _ hs5 => ?_
  generalize (awkPol.set T2 tab0 ⟨0, 1#16⟩).1 = d at *
  have h5 := h4.mono e5
  simp only [i64_eql, decide_true, nth_0, nth_1, nth_2, nth_3, nth_4, nth_5, nth_6, nth_7, nth_8, nth_9, nth_10, nth_11, nth_12, nth_13, nth_14, nth_15, nilCk_p, addOff_ptr, load1_ptr, Nat.zero_add, Nat.add_zero, cell_cells_z, List.getElem?_cons_zero, List.getElem?_cons_succ, gd_tt, gd_tf, gd_ft, gd_ff, gd_skip, pick_true_z, pick_false_z, un_not_z, Bool.not_true, Bool.not_false, ext_tuple, boxO_agg_z, List.toList_toArray, mkPtr_eq_z, AM.mk_some, mkSlc_eq, opt2_some, AH.next_new_z, tk_eq, opt_some, ifB_true, ifB_false]
  refine S.f37 hE hs5 2#16 ?_
  simp only [f3, n4, u16_eql, decide_true, nth_0, nth_1, nth_2, nth_3, nth_4, nth_5, nth_6, nth_7, nth_8, nth_9, nth_10, nth_11, nth_12, nth_13, nth_14, nth_15, nilCk_p, addOff_ptr, load1_ptr, Nat.zero_add, Nat.add_zero, cell_cells_z, List.getElem?_cons_zero, List.getElem?_cons_succ, gd_tt, gd_tf, gd_ft, gd_ff, gd_skip, pick_true_z, pick_false_z, un_not_z, Bool.not_true, Bool.not_false, ext_tuple, boxO_agg_z, List.toList_toArray, mkPtr_eq_z, AM.mk_some, mkSlc_eq, opt2_some, AH.next_new_z, tk_eq, opt_some, ifB_true, ifB_false]
  refine S.f24 hE fun H6 e6 => ?_
  have hz2 : ([(.int .i64 0), u16 0#16] : List Value) = PlaceD.zero.cells := rfl
  have bp : ∀ c : PlaceD, buildS 1 2 #[(.int .i64 0), u16 0#16] [(0, c.v)] = some (.cells c.cells none, mkSlc 1 1) := fun c => buildS_one 2 [vi 0, u16 0#16] c.cells rfl rfl
  have rp : ∀ (H : AH) (c : PlaceD), Rows (H.new (.cells c.cells none)) 2 (slc H.next 0 1 1) (placeR [c]) := fun H c => Rows.made (f := none) (by rw [AH.get_new_self]; simp [placeR]) (.inl rfl) rfl (by simp [placeR, PlaceD.cells])
  have x7 : Ext H6 (H6.new (.cells (PlaceD.cells ⟨0, 1#16⟩) none)) := (Ext.refl _).new _
  simp only [bp, n0, n4, n7, nth_0, nth_1, nth_2, nth_3, nth_4, nth_5, nth_6, nth_7, nth_8, nth_9, nth_10, nth_11, nth_12, nth_13, nth_14, nth_15, nilCk_p, addOff_ptr, load1_ptr, Nat.zero_add, Nat.add_zero, cell_cells_z, List.getElem?_cons_zero, List.getElem?_cons_succ, gd_tt, gd_tf, gd_ft, gd_ff, gd_skip, pick_true_z, pick_false_z, un_not_z, Bool.not_true, Bool.not_false, ext_tuple, boxO_agg_z, List.toList_toArray, mkPtr_eq_z, AM.mk_some, mkSlc_eq, opt2_some, AH.next_new_z, tk_eq, opt_some, ifB_true, ifB_false]
  refine S.f38 hE (hs5.mono (e6.trans x7)) 4#16 7#16 _ _ (rp H6 ⟨0, 1#16⟩) (by decide) fun H8 e8 => ?_
  have bv : buildV [(0, 1), (1, 1)] #[(.int .i64 0), u16 0#16] [(1, u16 2#16)] = some (PlaceD.v ⟨0, 2#16⟩) := rfl
  have x9 : Ext H8 (H8.new (.cells (PlaceD.cells ⟨0, 2#16⟩) none)) := (Ext.refl _).new _
  simp only [f4, u16_eql, decide_true, bv, bp, n0, n4, n7, nth_0, nth_1, nth_2, nth_3, nth_4, nth_5, nth_6, nth_7, nth_8, nth_9, nth_10, nth_11, nth_12, nth_13, nth_14, nth_15, nilCk_p, addOff_ptr, load1_ptr, Nat.zero_add, Nat.add_zero, cell_cells_z, List.getElem?_cons_zero, List.getElem?_cons_succ, gd_tt, gd_tf, gd_ft, gd_ff, gd_skip, pick_true_z, pick_false_z, un_not_z, Bool.not_true, Bool.not_false, ext_tuple, boxO_agg_z, List.toList_toArray, mkPtr_eq_z, AM.mk_some, mkSlc_eq, opt2_some, AH.next_new_z, tk_eq, opt_some, ifB_true, ifB_false]
  refine S.f38 hE (hs5.mono (e6.trans (x7.trans (e8.trans x9)))) 4#16 7#16 _ _ (rp H8 ⟨0, 2#16⟩) (by decide) fun H10 e10 => ?_
  simp only [f5, n0, u16_eql, decide_true, nth_0, nth_1, nth_2, nth_3, nth_4, nth_5, nth_6, nth_7, nth_8, nth_9, nth_10, nth_11, nth_12, nth_13, nth_14, nth_15, nilCk_p, addOff_ptr, load1_ptr, Nat.zero_add, Nat.add_zero, cell_cells_z, List.getElem?_cons_zero, List.getElem?_cons_succ, gd_tt, gd_tf, gd_ft, gd_ff, gd_skip, pick_true_z, pick_false_z, un_not_z, Bool.not_true, Bool.not_false, ext_tuple, boxO_agg_z, List.toList_toArray, mkPtr_eq_z, AM.mk_some, mkSlc_eq, opt2_some, AH.next_new_z, tk_eq, opt_some, ifB_true, ifB_false]
  exact hQ _ ((h5.mono (e6.trans (x7.trans (e8.trans (x9.trans e10))))).ext)
end
end Go.AM
end
section
namespace Go.AM
def lastR (k : BitVec 16) (ps : List (BitVec 16 × BitVec 16)) : BitVec 16 := ps.foldl (fun g q => if q.1 = k then q.2 else g) 0#16
theorem getR_cons (k : BitVec 16) (p : BitVec 16 × BitVec 16) (l : List (BitVec 16 × BitVec 16)) : getR k (p :: l) = if k = p.1 then p.2 else getR k l := by
  unfold getR
  by_cases h : k = p.1
  · subst h; simp [List.lookup]
  · have : (k == p.1) = false := by simpa using h
    simp [List.lookup, this, h]
theorem getR_snoc (k : BitVec 16) (p : BitVec 16 × BitVec 16) : ∀ (l : List (BitVec 16 × BitVec 16)), p.1 ∉ l.map Prod.fst → getR k (l ++ [p]) = if k = p.1 then p.2 else getR k l
  | [], _ => by rw [List.nil_append, getR_cons]
  | q :: l, h => by
    simp only [List.map_cons, List.mem_cons, not_or] at h
    rw [List.cons_append, getR_cons, getR_snoc k p l h.2, getR_cons]
    by_cases h1 : k = q.1
    · simp only [h1, if_true]
      rw [if_neg fun e : q.1 = p.1 => h.1 e.symm]
    · simp [h1]
theorem getR_none {k : BitVec 16} {l : List (BitVec 16 × BitVec 16)} (h : k ∉ l.map Prod.fst) : getR k l = 0#16 := by
  unfold getR
  rw [lookup_none.2 h]; rfl
theorem aset_newR {k v : BitVec 16} : ∀ {l : List (BitVec 16 × BitVec 16)}, k ∉ l.map Prod.fst → aset k v l = l ++ [(k, v)]
  | [], _ => rfl
  | p :: l, h => by
    simp only [List.map_cons, List.mem_cons, not_or] at h
    rw [aset, if_neg fun e : p.1 = k => h.1 e.symm, aset_newR h.2, List.cons_append]
theorem ofPorts_id (ps : List (BitVec 16 × BitVec 16)) (h : (ps.map Prod.fst).Nodup) : ofPorts ps = ps := by
  have key : ∀ (l m : List (BitVec 16 × BitVec 16)), ((m ++ l).map Prod.fst).Nodup → l.foldl (fun l x => addR x.1 x.2 l) m = m ++ l := by
    intro l
    induction l with
    | nil => intro m _; simp
    | cons x l ih =>
      intro m hn
      have hx : x.1 ∉ m.map Prod.fst := by
        rw [List.map_append, List.nodup_append] at hn
        exact fun hm => hn.2.2 _ hm x.1 (by simp) rfl
      rw [List.foldl_cons]
      have : addR x.1 x.2 m = m ++ [x] := by
        unfold addR
        rw [getR_none hx, aset_newR hx]; simp
      rw [this, ih _ (by simpa using hn)]
      simp
  have := key ps [] (by simpa using h)
  simpa [ofPorts] using this
theorem lastR_eq (k : BitVec 16) (ps : List (BitVec 16 × BitVec 16)) (h : (ps.map Prod.fst).Nodup) : lastR k ps = getR k ps := by
  have key : ∀ (n : Nat), n ≤ ps.length → lastR k (ps.take n) = getR k (ps.take n) := by
    intro n
    induction n with
    | zero => intro _; rfl
    | succ n ih =>
      intro hn
      have hn' : n < ps.length := hn
      have hnot : (ps[n]).1 ∉ (ps.take n).map Prod.fst := by
        have : ((ps.take (n + 1)).map Prod.fst).Nodup := by
          rw [List.map_take]; exact h.sublist (List.take_sublist _ _)
        rw [List.take_succ_eq_append_getElem hn', List.map_append, List.nodup_append] at this
        exact fun hm => this.2.2 _ hm _ (by simp) rfl
      rw [List.take_succ_eq_append_getElem hn', getR_snoc k _ _ hnot, ← ih (by omega)]
      unfold lastR
      rw [List.foldl_append, List.foldl_cons, List.foldl_nil]
      by_cases e : k = (ps[n]).1
      · simp [e]
      · rw [if_neg e, if_neg fun h : (ps[n]).1 = k => e h.symm]
  have := key ps.length (Nat.le_refl _)
  rwa [List.take_length] at this
section
variable {E : Sy} {X : List Res} {H H' H0 Z : AH} {Q : Value → AH → Prop} {t w : Nat} {T T' : Tr} {M M' : List MntD} {nx nx' : Int} {L : List Res} {s : Nat} {d : SetD}
theorem S.f32 (hE : Fold E) (x : Small) (cs : List Value) (hx : SmallAt H x cs) (n want : BitVec 16) (hQ : ∀ H', Q (vb true) H') : E.call (E.fid i.f32) [.agg cs.toArray, u16 n, u16 want] H Q := by
  apply hE.f32
  have x1 : Ext H (H.new (.cells cs none)) := (Ext.refl _).new _
  have hb1 := AH.get_new_self H (.cells cs none)
  have hlen : cs.length = 8 := by
    obtain ⟨v, pv, rv, qv, rfl, _⟩ := hx
    rfl
  simp only [F.f32, nth_0, nth_1, nth_2, nth_3, nth_4, nth_5, nth_6, nth_7, nth_8, nth_9, nth_10, nth_11, nth_12, nth_13, nth_14, nth_15, nilCk_p, addOff_ptr, load1_ptr, Nat.zero_add, Nat.add_zero, cell_cells_z, List.getElem?_cons_zero, List.getElem?_cons_succ, gd_tt, gd_tf, gd_ft, gd_ff, gd_skip, pick_true_z, pick_false_z, un_not_z, Bool.not_true, Bool.not_false, ext_tuple, boxO_agg_z, List.toList_toArray, mkPtr_eq_z, AM.mk_some, mkSlc_eq, opt2_some, AH.next_new_z, tk_eq, opt_some, ifB_true, ifB_false]
  generalize H.new (.cells cs none) = H1 at *
  refine S.f31 hE fun H2 e2 => ?_
  have hlo : loadN 8 (ptr H.next 0) H2 = some (.agg cs.toArray) := by rw [loadN_ptr, e2.cells hb1, row_all _ _ 8 hlen]; rfl
  simp only [hlo, nth_0, nth_1, nth_2, nth_3, nth_4, nth_5, nth_6, nth_7, nth_8, nth_9, nth_10, nth_11, nth_12, nth_13, nth_14, nth_15, nilCk_p, addOff_ptr, load1_ptr, Nat.zero_add, Nat.add_zero, cell_cells_z, List.getElem?_cons_zero, List.getElem?_cons_succ, gd_tt, gd_tf, gd_ft, gd_ff, gd_skip, pick_true_z, pick_false_z, un_not_z, Bool.not_true, Bool.not_false, ext_tuple, boxO_agg_z, List.toList_toArray, mkPtr_eq_z, AM.mk_some, mkSlc_eq, opt2_some, AH.next_new_z, tk_eq, opt_some, ifB_true, ifB_false]
  refine S.f28 hE x cs (hx.sub (x1.trans e2).sub) fun H3 cp e3 hp => ?_
  obtain ⟨v, pv, qv, rfl, hr, hpv, hqv⟩ := hp
  have hv1 : plain1 v = true := by obtain ⟨rows, h, _⟩ := hr; exact h.plain
  have hst : storeN 6 (ptr H3.next 0) (.agg [str x.pol.name, u32 x.pol.pol.default, v, u16 x.pol.handled, pv, qv].toArray) (H3.new (.cells [(.string ⟨#[]⟩), (.int .u32 0), (.slice none 0 0), (.int .u16 0), (.slice none 0 0), (.slice none 0 0)] none)) = some (H3.new (.cells [str x.pol.name, u32 x.pol.pol.default, v, u16 x.pol.handled, pv, qv] none)) := by
    rw [storeN_ptr, AH.get_new_self]
    have hpl : ([str x.pol.name, u32 x.pol.pol.default, v, u16 x.pol.handled, pv, qv] : List Value).all plain1 = true := by
      simp only [List.all_cons, List.all_nil, hv1, hpv.plain, hqv.plain]; rfl
    have hsp : AM.splice [(.string ⟨#[]⟩), (.int .u32 0), (.slice none 0 0), (.int .u16 0), (.slice none 0 0), (.slice none 0 0)] 0 [str x.pol.name, u32 x.pol.pol.default, v, u16 x.pol.handled, pv, qv] = [str x.pol.name, u32 x.pol.pol.default, v, u16 x.pol.handled, pv, qv] := rfl
    simp only [List.size_toArray, List.toList_toArray, hpl, List.length_cons, List.length_nil, Nat.zero_add, Nat.le_refl, and_self, if_true, hsp, AH.new_put]
  have hst2 : store1 (ptr H3.next 4) (.slice none 0 0) (H3.new (.cells [str x.pol.name, u32 x.pol.pol.default, v, u16 x.pol.handled, pv, qv] none)) = some (H3.new (.cells [str x.pol.name, u32 x.pol.pol.default, v, u16 x.pol.handled, nilS, qv] none)) := by
    rw [store1_ptr, if_pos (show plain1 (.slice none 0 0) = true from rfl), AH.get_new_self]
    simp only [List.length_cons, List.length_nil, List.set_cons_succ, List.set_cons_zero, AH.new_put]
    rfl
  simp only [allocW_eq, hst, hst2, nth_0, nth_1, nth_2, nth_3, nth_4, nth_5, nth_6, nth_7, nth_8, nth_9, nth_10, nth_11, nth_12, nth_13, nth_14, nth_15, nilCk_p, addOff_ptr, load1_ptr, Nat.zero_add, Nat.add_zero, cell_cells_z, List.getElem?_cons_zero, List.getElem?_cons_succ, gd_tt, gd_tf, gd_ft, gd_ff, gd_skip, pick_true_z, pick_false_z, un_not_z, Bool.not_true, Bool.not_false, ext_tuple, boxO_agg_z, List.toList_toArray, mkPtr_eq_z, AM.mk_some, mkSlc_eq, opt2_some, AH.next_new_z, tk_eq, opt_some, ifB_true, ifB_false]
  have x6 : Ext H3 (H3.new (.cells [str x.pol.name, u32 x.pol.pol.default, v, u16 x.pol.handled, nilS, qv] none)) := (Ext.refl _).new _
  have hb6 := AH.get_new_self H3 (.cells [str x.pol.name, u32 x.pol.pol.default, v, u16 x.pol.handled, nilS, qv] none)
  generalize H3.new (.cells [str x.pol.name, u32 x.pol.pol.default, v, u16 x.pol.handled, nilS, qv] none) = H6 at *
  have hl6 : ∀ {H'}, Ext H6 H' → loadN 6 (ptr H3.next 0) H' = some (.agg [str x.pol.name, u32 x.pol.pol.default, v, u16 x.pol.handled, nilS, qv].toArray) := fun e => by rw [loadN_ptr, e.cells hb6]; rfl
  simp only [hl6 (Ext.refl _), nth_0, nth_1, nth_2, nth_3, nth_4, nth_5, nth_6, nth_7, nth_8, nth_9, nth_10, nth_11, nth_12, nth_13, nth_14, nth_15, nilCk_p, addOff_ptr, load1_ptr, Nat.zero_add, Nat.add_zero, cell_cells_z, List.getElem?_cons_zero, List.getElem?_cons_succ, gd_tt, gd_tf, gd_ft, gd_ff, gd_skip, pick_true_z, pick_false_z, un_not_z, Bool.not_true, Bool.not_false, ext_tuple, boxO_agg_z, List.toList_toArray, mkPtr_eq_z, AM.mk_some, mkSlc_eq, opt2_some, AH.next_new_z, tk_eq, opt_some, ifB_true, ifB_false]
  refine S.f54 hE 5 fun w H7 h7 => ?_
  refine ⟨by rw [hl6 h7.ext, hl6 (Ext.refl _)], ?_⟩
  refine S.f24 hE fun H8 e8 => ?_
  refine ⟨by rw [hl6 (h7.ext.trans e8), hl6 (Ext.refl _)], ?_⟩
  have h8 := h7.mono e8
  have e38 := x6.trans h8.ext
  have hp8 : PolXAt H8 ⟨x.pol.name, x.pol.pol, x.pol.handled, [], x.pol.ports⟩ [str x.pol.name, u32 x.pol.pol.default, v, u16 x.pol.handled, nilS, qv] := ⟨v, nilS, qv, rfl, hr.sub (fun _ _ _ _ h e => RuleAt.sub h e) e38.sub, Rows.nil _ _ none, hqv.mono e38⟩
  have hlp := portsTo_len x x.ports.length
  refine S.f36 hE h8.at_ (Tr.new_wf 5) (Tr.KD.lt (Tr.KD.new 5)) _ _ hp8 ⟨by simp, by show (x.portsTo x.ports.length).length < _; omega⟩ (by simp) ⟨0, 1#16⟩ (fun h => (h rfl).elim) fun _ s H9 e9 _ hs9 => ?_
  have hnd := (portsTo_ok x x.ports.length).1
  have hd : (PolX.set (Tr.new 5) tab0 ⟨0, 1#16⟩ ⟨x.pol.name, x.pol.pol, x.pol.handled, [], x.pol.ports⟩).1 = ⟨x.pol.handled, [], x.pol.ports⟩ := by
    unfold PolX.set
    simp only
    rw [ofPorts_id x.pol.ports hnd]; rfl
  rw [hd] at hs9
  have hbS : buildS 5 1 #[(.int .u16 0)] [(0, u16 n), (1, (.int .u16 80)), (2, (.int .u16 81)), (3, (.int .u16 82)), (4, (.int .u16 83))] = some (.cells [u16 n, u16 80#16, u16 81#16, u16 82#16, u16 83#16] none, mkSlc 5 5) := by
    have := buildS_full 5 1 [u16 0#16] [(0, u16 n), (1, u16 80#16), (2, u16 81#16), (3, u16 82#16), (4, u16 83#16)] [u16 n, u16 80#16, u16 81#16, u16 82#16, u16 83#16] rfl rfl rfl rfl (by intro v hv; simp at hv; rcases hv with rfl | rfl | rfl | rfl | rfl <;> rfl)
    simpa using this
  have x10 : Ext H9 (H9.new (.cells [u16 n, u16 80#16, u16 81#16, u16 82#16, u16 83#16] none)) := (Ext.refl _).new _
  have r10 : Rows (H9.new (.cells [u16 n, u16 80#16, u16 81#16, u16 82#16, u16 83#16] none)) 1 (slc H9.next 0 5 5) (u16R [n, 80#16, 81#16, 82#16, 83#16]) := Rows.made (f := none) (by rw [AH.get_new_self]; rfl) (.inl rfl) rfl (by simp [u16R])
  have hls : AM.lenSlc (slc H9.next 0 5 5) = some (vi (5 : Nat)) := rfl
  simp only [i64_neq, ne_eq, not_true, decide_false, hbS, hls, nth_0, nth_1, nth_2, nth_3, nth_4, nth_5, nth_6, nth_7, nth_8, nth_9, nth_10, nth_11, nth_12, nth_13, nth_14, nth_15, nilCk_p, addOff_ptr, load1_ptr, Nat.zero_add, Nat.add_zero, cell_cells_z, List.getElem?_cons_zero, List.getElem?_cons_succ, gd_tt, gd_tf, gd_ft, gd_ff, gd_skip, pick_true_z, pick_false_z, un_not_z, Bool.not_true, Bool.not_false, ext_tuple, boxO_agg_z, List.toList_toArray, mkPtr_eq_z, AM.mk_some, mkSlc_eq, opt2_some, AH.next_new_z, tk_eq, opt_some, ifB_true, ifB_false]
  have e610 := h8.ext.trans (e9.trans x10)
  have hs10 := hs9.mono x10
  have hb10 := e610.cells hb6
  have hq10 : Rows (H9.new (.cells [u16 n, u16 80#16, u16 81#16, u16 82#16, u16 83#16] none)) 2 qv (x.pol.ports.map fun p => [u16 p.1, u16 p.2]) := hqv.mono (e38.trans (e9.trans x10))
  generalize H9.new (.cells [u16 n, u16 80#16, u16 81#16, u16 82#16, u16 83#16] none) = H10 at *
  have hlq := hqv.lenSlc
  rw [List.length_map] at hlq
  have hll : x.pol.ports.length < 2 ^ 62 := by show (x.portsTo x.ports.length).length < _; omega
  have hnd' : (x.pol.ports.map Prod.fst).Nodup := hnd
  generalize x.pol.ports = ps at *
  generalize x.pol.handled = hd' at *
  refine LoopL.count 5 (fun j ls H' => ls = [u16 want, ptr H3.next 0, ptr s 0, slc H9.next 0 5 5, vi (5 : Nat), vi j] ∧ Ext H10 H') ?_ ⟨rfl, Ext.refl _⟩
  rintro j _ H11 X hj hX ⟨rfl, e11⟩
  rcases Nat.lt_or_ge j 5 with hjl | hjl
  rotate_left
  · have hjl' : ¬ (j : Int) < (5 : Nat) := by omega
    simp only [F.f32_l1, i64_lss, hjl', decide_false, nth_0, nth_1, nth_2, nth_3, nth_4, nth_5, nth_6, nth_7, nth_8, nth_9, nth_10, nth_11, nth_12, nth_13, nth_14, nth_15, nilCk_p, addOff_ptr, load1_ptr, Nat.zero_add, Nat.add_zero, cell_cells_z, List.getElem?_cons_zero, List.getElem?_cons_succ, gd_tt, gd_tf, gd_ft, gd_ff, gd_skip, pick_true_z, pick_false_z, un_not_z, Bool.not_true, Bool.not_false, ext_tuple, boxO_agg_z, List.toList_toArray, mkPtr_eq_z, AM.mk_some, mkSlc_eq, opt2_some, AH.next_new_z, tk_eq, opt_some, ifB_true, ifB_false]
    exact hQ _
  have hX := hX hjl
  have hjl' : (j : Int) < (5 : Nat) := by omega
  have hjj := i64_inc (i := j) (by omega)
  obtain ⟨b, o, f1, f2⟩ := (r10.mono e11).ix (i := j) hjl
  obtain ⟨k, hk⟩ : ∃ k, (u16R [n, 80#16, 81#16, 82#16, 83#16])[j]'hjl = [u16 k] := by
    have hm := List.getElem_mem (l := u16R [n, 80#16, 81#16, 82#16, 83#16]) hjl
    unfold u16R at hm
    obtain ⟨k, _, hk⟩ := List.mem_map.1 hm
    exact ⟨k, hk.symm⟩
  rw [hk] at f2
  have f3 : (H11.get b).cell o = some (u16 k) := by have := row_at f2 (j := 0) (by omega); simpa using this
  have d5 : ([str x.pol.name, u32 x.pol.pol.default, v, u16 hd', nilS, qv] : List Value)[5]? = some qv := rfl
  have d3 : ([str x.pol.name, u32 x.pol.pol.default, v, u16 hd', nilS, qv] : List Value)[3]? = some (u16 hd') := rfl
  simp only [F.f32_l1, i64_lss, hjl', decide_true, f1, f3, e11.cells hb10, d5, hlq, nth_0, nth_1, nth_2, nth_3, nth_4, nth_5, nth_6, nth_7, nth_8, nth_9, nth_10, nth_11, nth_12, nth_13, nth_14, nth_15, nilCk_p, addOff_ptr, load1_ptr, Nat.zero_add, Nat.add_zero, cell_cells_z, List.getElem?_cons_zero, List.getElem?_cons_succ, gd_tt, gd_tf, gd_ft, gd_ff, gd_skip, pick_true_z, pick_false_z, un_not_z, Bool.not_true, Bool.not_false, ext_tuple, boxO_agg_z, List.toList_toArray, mkPtr_eq_z, AM.mk_some, mkSlc_eq, opt2_some, AH.next_new_z, tk_eq, opt_some, ifB_true, ifB_false]
  refine LoopL.count ps.length (fun q ls H' => ls = [u16 want, ptr H3.next 0, ptr s 0, u16 k, u16 (lastR k (ps.take q)), slc H9.next 0 5 5, vi (5 : Nat), vi j, qv, vi ps.length, vi q] ∧ Ext H11 H') ?_ ⟨rfl, Ext.refl _⟩
  rintro q _ H12 X2 hq hX2 ⟨rfl, e12⟩
  rcases Nat.lt_or_ge q ps.length with hql | hql
  · have hX2 := hX2 hql
    have hql' : (q : Int) < ps.length := by omega
    have hqq := i64_inc (i := q) (by omega)
    obtain ⟨b2, o2, g1, g2⟩ := (hq10.mono (e11.trans e12)).ix (i := q) (by simpa using hql)
    rw [List.getElem_map] at g2
    have hla : lastR k (ps.take (q + 1)) = if ps[q].1 = k then ps[q].2 else lastR k (ps.take q) := by
      unfold lastR
      rw [List.take_succ_eq_append_getElem hql, List.foldl_append]; rfl
    rw [hla] at hX2
    generalize ps[q] = y at *
    have hlo : loadN 2 (ptr b2 o2) H12 = some (.agg [u16 y.1, u16 y.2].toArray) := by rw [loadN_ptr, g2]; rfl
    have hz2 : storeN 2 (ptr H12.next 0) (.agg [u16 y.1, u16 y.2].toArray) (H12.new (.cells [(.int .u16 0), (.int .u16 0)] none)) = some (H12.new (.cells [u16 y.1, u16 y.2] none)) := two_store rfl rfl rfl
    have x13 : Ext H12 (H12.new (.cells [u16 y.1, u16 y.2] none)) := (Ext.refl _).new _
    simp only [F.f32_l2, i64_lss, hql', decide_true, g1, hlo, allocW_eq, hz2, AH.get_new_self, u16_eql, nth_0, nth_1, nth_2, nth_3, nth_4, nth_5, nth_6, nth_7, nth_8, nth_9, nth_10, nth_11, nth_12, nth_13, nth_14, nth_15, nilCk_p, addOff_ptr, load1_ptr, Nat.zero_add, Nat.add_zero, cell_cells_z, List.getElem?_cons_zero, List.getElem?_cons_succ, gd_tt, gd_tf, gd_ft, gd_ff, gd_skip, pick_true_z, pick_false_z, un_not_z, Bool.not_true, Bool.not_false, ext_tuple, boxO_agg_z, List.toList_toArray, mkPtr_eq_z, AM.mk_some, mkSlc_eq, opt2_some, AH.next_new_z, tk_eq, opt_some, ifB_true, ifB_false]
    by_cases hy : y.1 = k
    · rw [if_pos hy] at hX2
      simp only [hy, decide_true, AH.get_new_self, hqq, nth_0, nth_1, nth_2, nth_3, nth_4, nth_5, nth_6, nth_7, nth_8, nth_9, nth_10, nth_11, nth_12, nth_13, nth_14, nth_15, nilCk_p, addOff_ptr, load1_ptr, Nat.zero_add, Nat.add_zero, cell_cells_z, List.getElem?_cons_zero, List.getElem?_cons_succ, gd_tt, gd_tf, gd_ft, gd_ff, gd_skip, pick_true_z, pick_false_z, un_not_z, Bool.not_true, Bool.not_false, ext_tuple, boxO_agg_z, List.toList_toArray, mkPtr_eq_z, AM.mk_some, mkSlc_eq, opt2_some, AH.next_new_z, tk_eq, opt_some, ifB_true, ifB_false]
      rw [hy] at x13
      exact hX2 _ _ ⟨rfl, e12.trans x13⟩
    · rw [if_neg hy] at hX2
      simp only [hy, decide_false, hqq, nth_0, nth_1, nth_2, nth_3, nth_4, nth_5, nth_6, nth_7, nth_8, nth_9, nth_10, nth_11, nth_12, nth_13, nth_14, nth_15, nilCk_p, addOff_ptr, load1_ptr, Nat.zero_add, Nat.add_zero, cell_cells_z, List.getElem?_cons_zero, List.getElem?_cons_succ, gd_tt, gd_tf, gd_ft, gd_ff, gd_skip, pick_true_z, pick_false_z, un_not_z, Bool.not_true, Bool.not_false, ext_tuple, boxO_agg_z, List.toList_toArray, mkPtr_eq_z, AM.mk_some, mkSlc_eq, opt2_some, AH.next_new_z, tk_eq, opt_some, ifB_true, ifB_false]
      exact hX2 _ _ ⟨rfl, e12.trans x13⟩
  · have hql' : ¬ (q : Int) < ps.length := by omega
    rw [List.take_of_length_le hql]
    have e1012 := e11.trans e12
    have n0 : (.int .u16 0 : Value) = u16 0#16 := rfl
    simp only [F.f32_l2, i64_lss, hql', decide_false, e1012.cells hb10, d3, u16_and, u16_andNot, n0, u16_eql, nth_0, nth_1, nth_2, nth_3, nth_4, nth_5, nth_6, nth_7, nth_8, nth_9, nth_10, nth_11, nth_12, nth_13, nth_14, nth_15, nilCk_p, addOff_ptr, load1_ptr, Nat.zero_add, Nat.add_zero, cell_cells_z, List.getElem?_cons_zero, List.getElem?_cons_succ, gd_tt, gd_tf, gd_ft, gd_ff, gd_skip, pick_true_z, pick_false_z, un_not_z, Bool.not_true, Bool.not_false, ext_tuple, boxO_agg_z, List.toList_toArray, mkPtr_eq_z, AM.mk_some, mkSlc_eq, opt2_some, AH.next_new_z, tk_eq, opt_some, ifB_true, ifB_false]
    refine S.f41 hE (hs10.mono e1012) want k ?_
    refine ⟨by rw [e1012.cells hb10]; rfl, ?_⟩
    have hsame : SetD.port ⟨hd', [], ps⟩ want k = decide ((want &&& hd') &&& ~~~ lastR k ps = 0#16) := by
      unfold SetD.port
      rw [lastR_eq k ps hnd']
    simp only [hsame, binBool_neq_z, beq_self_eq_true, Bool.not_true, hjj, nth_0, nth_1, nth_2, nth_3, nth_4, nth_5, nth_6, nth_7, nth_8, nth_9, nth_10, nth_11, nth_12, nth_13, nth_14, nth_15, nilCk_p, addOff_ptr, load1_ptr, Nat.zero_add, Nat.add_zero, cell_cells_z, List.getElem?_cons_zero, List.getElem?_cons_succ, gd_tt, gd_tf, gd_ft, gd_ff, gd_skip, pick_true_z, pick_false_z, un_not_z, Bool.not_true, Bool.not_false, ext_tuple, boxO_agg_z, List.toList_toArray, mkPtr_eq_z, AM.mk_some, mkSlc_eq, opt2_some, AH.next_new_z, tk_eq, opt_some, ifB_true, ifB_false]
    exact hX _ _ ⟨rfl, e11.trans e12⟩
theorem S.law_RulePorts (hE : Fold E) (args : List Value) (ha : ArgsSV H [smallSh, .int .u16, .int .u16] args) (hQ : ∀ H', Q (vb true) H') : E.call (E.fid i.f32) args H Q := by
  obtain ⟨v1, _, rfl, h1, ha⟩ := ha.cons_inv
  obtain ⟨v2, _, rfl, h2, ha⟩ := ha.cons_inv
  obtain ⟨v3, _, rfl, h3, ha⟩ := ha.cons_inv
  obtain rfl := ha.nil_inv
  obtain ⟨x, cs, rfl, q⟩ := ArgSV.small h1
  obtain ⟨x2, rfl⟩ := h2.u16
  obtain ⟨x3, rfl⟩ := h3.u16
  exact S.f32 hE x cs q x2 x3 hQ
end
end Go.AM
end
