/- THE ABSTRACT MACHINE. -/
import Derived.Test.YtfobgbnjicmnaaaGreatDoorE7cc8A1
set_option linter.all false
section
namespace Go.AM
noncomputable section
attribute [local irreducible] keep0
def veq1:Value->Value->Bool
 | .bool a,.bool b=>a == b
 | .int k a,.int k' b=>decide (k=k')&&decide (a=b)
 | .string a,.string b=>decide (a=b)
 | .pointer a,.pointer b=>decide (a=b)
 | .slice a n c,.slice b m d=>decide (a=b)&&decide (n=m)&&decide (c=d)
 | .map a,.map b=>decide (a=b)
 | .nilFunc,.nilFunc=>true
 | .nilIface,.nilIface=>true
 | _,_=>false
theorem veq1_eq {x y:Value} (h:veq1 x y=true):x=y:=by
 unfold veq1 at h
 split at h <;> first | rfl | (simp at h; done) | (simp at h; simp [h])
def veqL:List Value->List Value->Bool
 | [],[]=>true
 | x :: l,y :: m=>veq1 x y&&veqL l m
 | _,_=>false
theorem veqL_eq:∀ {l m:List Value},veqL l m=true->l=m
 | [],[],_=>rfl
 | x :: l,y :: m,h=>by
  simp only [veqL,Bool.and_eq_true] at h
  rw [veq1_eq h.1,veqL_eq h.2]
 | [],_ :: _,h=>by simp [veqL] at h
 | _ :: _,[],h=>by simp [veqL] at h
def veq:Value->Value->Bool
 | .agg ⟨a⟩,.agg ⟨b⟩=>veqL a b
 | a,b=>veq1 a b
theorem veq_eq {x y:Value} (h:veq x y=true):x=y:=by
 unfold veq at h
 split at h
 ·rw [veqL_eq h]
 ·exact veq1_eq h
def veqO:Option Value->Option Value->Bool
 | some a,some b=>veq a b
 | _,_=>false
theorem veqO_eq {x y:Option Value} (h:veqO x y=true):∃ v,x=some v/\y=some v:=by
 unfold veqO at h
 split at h
 ·exact ⟨_,rfl,by rw [veq_eq h]⟩
 ·simp at h
def aeq:AObj->AObj->Bool
 | .cells c f,.cells d g=>veqL c d&&decide (f=g)
 | .map [] n w,.map [] m v=>decide (n=m)&&(w == v)
 | _,_=>false
theorem aeq_eq {x y:AObj} (h:aeq x y=true):x=y:=by
 unfold aeq at h
 split at h
 ·simp only [Bool.and_eq_true,decide_eq_true_eq] at h
  rw [veqL_eq h.1,h.2]
 ·simp only [Bool.and_eq_true,decide_eq_true_eq,beq_iff_eq] at h
  rw [h.1,h.2]
 ·simp at h
inductive RD where
 | p (s:StepC)
 | r (i:Nat) (s:StepC) (q:TE->RH->RH->RH->Prop->Prop)
 | m (M:Nat) (s:StepC)
def pendR (M:Nat) (H:RH) (R:Prop):List (Nat×(RH->Prop->Prop))->Prop
 | []=>R
 | (j,c) :: ps=>match M.testBit j with
  | true=>pendR M H R ps
  | false=>c H (pendR M H R ps)
def drawR (call:CallK) (l:List RD):List (Nat×(RH->Prop->Prop))->TE->RH->(TE->RH->Prop)->Prop :=
 @List.rec RD (fun _=>List (Nat×(RH->Prop->Prop))->TE->RH->(TE->RH->Prop)->Prop) (fun _ T H k=>k T H) (fun d _ ih ps T H k=>match d with
  | .p s=>s call T H fun T' H'=>ih ps T' H' k
  | .r i s q=>s call T H fun T' H'=>ih ((i,fun Hx R=>q T H H' Hx R) :: ps) T' H' k
  | .m M s=>s call T H fun T' H'=>pendR M H' (ih ps T' H' k) ps) l
def gdL (g:Value) (want:Bool) (C R:Prop):Prop:=match g with
 | .bool b=>match b == want with
  | true=>C
  | false=>R
 | g=>bs (isSkip g) R False
theorem gdL_gdC {g:Value} {want:Bool} {C R D:Prop} (hc:C->D/\R) (h:gdL g want C R):gdC g want D/\R:=by
 unfold gdL at h
 split at h
 ·rename_i b
  cases b <;> cases want
  ·exact hc h
  ·exact ⟨trivial,h⟩
  ·exact ⟨trivial,h⟩
  ·exact hc h
 ·cases hs:isSkip g with
  | true=>rw [hs] at h; unfold gdC; rw [hs]; exact ⟨trivial,h⟩
  | false=>rw [hs] at h; exact h.elim
section
variable (P:Program) (B:Base)
def gLook (ops:List Oper) (o:Oper) (q:TE->RH->RH->RH->Prop->Prop):Option (TE->RH->RH->RH->Prop->Prop) :=
 match o.guard with
 | none=>some q
 | some (j,want)=>match (ops[j]?).bind (·.dst) with
  | some dj=>match cVal (.tmp dj) with | ⟨g⟩=>some fun T H H' Hx R=>gdL (g T) want (q T H H' Hx R) R
  | none=>none
def lookRZ (s:Option Ast) (g:TE->RH->Option Value):TE->RH->RH->RH->Prop->Prop :=
 match s with
 | some .same=>fun T H _ Hx R=>match g T H with
  | some v=>g T Hx=some v/\R
  | none=>False
 | _=>fun T H _ Hx R=>bs (veqO (g T Hx) (g T H)) R False
def lookA (s:Option Ast):TE->RH->RH->RH->Prop->Prop :=
 match s with
 | some .same=>fun _ H H' Hx R=>rget B Hx (B.g+H.next)=rget B H' (B.g+H.next)/\R
 | _=>fun _ H H' Hx R=>bs (aeq (rget B Hx (B.g+H.next)) (rget B H' (B.g+H.next))) R False
def opSt (s:Option Ast):Option Ast:=match s with
 | some .same=>none
 | s=>s
def cDraw (off:Nat) (st:Nat->Option Ast) (ops:List Oper):List (Nat×Nat)->Option (List RD)
 | []=>some []
 | (i,M) :: l=>match ops[i]?,cDraw off st ops l with
  | some o,some r=>match cStep P B off (opSt (st i)) ops o with
   | ⟨s⟩=>match cls P o.op with
    | .P=>some (.p s :: r)
    | .R=>match cR P B o.op with
     | ⟨g⟩=>match gLook ops o (lookRZ (st i) g) with
      | some q=>some (.r i s q :: r)
      | none=>none
    | .A=>match gLook ops o (lookA B (st i)) with
     | some q=>some (.r i s q :: r)
     | none=>none
    | .M=>some (.m M s :: r)
  | _,_=>none
variable {P B}
def PendS (B:Base):List (Nat×(RH->Prop->Prop))->List (Nat×(AH->Prop))->Prop
 | [],[]=>True
 | a :: l,b :: m=>a.1=b.1/\(∀ Hx R,a.2 Hx R->b.2 (Hx.ah B)/\R)/\PendS B l m
 | _,_=>False
theorem pend_ok {M:Nat} {H:RH} {R R':Prop} (hR:R->R'):∀ {l:List (Nat×(RH->Prop->Prop))} {m:List (Nat×(AH->Prop))},PendS B l m->pendR M H R l->pendAll M (H.ah B) R' m
 | [],[],_,h=>hR h
 | a :: l,b :: m,h,hb=>by
  obtain ⟨h1,h2,h3⟩:=h
  obtain ⟨j,c⟩:=a
  obtain ⟨j',c'⟩:=b
  obtain rfl:j=j':=h1
  unfold pendR at hb
  unfold pendAll
  split at hb
  ·rename_i e
   have e':Nat.testBit M j=true:=e
   rw [e']
   exact pend_ok hR h3 hb
  ·rename_i e
   have e':Nat.testBit M j=false:=e
   rw [e']
   obtain ⟨g1,g2⟩:=h2 H _ hb
   exact ⟨g1,pend_ok hR h3 g2⟩
 | [],_ :: _,h,_=>h.elim
 | _ :: _,[],h,_=>h.elim
theorem gLook_ok {ops:List Oper} {o:Oper} {q q':TE->RH->RH->RH->Prop->Prop} (h:gLook ops o q=some q') {T:TE} {H H' Hx:RH} {C R:Prop} (hc:q T H H' Hx R->C/\R) (hq:q' T H H' Hx R):gdO ops (tv T) o C/\R:=by
 unfold gLook at h
 unfold gdO
 split at h
 ·rename_i hg
  simp only [Option.some.injEq] at h; subst h
  rw [hg]
  exact hc hq
 ·rename_i j want hg
  rw [hg]
  split at h
  ·rename_i dj hj
   show gdC (gval ops (tv T) j) want C/\R
   rw [gval_eq hj]
   cases hv:cVal (.tmp dj) with
   | mk g =>
    rw [hv] at h
    simp only [Option.some.injEq] at h; subst h
    have:g T=tv T dj:=cVal_mk hv T
    rw [<- this]
    exact gdL_gdC hc hq
  ·simp at h
theorem lookR_ok {s:Option Ast} {o:Oper} {g:TE->RH->Option Value} (hg:cR P B o.op=⟨g⟩) {T:TE} {H H' Hx:RH} {R:Prop} (h:lookRZ s g T H H' Hx R):evR P (tv T) o.op (Hx.ah B)=evR P (tv T) o.op (H.ah B)/\R:=by
 have two:∀ v,g T Hx=some v->g T H=some v->evR P (tv T) o.op (Hx.ah B)=evR P (tv T) o.op (H.ah B):=fun v e1 e2=>by
  rw [cR_ok P B o.op T Hx v (by rw [hg]; exact e1),cR_ok P B o.op T H v (by rw [hg]; exact e2)]
 unfold lookRZ at h
 split at h
 ·split at h
  ·rename_i v e; exact ⟨two v h.1 e,h.2⟩
  ·exact h.elim
 ·cases hv:veqO (g T Hx) (g T H) with
  | true =>
   rw [hv] at h
   obtain ⟨v,e1,e2⟩:=veqO_eq hv
   exact ⟨two v e1 e2,h⟩
  | false=>rw [hv] at h; exact h.elim
theorem lookA_ok {s:Option Ast} {T:TE} {H H' Hx:RH} {R:Prop} (h:lookA B s T H H' Hx R):(Hx.ah B).get (B.g+H.next)=(H'.ah B).get (B.g+H.next)/\R:=by
 rw [ah_get,ah_get]
 unfold lookA at h
 split at h
 ·exact h
 ·cases hv:aeq (rget B Hx (B.g+H.next)) (rget B H' (B.g+H.next)) with
  | true=>rw [hv] at h; exact ⟨aeq_eq hv,h⟩
  | false=>rw [hv] at h; exact h.elim
theorem drawR_ok {call:CallT} {callk:CallK} (hcall:CallS B callk call) {off:Nat} {st:Nat->Option Ast} {ops:List Oper} {k:TE->RH->Prop} {K:Env->AH->Prop} (hk:∀ T' H',k T' H'->K (tv T') (H'.ah B)) :
  ∀ {l:List (Nat×Nat)} {r:List RD},cDraw P B off st ops l=some r->∀ {ps:List (Nat×(RH->Prop->Prop))} {qs:List (Nat×(AH->Prop))},PendS B ps qs->∀ (T:TE) (H:RH),drawR callk r ps T H k->evDraw P call ops l qs (tv T) (H.ah B) K
 | [],r,hr,ps,qs,_,T,H,h=>by
  simp only [cDraw,Option.some.injEq] at hr; subst hr
  exact hk T H h
 | (i,M) :: l,r,hr,ps,qs,hp,T,H,h=>by
  unfold cDraw at hr
  unfold evDraw
  simp only at hr
  split at hr
  ·rename_i o r' ho hr'
   rw [ho]
   simp only
   have hs:=cStep_ok (P:=P) hcall off (opSt (st i)) ops o
   cases hst:cStep P B off (opSt (st i)) ops o with
   | mk s =>
    rw [hst] at hr hs
    simp only at hr
    have hs:StepS (P:=P) B call callk ops o s:=hs
    cases hc:cls P o.op with
    | P =>
     rw [hc] at hr
     simp only [Option.some.injEq] at hr; subst hr
     have h:s callk T H fun T' H'=>drawR callk r' ps T' H' k:=h
     exact hs T H _ _ (fun T' H' h'=>drawR_ok hcall hk hr' hp T' H' h') h
    | R =>
     rw [hc] at hr
     simp only at hr
     cases hg:cR P B o.op with
     | mk g =>
      rw [hg] at hr
      simp only at hr
      split at hr
      ·rename_i q hq
       simp only [Option.some.injEq] at hr; subst hr
       have h:s callk T H fun T' H'=>drawR callk r' ((i,fun Hx R=>q T H H' Hx R) :: ps) T' H' k:=h
       exact hs T H _ _ (fun T' H' h'=>drawR_ok hcall hk hr' (ps:=(i,fun Hx R=>q T H H' Hx R) :: ps) (qs:=(i,_) :: qs) ⟨rfl,fun Hx R hx=>gLook_ok hq (fun hv=>lookR_ok hg hv) hx,hp⟩ T' H' h') h
      ·simp at hr
    | A =>
     rw [hc] at hr
     simp only at hr
     split at hr
     ·rename_i q hq
      simp only [Option.some.injEq] at hr; subst hr
      have h:s callk T H fun T' H'=>drawR callk r' ((i,fun Hx R=>q T H H' Hx R) :: ps) T' H' k:=h
      exact hs T H _ _ (fun T' H' h'=>drawR_ok hcall hk hr' (ps:=(i,fun Hx R=>q T H H' Hx R) :: ps) (qs:=(i,_) :: qs) ⟨rfl,fun Hx R hx=>gLook_ok hq (fun hv=>lookA_ok hv) hx,hp⟩ T' H' h') h
     ·simp at hr
    | M =>
     rw [hc] at hr
     simp only [Option.some.injEq] at hr; subst hr
     have h:s callk T H fun T' H'=>pendR M H' (drawR callk r' ps T' H' k) ps:=h
     exact hs T H _ _ (fun T' H' h'=>pend_ok (fun h''=>drawR_ok hcall hk hr' hp T' H' h'') hp h') h
  ·simp at hr
inductive RC where
 | nrm
 | exit (id:Nat)
 | goto (l:Nat)
 | ret
 | seq (a b:RC)
 | cond (c:TE->Value) (a b:RC)
 | block (id:Nat) (c:RC)
 | loop (c:RC)
 | scope (c:RC)
 | ops (l:List (Cl StepC))
 | draw (l:List RD)
 | bad
abbrev KC:=AExit->TE->RH->Prop
def seqR (f:TE->RH->KC->Prop) (k:KC):KC:=fun e T H=>match e with
 | .normal=>f T H k
 | e=>k e T H
def blkR (id:Nat) (k:KC):KC:=fun e T H=>match e with
 | .exit id'=>bs (Nat.beq id' id) (k .normal T H) (k (.exit id') T H)
 | e=>k e T H
def scopeR (k:KC):KC:=fun e T H=>match e with
 | .goto _=>False
 | e=>k e T H
def ifR (v:Value) (A C:Prop):Prop:=match v with
 | .bool b=>@Bool.rec (fun _=>Prop) C A b
 | _=>False
def loopR (body:TE->RH->KC->Prop) (n:Nat):TE->RH->KC->Prop :=
 @Nat.rec (fun _=>TE->RH->KC->Prop) (fun _ _ _=>False) (fun _ ih T H k=>body T H (seqR ih k)) n
def opsR (call:CallK) (l:List (Cl StepC)):TE->RH->(TE->RH->Prop)->Prop :=
 @List.rec (Cl StepC) (fun _=>TE->RH->(TE->RH->Prop)->Prop) (fun T H k=>k T H) (fun s _ ih T H k=>match s with | ⟨f⟩=>f call T H fun T' H'=>ih T' H' k) l
def runCZ (call:CallK) (c:RC):TE->RH->KC->Prop :=
 @RC.rec (fun _=>TE->RH->KC->Prop) (fun T H k=>k .normal T H) (fun id T H k=>k (.exit id) T H) (fun l T H k=>k (.goto l) T H) (fun T H k=>k .ret T H)
  (fun _ _ a b T H k=>a T H (seqR b k)) (fun c _ _ a b T H k=>ifR (c T) (a T H k) (b T H k)) (fun id _ c T H k=>c T H (blkR id k)) (fun _ c T H k=>loopR c 1000000 T H k) (fun _ c T H k=>c T H (scopeR k))
  (fun l T H k=>opsR call l T H fun T' H'=>k .normal T' H') (fun l T H k=>drawR call l [] T H fun T' H'=>k .normal T' H') (fun _ _ _=>False) c
structure Md where
 off:Nat
 st:Nat->Nat->Option Ast
variable (P B)
def cSteps (off:Nat) (st:Nat->Option Ast) (ops:List Oper):Nat->List Oper->List (Cl StepC)
 | _,[]=>[]
 | i,o :: l=>cStep P B off (st i) ops o :: cSteps off st ops (Nat.succ i) l
def compC (md:Md) (ord:Nat->List (Nat×Nat)):Code->RC
 | .skip => .nrm
 | .label _ => .nrm
 | .exit id => .exit id
 | .goto l => .goto l
 | .ret => .ret
 | .seq a b => .seq (compC md ord a) (compC md ord b)
 | .cond c a b=>match cVal c with | ⟨f⟩ => .cond f (compC md ord a) (compC md ord b)
 | .block id c => .block id (compC md ord c)
 | .loop c => .loop (compC md ord c)
 | .scope c => .scope (compC md ord c)
 | .region id ops false => .ops (cSteps P B md.off (md.st id) ops.toList 0 ops.toList)
 | .region id ops true=>match cDraw P B md.off (md.st id) ops.toList (ord id) with
  | some l => .draw l
  | none => .bad
 | _ => .bad
variable {P B}
theorem opsR_ok {call:CallT} {callk:CallK} (hcall:CallS B callk call) {off:Nat} {st:Nat->Option Ast} {ops:List Oper} {k:TE->RH->Prop} {K:Env->AH->Prop} (hk:∀ T' H',k T' H'->K (tv T') (H'.ah B)) :
  ∀ (l:List Oper) (i:Nat) (T:TE) (H:RH),opsR callk (cSteps P B off st ops i l) T H k->evOps P call ops l (tv T) (H.ah B) K
 | [],_,T,H,h=>hk T H h
 | o :: l,i,T,H,h=>by
  have hs:=cStep_ok (P:=P) hcall off (st i) ops o
  have h:(match cStep P B off (st i) ops o with | ⟨f⟩=>f callk T H fun T' H'=>opsR callk (cSteps P B off st ops (i+1) l) T' H' k):=h
  cases hst:cStep P B off (st i) ops o with
  | mk s =>
   rw [hst] at h hs
   have hs:StepS (P:=P) B call callk ops o s:=hs
   exact hs T H _ _ (fun T' H' h'=>opsR_ok hcall hk l (i+1) T' H' h') h
theorem seqR_ok {f:TE->RH->KC->Prop} {k:KC} {K:AExit->Env->AH->Prop} {r:Env->AH->Prop} (hk:∀ e T H,k e T H->K e (tv T) (H.ah B)) (hf:∀ T H,f T H k->r (tv T) (H.ah B)):∀ e T H,seqR f k e T H->seqK r K e (tv T) (H.ah B):=by
 intro e T H h
 cases e with
 | normal=>exact hf T H h
 | exit id=>exact hk _ _ _ h
 | goto l=>exact hk _ _ _ h
 | ret=>exact hk _ _ _ h
def drawsOk (P:Program) (ord:Nat->List (Nat×Nat)):Code->Bool
 | .region id ops true=>drawOk P ops.toList (ord id)
 | .seq a b=>match drawsOk P ord a with | true=>drawsOk P ord b | false=>false
 | .cond _ a b=>match drawsOk P ord a with | true=>drawsOk P ord b | false=>false
 | .block _ c=>drawsOk P ord c
 | .loop c=>drawsOk P ord c
 | .scope c=>drawsOk P ord c
 | _=>true
theorem both_true {a b:Bool} (h:(match a with | true=>b | false=>false)=true):a=true/\b=true:=by
 cases a with
 | true=>exact ⟨rfl,h⟩
 | false=>cases h
theorem runC_ok {call:CallT} {callk:CallK} (hcall:CallS B callk call) {md:Md} {kp:Keep} (hkeep:∀ n,kp.keep n=keep0):∀ (c:Code),drawsOk P kp.order c=true->∀ (T:TE) (H:RH) (k:KC) (K:AExit->Env->AH->Prop),
  (∀ e T' H',k e T' H'->K e (tv T') (H'.ah B))->runCZ callk (compC P B md kp.order c) T H k->evCode P call kp c (tv T) (H.ah B) K:=by
 intro c
 induction c with
 | skip=>intro _ T H k K hk h; exact hk _ _ _ h
 | label l=>intro _ T H k K hk h; exact hk _ _ _ h
 | exit id=>intro _ T H k K hk h; exact hk _ _ _ h
 | goto l=>intro _ T H k K hk h; exact hk _ _ _ h
 | ret=>intro _ T H k K hk h; exact hk _ _ _ h
 | seq a b iha ihb =>
  intro hd T H k K hk h
  obtain ⟨hda,hdb⟩:=both_true hd
  have h:runCZ callk (compC P B md kp.order a) T H (seqR (runCZ callk (compC P B md kp.order b)) k):=h
  exact ⟨fun T' H'=>evCode P call kp b T' H' K,fun _ _ h=>h,iha hda T H _ _ (seqR_ok hk fun T H h=>ihb hdb T H k K hk h) h⟩
 | cond c a b iha ihb =>
  intro hd T H k K hk h
  obtain ⟨hda,hdb⟩:=both_true hd
  cases hc:cVal c with
  | mk f =>
   have h:runCZ callk (match cVal c with | ⟨f⟩=>RC.cond f (compC P B md kp.order a) (compC P B md kp.order b)) T H k:=h
   rw [hc] at h
   have h:ifR (f T) (runCZ callk (compC P B md kp.order a) T H k) (runCZ callk (compC P B md kp.order b) T H k):=h
   rw [cVal_mk hc] at h
   show ifB _ _ _
   unfold ifR at h
   split at h
   ·rename_i t e
    rw [e]
    cases t with
    | true=>exact iha hda T H k K hk h
    | false=>exact ihb hdb T H k K hk h
   ·exact h.elim
 | block id c ih =>
  intro hd T H k K hk h
  refine ih hd T H (blkR id k) _ (fun e T' H' h' =>?_) h
  cases e with
  | exit id' =>
   have h':bs (Nat.beq id' id) (k .normal T' H') (k (.exit id') T' H'):=h'
   rw [nbeq,Trie.bs_decide] at h'
   show (match id' == id with | true=>K .normal (tv T') (H'.ah B) | false=>K (.exit id') (tv T') (H'.ah B))
   by_cases e:id'=id
   ·rw [if_pos e] at h'
    rw [show (id' == id)=true by simp [e]]
    exact hk _ _ _ h'
   ·rw [if_neg e] at h'
    rw [show (id' == id)=false by simp [e]]
    exact hk _ _ _ h'
  | normal=>exact hk _ _ _ h'
  | goto l=>exact hk _ _ _ h'
  | ret=>exact hk _ _ _ h'
 | loop c ih =>
  intro hd T H k K hk h
  have h2:loopR (runCZ callk (compC P B md kp.order c)) 1000000 T H k:=h
  clear h
  show LoopW (kp.keep (firstReg c)) _ _ _ _
  rw [hkeep]
  intro X hX
  rw [restr_tv]
  generalize 1000000=n at h2
  induction n generalizing T H with
  | zero=>exact h2.elim
  | succ n ihn =>
   have h:runCZ callk (compC P B md kp.order c) T H (seqR (loopR (runCZ callk (compC P B md kp.order c)) n) k):=h2
   refine hX _ _ (ih hd T H _ _ (seqR_ok hk fun T' H' h' =>?_) h)
   rw [restr_tv]
   exact ihn T' H' h'
 | scope c ih =>
  intro hd T H k K hk h
  refine ih hd T H (scopeR k) _ (fun e T' H' h' =>?_) h
  cases e with
  | goto l=>exact h'.elim
  | normal=>exact hk _ _ _ h'
  | exit id=>exact hk _ _ _ h'
  | ret=>exact hk _ _ _ h'
 | region id ops d =>
  intro hd T H k K hk h
  cases d with
  | false =>
   have h:opsR callk (cSteps P B md.off (md.st id) ops.toList 0 ops.toList) T H fun T' H'=>k .normal T' H':=h
   show evOps _ _ _ _ (restr (kp.keep id) (tv T)) _ _
   rw [hkeep,restr_tv]
   exact opsR_ok hcall (fun T' H' h'=>hk _ _ _ h') _ 0 T H h
  | true =>
   have h:runCZ callk (match cDraw P B md.off (md.st id) ops.toList (kp.order id) with
    | some l=>RC.draw l
    | none => .bad) T H k:=h
   have hd:drawOk P ops.toList (kp.order id)=true:=hd
   show (match drawOk P ops.toList (kp.order id) with
    | true=>evDraw P call ops.toList (kp.order id) [] (restr (kp.keep id) (tv T)) (H.ah B) (fun T' H'=>K .normal T' H')
    | false=>False)
   rw [hd]
   simp only
   split at h
   ·rename_i l hl
    rw [hkeep,restr_tv]
    have h:drawR callk l [] T H fun T' H'=>k .normal T' H':=h
    exact drawR_ok hcall (fun T' H' h'=>hk _ _ _ h') hl (ps:=[]) (qs:=[]) trivial T H h
   ·exact h.elim
 | rangeFunc f ps a b=>intro _ T H k K hk h; exact h.elim
 | refuse=>intro _ T H k K hk h; exact h.elim
variable (P B)
def cRes:List ResultVar->Cl (TE->RH->(List Value->Prop)->Prop)
 | []=>⟨fun _ _ k=>k []⟩
 | .tmp t :: l=>match cVal (.tmp t),cRes l with
  | ⟨a⟩,⟨r⟩=>⟨fun T H k=>r T H fun vs=>k (a T :: vs)⟩
 | .cell x t :: l=>match aggO P t,sizeO P t with
  | some true,some n=>match cVal (.tmp x),cRes l with
   | ⟨a⟩,⟨r⟩=>⟨fun T H k=>opt (loadNR B n (a T) H) fun v=>r T H fun vs=>k (v :: vs)⟩
  | some false,some _=>match cVal (.tmp x),cRes l with
   | ⟨a⟩,⟨r⟩=>⟨fun T H k=>opt (load1R B (a T) H) fun v=>r T H fun vs=>k (v :: vs)⟩
  | _,_=>⟨fun _ _ _=>False⟩
variable {P B}
theorem cRes_ok:∀ (l:List ResultVar) (T:TE) (H:RH) (k:List Value->Prop),(cRes P B l).f T H k->resAll P (tv T) (H.ah B) l k
 | [],T,H,k,h=>h
 | .tmp t :: l,T,H,k,h=>by
  have ih:=cRes_ok l T H
  unfold cRes at h
  simp only at h
  cases ha:cVal (.tmp t) with
  | mk a =>
   cases hr:cRes P B l with
   | mk r =>
    rw [ha,hr] at h
    rw [hr] at ih
    have h:r T H fun vs=>k (a T :: vs):=h
    rw [cVal_mk ha] at h
    exact ih _ h
 | .cell x t :: l,T,H,k,h=>by
  have ih:=cRes_ok l T H
  unfold cRes at h
  simp only at h
  split at h
  ·rename_i n h0 h1
   cases ha:cVal (.tmp x) with
   | mk a =>
    cases hr:cRes P B l with
    | mk r =>
     rw [ha,hr] at h
     rw [hr] at ih
     have h:opt (loadNR B n (a T) H) fun v=>r T H fun vs=>k (v :: vs):=h
     rw [cVal_mk ha] at h
     obtain ⟨v,hv,h⟩:=opt_inv h
     have e:resV P (tv T) (H.ah B) (.cell x t)=some v:=by
      unfold resV
      simp only
      rw [h0,h1]
      exact loadNR_eq hv
     show opt _ _
     rw [e]
     exact ih _ h
  ·rename_i n h0 h1
   cases ha:cVal (.tmp x) with
   | mk a =>
    cases hr:cRes P B l with
    | mk r =>
     rw [ha,hr] at h
     rw [hr] at ih
     have h:opt (load1R B (a T) H) fun v=>r T H fun vs=>k (v :: vs):=h
     rw [cVal_mk ha] at h
     obtain ⟨v,hv,h⟩:=opt_inv h
     have e:resV P (tv T) (H.ah B) (.cell x t)=some v:=by
      unfold resV
      simp only
      rw [h0,h1]
      exact load1R_eq hv
     show opt _ _
     rw [e]
     exact ih _ h
  ·exact h.elim
def regO:Code->Nat->Option (List Oper)
 | .region id ops _,n=>match Nat.beq id n with | true=>some ops.toList | false=>none
 | .seq a b,n=>match regO a n with | some l=>some l | none=>regO b n
 | .cond _ a b,n=>match regO a n with | some l=>some l | none=>regO b n
 | .block _ c,n=>regO c n
 | .loop c,n=>regO c n
 | .scope c,n=>regO c n
 | _,_=>none
def pickI (P:Program) (l:List (Nat×Nat)) (done muts:Nat) (want:Bool):Nat->List Oper->Option (Nat×Nat)
 | _,[]=>none
 | i,o :: r=>match !done.testBit i&&(depsOf o).all (done.testBit ·)&&(isM P o == want) with
  | true=>match Nat.beq (muts&&&(depsOf o).foldl (fun s e=>s|||2 ^ e|||maskOf l e) 0) muts with
   | true=>some (i,(depsOf o).foldl (fun s e=>s|||2 ^ e|||maskOf l e) 0)
   | false=>pickI P l done muts want (i+1) r
  | false=>pickI P l done muts want (i+1) r
def schedG (P:Program) (ops:List Oper):Nat->List (Nat×Nat)->Nat->Nat->List (Nat×Nat)
 | 0,l,_,_=>l
 | n+1,l,done,muts=>match pickI P l done muts false 0 ops with
  | some (i,M)=>schedG P ops n (l++[(i,M)]) (done|||2 ^ i) muts
  | none=>match pickI P l done muts true 0 ops with
   | some (i,M)=>schedG P ops n (l++[(i,M)]) (done|||2 ^ i) (muts|||2 ^ i)
   | none=>l
def keepR (P:Program) (fn:Func):Keep :=
 { keep:=fun _=>keep0,order:=fun id=>match regO (bodyOf fn) id with | some ops=>schedG P ops ops.length [] 0 0 | none=>[] }
theorem keepR_keep (P:Program) (fn:Func) (n:Nat):(keepR P fn).keep n=keep0:=Eq.refl keep0
def kpsR (P:Program) (f:FuncId):Keep:=match P.funcs[f]? with | some fn=>keepR P fn | none=>{ keep:=fun _=>[],order:=fun _=>[] }
def argT:Nat->List Value->TE->TE
 | _,[],T=>T
 | n,v :: l,T=>argT (Nat.succ n) l (teSet T n v)
theorem argT_tv:∀ (l:List Value) (n:Nat) (T:TE) (j:Nat),n+l.length<=256->tv (argT n l T) j=if n<=j/\j<n+l.length then l.getD (j - n) undef else tv T j
 | [],n,T,j,_=>by
  show tv T j=_
  rw [if_neg (by simp only [List.length_nil]; omega)]
 | v :: l,n,T,j,h=>by
  show tv (argT (n+1) l (teSet T n v)) j=_
  simp only [List.length_cons] at h ⊢
  rw [argT_tv l (n+1) _ j (by omega),teSet_tv T v (by omega)]
  show (if n+1<=j/\j<n+1+l.length then l.getD (j - (n+1)) undef else if j=n then v else tv T j)=_
  by_cases e:j=n
  ·subst e
   rw [if_neg (by omega),if_pos rfl,if_pos (by omega)]
   simp
  ·rw [if_neg e]
   by_cases g:n<=j/\j<n+(l.length+1)
   ·rw [if_pos g,if_pos (by omega)]
    obtain ⟨m,hm⟩:∃ m,j - n=m+1:=⟨j - n - 1,by omega⟩
    rw [hm,show j - (n+1)=m by omega]
    rfl
   ·rw [if_neg g,if_neg (by omega)]
theorem tv_te0 (n:Nat):tv te0 n=undef:=by
 rw [tv_eq]
 by_cases hn:n<256
 ·rw [if_pos hn]
  have h3:n / 16<16:=by omega
  have h4:n % 16<16:=by omega
  have e:te0.get (n / 16)=teU:=by
   generalize n / 16=i at h3
   rcases N16.sixteen h3 with rfl | rfl | rfl | rfl | rfl | rfl | rfl | rfl | rfl | rfl | rfl | rfl | rfl | rfl | rfl | rfl <;> rfl
  rw [e]
  generalize n % 16=i at h4
  rcases N16.sixteen h4 with rfl | rfl | rfl | rfl | rfl | rfl | rfl | rfl | rfl | rfl | rfl | rfl | rfl | rfl | rfl | rfl <;> rfl
 ·rw [if_neg hn]
theorem argT_env {args:List Value} (h:args.length<256):tv (argT 0 args te0)=argEnv args:=by
 funext n
 rw [argT_tv args 0 _ n (by omega),tv_te0]
 show _=args.getD n undef
 by_cases g:n<args.length
 ·rw [if_pos (by omega)]; rfl
 ·rw [if_neg (by omega),List.getD_eq_getElem?_getD,List.getElem?_eq_none (by omega)]; rfl
inductive RFn where
 | mk (c:RC) (r:TE->RH->(List Value->Prop)->Prop)
def endK (r:TE->RH->(List Value->Prop)->Prop) (k:Value->RH->Prop):KC:=fun e T H=>match e with
 | .normal=>r T H fun vs=>k (one vs) H
 | .ret=>r T H fun vs=>k (one vs) H
 | _=>False
variable (P B)
def cFn (md:Md) (fn:Func):Option RFn :=
 match fn.body with
 | some c=>match cRes P B fn.results.toList with
  | ⟨r⟩=>some (.mk (compC P B md (keepR P fn).order c) r)
 | none=>none
def goodFn (P:Program) (fn:Func):Bool :=
 match codeOk P fn.ntmps (bodyOf fn), fn.name == "runtime.NumGoroutine" with
 | true,false=>drawsOk P (keepR P fn).order (bodyOf fn)
 | _,_=>false
theorem goodFn_inv {P : Program} {fn : Func} (h : goodFn P fn = true) : codeOk P fn.ntmps (bodyOf fn) = true /\ (fn.name == "runtime.NumGoroutine") = false /\ drawsOk P (keepR P fn).order (bodyOf fn) = true := by
 unfold goodFn at h
 split at h
 ·rename_i h1 h2; exact ⟨h1,h2,h⟩
 ·cases h
structure Lib where
 fn:FuncId->Option Func
 md:FuncId->Md
 ext:FuncId->CallK->List Value->RH->(Value->RH->Prop)->Prop
def goF (callk:CallK) (o:Option RFn) (args:List Value) (H:RH) (k:Value->RH->Prop):Prop :=
 match o with
 | some (.mk c r)=>bs (Nat.blt args.length 256) (runCZ callk c (argT 0 args te0) H (endK r k)) False
 | none=>False
def callF (callk:CallK) (L:Lib) (f:FuncId) (args:List Value) (H:RH) (k:Value->RH->Prop):Prop :=
 match L.fn f with
 | some fn=>goF callk (cFn P B (L.md f) fn) args H k
 | none=>L.ext f callk args H k
def runF (L:Lib) (d:Nat):CallK :=
 @Nat.rec (fun _=>CallK) (fun _ _ _ _=>False) (fun _ ih f args H k=>callF P B ih L f args H k) d
variable {P B}
theorem runF_ok {L:Lib} {ext:CallT} (hfn:∀ f fn,L.fn f=some fn->P.funcs[rid f]? = some fn/\goodFn P fn=true)
  (hext:∀ f callk,CallS B callk (CallW P (kpsR P) ext)->∀ args H (k:Value->RH->Prop) (K:Value->AH->Prop),L.fn f=none->(∀ v H',k v H'->K v (H'.ah B))->L.ext f callk args H k->CallW P (kpsR P) ext (rid f) args (H.ah B) K) :
  ∀ d,CallS B (runF P B L d) (CallW P (kpsR P) ext)
 | 0,_,_,_,_,_,_,h=>h.elim
 | d+1,f,args,H,k,K,hk,h=>by
  have ih:=runF_ok hfn hext d
  have h:callF P B (runF P B L d) L f args H k:=h
  unfold callF at h
  split at h
  ·rename_i fn hf
   obtain ⟨hp,hgood⟩:=hfn f fn hf
   obtain ⟨hok,hname,hdr⟩:=goodFn_inv hgood
   unfold goF at h
   split at h
   ·rename_i c r hc
    rw [blt_eq,Trie.bs_decide] at h
    split at h
    ·rename_i hlen
     unfold cFn at hc
     split at hc
     ·rename_i code hb
      have hbo:bodyOf fn=code:=by unfold bodyOf; rw [hb]; rfl
      rw [hbo] at hdr
      cases hr:cRes P B fn.results.toList with
      | mk r' =>
       rw [hr] at hc
       simp only [Option.some.injEq,RFn.mk.injEq] at hc
       obtain ⟨rfl,rfl⟩:=hc
       refine CallW.fold ⟨hp,by rw [hb]; rfl,hname,hok⟩ ?_
       have hkp:kpsR P (rid f)=keepR P fn:=by unfold kpsR; rw [hp]
       rw [hkp]
       unfold evBody
       rw [hb]
       simp only
       rw [<- argT_env hlen]
       have hres:∀ T H',(r' T H' fun vs=>k (one vs) H')->results P fn.results.toList (tv T) (H'.ah B) K:=fun T H' h'=>by
        have:=cRes_ok fn.results.toList T H' (fun vs=>k (one vs) H') (by rw [hr]; exact h')
        exact resAll_mono (fun vs h=>hk _ _ h) this
       refine runC_ok ih (kp:=keepR P fn) (keepR_keep P fn) code hdr _ H _ _ (fun e T' H' h' =>?_) h
       cases e with
       | normal=>exact hres T' H' h'
       | ret=>exact hres T' H' h'
       | exit id=>exact h'.elim
       | goto l=>exact h'.elim
     ·simp at hc
    ·exact h.elim
   ·exact h.elim
  ·rename_i hf
   exact hext f _ ih args H k K hf hk h
end
end
end Go.AM
end
section
namespace Go.AM
open Go.RowKit (Below)
section
variable {P:Program}
def heap0 (g:Nat):AH:={ next:=g,raw:=fun _ => .dead }
theorem heap0_get (g b:Nat):(heap0 g).get b = .dead:=by unfold AH.get heap0; split <;> rfl
theorem heap0_R {w:World} (g:Nat) (h1:P.globals.size<=g) (h2:g<=w.heap.size):R P ⟨g,fun _=>none⟩ w (heap0 g) w where
 size:=h2
 glob:=h1
 nxt:=Nat.le_refl _
 below:=Below.refl _ _
 ro b _:=by rw [heap0_get]; trivial
 own b l h:=by simp at h
 inj b b' l l' h:=by simp at h
theorem R.over {ρ:Inj} {w0 w w':World} {H:AH} (r:R P ρ w0 H w) (b:Below w.heap.size w w'):R P ρ w0 H w' where
 size:=r.size
 glob:=r.glob
 nxt:=r.nxt
 below:=r.below.trans (b.mono r.below.size)
 ro:=r.ro
 own x l hl:=by
  obtain ⟨h1,h2,h3,h4,h5⟩:=r.own x l hl
  exact ⟨h1,h2,h3,Nat.lt_of_lt_of_le h4 b.size,by rw [b.block _ h4]; exact h5⟩
 inj:=r.inj
theorem flat_rel {ρ:Inj} {v:Value} (h:flat v=true):VRel ρ v v:=by
 cases v <;> first | exact .bool _ | exact .int _ _ | exact .string _ | simp [flat] at h
theorem flats_eq {ρ:Inj}:∀ {l:List Value} {l':List Value},l.all flat=true->LRel ρ l l'->l'=l
 | [],l',_,h=>h.cases_nil
 | x :: l,l',hf,h=>by
  simp only [List.all_cons,Bool.and_eq_true] at hf
  obtain ⟨y,k,rfl,hxy,hk⟩:=h.cases_cons
  rw [hxy.flat hf.1,flats_eq hf.2 hk]
theorem flats_rel {ρ:Inj}:∀ {l:List Value},l.all flat=true->LRel ρ l l
 | [],_=>LRel.nil
 | x :: l,hf=>by
  simp only [List.all_cons,Bool.and_eq_true] at hf
  exact LRel.cons (flat_rel hf.1) (flats_rel hf.2)
theorem shut_told {f:FuncId} {args:List Value} {v0:Value} (hargs:args.all flat=true) (hv0:flat v0=true) (h:Told P f args (heap0 P.globals.size) fun v _=>v=v0) {H:AH} {K:Value->AH->Prop} (hk:K v0 H):Told P f args H K:=by
 have key:∀ ρ w0 w (args':Array Value),R P ρ w0 H w->LRel ρ args args'.toList->R P ⟨P.globals.size,fun _=>none⟩ w (heap0 P.globals.size) w/\LRel ⟨P.globals.size,fun _=>none⟩ args args'.toList:=fun ρ w0 w args' hR ha=>by
  refine ⟨heap0_R _ (Nat.le_refl _) ?_,?_⟩
  ·have h1:=hR.glob; have h2:=hR.size; have h3:=hR.below.size; omega
  ·rw [flats_eq hargs ha]; exact flats_rel hargs
 have fin:∀ ρ w0 w v' w',R P ρ w0 H w->Post P ⟨P.globals.size,fun _=>none⟩ w (heap0 P.globals.size).next (fun v _=>v=v0) v' w'->Post P ρ w0 H.next K v' w':=by
  rintro ρ w0 w v' w' hR ⟨ρ',v,H',_,_,_,hR',hv,rfl⟩
  rw [hv.flat hv0]
  exact ⟨ρ,v,H,ρ.le_refl,fun _ _=>rfl,Nat.le_refl _,hR.over hR'.below,flat_rel hv0,hk⟩
 rcases h with ⟨he,h⟩ | h
 ·refine .inl ⟨he,fun ρ w0 w args' hR ha =>?_⟩
  obtain ⟨k1,k2⟩:=key ρ w0 w args' hR ha
  exact (h _ _ _ _ k1 k2).mono fun e w' ⟨v',he,hp⟩=>⟨v',he,fin ρ w0 w v' w' hR hp⟩
 ·refine .inr fun ρ w0 w args' hR ha =>?_
  obtain ⟨k1,k2⟩:=key ρ w0 w args' hR ha
  obtain ⟨v',w',h1,hp⟩:=h _ _ _ _ k1 k2
  exact ⟨v',w',h1,fin ρ w0 w v' w' hR hp⟩
noncomputable def base0 (P:Program):Base:={ g:=P.globals.size,obj:=fun _ => .dead }
def runD (d:DT):RH:={ next:=0,tr := .leaf,dec:=d }
def run0:RH:=runD .done
theorem runD_ah {d:DT}:(runD d).ah (base0 P)=heap0 P.globals.size:=by
 show AH.mk _ _=AH.mk _ _
 congr 1
 funext b
 show rget (base0 P) (runD d) b=_
 rw [rget_eq]
 split
 ·rfl
 ·rw [if_neg (by show ¬ _<0; omega)]
def isV (v0:Value):Value->RH->Prop:=fun v _=>match v0,v with
 | .bool true,.bool true=>True
 | .bool false,.bool false=>True
 | _,_=>False
theorem isV_eq {v0 v:Value} {H:RH} (h:isV v0 v H):v=v0:=by
 unfold isV at h
 split at h <;> first | rfl | exact h.elim
theorem run_told (hmix:P.follows .mixedOrders=true) {L:Lib} {ext:CallT} (hfn:∀ f fn,L.fn f=some fn->P.funcs[rid f]? = some fn/\goodFn P fn=true)
  (hext:∀ f callk,CallS (base0 P) callk (CallW P (kpsR P) ext)->∀ args H (k:Value->RH->Prop) (K:Value->AH->Prop),L.fn f=none->(∀ v H',k v H'->K v (H'.ah (base0 P)))->L.ext f callk args H k->CallW P (kpsR P) ext (rid f) args (H.ah (base0 P)) K)
  (hok:CallOk P ext) {dt:DT} {d:Nat} {f:FuncId} {args:List Value} {v0:Value} (hargs:args.all flat=true) (hv0:flat v0=true) (hf:rid f=f) (h:runF P (base0 P) L d f args (runD dt) (isV v0)) {H:AH} {K:Value->AH->Prop} (hk:K v0 H):Told P f args H K:=by
 have:=runF_ok hfn hext d f args (runD dt) (isV v0) (fun v _=>v=v0) (fun v H' h=>isV_eq h) h
 rw [hf] at this
 rw [runD_ah] at this
 exact shut_told hargs hv0 (callW_told hmix hok this) hk
end
end Go.AM
end
section
namespace Go.AM
noncomputable section
structure ExtIds where
 add:Nat
 load:Nat
 count:Nat
 index:Nat
 shut:Option Nat
def addRZ (B:Base) (args:List Value) (H:RH) (k:Value->RH->Prop):Prop :=
 match args with
 | [x,y]=>match ptrO x,y with
  | some (b,o),.int .i64 d=>match rget B H b with
   | .cells c fx=>match nthL c o with
    | some (.int .i64 n)=>match setL (.int .i64 (IntKind.i64.wrap (n+d))) c o with
     | some m=>putK B H b (.cells m fx) fun H'=>k (.int .i64 (IntKind.i64.wrap (n+d))) H'
     | none=>False
    | _=>False
   | _=>False
  | _,_=>False
 | _=>False
theorem addR_ok {B:Base} {args:List Value} {H:RH} {k:Value->RH->Prop} {K:Value->AH->Prop} (hk:∀ v H',k v H'->K v (H'.ah B)) (h:addRZ B args H k):∃ x y,args=[x,y]/\atomicAdd x y (H.ah B) K:=by
 unfold addRZ at h
 split at h
 ·rename_i x y
  refine ⟨x,y,rfl,?_⟩
  split at h
  ·rename_i b o d hp
   split at h
   ·rename_i c fx hg
    split at h
    ·rename_i n hn
     split at h
     ·rename_i m hm
      obtain ⟨h1,h2⟩:=setL_some hm
      obtain ⟨H',g1,g2,_⟩:=putK_inv h
      rw [nthL_eq] at hn
      rw [ptrO_some hp]
      unfold atomicAdd
      simp only
      rw [ah_get,hg]
      simp only
      rw [hn]
      simp only
      have:=hk _ _ g1
      rw [g2,h2] at this
      exact this
     ·exact h.elim
    ·exact h.elim
   ·exact h.elim
  ·exact h.elim
 ·exact h.elim
def loadR (B:Base) (args:List Value) (H:RH) (k:Value->RH->Prop):Prop :=
 match args with
 | [x]=>match ptrO x with
  | some (b,o)=>match rget B H b with
   | .cells c _=>match nthL c o with
    | some (.int .i64 n)=>k (.int .i64 n) H
    | _=>False
   | _=>False
  | none=>False
 | _=>False
theorem loadR_ok {B:Base} {args:List Value} {H:RH} {k:Value->RH->Prop} {K:Value->AH->Prop} (hk:∀ v H',k v H'->K v (H'.ah B)) (h:loadR B args H k):∃ x,args=[x]/\atomicLoad x (H.ah B) K:=by
 unfold loadR at h
 split at h
 ·rename_i x
  refine ⟨x,rfl,?_⟩
  split at h
  ·rename_i b o hp
   split at h
   ·rename_i c fx hg
    split at h
    ·rename_i n hn
     rw [nthL_eq] at hn
     rw [ptrO_some hp]
     unfold atomicLoad
     simp only
     rw [ah_get,hg]
     show (match c[o]? with | some (.int .i64 n)=>K (.int .i64 n) (H.ah B) | _=>False)
     rw [hn]
     exact hk _ _ h
    ·exact h.elim
   ·exact h.elim
  ·exact h.elim
 ·exact h.elim
def twoR (f:Value->Value->Option Value) (args:List Value) (H:RH) (k:Value->RH->Prop):Prop :=
 match args with
 | [x,y]=>opt (f x y) fun v=>k v H
 | _=>False
def countV (x y:Value):Option Value:=match x,y with
 | .string s,.int .u8 n=>some (.int .i64 (Lib.countByte s.data.toList n.toNat.toUInt8:Nat))
 | _,_=>none
def indexV (x y:Value):Option Value:=match x,y with
 | .string s,.int .u8 n=>some (.int .i64 (Lib.indexByte s.data.toList n.toNat.toUInt8))
 | _,_=>none
theorem countR_ok {B:Base} {args:List Value} {H:RH} {k:Value->RH->Prop} {K:Value->AH->Prop} (hk:∀ v H',k v H'->K v (H'.ah B)) (h:twoR countV args H k):∃ x y,args=[x,y]/\byteCount x y (H.ah B) K:=by
 unfold twoR at h
 split at h
 ·rename_i x y
  refine ⟨x,y,rfl,?_⟩
  obtain ⟨v,hv,h⟩:=opt_inv h
  unfold countV at hv
  split at hv
  ·simp only [Option.some.injEq] at hv; subst hv; exact hk _ _ h
  ·simp at hv
 ·exact h.elim
theorem indexR_ok {B:Base} {args:List Value} {H:RH} {k:Value->RH->Prop} {K:Value->AH->Prop} (hk:∀ v H',k v H'->K v (H'.ah B)) (h:twoR indexV args H k):∃ x y,args=[x,y]/\byteIndex x y (H.ah B) K:=by
 unfold twoR at h
 split at h
 ·rename_i x y
  refine ⟨x,y,rfl,?_⟩
  obtain ⟨v,hv,h⟩:=opt_inv h
  unfold indexV at hv
  split at hv
  ·simp only [Option.some.injEq] at hv; subst hv; exact hk _ _ h
  ·simp at hv
 ·exact h.elim
def extX (i:ExtIds):CallT:=fun f args H Q =>
 (f=i.add/\∃ x y,args=[x,y]/\atomicAdd x y H Q)\/(f=i.load/\∃ x,args=[x]/\atomicLoad x H Q)\/(f=i.count/\∃ x y,args=[x,y]/\byteCount x y H Q)\/(f=i.index/\∃ x y,args=[x,y]/\byteIndex x y H Q)\/(i.shut=some f/\args=[]/\Q (.bool true) H)
def shutR (s:Option Nat) (f:Nat) (args:List Value) (H:RH) (k:Value->RH->Prop):Prop :=
 match s,args with
 | some n,[]=>bs (Nat.beq n f) (k (.bool true) H) False
 | _,_=>False
def extR (B:Base) (i:ExtIds):FuncId->CallK->List Value->RH->(Value->RH->Prop)->Prop:=fun f _ args H k =>
 bs (Nat.beq (rid f) i.add) (addRZ B args H k) (bs (Nat.beq (rid f) i.load) (loadR B args H k) (bs (Nat.beq (rid f) i.count) (twoR countV args H k) (bs (Nat.beq (rid f) i.index) (twoR indexV args H k) (shutR i.shut (rid f) args H k))))
def tb (m f:Nat):Bool:=Nat.beq (Nat.mod (Nat.shiftRight m f) 2) 1
def libX (P:Program) (B:Base) (i:ExtIds) (m:Nat) (st:Nat->Nat->Nat->Option Ast):Lib:={ fn:=fun f=>bs (tb m (rid f)) P.funcs[rid f]? none,md:=fun f=>{ off:=Nat.sub f (rid f),st:=st f },ext:=extR B i }
def stF:List (Nat×Nat×Ast)->Nat->Nat->Option Ast
 | [],_,_=>none
 | (r,i,a) :: l,x,y=>bs (Nat.beq r x) (bs (Nat.beq i y) (some a) (stF l x y)) (stF l x y)
def stL:List (Nat×List (Nat×Nat×Ast))->Nat->Nat->Nat->Option Ast
 | [],_=>fun _ _=>none
 | (f,l) :: r,g=>bs (Nat.beq f g) (stF l) (stL r g)
def noSt:Nat->Nat->Nat->Option Ast:=fun _ _ _=>none
def goodN (P:Program) (f:Nat):Bool:=match P.funcs[f]? with
 | some fn=>goodFn P fn
 | none=>true
def goodR (P:Program) (m:Nat):Nat->Nat->Bool
 | _,0=>true
 | a,n+1=>match bs (tb m a) (goodN P a) true with
  | true=>goodR P m (Nat.succ a) n
  | false=>false
theorem goodR_at {P:Program} {m:Nat}:∀ {a n:Nat},goodR P m a n=true->∀ f,a<=f->f<a+n->tb m f=true->goodN P f=true
 | a,0,_,f,h1,h2,_=>by omega
 | a,n+1,h,f,h1,h2,h3=>by
  unfold goodR at h
  split at h
  ·rename_i h0
   by_cases e:f=a
   ·subst e; rw [h3] at h0; exact h0
   ·exact goodR_at h f (by show a+1<=f; omega) (by show f<a+1+n; omega) h3
  ·cases h
theorem libX_fn {P:Program} {B:Base} {i:ExtIds} {m:Nat} (hg:∀ f,tb m f=true->goodN P f=true) {st:Nat->Nat->Nat->Option Ast} {f:FuncId} {fn:Func} (h:(libX P B i m st).fn f=some fn):P.funcs[rid f]? = some fn/\goodFn P fn=true:=by
 have h:bs (tb m (rid f)) P.funcs[rid f]? none=some fn:=h
 cases ht:tb m (rid f) with
 | false=>rw [ht] at h; cases h
 | true =>
  rw [ht] at h
  have h:P.funcs[rid f]? = some fn:=h
  have:=hg (rid f) ht
  unfold goodN at this
  rw [h] at this
  exact ⟨h,this⟩
theorem libX_ext {P:Program} {B:Base} {i:ExtIds} {m:Nat} {st:Nat->Nat->Nat->Option Ast} {ext:CallT} (he:∀ f args H K,extX i f args H K->ext f args H K) (f:FuncId) (callk:CallK) (args:List Value) (H:RH) (k:Value->RH->Prop) (K:Value->AH->Prop)
  (hk:∀ v H',k v H'->K v (H'.ah B)) (h:(libX P B i m st).ext f callk args H k):CallW P (kpsR P) ext (rid f) args (H.ah B) K:=by
 refine CallW.ext (he _ _ _ _ ?_)
 have h:bs (Nat.beq (rid f) i.add) (addRZ B args H k) (bs (Nat.beq (rid f) i.load) (loadR B args H k) (bs (Nat.beq (rid f) i.count) (twoR countV args H k) (bs (Nat.beq (rid f) i.index) (twoR indexV args H k) (shutR i.shut (rid f) args H k)))):=h
 rw [nbeq,nbeq,nbeq,nbeq,Trie.bs_decide,Trie.bs_decide,Trie.bs_decide,Trie.bs_decide] at h
 split at h
 ·rename_i e; exact .inl ⟨e,addR_ok hk h⟩
 split at h
 ·rename_i e; exact .inr (.inl ⟨e,loadR_ok hk h⟩)
 split at h
 ·rename_i e; exact .inr (.inr (.inl ⟨e,countR_ok hk h⟩))
 split at h
 ·rename_i e; exact .inr (.inr (.inr (.inl ⟨e,indexR_ok hk h⟩)))
 ·cases hs:i.shut with
  | none=>rw [hs] at h; exact h.elim
  | some n =>
   rw [hs] at h
   cases args with
   | cons a l=>exact h.elim
   | nil =>
    have h2:bs (Nat.beq n (rid f)) (k (.bool true) H) False:=h
    clear h
    rw [nbeq,Trie.bs_decide] at h2
    by_cases e:n=rid f
    ·rw [if_pos e] at h2
     subst e
     exact .inr (.inr (.inr (.inr ⟨hs,rfl,hk _ _ h2⟩)))
    ·rw [if_neg e] at h2; exact h2.elim
end
end Go.AM
end
