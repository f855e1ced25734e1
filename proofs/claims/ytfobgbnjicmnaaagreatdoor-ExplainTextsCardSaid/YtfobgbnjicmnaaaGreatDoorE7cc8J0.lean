/- strings.Join, BY THE KIT. -/
import Derived.Test.YtfobgbnjicmnaaaGreatDoorE7cc8A2
import Derived.Shelf.Strings.OnBuilder
set_option linter.all false
section
namespace Go.AM
open Go.Proofs Go.Shelf
open Go.RowKit (Below)
theorem R.more {P:Program} {ρ:Inj} {w0 w w':World} {H:AH} (r:R P ρ w0 H w) (b:Below w.heap.size w w'):R P ρ w0 H w' where
 size:=r.size
 glob:=r.glob
 nxt:=r.nxt
 below:=r.below.trans (b.mono r.below.size)
 ro:=r.ro
 own x l hl:=by
  obtain ⟨h1,h2,h3,h4,h5⟩:=r.own x l hl
  exact ⟨h1,h2,h3,Nat.lt_of_lt_of_le h4 b.size,by rw [b.block _ h4]; exact h5⟩
 inj:=r.inj
theorem strJoin_told {P:Program} {ρ':Ren} (L:Lays.n156 P ρ') (X:Builder.Extra P ρ') {args:List Value} {H:AH} {K:Value->AH->Prop} (h:∃ x y,args=[x,y]/\strJoin x y H K):Told P (ρ'.f 156) args H K:=by
 refine .inl ⟨⟨_,L.f156,by kernel_rfl,by kernel_rfl⟩,fun ρ w0 w args' hR ha =>?_⟩
 obtain ⟨x,y,rfl,h⟩:=h
 obtain ⟨x',y',rfl,hx',hy'⟩:∃ x' y',args' = #[x',y']/\VRel ρ x x'/\VRel ρ y y':=by
  have hl:=ha.1
  obtain ⟨l⟩:=args'
  match l,hl with
  | [a,b],_=>exact ⟨a,b,rfl,ha.2 0 _ _ rfl rfl,ha.2 1 _ _ rfl rfl⟩
 unfold strJoin at h
 split at h
 ·rename_i a n c sep
  obtain ⟨xs,h1,h2,h3,h4,h5,hk⟩:=h
  obtain rfl:=hy'.flat rfl
  have none_:∀ a' c',xs=[]->Calls P (ρ'.f 156) #[.slice a' 0 c',.string sep] w (fun e w'=>∃ v',e = .returned v'/\Post P ρ w0 H.next K v' w'):=by
   rintro a' c' rfl
   refine (Any.strings_Join_none L X a' c' sep w).mono ?_
   rintro e w' ⟨rfl,rfl⟩
   exact ⟨_,rfl,post_same (Nat.le_refl _) hR (.string _) hk⟩
  cases hx' with
  | snil n c =>
   rcases h5 with rfl | ⟨b,o,hb,_⟩
   ·exact none_ _ _ (List.length_eq_zero_iff.1 h1)
   ·simp at hb
  | slc a a' n c c' r =>
   by_cases hn:n=0
   ·subst hn
    exact none_ _ _ (List.length_eq_zero_iff.1 h1)
   ·obtain ⟨b,o,hb,hc⟩:=h5.resolve_left hn
    simp only [Option.some.injEq] at hb
    subst hb
    rcases r with ⟨r,rc⟩ | ⟨h0,_⟩ | ⟨h0,_⟩
    ·have hcell:∀ (j:Nat) (s:List UInt8),xs[j]? = some s->w.cell? (a'.add j)=some (.string ⟨s.toArray⟩):=by
      intro j s hs
      obtain ⟨y0,hy0,hr0⟩:=hR.cell r (i:=j) (x := .string ⟨s.toArray⟩) rfl (hc j s hs)
      obtain rfl:=hr0.flat rfl
      exact hy0
     have hsp:a'.spot=none:=by
      rcases r with ⟨_,rfl⟩ | ⟨_,_,l,_,rfl⟩ <;> rfl
     obtain ⟨bk,o',sp⟩:=a'
     simp only at hsp
     subst hsp
     have hadd:∀ j:Nat,(Addr.mk bk o' none).add j=⟨bk,o'+j,none⟩:=by
      intro j
      unfold Addr.add
      split
      ·simp_all
      ·rfl
     have hcap:n<=c':=by
      rcases rc with rfl | ⟨l,e,_,_,_,h,_⟩
      ·exact h2
      ·omega
     have h0:0<xs.length:=by omega
     have hlt:=World.block_lt_of_cell? w _ (hcell 0 _ (List.getElem?_eq_getElem h0))
     rw [hadd] at hlt
     have hmm:(xs.map fun s=>(⟨s.toArray⟩:ByteArray)).map (·.data.toList)=xs:=by
      rw [List.map_map]
      have:((fun x:ByteArray=>x.data.toList) ∘ fun s:List UInt8=>(⟨s.toArray⟩:ByteArray))=id:=by funext s; simp
      rw [this,List.map_id]
     have:=Any.strings_Join L X bk o' c' (xs.map fun s=>(⟨s.toArray⟩:ByteArray)) sep w ?_ hlt (by simpa [h1] using h3) (by simpa [h1] using hcap) (by rw [hmm]; exact h4)
     ·simp only [List.length_map,h1,hmm] at this
      refine this.mono ?_
      rintro e w' ⟨rfl,hb⟩
      refine ⟨_,rfl,post_same (Nat.le_refl _) (hR.more hb) (.string _) hk⟩
     ·intro j x hx
      rw [List.getElem?_map] at hx
      cases hs:xs[j]? with
      | none=>rw [hs] at hx; simp at hx
      | some s =>
       rw [hs] at hx
       simp at hx
       subst hx
       have:=hcell j s hs
       rwa [hadd] at this
    ·exact absurd h0 hn
    ·exact absurd h0 hn
 ·exact h.elim
end Go.AM
end
