/-
  Parts EngK EngL R1 Lib, put together and made short by wip/py/merge.py (mini.py).
-/
import Derived.Test.YtmjpjbmeamnfpaaGreatDoorZe3
import Derived.Scope
import Derived.Laws.Runes
import Derived.Lib.ConvBytes
import Derived.Lib.SmallJoins
import Derived.Laws.BitsLemmas
import Derived.Test.YtmjpjbmeamnfpaaGreatDoorProg
import Derived.Test.YtmjpjbmeamnfpaaGreatDoorZe0
import Derived.Shelf.Strings.SlTrimAscii
import Derived.WalkSmall
set_option linter.unusedVariables false
set_option linter.unusedSimpArgs false
namespace Go.Eng
open Go.RowKit
structure XF where
 f:Value->Mem->List HO->Prop
 mono: ∀ {v M M' X},M.le M'->f v M X->f v M' X
def XF.eq (g:Value->List HO):XF:=⟨λ v _ X=>X=g v,λ _ h=>h⟩
def XP(st:List (Nat×XF))(X0:List HO)(j:Nat)(LL:Env)(M:Mem)(X:List HO):Prop:=
 match j with
 |0=>X=X0
 |j+1=>match st[j]? with
  |some (t,f)=> ∃v,look LL t=some (true,v)/\f.f v M X
  |none=>True
theorem XP.mono {st:List (Nat×XF)}{X0:List HO}{j:Nat}{LL LL':Env}{M:Mem}{X:List HO}(h:XP st X0 j LL M X)(hs:Sub LL LL'):XP st X0 j LL' M X:=by
 unfold XP at*
 cases j with
 |zero=>exact h
 |succ j=>
  dsimp only at*
  cases hj:st[j]? with
  |none=>trivial
  |some y=>
   obtain⟨t,f⟩:=y
   rw[hj]at h
   obtain⟨v,hl,hx⟩:=h
   exact⟨v,hs _ _ hl,hx⟩
def bW(l:List Oper)(fl:List (Option Nat)):Bool:=
 (List.range l.length).all (λ k=>match(fl[k]?).getD none with
  |some (i+1)=>(match l[k]? with|some o=>(BM o).any (λ k'=>(fl[k']?).getD none==some i)|none=>true)
  |_=>true)&&
 (List.range l.length).all (λ k=>(List.range l.length).all (λ k'=>Nat.beq k k'||(match(fl[k]?).getD none,(fl[k']?).getD none with|some a,some b=> !(Nat.beq a b)|_,_=>true)))
section g
variable (P:Program) (Q:Exit->Act->World->Prop) (N:Nat) (w0:World) (M0 M:Mem) (HsQ:List HO) (Fs:List Fact) (l:List Oper) (L:Env) (st:List (Nat×XF)) (X0:List HO)
def o9(k:Nat)(o:Oper):Prop:=
 ∀LL w1 M1 X,M.le M1->St w0 M0 w1 M1 (HsQ++X)->Sub L LL->(∀j∈BM o,L7 Fs l LL M1 j)->
  RL P l.toArray (Qn (λ a' w'=> ∃LL' M2,M1.le M2/\St w0 M0 w' M2 (HsQ++X)/\AF a' N LL'/\JN Fs k o LL LL' M2) Q) N [o] LL w1
def oA(j k:Nat)(o:Oper):Prop:=
 ∀LL w1 M1 X,M.le M1->St w0 M0 w1 M1 (HsQ++X)->Sub L LL->(∀j∈BM o,L7 Fs l LL M1 j)->XP st X0 j LL M1 X->
  RL P l.toArray (Qn (λ a' w'=> ∃LL' M2 X',M1.le M2/\St w0 M0 w' M2 (HsQ++X')/\AF a' N LL'/\JN Fs k o LL LL' M2/\XP st X0 (j+1) LL' M2 X') Q) N [o] LL w1
def oB(fl:List (Option Nat))(n:Nat)(o:Oper):Prop:=
 ∀LL w1 M1 X,M.le M1->St w0 M0 w1 M1 (HsQ++X)->Sub L LL->(∀j,j<n->L7 Fs l LL M1 j)->XP st X0 (fl.filter (·.isSome)).length LL M1 X->RL P l.toArray Q N [o] LL w1
def bX(fl:List (Option Nat))(n:Nat)(k:Nat)(o:Oper):Prop:=
 if k=n then oB P Q N w0 M0 M HsQ Fs l L st X0 fl n o else
 match(fl[k]?).getD none with
 |some j=>oA P Q N w0 M0 M HsQ Fs l L st X0 j k o
 |none=>o9 P Q N w0 M0 M HsQ Fs l L k o
end g
theorem oC{P:Program}{ops:Array Oper}{Q:Exit->Act->World->Prop}{a:Act}{w:World}{i:Nat}{o:Oper}(ho:ops[i]? =some o){K:Act->World->Prop}(h:wpList P ops Q [o] a w)(hk: ∀a w,Q .normal a w->K a w):wpOp P ops Q i K a w:=by
 unfold wpOp
 rw[ho]
 unfold wpList at h
 dsimp only
 split
 ·rename_i hw
  rw[if_pos hw]at h
  rcases h with h|⟨h1,h2⟩
  ·exact .inl (Oper.wp_mono (λ a w hh=>hk a w hh) h)
  ·exact .inr ⟨h1,h2⟩
 ·rename_i hw
  rw[if_neg hw]at h
  exact hk _ _ h
theorem oD{P:Program}{ops:Array Oper}{Q:Exit->Act->World->Prop}{listed:Array Bool}(hr:Region.ready .any ops listed=[]): ∀(fuel:Nat) (a:Act) (w:World),Q .normal a w->wpAny P .any ops Q fuel listed a w
 |0,_,_,h=>⟨hr,h⟩
 |_+1,_,_,h=>⟨λ _=>h,λ i hi=>by rw[hr]at hi;cases hi⟩
theorem CW.oE {P:Program}{Q:Exit->Act->World->Prop}{N:Nat}{L:Env}{w0 w:World}{M0 M:Mem}{HsQ:List HO}{id:Nat}{l:List Oper}(n:Nat)(Fs:List Fact)(st:List (Nat×XF))(X0:List HO)(fl:List (Option Nat))(hS:St w0 M0 w M (HsQ++X0))(hm:P.follows .mixedOrders=true)(ks:List Nat)(hks:PT L=ks)
  (hB:NW l ks=true) (hL:bW l fl=true) (hn:l.length=n+1) (hfn:fl.length=n) (hlast:(List.range n).all (λ i=>(List.range (n+1)).any (λ j=>Nat.blt i j&&(match l[j]? with|some o=>(BM o).contains i|none=>false)))=true) (hcnt:(List.range (n+1)).all (λ i=>decide (i<(fl.filter (·.isSome)).length)==fl.contains (some i))=true) (ts:List Nat) (hts:st.map (·.1)=ts) (htl:ts.all (λ t=>(List.range l.length).any (λ k=>(BX l k==some t)&&((fl[k]?).getD none).isSome))=true)
  (hop:IP (bX P Q N w0 M0 M HsQ Fs l L st X0 fl n) 0 l):CW P (.region id l.toArray true) Q N L w:=by
 intro a hs
 refine wp_region_any hm ?_
 subst hks
 unfold NW at hB
 simp only[Bool.and_eq_true]at hB
 obtain⟨⟨hac,hdd⟩,hbd⟩:=hB
 unfold bW at hL
 simp only[Bool.and_eq_true]at hL
 obtain⟨hL1,hL2⟩:=hL
 have dist: ∀i j a b,BX l i=some a->BX l j=some b->i≠j->a≠b:=by
  intro i j a b hi hj hij
  have h1:i<l.length:=by
   rcases Nat.lt_or_ge i l.length with h|h
   ·exact h
   ·simp[BX,h]at hi
  have h2:j<l.length:=by
   rcases Nat.lt_or_ge j l.length with h|h
   ·exact h
   ·simp[BX,h]at hj
  have:=List.all_eq_true.1 (List.all_eq_true.1 hdd i (List.mem_range.2 h1)) j (List.mem_range.2 h2)
  rw[hi,hj]at this
  simp only[Bool.or_eq_true,Bool.not_eq_true']at this
  rcases this with h|h
  ·exact absurd (Nat.eq_of_beq_eq_true h) hij
  ·intro e;subst e;simp at h
 have base: ∀i a x,BX l i=some a->look L a=some x->False:=by
  intro i a x hi hx
  have h1:i<l.length:=by
   rcases Nat.lt_or_ge i l.length with h|h
   ·exact h
   ·simp[BX,h]at hi
  have:=List.all_eq_true.1 hbd i (List.mem_range.2 h1)
  rw[hi]at this
  have key: ∀(L:Env),(PT L).all (λ t=> !(Nat.beq t a))=true->look L a=none:=by
   intro L
   induction L with
   |nil=>intro _;rfl
   |cons y L ih=>
    obtain⟨t,g,v⟩:=y
    intro h
    simp only[PT,List.map_cons,List.all_cons,Bool.and_eq_true,Bool.not_eq_true']at h
    have hne:t≠a:=by intro e;subst e;simp at h
    rw[HZ hne];exact ih h.2
  rw[key L this]at hx;cases hx
 have prev: ∀(k i:Nat) (o:Oper),l[k]? =some o->(fl[k]?).getD none=some (i+1)-> ∃k'∈BM o,(fl[k']?).getD none=some i:=by
  intro k i o ho hk
  have hlt:k<l.length:=(List.getElem?_eq_some_iff.1 ho).1
  have:=List.all_eq_true.1 hL1 k (List.mem_range.2 hlt)
  rw[hk]at this
  dsimp only at this
  rw[ho]at this
  dsimp only at this
  obtain⟨k',h1,h2⟩:=List.any_eq_true.1 this
  exact⟨k',h1,by simpa using h2⟩
 have inj: ∀(k k' i:Nat),(fl[k]?).getD none=some i->(fl[k']?).getD none=some i->k=k':=by
  intro k k' i h1 h2
  have hk:k<l.length:=by
   rcases Nat.lt_or_ge k fl.length with h|h
   ·omega
   ·simp[h]at h1
  have hk':k'<l.length:=by
   rcases Nat.lt_or_ge k' fl.length with h|h
   ·omega
   ·simp[h]at h2
  have:=List.all_eq_true.1 (List.all_eq_true.1 hL2 k (List.mem_range.2 hk)) k' (List.mem_range.2 hk')
  rw[h1,h2]at this
  simp only[Bool.or_eq_true,Bool.not_eq_true']at this
  rcases this with h|h
  ·exact Nat.eq_of_beq_eq_true h
  ·simp at h
 have cnt': ∀i,i<(fl.filter (·.isSome)).length↔fl.contains (some i)=true:=by
  intro i
  rcases Nat.lt_or_ge i (n+1)with h|h
  ·have:=List.all_eq_true.1 hcnt i (List.mem_range.2 h)
   rw[beq_iff_eq]at this
   rw[<-this,decide_eq_true_eq]
  ·have hle:(fl.filter (·.isSome)).length<=n:=by rw[<-hfn];exact List.length_filter_le _ _
   refine⟨λ h2=>by omega,λ h2=>?_⟩
   exfalso
   have down: ∀i,fl.contains (some i)=true-> ∀j,j<=i->fl.contains (some j)=true:=by
    intro i
    induction i with
    |zero=>intro h j hj;rw[show j=0 from by omega];exact h
    |succ i ih=>
     intro h j hj
     rcases Nat.lt_or_ge j (i+1)with h3|h3
     ·obtain⟨k,hk1,hk2⟩:=List.getElem_of_mem (List.contains_iff_mem.1 h)
      have hfk:(fl[k]?).getD none=some (i+1):=by simp[hk1,hk2]
      obtain⟨k',_,hk'⟩:=prev k i (l[k]'(by omega)) (by simp) hfk
      refine ih ?_ j (by omega)
      rw[List.contains_iff_mem]
      rcases Nat.lt_or_ge k' fl.length with h4|h4
      ·simp[h4]at hk';exact hk'▸List.getElem_mem h4
      ·simp[h4]at hk'
     ·rw[show j=i+1 from by omega];exact h
   have hb:=down i h2 n (by omega)
   have:=List.all_eq_true.1 hcnt n (List.mem_range.2 (by omega))
   rw[beq_iff_eq,hb]at this
   have:=of_decide_eq_true this
   omega
 let Inv:Array Bool->Act->World->Prop:=λ listed a w'=> ∃LL M1 X j,M.le M1/\St w0 M0 w' M1 (HsQ++X)/\Sub L LL/\AF a N LL/\(∀j,listed.getD j false=true->L7 Fs l LL M1 j)/\XP st X0 j LL M1 X/\(∀k i,(fl[k]?).getD none=some i->(listed.getD k false=true↔i<j))/\j<=(fl.filter (·.isSome)).length/\listed.getD n false=false
 let cnt:Array Bool->Nat:=λ b=>(b.toList.filter (λ x=> !x)).length
 have cset: ∀(b:Array Bool) (i:Nat),i<b.size->b.getD i true=false->cnt (b.setIfInBounds i true)+1<=cnt b:=by
  intro b i hi hb
  have key: ∀(m:List Bool) (i:Nat),m[i]? =some false->((m.set i true).filter (λ x=> !x)).length+1=(m.filter (λ x=> !x)).length:=by
   intro m
   induction m with
   |nil=>intro i h;simp at h
   |cons x m ih=>
    intro i h
    cases i with
    |zero=>simp at h;subst h;simp
    |succ i=>
     have:=ih i (by simpa using h)
     cases x<;>simp[List.set_cons_succ,List.filter_cons]<;>omega
  have hb':b.toList[i]? =some false:=by
   simp[Array.getD,hi]at hb
   simp[hi,hb]
  have:=key b.toList i hb'
  simp only[cnt,Array.toList_setIfInBounds]
  omega
 have getF: ∀(b:Array Bool) (i:Nat),i<b.size->b.getD i true=b.getD i false:=by
  intro b i hi;simp[Array.getD,hi]
 have acyc: ∀i o,l[i]? =some o-> ∀j∈BM o,j<i:=by
  intro i o ho j hj
  have hlt:i<l.length:=(List.getElem?_eq_some_iff.1 ho).1
  have:=List.all_eq_true.1 hac i (List.mem_range.2 hlt)
  rw[ho]at this
  simp only[Option.map_some,Option.getD_some]at this
  exact Nat.le_of_ble_eq_true (List.all_eq_true.1 this j hj)
 have notdone: ∀listed:Array Bool,listed.size=l.length->listed.getD n false=false->Region.ready .any l.toArray listed=[]->False:=by
  intro listed hsz hl hr
  have all: ∀i,i<l.length->listed.getD i true=true:=by
   intro i
   induction i using Nat.strongRecOn with
   |_ i ih=>
    intro hi
    cases hli:listed.getD i true with
    |true=>rfl
    |false=>
     exfalso
     have:i∈Region.ready .any l.toArray listed:=by
      unfold Region.ready
      refine List.mem_filter.2 ⟨List.mem_range.2 (by simpa using hi),?_⟩
      have ho:l.toArray[i]? =some l[i]:=by simp[hi]
      rw[hli,ho]
      simp only[Bool.not_false,Bool.true_and,Option.map_some,Option.getD_some]
      rw[Array.all_eq_true_iff_forall_mem]
      intro e he
      by_cases hb:Region.binds .any e=true
      ·have hlt:=acyc i l[i] (by simp[hi]) e.on (List.mem_map.2 ⟨e,List.mem_filter.2 ⟨by simpa using he,hb⟩,rfl⟩)
       have:=ih e.on hlt (by omega)
       rw[getF _ _ (by omega)]at this
       simp[this]
      ·simp[hb]
     rw[hr]at this;cases this
  have:=all n (by omega)
  rw[getF _ _ (by omega),hl]at this;cases this
 have main: ∀fuel listed a w',Inv listed a w'->listed.size=l.length->(∀j o,listed.getD j false=true->l[j]? =some o-> ∀i∈BM o,listed.getD i false=true)->cnt listed<=fuel->wpAny P .any l.toArray Q fuel listed a w':=by
  intro fuel
  induction fuel with
  |zero=>
   intro listed a w' hI hsz hcs hc
   have hr:Region.ready .any l.toArray listed=[]:=by
    refine List.eq_nil_iff_forall_not_mem.2 λ i hi=>?_
    unfold Region.ready at hi
    have h2:=(List.mem_filter.1 hi).2
    have h1:=List.mem_range.1 (List.mem_filter.1 hi).1
    simp only[Bool.and_eq_true,Bool.not_eq_true']at h2
    have:=cset listed i (by simp at h1;omega) h2.1
    omega
   obtain⟨_,_,_,_,_,_,_,_,_,_,_,_,hl⟩:=hI
   exact(notdone listed hsz hl hr).elim
  |succ fuel ih=>
   intro listed a w' hI hsz hcs hc
   obtain⟨LL,M1,X,j,g1,g2,g3,g4,g5,g6,g7,g8,g9⟩:=hI
   refine⟨λ hr=>(notdone listed hsz g9 hr).elim,λ i hi=>?_⟩
   unfold Region.ready at hi
   have h2:=(List.mem_filter.1 hi).2
   have h1:i<l.length:=by simpa using List.mem_range.1 (List.mem_filter.1 hi).1
   have ho:l.toArray[i]? =some l[i]:=by simp[h1]
   have ho':l[i]? =some l[i]:=by simp[h1]
   rw[ho]at h2
   simp only[Bool.and_eq_true,Bool.not_eq_true',Option.map_some,Option.getD_some]at h2
   have hlisted: ∀j∈BM l[i],listed.getD j false=true:=by
    intro j hj
    obtain⟨e,he,rfl⟩:=List.mem_map.1 hj
    have he':=List.mem_filter.1 he
    have:=(Array.all_eq_true_iff_forall_mem.1 h2.2) e (by simpa using he'.1)
    rw[he'.2]at this
    simpa using this
   have hdep: ∀j∈BM l[i],L7 Fs l LL M1 j:=λ j hj=>g5 _ (hlisted j hj)
   have hk:=IP.get hop ho'
   rw[Nat.zero_add]at hk
   unfold bX at hk
   by_cases hin:i=n
   ·rw[if_pos hin]at hk
    subst hin
    have hall: ∀k,k<i->listed.getD k false=true:=by
     have key: ∀d k,i=k+d->k<i->listed.getD k false=true:=by
      intro d
      induction d using Nat.strongRecOn with
      |_ d ihd=>
       intro k hd hk'
       obtain⟨q,hq,hq2⟩:=List.any_eq_true.1 (List.all_eq_true.1 hlast k (List.mem_range.2 hk'))
       have hq':=List.mem_range.1 hq
       simp only[Bool.and_eq_true]at hq2
       have hkq:k<q:=Nat.lt_of_lt_of_le (Nat.lt_succ_self k) (Nat.le_of_ble_eq_true hq2.1)
       have hoq:l[q]? =some (l[q]'(by omega)):=by simp
       have hb:=hq2.2
       rw[hoq]at hb
       by_cases hqi:q=i
       ·subst hqi;exact hlisted k (by simpa using hb)
       ·exact hcs q _ (ihd (i-q) (by omega) q (by omega) (by omega)) hoq k (by simpa using hb)
     exact λ k hk'=>key (i-k) k (by omega) hk'
    have hj:j=(fl.filter (·.isSome)).length:=by
     rcases Nat.lt_or_ge j (fl.filter (·.isSome)).length with h|h
     ·exfalso
      have:=(cnt' j).1 h
      obtain⟨k,hk1,hk2⟩:=List.getElem_of_mem (List.contains_iff_mem.1 this)
      have hfk:(fl[k]?).getD none=some j:=by simp[hk1,hk2]
      have:=(g7 k j hfk).1 (hall k (by omega))
      omega
     ·omega
    subst hj
    have hz:=hk LL w' M1 X g1 g2 g3 (λ k hk'=>g5 k (hall k hk')) g6 a g4
    refine oC ho hz λ a' w'' hq=>oD ?_ fuel a' w'' hq
    refine List.eq_nil_iff_forall_not_mem.2 λ k hk'=>?_
    unfold Region.ready at hk'
    have k2:=(List.mem_filter.1 hk').2
    have k1:k<l.length:=by simpa using List.mem_range.1 (List.mem_filter.1 hk').1
    simp only[Bool.and_eq_true,Bool.not_eq_true']at k2
    have k3:=k2.1
    by_cases hki:k=i
    ·subst hki
     rw[Array.getD_eq_getD_getElem?]at k3
     simp[hsz,k1]at k3
    ·rw[Array.getD_eq_getD_getElem?,Array.getElem?_setIfInBounds_ne (Ne.symm hki),<-Array.getD_eq_getD_getElem?,getF _ _ (by omega),hall k (by omega)]at k3
     cases k3
   ·rw[if_neg hin]at hk
    have hcl:cnt (listed.setIfInBounds i true)<=fuel:=by have:=cset listed i (by omega) h2.1;omega
    have hnot:listed.getD i false=false:=by rw[<-getF _ _ (by omega)];exact h2.1
    have DH: ∀k,(listed.setIfInBounds i true).getD k false=true↔k=i\/listed.getD k false=true:=by
     intro k
     by_cases hki:k=i
     ·subst hki
      rw[Array.getD_eq_getD_getElem?]
      simp[hsz,h1]
     ·rw[Array.getD_eq_getD_getElem?,Array.getElem?_setIfInBounds_ne (Ne.symm hki),<-Array.getD_eq_getD_getElem?]
      simp[hki]
    have hcs': ∀j o,(listed.setIfInBounds i true).getD j false=true->l[j]? =some o-> ∀k∈BM o,(listed.setIfInBounds i true).getD k false=true:=by
     intro j' o' hj' ho2 k hk2
     refine(DH k).2 (.inr ?_)
     rcases(DH j').1 hj' with h|h
     ·subst h;rw[ho']at ho2;cases ho2;exact hlisted k hk2
     ·exact hcs j' o' h ho2 k hk2
    have hn':(listed.setIfInBounds i true).getD n false=false:=by
     cases h:(listed.setIfInBounds i true).getD n false with
     |false=>rfl
     |true=>
      rcases(DH n).1 h with h|h
      ·exact absurd h.symm hin
      ·rw[g9]at h;cases h
    have keepS: ∀LL' M2,JN Fs i l[i] LL LL' M2->Sub L LL':=by
     intro LL' M2 k4 t x ht
     unfold JN at k4
     cases hd:(l[i]).dst with
     |none=>rw[hd]at k4;subst k4;exact g3 t x ht
     |some d=>
      rw[hd]at k4
      obtain⟨g,v,rfl,_⟩:=k4
      have hne:d≠t:=by
       intro e;subst e
       exact base i d x (by simp[BX,h1,hd]) ht
      rw[HZ hne];exact g3 t x ht
    have keepD: ∀LL' M2,M1.le M2->JN Fs i l[i] LL LL' M2-> ∀j,(listed.setIfInBounds i true).getD j false=true->L7 Fs l LL' M2 j:=by
     intro LL' M2 k1 k4 j hj
     by_cases hji:j=i
     ·subst hji
      unfold L7
      unfold JN at k4
      cases hd:(l[j]).dst with
      |none=>simp[BX,h1,hd]
      |some d=>
       rw[hd]at k4
       obtain⟨g,v,rfl,hv⟩:=k4
       simp only[BX,ho',Option.bind_some,hd]
       exact⟨g,v,JH _ _ _ _,hv⟩
     ·have hj':listed.getD j false=true:=by
       rcases(DH j).1 hj with h|h
       ·exact absurd h hji
       ·exact h
      have hold:=g5 j hj'
      unfold L7 at hold ⊢
      cases hdj:BX l j with
      |none=>trivial
      |some dj=>
       rw[hdj]at hold
       obtain⟨g,v,hl,hv⟩:=hold
       dsimp only
       refine⟨g,v,?_,(W9 Fs j).mono k1 hv⟩
       unfold JN at k4
       cases hd:(l[i]).dst with
       |none=>rw[hd]at k4;subst k4;exact hl
       |some d=>
        rw[hd]at k4
        obtain⟨g',v',rfl,_⟩:=k4
        have hne:d≠dj:=dist i j d dj (by simp[BX,h1,hd]) hdj (Ne.symm hji)
        rw[HZ hne];exact hl
    cases hfl:(fl[i]?).getD none with
    |none=>
     rw[hfl]at hk
     refine bV (K:=λ a' w'=> ∃LL' M2,M1.le M2/\St w0 M0 w' M2 (HsQ++X)/\AF a' N LL'/\JN Fs i l[i] LL LL' M2) ho (hk LL w' M1 X g1 g2 g3 hdep a g4) ?_
     rintro a' w'' ⟨LL',M2,k1,k2,k3,k4⟩
     have hxp:XP st X0 j LL' M2 X:=by
      unfold XP at*
      cases j with
      |zero=>exact g6
      |succ j=>
       dsimp only at*
       cases hj:st[j]? with
       |none=>trivial
       |some y=>
        obtain⟨t,f⟩:=y
        rw[hj]at g6
        obtain⟨v,hl,hx⟩:=g6
        refine⟨v,?_,f.mono k1 hx⟩
        unfold JN at k4
        cases hd:(l[i]).dst with
        |none=>rw[hd]at k4;subst k4;exact hl
        |some d=>
         rw[hd]at k4
         obtain⟨g',v',rfl,_⟩:=k4
         by_cases hne:d=t
         ·exfalso;subst hne
          have hm1:d∈ts:=by
           rw[<-hts];exact List.mem_map.2 ⟨(d,f),List.mem_of_getElem? hj,rfl⟩
          obtain⟨k,hk1,hk2⟩:=List.any_eq_true.1 (List.all_eq_true.1 htl d hm1)
          simp only[Bool.and_eq_true,beq_iff_eq]at hk2
          have hki:i≠k:=by intro e;subst e;rw[hfl]at hk2;cases hk2.2
          exact dist i k d d (by simp[BX,h1,hd]) hk2.1 hki U
         ·rw[HZ hne];exact hl
     refine ih _ a' w'' ⟨LL',M2,X,j,g1.trans k1,k2,keepS LL' M2 k4,k3,keepD LL' M2 k1 k4,hxp,?_,g8,hn'⟩ (by simp[hsz]) hcs' hcl
     intro k i' hki
     rw[DH k]
     have hne:k≠i:=by intro e;subst e;rw[hfl]at hki;cases hki
     simp only[hne,false_or]
     exact g7 k i' hki
    |some i0=>
     rw[hfl]at hk
     have hij:i0=j:=by
      have hnl: ¬i0<j:=λ h=>by have:=(g7 i i0 hfl).2 h;rw[hnot]at this;cases this
      cases i0 with
      |zero=>omega
      |succ i1=>
       obtain⟨k',hk1,hk2⟩:=prev i i1 l[i] ho' hfl
       have:=(g7 k' i1 hk2).1 (hlisted k' hk1)
       omega
     subst hij
     refine bV (K:=λ a' w'=> ∃LL' M2 X',M1.le M2/\St w0 M0 w' M2 (HsQ++X')/\AF a' N LL'/\JN Fs i l[i] LL LL' M2/\XP st X0 (i0+1) LL' M2 X') ho (hk LL w' M1 X g1 g2 g3 hdep g6 a g4) ?_
     rintro a' w'' ⟨LL',M2,X',k1,k2,k3,k4,k5⟩
     refine ih _ a' w'' ⟨LL',M2,X',i0+1,g1.trans k1,k2,keepS LL' M2 k4,k3,keepD LL' M2 k1 k4,k5,?_,?_,hn'⟩ (by simp[hsz]) hcs' hcl
     ·intro k i' hki
      rw[DH k]
      by_cases hne:k=i
      ·subst hne;rw[hfl]at hki;cases hki;simp
      ·simp only[hne,false_or]
       rw[g7 k i' hki]
       have:i'≠i0:=λ e=>hne (inj k i i' hki (by rw[hfl,e]))
       omega
     ·have:fl.contains (some i0)=true:=by
       rw[List.contains_iff_mem]
       have hlt:i<fl.length:=by
        rcases Nat.lt_or_ge i fl.length with h|h
        ·exact h
        ·simp[h]at hfl
       have:fl[i]=some i0:=by simpa[hlt]using hfl
       exact this▸List.getElem_mem hlt
      have:=(cnt' i0).2 this
      omega
 have hz: ∀j,(Array.replicate l.toArray.size false).getD j false=false:=by
  intro j
  rcases Nat.lt_or_ge j l.length with h|h
  ·simp[Array.getD,h]
  ·simp[Array.getD,h]
 refine main _ _ a _ ⟨L,M,X0,0,Mem.le.refl _,hS.ext (Ext.drew w),Sub.refl,hs,?_,rfl,?_,Nat.zero_le _,hz n⟩ (by simp) (λ j o hj=>by rw[hz j]at hj;cases hj) ?_
 ·intro j hj;rw[hz j]at hj;cases hj
 ·intro k i _;rw[hz k];simp
 ·have:cnt (Array.replicate l.toArray.size false)<=l.toArray.size:=by
   simp only[cnt,Array.toList_replicate]
   have:=List.length_filter_le (λ x:Bool=> !x) (List.replicate l.toArray.size false)
   simp
  simpa using this
theorem CW.scope {P:Program}{Q:Exit->Act->World->Prop}{N:Nat}{L:Env}{w:World}{c:Code}(h:CW P c (Exit.noGoto Q) N L w):CW P (.scope c) Q N L w:=λ a hs=>wp_scope_straight (h a hs)
def CV(r:Int):A1:=(Utf8.encode r).data.toList
theorem PV.oF {P:Program}{C:World->Prop}{L:Env}{W:Bool}{d:Option Tmp}{ty:TypeId}{ps:String}{af:Array Edge}{gd:Option (Nat×Bool)}{s t:TypeId}{x:Operand}{k:IntKind}{a:Int}(hx:A5 L W x (.int k a))(hs:P.underlying s=some (.int k))(ht:P.underlying t=some .string):PV P C L W ⟨d,.convert s t x,ty,ps,af,gd⟩ (str (CV a)):=
 .un (f:=convert s t) (λ _=>rfl) hx λ _ w _=>run_convert_int_string w s t k a (by rw[hs];rfl) ht
theorem oG{r:Int}(hv:Utf8.valid r=true)(h:128<=r):2<=len (CV r)/\len (CV r)<=4/\128<=A2 (CV r) (len (CV r)-1):=by
 obtain⟨h1,h2,h3⟩:=encode_facts r hv h
 have hl:len (CV r)=((Utf8.encode r).size:Int):=rfl
 refine⟨by omega,by omega,?_⟩
 have h4:=h3 (by omega)
 have hk:(len (CV r)-1).toNat=(Utf8.encode r).size-1:=by omega
 unfold A2
 rw[hk]
 have h5:(Utf8.encode r).size-1<(CV r).length:=by have:(CV r).length=(Utf8.encode r).size:=rfl;omega
 have:(CV r).getD ((Utf8.encode r).size-1) 0=(Utf8.encode r)[(Utf8.encode r).size-1]'(by omega):=by
  rw[List.getD_eq_getElem?_getD,List.getElem?_eq_getElem h5];rfl
 rw[this];omega
end Go.Eng
namespace Go.Eng
open Go.RowKit Go.Lib
theorem zb:(∀a b:Bool,((a&&b)=true)=(a=true/\b=true))/\(∀a b:Bool,((a||b)=true)=(a=true\/b=true))/\(∀x y:Bool,(x&&y)=false↔x=false\/y=false)/\(∀x y:Bool,(x||y)=false↔x=false/\y=false)/\
  (∀(p:Prop) [Decidable p],(decide p=true)=p)/\(∀(p:Prop) [Decidable p],decide p=false↔ ¬p)/\(∀b:Bool,((!b)=true)=(b=false))/\(∀b:Bool,((!b)=false)=(b=true))/\
  (∀(α:Type) [BEq α] [LawfulBEq α] (a b:α),(a==b)=true↔a=b)/\(∀(α:Type) [BEq α] [LawfulBEq α] (a b:α),(a==b)=false↔a≠b)/\(∀(α:Type) [BEq α] [LawfulBEq α] (a b:α),(a != b)=true↔a≠b)/\(∀(α:Type) (a b:α),(a≠b)= ¬a=b)/\
  (∀a b:Bool,(!a)=b↔a= !b)/\((!true)=false)/\((!false)=true)/\(∀(α:Type) [BEq α] [LawfulBEq α] (a b:α),(a != b)=false↔a=b)/\(∀b:Bool,(¬b=true)=(b=false))/\(∀b:Bool,(¬b=false)=(b=true))/\(∀p:Prop,(p/\True)=p):=
 ⟨Bool.and_eq_true,Bool.or_eq_true,λ _ _=>Bool.and_eq_false_iff,λ _ _=>Bool.or_eq_false_iff,λ _=>decide_eq_true_eq,λ _=>decide_eq_false_iff_not,Bool.not_eq_true',Bool.not_eq_false',λ _ _ _ _ _=>beq_iff_eq,λ _ _ _ _ _=>beq_eq_false_iff_ne,λ _ _ _ _ _=>bne_iff_ne,
  λ _=>ne_eq,λ _ _=>Bool.not_eq_eq_eq_not,rfl,rfl,λ _ _ _ _ _=>bne_eq_false_iff_eq,Bool.not_eq_true,Bool.not_eq_false,and_true⟩
abbrev Y(k:Nat)(v:Value):Nat×Bool×Value:=(k,true,v)
theorem CW.at {P:Program}{N:Nat}{L:Env}{w:World}{y:Code}{Q':Exit->Act->World->Prop}(L':Env)(hk:Eng.BL (PT L') L=L')(h:CW P y Q' N L' w): ∀a,AF a N L->y.wp P Q' a w:=CW.on _ hk h
theorem CW.sr {P:Program}{Q:Exit->Act->World->Prop}{N:Nat}{L:Env}{w:World}{id:Nat}{l:List Oper}{y:Code}(h:RL P l.toArray (Exit.then (y.wp P Q) Q) N l L w):CW P (.seq (.region id l.toArray false) y) Q N L w:=CW.seq (CW.region h)
section
variable {P:Program} {ops:Array Oper} {Q:Exit->Act->World->Prop} {N:Nat} {rest:List Oper} {L:Env} {w:World} {d k:Nat} {op:Op} {ty:TypeId} {ps:String} {af:Array Edge} {v:Value}
theorem RL.u (hp:PV P (· =w) L true ⟨some d,op,ty,ps,af,none⟩ v)(hd:Nat.blt d N=true)(h:RL P ops Q N rest ((d,true,v)::L) w):RL P ops Q N (⟨some d,op,ty,ps,af,none⟩::rest) L w:=RL.v .none hp hd h
theorem RL.m (hl:look L k=some (true,v))(hd:Nat.blt d N=true)(h:RL P ops Q N rest ((d,true,v)::L) w):RL P ops Q N (⟨some d,.move (.tmp k),ty,ps,af,none⟩::rest) L w:=RL.v .none (.move (.t hl)) hd h
theorem RL.a (hl:look L k=some (true,v))(hd:Nat.blt d N=true)(h:RL P ops Q N rest ((d,true,v)::L) w):RL P ops Q N (⟨some d,.assign (.tmp k),ty,ps,af,none⟩::rest) L w:=RL.v .none (.assign (.t hl)) hd h
end
structure Ends (P:Program) (fn:Func) (R:Ending->World->Prop) (Q:Exit->Act->World->Prop):Prop where
 all: ∀e a w,bodyPost P fn R e a w->Q e a w
theorem CW.C4 {P:Program}{N:Nat}{w:World}{f:FuncId}{fn:Func}{c:Code}{vs:List Value}{R:Ending->World->Prop}(hf:P.funcs[f]? =some fn)(hb:fn.body=some c)(hn:fn.ntmps=N)(hl:vs.length<=N)
 (h: ∀Q,Ends P fn R Q->CW P c Q N (JI 0 vs) w):Calls P f vs.toArray w R:=CW.enter hf hb hn hl (h _ ⟨λ _ _ _ h=>h⟩)
section
variable {P:Program} {fn:Func} {R:Ending->World->Prop} {Q:Exit->Act->World->Prop} {N:Nat} {L:Env} {w:World} {t u s:Tmp} {a b c:ResultVar} {v x y:Value}
theorem Ends.e0 (E:Ends P fn R Q)(hr:fn.results= #[])(h:R (.returned (.tuple #[])) w): ∀a,AF a N L->Q .normal a w:=λ a hs=>E.all _ _ _ (nJ hr h a hs)
theorem Ends.r1 (E:Ends P fn R Q)(hr:fn.results= #[.tmp t])(hl:look L t=some (true,v))(h:R (.returned v) w): ∀a,AF a N L->Q .ret a w:=λ a hs=>E.all _ _ _ (mZ hr hl h a hs)
theorem Ends.r2 (E:Ends P fn R Q)(hr:fn.results= #[.tmp t,.tmp u])(hl:look L t=some (true,v))(hl2:look L u=some (true,x))(h:R (.returned (.tuple #[v,x])) w): ∀a,AF a N L->Q .ret a w:=λ a hs=>E.all _ _ _ (n5 hr hl hl2 h a hs)
theorem Ends.r3 (E:Ends P fn R Q)(hr:fn.results= #[.tmp t,.tmp u,.tmp s])(hl:look L t=some (true,v))(hl2:look L u=some (true,x))(hl3:look L s=some (true,y))(h:R (.returned (.tuple #[v,x,y])) w): ∀a,AF a N L->Q .ret a w:=λ a hs=>E.all _ _ _ (n7 hr hl hl2 hl3 h a hs)
theorem Ends.R2 (E:Ends P fn R Q)(hr:fn.results= #[a,b])(h1:RV P L w a v)(h2:RV P L w b x)(h:R (.returned (.tuple #[v,x])) w): ∀a,AF a N L->Q .ret a w:=λ a hs=>E.all _ _ _ (nD hr h1 h2 h a hs)
theorem Ends.R3 (E:Ends P fn R Q)(hr:fn.results= #[a,b,c])(h1:RV P L w a v)(h2:RV P L w b x)(h3:RV P L w c y)(h:R (.returned (.tuple #[v,x,y])) w): ∀a,AF a N L->Q .ret a w:=λ a hs=>E.all _ _ _ (nE hr h1 h2 h3 h a hs)
end
theorem CW.id {P:Program}{N:Nat}{L:Env}{w:World}{y:Code}{Q':Exit->Act->World->Prop}(h:CW P y Q' N L w): ∀a,AF a N L->y.wp P Q' a w:=h
theorem CW.PU {P:Program}{σ:Type}{x y:Code}{Q:Exit->Act->World->Prop}{N:Nat}{L:Env}{w:World}(Lf:σ->Env)(I:σ->World->Prop)(hx:CW P x (Exit.then (λ a' w'=> ∃s,AF a' N (Lf s)/\I s w') Q) N L w)
  (hy: ∀s w',I s w'->CW P y Q N (Lf s) w'):CW P (.seq x y) Q N L w:=by
 refine CW.seq λ a hs=>wp_mono (hx a hs) λ e a' w' h=>?_
 cases e with
 |normal=>obtain⟨s,h1,h2⟩:=h;exact hy s w' h2 a' h1
 |exit id=>exact h
 |goto l=>exact h
 |ret=>exact h
 |panic ch=>exact h
 |outgrown=>exact h
def oH:TypeDesc->Bool| .interface _=>false|_=>true
section pv
variable {P:Program} {C:World->Prop} {L:Env} {W:Bool} {d:Option Tmp} {ty:TypeId} {ps:String} {af:Array Edge} {gd:Option (Nat×Bool)} {w0 w:World} {M0 M:Mem} {Hs:List HO}
theorem PV.iface {t:TypeId}{x:Operand}{v:Value}{u:TypeDesc}(hx:A5 L W x v)(ht:P.underlying t=some u)(hn:oH u=true):PV P C L W ⟨d,.makeInterface t x,ty,ps,af,gd⟩ (.iface t v):=
 .un (f:=Instr.makeInterface t) (λ _=>rfl) hx λ _ w _=>by
  simp only[Instr.makeInterface,Sem.run_bind,run_underlying ht,Result.andThen_ok]
  cases u<;>first|rfl|(exact absurd hn (by decide))|(cases hn)
theorem PV.T0 {t e:TypeId}{x y:Operand}{n b:Nat}{k:IntKind}{i:Int}(j:Nat)(hx:A5 L W x (.pointer (some ⟨b,0,none⟩)))(hy:A5 L W y (.int k i))(ht:P.underlying t=some (.array n e))(hs: ∀w,(sizeOf e).run P w= .ok 1 w)
  (hi:W=true->i=(j:Int)) (hj:Nat.blt j n=true):PV P C L W ⟨d,.indexAddr t x y,ty,ps,af,gd⟩ (.pointer (some ⟨b,j,none⟩)):=by
 intro a N hsl hW w' hw'
 have hjn:j<n:=Nat.le_of_ble_eq_true hj
 have hi':=hi hW
 subst hi'
 have hc:0<=(j:Int)/\(j:Int)<(n:Int):=by omega
 have key:(Instr.indexAt t (.pointer (some ⟨b,0,none⟩)) (.int k (j:Int))).run P w'= .ok (.pointer (some ⟨b,j,none⟩)) w':=by
  simp only[Instr.indexAt,asIntOf,Sem.run_bind,Sem.run_pure,run_underlying ht,Result.andThen_ok,Instr.sureAddr,hs,hc,and_self,if_true,Int.toNat_natCast,Nat.mul_one,HB,Nat.zero_add]
 simp only[execOp,hx a N hsl hW,hy a N hsl hW]
 rw[Sem.run_bind,key];rfl
theorem PV.oI {t e:TypeId}{x y:Operand}{n b:Nat}{k:IntKind}{i:Int}(j m:Nat)(hx:A5 L W x (.pointer (some ⟨b,0,none⟩)))(hy:A5 L W y (.int k i))(ht:P.underlying t=some (.array n e))(hs: ∀w,(sizeOf e).run P w= .ok 1 w)
  (hi:W=true->i=(j:Int)) (hj:Nat.blt j n=true) (hm:n-j=m):PV P C L W ⟨d,.slice t x (some y) none none,ty,ps,af,gd⟩ (.slice (some ⟨b,j,none⟩) m m):=by
 intro a N hsl hW w' hw'
 have hjn:j<n:=Nat.le_of_ble_eq_true hj
 have hi':=hi hW
 subst hi';subst hm
 have hc:0<=(j:Int)/\(j:Int)<=(n:Int):=by omega
 have hne: ¬n=j:=by omega
 have key:(Instr.sliceAt t (.pointer (some ⟨b,0,none⟩)) (some (.int k (j:Int))) none none).run P w'= .ok (.slice (some ⟨b,j,none⟩) (n-j) (n-j)) w':=by
  simp only[Instr.sliceAt,Sem.run_bind,Sem.run_pure,run_underlying ht,Result.andThen_ok,Instr.sureAddr,Instr.sliceBounds,Instr.sliceBound,asIntOf,hs,hc,and_self,if_true,Int.toNat_natCast,Nat.mul_one,HB,Nat.zero_add,hne,if_false]
 simp only[execOp,hx a N hsl hW,Option.map_some,Option.map_none,hy a N hsl hW]
 rw[Sem.run_bind,key];rfl
theorem PV.oJ {src dst e t':TypeId}{x:Operand}{l:List Int}{cs:List Value}{i b o n cap:Nat}(hS:St w0 M0 w M Hs)(hC: ∀w',C w'->Ext w w')(hi:Hs[i]? =some (.box b cs t'))(hx:A5 L W x (.slice (some ⟨b,o,none⟩) n cap))
  (hn:n=l.length) (hc:(cs.drop o).take n=l.map (Value.int .u8)) (hs:P.underlying src=some (.slice e)) (he:P.underlying e=some (.int .u8)) (hd:P.underlying dst=some .string):PV P C L W ⟨d,.convert src dst x,ty,ps,af,gd⟩ (str (toStr l)):=by
 subst hn
 intro a N hsl hW w' hw'
 have hcell: ∀j v',(l.map (Value.int .u8))[j]? =some v'->w'.cell? ((⟨b,o,none⟩:Addr).add j)=some v':=by
  intro j v' hj
  rw[HB]
  refine hS.cell (hC w' hw') hi ?_
  rw[<-hc,List.getElem?_take,List.getElem?_drop]at hj
  split at hj
  ·exact hj
  ·cases hj
 have hload:=run_loadCells_list (P:=P) w' ⟨b,o,none⟩ (l.map (Value.int .u8)) hcell
 rw[List.length_map]at hload
 have key:(convert src dst (.slice (some ⟨b,o,none⟩) l.length cap)).run P w'= .ok (str (toStr l)) w':=by
  rw[run_convert_bytes_string w' src dst e (some ⟨b,o,none⟩) l.length cap hs he hd,run_bytesToString w' ⟨b,o,none⟩ l.length cap l hload,foldl_push]
  simp[str]
 simp only[execOp,hx a N hsl hW]
 rw[Sem.run_bind,key];rfl
end pv
section rl
variable {P:Program} {ops:Array Oper} {Q:Exit->Act->World->Prop} {N:Nat} {rest:List Oper} {L:Env} {w0 w:World} {M0 M:Mem} {Hs:List HO} {d:Nat} {ty:TypeId} {ps:String} {af:Array Edge}
theorem RL.st {t t':TypeId}{x y:Operand}{i b o n:Nat}{cs cs':List Value}{v:Value}(hS:St w0 M0 w M Hs)(hi:Hs[i]? =some (.box b cs t'))(hx:A5 L true x (.pointer (some ⟨b,o,none⟩)))(hy:A5 L true y v)(hs: ∀w,(sizeOf t).run P w= .ok n w)
 (hn:v.cells.toList.length=n) (hfit:Nat.ble (o+n) cs.length=true) (h1:(v.cells.toList.all (·.oneCell'))=true) {Hs':List HO} (hHs:Hs.set i (.box b cs' t')=Hs') (hcs:F4 cs o v.cells.toList=cs')
 (h: ∀w',St w0 M0 w' M Hs'->RL P ops Q N rest L w'):RL P ops Q N (⟨none,.store t x y,ty,ps,af,none⟩::rest) L w:=RL.VW hS hi hx hy hs hn hfit h1 hcs hHs h
theorem RL.bytes {s:A1}{src dst e:TypeId}{x:Operand}(hS:St w0 M0 w M Hs)(hx:A5 L true x (str s))(hs:P.underlying src=some .string)(ht:P.underlying dst=some (.slice e))(he:P.underlying e=some (.int .u8))(hl:len s<=140737488355328)(hd:Nat.blt d N=true)
  (h: ∀v w' M',St w0 M0 w' M' Hs->M.le M'->Sl M' 1 (ints s).length v ((ints s).flatMap AU)->RL P ops Q N rest ((d,true,v)::L) w'):RL P ops Q N (⟨some d,.convert src dst x,ty,ps,af,none⟩::rest) L w:=by
 intro a hsl
 refine wpList_plain U λ K hK=>?_
 have hsz:(ByteArray.mk ⟨s⟩).size=s.length:=rfl
 have hlen:(ints s).length=s.length:=by unfold ints;simp
 have key:(execOp a.eval ⟨some d,.convert src dst x,ty,ps,af,none⟩).run P w= .ok (.value (.slice (some ⟨w.heap.size,0,none⟩) s.length (grownCap w s.length 0 e))) (bytesWorld w e ⟨⟨s⟩⟩):=by
  simp only[execOp,hx a N hsl U]
  rw[Sem.run_bind,Go.Lib.run_convert_string_bytes w src dst e ⟨⟨s⟩⟩ hs ht he];rfl
 simp only[Oper.wp,key,Oper.upon_value]
 have hcell: ∀j,j<s.length->(bytesWorld w e ⟨⟨s⟩⟩).cell? ⟨w.heap.size,j,none⟩=((ints s).flatMap AU)[j]?:=by
  intro j hj
  rw[bytesWorld_cell w e ⟨⟨s⟩⟩ j hj,SW]
  unfold ints
  simp[hj,List.getD]
 have hfl:((ints s).flatMap AU).length=s.length:=by rw[SW];simp[hlen]
 have g:Grow w M (bytesWorld w e ⟨⟨s⟩⟩) (HC M w.heap.size ((ints s).flatMap AU)):=by
  have hE:Ext w (bytesWorld w e ⟨⟨s⟩⟩):=Joins.below_bytesWorld _ _ _ _ (Nat.le_refl _)
  refine⟨hE,⟨λ b o v hv=>?_⟩,λ b o hb=>?_⟩
  ·unfold HC at hv
   split at hv
   ·rename_i hb;subst hb
    have ho:o<s.length:=by
     rcases Nat.lt_or_ge o s.length with h'|h'
     ·exact h'
     ·rw[List.getElem?_eq_none (by omega)]at hv;cases hv
    rw[hcell o ho];exact hv
   ·exact(hS.sat.ext hE).cell b o v hv
  ·unfold HC
   rw[if_neg (by omega)]
 refine hK _ _ (h _ _ _ (hS.grow g) (g.le hS.sat) ?_ _ (hsl.put hd true _))
 have hge:=grownCap_ge w s.length 0 e
 have hcm:grownCap w s.length 0 e<=maxLen:=grownCap_le_maxLen w s.length 0 e (by unfold len at hl;simp only[maxLen];omega)
 refine⟨by rw[hfl,hlen,Nat.mul_one],_,_,by rw[hlen],by rw[hlen];exact hge,hcm,λ _=>⟨_,_,rfl,λ j hj=>?_⟩⟩
 unfold HC
 rw[if_pos U,Nat.zero_add]
end rl
end Go.Eng
set_option maxRecDepth 100000
namespace Go.Proofs.YtmjpjbmeamnfpaaGreatDoor
open Go.Eng
theorem PW:Tryz.prog.follows .mixedOrders=true:=by kernel_rfl
theorem oK:Tryz.prog.underlying 46=some (.struct (Tryz.prog.fieldsOf 46)):=by kernel_rfl
theorem oL:(Tryz.prog.fieldsOf 46).toList=[⟨"Kind",3,0,false,"","",0⟩,⟨"Many",3,1,false,"","",8⟩,⟨"Name",9,2,false,"","",16⟩,⟨"S",9,3,false,"","",32⟩,⟨"Neg",4,4,false,"","",48⟩,⟨"E",3,5,false,"","",56⟩]:=by kernel_rfl
theorem bY(d:Nat)(a b:Nd)(w:World):(Op.equalIn (d+1+1) 46 (.agg (Nd.cells a).toArray) (.agg (Nd.cells b).toArray)).run Tryz.prog w= .ok (decide (a=b)) w:=by
 rw[run_equalIn_agg w _ _ _ _ oK Tryz.stoodInHeld46,oL]
 rw[I1 (P:=Tryz.prog) (w:=w) (xs:=(Nd.cells a).toArray) (ys:=(Nd.cells b).toArray) (f:=⟨"Kind",3,0,false,"","",0⟩) (by decide) (show(part 3 (Nd.cells a).toArray 0).run Tryz.prog w= .ok (i64 ((a).kind)) w by kernel_rfl) (show(part 3 (Nd.cells b).toArray 0).run Tryz.prog w= .ok (i64 ((b).kind)) w by kernel_rfl) (NN Tryz.underlying3 w d ((a).kind) ((b).kind))]
 rw[I1 (P:=Tryz.prog) (w:=w) (xs:=(Nd.cells a).toArray) (ys:=(Nd.cells b).toArray) (f:=⟨"Many",3,1,false,"","",8⟩) (by decide) (show(part 3 (Nd.cells a).toArray 1).run Tryz.prog w= .ok (i64 ((a).many)) w by kernel_rfl) (show(part 3 (Nd.cells b).toArray 1).run Tryz.prog w= .ok (i64 ((b).many)) w by kernel_rfl) (NN Tryz.underlying3 w d ((a).many) ((b).many))]
 rw[I1 (P:=Tryz.prog) (w:=w) (xs:=(Nd.cells a).toArray) (ys:=(Nd.cells b).toArray) (f:=⟨"Name",9,2,false,"","",16⟩) (by decide) (show(part 9 (Nd.cells a).toArray 2).run Tryz.prog w= .ok (str ((a).name)) w by kernel_rfl) (show(part 9 (Nd.cells b).toArray 2).run Tryz.prog w= .ok (str ((b).name)) w by kernel_rfl) (SN Tryz.underlying9 w d ((a).name) ((b).name))]
 rw[I1 (P:=Tryz.prog) (w:=w) (xs:=(Nd.cells a).toArray) (ys:=(Nd.cells b).toArray) (f:=⟨"S",9,3,false,"","",32⟩) (by decide) (show(part 9 (Nd.cells a).toArray 3).run Tryz.prog w= .ok (str ((a).s)) w by kernel_rfl) (show(part 9 (Nd.cells b).toArray 3).run Tryz.prog w= .ok (str ((b).s)) w by kernel_rfl) (SN Tryz.underlying9 w d ((a).s) ((b).s))]
 rw[I1 (P:=Tryz.prog) (w:=w) (xs:=(Nd.cells a).toArray) (ys:=(Nd.cells b).toArray) (f:=⟨"Neg",4,4,false,"","",48⟩) (by decide) (show(part 4 (Nd.cells a).toArray 4).run Tryz.prog w= .ok (.bool ((a).neg)) w by kernel_rfl) (show(part 4 (Nd.cells b).toArray 4).run Tryz.prog w= .ok (.bool ((b).neg)) w by kernel_rfl) (VY Tryz.underlying4 w d ((a).neg) ((b).neg))]
 rw[I1 (P:=Tryz.prog) (w:=w) (xs:=(Nd.cells a).toArray) (ys:=(Nd.cells b).toArray) (f:=⟨"E",3,5,false,"","",56⟩) (by decide) (show(part 3 (Nd.cells a).toArray 5).run Tryz.prog w= .ok (i64 ((a).e)) w by kernel_rfl) (show(part 3 (Nd.cells b).toArray 5).run Tryz.prog w= .ok (i64 ((b).e)) w by kernel_rfl) (NN Tryz.underlying3 w d ((a).e) ((b).e))]
 have ht:(.ok true w:Result Bool)= .ok (decide True) w:=rfl
 rw[b8,ht]
 simp only[b9]
 have hp:((a).kind=(b).kind/\(a).many=(b).many/\(a).name=(b).name/\(a).s=(b).s/\(a).neg=(b).neg/\(a).e=(b).e/\True)↔a=b:=by cases a;cases b;simp
 rw[decide_eq_decide.2 hp]
theorem WA(x y:Operand)(a b:Nd)(w:World):(do eqGuard .eql 46 x y (.agg (Nd.cells a).toArray) (.agg (Nd.cells b).toArray);binOp .eql 46 (.agg (Nd.cells a).toArray) (.agg (Nd.cells b).toArray):Sem Value).run Tryz.prog w= .ok (.bool (decide (a=b))) w:=bA x y w Tryz.eqGuardType46 (bY 9998 a b w)
end Go.Proofs.YtmjpjbmeamnfpaaGreatDoor
namespace Go.Proofs.YtmjpjbmeamnfpaaGreatDoor
open Go.Eng Go.RowKit Go.Sort
structure Gl (w:World):Prop where
 big:0<w.heap.size/\7<w.heap.size
 u8:Lib.Utf8Tabs 1 2 w
 space:Lib.TabIs Tryz.prog w "strings.asciiSpace" .u8 Lib.asciiSpaceTab
 pow:Lib.TabIs Tryz.prog w "internal/strconv.uint64pow10" .u64 Lib.pow10Tab
 deb:w.cell? ⟨9,15,none⟩=some (.int .u8 4)
 err: ∃ev,w.cell? ⟨5,0,none⟩=some ev/\(ev= .nilIface\/ ∃t p,ev= .iface t p)
theorem PX{w w':World}(h:Below w.heap.size w w'){a:Addr}{v:Value}(hv:w.cell? a=some v):w'.cell? a=some v:=by
 have hlt:a.block<w.heap.size:=by
  rcases Nat.lt_or_ge a.block w.heap.size with h'|h'
  ·exact h'
  ·simp[World.cell?,h']at hv
 exact(h.cell hlt).trans hv
theorem Gl.low {w w':World}(g:Gl w)(h:Below w.heap.size w w'):Gl w':=by
 have hb:=g.big
 have hs:=h.size
 refine⟨⟨by omega,by omega⟩,⟨λ c hc=>PX h (g.u8.1 c hc),λ i hi=>⟨PX h (g.u8.2 i hi).1,PX h (g.u8.2 i hi).2⟩⟩,?_,?_,PX h g.deb,by obtain⟨ev,h1,h2⟩:=g.err;exact⟨ev,PX h h1,h2⟩⟩
 ·exact var?_below h (show Tryz.prog.globalNamed "strings.asciiSpace"=some 0 by kernel_rfl) hb.1 g.space
 ·exact var?_below h (show Tryz.prog.globalNamed "internal/strconv.uint64pow10"=some 7 by kernel_rfl) hb.2 g.pow
theorem MC(s p:A1)(w:World):Calls Tryz.prog 77 [str s,str p].toArray w λ e w'=>e= .returned (.bool (Lib.hasPrefix s p))/\w'=w:=Tryz.strings_HasPrefix ⟨⟨s⟩⟩ ⟨⟨p⟩⟩ w
theorem T1(s cut:A1)(w:World)(hc:len cut<4294967281)(ha: ∀(j:Nat) (b:UInt8),cut[j]? =some b->b.toNat<128):
  Calls Tryz.prog 47 [str s,str cut].toArray w λ e w'=>e= .returned (str (s.dropWhile (cut.contains ·)))/\Ext w w':=
 (Any.strings_TrimLeft_laid Tryz.lU (by kernel_rfl) ⟨⟨s⟩⟩ ⟨⟨cut⟩⟩ w (by unfold len at hc;show cut.length<_;omega) ha)
theorem oM(s cut:A1)(w:World)(hs:len s<=9223372036854775807)(hc:len cut<4294967281)(ha: ∀(j:Nat) (b:UInt8),cut[j]? =some b->b.toNat<128):
  Calls Tryz.prog 159 [str s,str cut].toArray w λ e w'=>e= .returned (str (Lib.trimRightS s cut))/\Ext w w':=
 (Any.strings_TrimRight_laid Tryz.lW (by kernel_rfl) ⟨⟨s⟩⟩ ⟨⟨cut⟩⟩ w (by unfold len at hs;show s.length<=_;omega) (by unfold len at hc;show cut.length<_;omega) ha)
theorem oN(s:A1)(w:World)(g:Gl w)(h:0<len s):
  Calls Tryz.prog 106 [str s].toArray w λ e w'=>e= .returned (.tuple #[.int .i32 (AQ s 0),i64 (runeLen s 0)])/\Ext w w':=by
 have h0: ¬(ByteArray.mk ⟨s⟩).size=0:=by show ¬s.length=0;unfold len at h;omega
 have:=Tryz.utf8_DecodeRuneInString ⟨⟨s⟩⟩ w g.u8
 rw[show Lib.decodeGo ⟨⟨s⟩⟩=Utf8.decode ⟨⟨s⟩⟩ 0 from by unfold Lib.decodeGo;rw[if_neg h0]]at this
 exact this
theorem T2(s:A1)(c:Int)(w:World):Calls Tryz.prog 119 [str s,.int .u8 c].toArray w λ e w'=>e= .returned (i64 (Lib.indexByte s c.toNat.toUInt8))/\w'=w:=Tryz.strings_IndexByte ⟨⟨s⟩⟩ c w
theorem repeatL_one(c:UInt8): ∀n,Lib.repeatL [c] n=List.replicate n c
 |0=>rfl
 |n+1=>by rw[Lib.repeatL,repeatL_one c n];rfl
theorem oO(c:UInt8)(n:Int)(w:World)(h0:0<=n)(h1:n<=140737488355328):
  Calls Tryz.prog 169 [str [c],i64 n].toArray w λ e w'=>e= .returned (str (List.replicate n.toNat c))/\Ext w w':=by
 by_cases ha:n=0
 ·subst ha;exact(Tryz.strings_Repeat_zero ⟨⟨[c]⟩⟩ w).mono λ e w' ⟨he,hw⟩=>⟨he,hw▸Ext.refl _⟩
 ·by_cases hb:n=1
  ·subst hb;exact(Tryz.strings_Repeat_one ⟨⟨[c]⟩⟩ w).mono λ e w' ⟨he,hw⟩=>⟨he,hw▸Ext.refl _⟩
  ·have:=Tryz.strings_Repeat_main ⟨⟨[c]⟩⟩ n.toNat w (by omega) (by omega) (by show 1*_<=_;omega) (by show 0<1;omega)
   rw[show((n.toNat:Nat):Int)=n from by omega]at this
   refine this.mono λ e w' ⟨he,hw⟩=>⟨?_,hw⟩
   rw[he];show Ending.returned (str (Lib.repeatL [c] n.toNat))=_;rw[repeatL_one]
theorem oP{w w':World}(h:Ext w w')(k:Nat):Ext w (w'.drewN k):=⟨h.os,h.tape,h.output,h.size,h.block⟩
theorem oQ(w:World)(os:Array Obj):Ext w (grow w os):=⟨rfl,rfl,rfl,by show w.heap.size<=(w.heap++os).size;rw[Array.size_append];omega,λ _ hj=>by show(w.heap++os)[_]? =_;rw[Array.getElem?_append_left hj]⟩
theorem WB(n:Int)(w:World)(g:Gl w)(h0: -9223372036854775808<=n)(h1:n<=9223372036854775807):
  Calls Tryz.prog 245 [i64 n].toArray w λ e w'=>e= .returned (str (Lib.itoa n))/\Ext w w':=
 (Tryz.strconv_Itoa n h0 h1 w g.pow).mono λ e w' ⟨he,k,os,hw⟩=>⟨he,hw▸Ext.trans (oP (Ext.refl w) k) (oQ _ os)⟩
theorem WC(s:A1)(v:Int)(w:World)(hs:len s<=9223372036854775806)(h:Lib.atoiAll s= .ok v):
  Calls Tryz.prog 120 [str s].toArray w λ e w'=>e= .returned (.tuple #[i64 v,.nilIface])/\Ext w w':=
 (Tryz.strconv_Atoi_ok ⟨⟨s⟩⟩ (by show s.length<=_;unfold len at hs;omega) v h w).mono λ e w' ⟨he,hw⟩=>⟨he,by
  rcases hw with hw|⟨t,hw⟩
  ·exact hw▸Ext.refl _
  ·exact hw▸Joins.below_bytesWorld _ _ _ _ (Nat.le_refl _)⟩
theorem oR(g:Nat)(p:Nat->Bool)(s:A1)(w:World)(hg:Gl w)(eg: ∀args w,(callFunc g args).run Tryz.prog w= .ok (.enter g args) w)(hs:len s<=9223372036854775807)
 (hp: ∀(x:Nat) (w:World),x<=1114111->Calls Tryz.prog g [.int .i32 x].toArray w λ e w'=>e= .returned (.bool (p x))/\w'=w):
 Calls Tryz.prog 210 [str s,.func (.func g) #[] #[]].toArray w λ e w'=>e= .returned (str (Lib.trimF p ⟨⟨s⟩⟩).data.toList)/\Ext w w':=
by
 have hq:PredAtRunes Tryz.prog g #[] p w:=by
  intro W x hx _
  show Calls Tryz.prog g (#[encR x]++ #[]) W _
  exact(hp x W hx).mono λ e w' ⟨he,hw⟩=>⟨he,0,hw⟩
 refine(Tryz.strings_TrimFunc_runes g #[] eg p ⟨⟨s⟩⟩ w (by show s.length<=_;unfold len at hs;omega) hg.u8 hq).mono λ e w' ⟨he,hw⟩=>⟨?_,hw⟩
 rw[he]
theorem oS{cut:A1}(h: ∀b∈cut,b.toNat<128): ∀(j:Nat) (b:UInt8),cut[j]? =some b->b.toNat<128:=λ _ b hb=>h b (List.mem_of_getElem? hb)
theorem oT(M:Mem)(s:A1)(w:World)(hM:Sat w M)(hg:Gl w)(hs:len s<4294967281)(ha: ∀(j:Nat) (b:UInt8),s[j]? =some b->b.toNat<128)(hn:(Lib.fields s).length<=maxLen):
  Calls Tryz.prog 115 [str s].toArray w λ e w'=> ∃v M',e= .returned v/\Sl M' 1 (Lib.fields s).length v ((Lib.fields s).flatMap AW)/\Grow w M w' M':=by
 refine(Tryz.strings_Fields ⟨⟨s⟩⟩ w (by show s.length<_;unfold len at hs;omega) ha hg.space).mono λ e w' ⟨he,hw⟩=>?_
 have hf:(Lib.fields s).map (λ l=>Value.string ⟨l.toArray⟩)=(Lib.fields s).flatMap AW:=by
  induction Lib.fields s with
  |nil=>rfl
  |cons a b ih=>rw[List.map_cons,ih];rfl
 have hN:=(St.start hM).newRow 9 1 (Lib.fields s).length ((Lib.fields s).flatMap AW) (by rw[G8 AW 1 DN]) hn
 refine⟨_,_,he,hN.1.sl (i:=0) U,?_⟩
 rw[hw]
 show Grow w M (w.alloc (.cells (((Lib.fields s)).map λ l=>Value.string ⟨l.toArray⟩).toArray 9)) _
 rw[hf];exact hN.1.done
end Go.Proofs.YtmjpjbmeamnfpaaGreatDoor
