/- Lemmas for the card. -/
import Derived.Test.YtmjpjbmeamnfpaaGreatDoorZf7
set_option linter.unusedVariables false
set_option linter.unusedSimpArgs false
namespace Go.Eng
open Go.RowKit
structure QG where
 V:XE
 av:List Nat
 O:Prop
 E:List Ck
def TH(W:Gd):List Prop->Prop->(Prop->Option QG)->Option QG
 |[],O,K=>K O
 |p::ps,O,K=>match W with
  | .t=>TH W ps (p/\O) K
  | .g b=>TH W ps ((b=false\/p)/\O) K
theorem TI{W:Gd}{K:Prop->Option QG}: ∀ {ps:List Prop} {O:Prop},∃O',TH W ps O K=K O'/\(O'->(W.d=true->HZ ps)/\O)
 |[],O=>⟨O,rfl,λ h=>⟨λ _=>trivial,h⟩⟩
 |p::ps,O=>by
  unfold TH
  cases W with
  |t=>
   obtain⟨O',h1,h2⟩:=TI (W:=.t) (K:=K) (ps:=ps) (O:=p/\O)
   exact⟨O',h1,λ h=>⟨λ hW=>⟨(h2 h).2.1,(h2 h).1 hW⟩,(h2 h).2.2⟩⟩
  |g b=>
   obtain⟨O',h1,h2⟩:=TI (W:=.g b) (K:=K) (ps:=ps) (O:=(b=false\/p)/\O)
   exact⟨O',h1,λ h=>⟨λ hW=>⟨(h2 h).2.1.resolve_left (by rw[show b=true from hW];decide),(h2 h).1 hW⟩,(h2 h).2.2⟩⟩
def CA(k:Nat):List Nat->Bool
 |[]=>false
 |x::l=>match Nat.beq x k with
  |true=>true
  |false=>CA k l
theorem G9{k:Nat}: ∀ {l:List Nat},CA k l=true↔k∈l
 |[]=>by simp[CA]
 |x::l=>by
  unfold CA
  split
  ·rename_i e;have:=Nat.eq_of_beq_eq_true e;subst this;simp
  ·rename_i e
   have:k≠x:=λ h=>by subst h;rw[Nat.beq_refl]at e;cases e
   rw[G9];simp[this]
def ET(p:Nat->Bool):List Nat->Bool
 |[]=>true
 |x::l=>match p x with
  |true=>ET p l
  |false=>false
theorem NI{p:Nat->Bool}: ∀ {l:List Nat},ET p l=true↔ ∀x∈l,p x=true
 |[]=>by simp[ET]
 |x::l=>by
  unfold ET
  split
  ·rename_i e;rw[NI];simp[e]
  ·rename_i e;simp[e]
def WG(l:List Oper)(j:Nat):Option Tmp:=match nth l j with
 |some o=>o.dst
 |none=>none
theorem jJ(l:List Oper)(j:Nat):WG l j=BO l j:=by
 unfold WG BO;rw[HE];cases l[j]?<;>rfl
def IN(l:List Oper)(V L:XE):List Nat->XE
 |[]=>L
 |j::js=>match WG l j with
  |some d=>match BE V d with
   |some (g,v)=>(d,g,v)::IN l V L js
   |none=>IN l V L js
  |none=>IN l V L js
theorem TJ{l:List Oper}{V L:XE}: ∀ {js:List Nat} {t:Nat} {g:Gd} {v:XV},BE (IN l V L js) t=some (g,v)->BE L t=some (g,v)\/ ∃j∈js,BO l j=some t/\BE V t=some (g,v)
 |[],_,_,_,h=>.inl h
 |j::js,t,g,v,h=>by
  unfold IN at h
  split at h
  ·rename_i d hd
   split at h
   ·rename_i g' v' hv
    unfold BE at h
    split at h
    ·rename_i e
     have:=Nat.eq_of_beq_eq_true e;subst this
     cases h
     exact .inr ⟨j,.head _,by rw[<-jJ];exact hd,hv⟩
    ·exact(TJ h).imp id λ⟨j',h1,h2⟩=>⟨j',.tail _ h1,h2⟩
   ·exact(TJ h).imp id λ⟨j',h1,h2⟩=>⟨j',.tail _ h1,h2⟩
  ·exact(TJ h).imp id λ⟨j',h1,h2⟩=>⟨j',.tail _ h1,h2⟩
def F2(T:TT)(N:Nat)(F:List (Nat×Kn))(H:List (Nat×HX))(all:List Oper)(es done:List Nat)(L:XE):Nat->List Oper->XE->List Nat->Prop->List Ck->Option QG
 |_,[],V,av,O,E=>some ⟨V,av,O,E⟩
 |i,⟨dst,op,ty,ps,af,gd⟩::l,V,av,O,E=>match CA i es with
  |true=>F2 T N F H all es done L (i+1) l V av O E
  |false=>match ET (λ j=>CA j av||CA j done) (BV ⟨dst,op,ty,ps,af,gd⟩)with
   |false=>F2 T N F H all es done L (i+1) l V av O E
   |true=>
        match dst with
    |none=>none
    |some d=>match BE L d with
     |some (g,v)=>F2 T N F H all es done L (i+1) l ((d,g,v)::V) (i::av) O E
     |none=>match IJ ⟨all⟩ (IN all V L (BV ⟨some d,op,ty,ps,af,gd⟩)) gd with
      |none=>none
      |some W=>match R6 T F H (IN all V L (BV ⟨some d,op,ty,ps,af,gd⟩)) W op with
       |none=>none
       |some (v,p,E')=>match Nat.blt d N with
        |false=>none
        |true=>TH W p O λ O'=>F2 T N F H all es done L (i+1) l ((d,W,v)::V) (i::av) O' (E'++E)
section
variable {c:Cx} {F:List (Nat×Kn)} {H:List (Nat×HX)} {l:List Oper} {es done:List Nat} {L:XE}
def WH(c:Cx)(F:List (Nat×Kn))(H:List (Nat×HX))(l:List Oper)(L:XE)(V:XE)(j:Nat):Prop:=
 ∃d op ty ps af gd W v,l[j]? =some ⟨some d,op,ty,ps,af,gd⟩/\BE V d=some (W,v)/\((∃x,BE L d=some x)\/(Nat.blt d c.N=true/\ ∀a,AJ a c.N L.d->
  (∀j'∈BV ⟨some d,op,ty,ps,af,gd⟩,∀d',BO l j'=some d'-> ∀g u,BE V d'=some (g,u)->a.tmps[d']? =some (sv g.d u.d))-> ∃LL,AJ a c.N LL/\DB l.toArray LL gd W.d/\ ∀w M,E5 c F H w M->PV c.P (· =w) LL W.d ⟨some d,op,ty,ps,af,gd⟩ v.d))
structure PO (c:Cx) (F:List (Nat×Kn)) (H:List (Nat×HX)) (l:List Oper) (es done:List Nat) (L:XE) (n:Nat) (V:XE) (av:List Nat):Prop where
 keys: ∀t x,BE V t=some x-> ∃j∈av,BO l j=some t
 lt: ∀j∈av,j<n/\j ∉ es
 ok: ∀j∈av,WH c F H l L V j
theorem TL(
                dist: ∀i j a b,BO l i=some a->BO l j=some b->i≠j->a≠b) (ac: ∀(i:Nat) o,l[i]? =some o-> ∀j∈BV o,j<i): ∀(r:List Oper) (i:Nat) (V:XE) (av:List Nat) (O:Prop) (E:List Ck) (t:QG),l.drop i=r->PO c F H l es done L i V av->F2 c.T c.N F H l es done L i r V av O E=some t->t.O->AD t.E->
    PO c F H l es done L l.length t.V t.av/\O/\AD E/\(∀j,i<=j->j<l.length->j ∉ es->(∀o,l[j]? =some o-> ∀j'∈BV o,j'∈t.av\/j'∈done)->j∈t.av)/\(∀j∈av,j∈t.av)
  |[],i,V,av,O,E,t,hr,hI,h,hO,hE=>by
    unfold F2 at h
    cases h
    have hi:l.length<=i:=by
      have:=congrArg List.length hr
      simp at this;omega
    exact⟨⟨hI.keys,λ j hj=>by
      obtain⟨d,op,ty,ps,af,gd,W,v,h1,_⟩:=hI.ok j hj
      exact⟨(List.getElem?_eq_some_iff.1 h1).1,(hI.lt j hj).2⟩,hI.ok⟩,hO,hE,λ j h1 h2=>by omega,λ j hj=>hj⟩
  |⟨dst,op,ty,ps,af,gd⟩::r,i,V,av,O,E,t,hr,hI,h,hO,hE=>by
    have hr1:l.drop (i+1)=r:=by
      rw[show i+1=i+1 from rfl,<-List.drop_drop,hr];rfl
    have hoi:l[i]? =some ⟨dst,op,ty,ps,af,gd⟩:=by
      have:=congrArg (·[0]?) hr
      simpa using this
    have hI1:PO c F H l es done L (i+1) V av:=⟨hI.keys,λ j hj=>⟨by have:=(hI.lt j hj).1;omega,(hI.lt j hj).2⟩,hI.ok⟩
    unfold F2 at h
    split at h
    · rename_i he
      obtain⟨k1,k2,k3,k4,k5⟩:=TL dist ac r (i+1) V av O E t hr1 hI1 h hO hE
      refine⟨k1,k2,k3,λ j h1 h2 h3 h4=>?_,k5⟩
      by_cases hji:j=i
      · subst hji;exact absurd (G9.1 he) h3
      · exact k4 j (by omega) h2 h3 h4
    · rename_i he
      split at h
      · rename_i hb
        obtain⟨k1,k2,k3,k4,k5⟩:=TL dist ac r (i+1) V av O E t hr1 hI1 h hO hE
        refine⟨k1,k2,k3,λ j h1 h2 h3 h4=>?_,k5⟩
        by_cases hji:j=i
        · subst hji
          exfalso
          have hall:ET (λ j=>CA j av||CA j done) (BV ⟨dst,op,ty,ps,af,gd⟩)=true:=NI.2 λ j' hj'=>by
            rcases h4 _ hoi j' hj' with h5|h5
            ·
              have hlt:=ac j _ hoi j' hj'
              rw[Bool.or_eq_true]
              left
              rw[G9]
              have: ∀j'',j''∈t.av->j''<j->j''∈av:=by
                intro j'' m1 m2
                exact(qgo_new r (j+1) V av O E t h j'' m1).resolve_right (by omega)
              exact this j' h5 hlt
            · rw[Bool.or_eq_true];right;exact G9.2 h5
          rw[hall]at hb;cases hb
        · exact k4 j (by omega) h2 h3 h4
      · rename_i hb
        have hbs: ∀j'∈BV ⟨dst,op,ty,ps,af,gd⟩,j'∈av\/j'∈done:=λ j' hj'=>by
          have:=NI.1 hb j' hj'
          rw[Bool.or_eq_true]at this
          exact this.imp G9.1 G9.1
        split at h
        · cases h
        · rename_i d
          have hdi:BO l i=some d:=by unfold BO;rw[hoi];rfl
          have hnew: ∀j∈av,∀d',BO l j=some d'->d'≠d:=λ j hj d' hd'=>dist j i d' d hd' hdi (by have:=(hI.lt j hj).1;omega)
          have hVd: ∀x,BE V d≠some x:=λ x hx=>by
            obtain⟨j,hj,hd'⟩:=hI.keys d x hx
            exact hnew j hj d hd' U
          have hlk: ∀ {g:Gd} {v:XV} {t:Nat},t≠d->BE ((d,g,v)::V) t=BE V t:=λ{g v t} hne=>by
            show(match Nat.beq d t with|true=>some (g,v)|false=>BE V t)=BE V t
            split
            · rename_i e;exact absurd (Nat.eq_of_beq_eq_true e).symm hne
            · rfl
          have hself: ∀ {g:Gd} {v:XV},BE ((d,g,v)::V) d=some (g,v):=λ{g v}=>by
            show(match Nat.beq d d with|true=>some (g,v)|false=>BE V d)=_
            rw[Nat.beq_refl]
          have hnes:i ∉ es:=λ hm=>by rw[G9.2 hm]at he;cases he
          have BC: ∀ {g:Gd} {v:XV} (j:Nat),j∈av->WH c F H l L ((d,g,v)::V) j:=λ{g v} j hj=>by
            obtain⟨d1,op1,ty1,ps1,af1,gd1,W1,v1,h1,h2,h3⟩:=hI.ok j hj
            have hd1:d1≠d:=hnew j hj d1 (by unfold BO;rw[h1];rfl)
            refine⟨d1,op1,ty1,ps1,af1,gd1,W1,v1,h1,by rw[hlk hd1];exact h2,h3.imp id λ⟨h4,h5⟩=>⟨h4,λ a ha hdep=>h5 a ha λ j' hj' d' hd' g' u hu=>hdep j' hj' d' hd' g' u ?_⟩⟩
            rw[hlk (λ e=>by subst e;exact hVd _ hu)];exact hu
          have step: ∀ {g:Gd} {v:XV},WH c F H l L ((d,g,v)::V) i->PO c F H l es done L (i+1) ((d,g,v)::V) (i::av):=λ{g v} hq=>⟨λ t x hx=>by
            by_cases e:t=d
            · subst e;exact⟨i,.head _,hdi⟩
            · rw[hlk e]at hx
              obtain⟨j,hj,hd'⟩:=hI.keys t x hx
              exact⟨j,.tail _ hj,hd'⟩,λ j hj=>by
            rcases List.mem_cons.1 hj with rfl|hj
            · exact⟨by omega,hnes⟩
            · exact hI1.lt j hj,λ j hj=>by
            rcases List.mem_cons.1 hj with rfl|hj
            · exact hq
            · exact BC j hj⟩
          have fin: ∀ {V':XE} {O':Prop} {E':List Ck},(PO c F H l es done L l.length t.V t.av/\O'/\AD E'/\(∀j,i+1<=j->j<l.length->j ∉ es->(∀o,l[j]? =some o-> ∀j'∈BV o,j'∈t.av\/j'∈done)->j∈t.av)/\(∀j∈i::av,j∈t.av))->
              PO c F H l es done L l.length t.V t.av/\O'/\AD E'/\(∀j,i<=j->j<l.length->j ∉ es->(∀o,l[j]? =some o-> ∀j'∈BV o,j'∈t.av\/j'∈done)->j∈t.av)/\(∀j∈av,j∈t.av):=λ{V' O' E'} ⟨k1,k2,k3,k4,k5⟩=>⟨k1,k2,k3,λ j h1 h2 h3 h4=>by
            by_cases hji:j=i
            · subst hji;exact k5 j (.head _)
            · exact k4 j (by omega) h2 h3 h4,λ j hj=>k5 j (.tail _ hj)⟩
          split at h
          · rename_i g v hL
            exact fin (V':=V) (TL dist ac r (i+1) _ _ O E t hr1 (step ⟨d,op,ty,ps,af,gd,g,v,hoi,hself,.inl ⟨_,hL⟩⟩) h hO hE)
          · rename_i hL
            split at h
            · cases h
            · rename_i W hW
              split at h
              · cases h
              · rename_i v p E' hv
                split at h
                · cases h
                · rename_i hd
                  obtain⟨O',hi,hO'⟩:=TI (W:=W) (K:=λ O'=>F2 c.T c.N F H l es done L (i+1) r ((d,W,v)::V) (i::av) O' (E'++E)) (ps:=p) (O:=O)
                  rw[hi]at h
                  have hob:=qgo_obl r (i+1) _ _ _ _ t h hO hE
                  obtain⟨hp,hOO⟩:=hO' hob.1
                  have hE':=(AD.app hob.2).1
                  have hq:WH c F H l L ((d,W,v)::V) i:=by
                    refine⟨d,op,ty,ps,af,gd,W,v,hoi,hself,.inr ⟨hd,λ a ha hdep=>⟨XE.d (IN l V L (BV ⟨some d,op,ty,ps,af,gd⟩)),⟨ha.size,ha.DE,λ t g' v' hx=>?_⟩,MC hW,λ w M hX=>T0 c.hT hX.f hX.st AR hv hE' hp⟩⟩⟩
                    obtain⟨g2,v2,h6,rfl,rfl⟩:=PG hx
                    rcases TJ h6 with h7|⟨j',hj',hd',h7⟩
                    · exact ha.val t _ _ (HC h7)
                    · refine hdep j' hj' t hd' g2 v2 ?_
                      rw[hlk (λ e=>by subst e;exact hVd _ h7)];exact h7
                  obtain⟨k1,k2,k3,k4,k5⟩:=fin (V':=V) (TL dist ac r (i+1) _ _ O' (E'++E) t hr1 (step hq) h hO hE)
                  exact⟨k1,hOO,(AD.app hob.2).2,k4,k5⟩
where
 qgo_new: ∀(r:List Oper) (i:Nat) (V:XE) (av:List Nat) (O:Prop) (E:List Ck) (t:QG),F2 c.T c.N F H l es done L i r V av O E=some t-> ∀j∈t.av,j∈av\/i<=j
  |[],i,V,av,O,E,t,h,j,hj=>by unfold F2 at h;cases h;exact .inl hj
  |⟨dst,op,ty,ps,af,gd⟩::r,i,V,av,O,E,t,h,j,hj=>by
   have up: ∀ {av':List Nat},(j∈av'\/i+1<=j)->(∀x∈av',x∈av\/x=i)->j∈av\/i<=j:=λ{av'} h1 h2=>by
    rcases h1 with h1|h1
    ·rcases h2 j h1 with h3|h3
     ·exact .inl h3
     ·exact .inr (by omega)
    ·exact .inr (by omega)
   have cns: ∀x∈i::av,x∈av\/x=i:=λ x hx=>by
    rcases List.mem_cons.1 hx with rfl|hx
    ·exact .inr U
    ·exact .inl hx
   unfold F2 at h
   split at h
   ·exact up (qgo_new r _ _ _ _ _ t h j hj) λ x hx=>.inl hx
   ·split at h
    ·exact up (qgo_new r _ _ _ _ _ t h j hj) λ x hx=>.inl hx
    ·split at h
     ·cases h
     ·rename_i d hb
      split at h
      ·exact up (qgo_new r _ _ _ _ _ t h j hj) cns
      ·split at h
       ·cases h
       ·rename_i W hW
        split at h
        ·cases h
        ·rename_i v p E' hv
         split at h
         ·cases h
         ·obtain⟨O',hi,_⟩:=TI (W:=W) (K:=λ O'=>F2 c.T c.N F H l es done L (i+1) r ((d,W,v)::V) (i::av) O' (E'++E)) (ps:=p) (O:=O)
          rw[hi]at h
          exact up (qgo_new r _ _ _ _ _ t h j hj) cns
 qgo_obl: ∀(r:List Oper) (i:Nat) (V:XE) (av:List Nat) (O:Prop) (E:List Ck) (t:QG),F2 c.T c.N F H l es done L i r V av O E=some t->t.O->AD t.E->O/\AD E
  |[],i,V,av,O,E,t,h,hO,hE=>by unfold F2 at h;cases h;exact⟨hO,hE⟩
  |⟨dst,op,ty,ps,af,gd⟩::r,i,V,av,O,E,t,h,hO,hE=>by
   unfold F2 at h
   split at h
   ·exact qgo_obl r _ _ _ _ _ t h hO hE
   ·split at h
    ·exact qgo_obl r _ _ _ _ _ t h hO hE
    ·split at h
     ·cases h
     ·rename_i d hb
      split at h
      ·exact qgo_obl r _ _ _ _ _ t h hO hE
      ·split at h
       ·cases h
       ·rename_i W hW
        split at h
        ·cases h
        ·rename_i v p E' hv
         split at h
         ·cases h
         ·obtain⟨O',hi,hO'⟩:=TI (W:=W) (K:=λ O'=>F2 c.T c.N F H l es done L (i+1) r ((d,W,v)::V) (i::av) O' (E'++E)) (ps:=p) (O:=O)
          rw[hi]at h
          obtain⟨h1,h2⟩:=qgo_obl r _ _ _ _ _ t h hO hE
          exact⟨(hO' h1).2,(AD.app h2).2⟩
end
theorem RT{a:Act}{dd:Option Tmp}{v:Value}{t:Nat}(h:dd≠some t):(a.put dd v).tmps[t]? =a.tmps[t]?:=by
 cases dd with
 |none=>rfl
 |some d=>
  have hne:d≠t:=λ e=>h (by rw[e])
  simp[Act.put,Array.getElem?_setIfInBounds_ne hne]
theorem y9{P:Program}{o:Oper}{a:Act}{w:World}{K:Act->World->Prop}{Q:Exit->Act->World->Prop}(h:o.wp P a w K Q):o.wp P a w (λ a' w'=>K a' w'/\ ∀t,o.dst≠some t->a'.tmps[t]? =a.tmps[t]?) Q:=by
 unfold Oper.wp at*
 generalize (execOp a.eval o).run P w=r at*
 cases r with
 |ok x w'=>
  cases x with
  |value v=>exact⟨h,λ t ht=>RT ht⟩
  |skip=>exact⟨h,λ t ht=>RT ht⟩
  |defer d=>exact⟨h,λ t ht=>RT (a:= { a with defers:=d::a.defers}) ht⟩
  |enter f args=>
   refine Calls.mono h λ e w'' k=>?_
   cases e with
   |returned v=>exact⟨k,λ t ht=>RT ht⟩
   |panicked ch=>exact k
   |outgrown=>exact k
  |row r args=>exact Rows.mono h λ v w'' k=>⟨k,λ t ht=>RT ht⟩
  |_=>exact h
 |halt s w'=>cases s<;>exact h
theorem jK{P:Program}{ops:Array Oper}{Q:Exit->Act->World->Prop}{a:Act}{w:World}{i:Nat}{o:Oper}(ho:ops[i]? =some o){K K':Act->World->Prop}(h:wpList P ops (Exit.then K Q) [o] a w)(hk: ∀a' w',K a' w'->(∀t,o.dst≠some t->a'.tmps[t]? =a.tmps[t]?)->K' a' w'):wpOp P ops Q i K' a w:=by
 unfold wpOp
 rw[ho]
 unfold wpList at h
 dsimp only
 split
 ·rename_i hw
  rw[if_pos hw]at h
  rcases h with h|⟨h1,h2⟩
  ·exact .inl (Oper.wp_mono (λ a' w' hh=>hk a' w' hh.1 hh.2) (y9 (T5 h)))
  ·exact .inr ⟨h1,h2⟩
 ·rename_i hw
  rw[if_neg hw]at h
  exact hk _ _ h λ t ht=>RT ht
def aM:Nat->List Nat
 |0=>[]
 |n+1=>n::aM n
theorem jL: ∀ {n i:Nat},i<n->i∈aM n
 |n+1,i,h=>by
  by_cases e:i=n
  ·subst e;exact .head _
  ·exact .tail _ (jL (by omega))
def TM(l:List Oper)(es bs:List Nat)(L:XE):Bool:=ET (λ j=>CA j es||CA j bs||match WG l j with|some d=> !(CA d (keys L))|none=>true) (aM l.length)
def DG(c:Cx)(B:Exit->Act->World->Prop)(k:List Fr)(l:List Oper)(es:List Nat):Nat->List Nat->List Nat->XE->List Nat->XS->Prop
 |0,_,_,_,_,_=>False
 |n+1,done,bs,V0,av0,s=> ∃V av O E,F2 c.T c.N s.F s.H l es done s.L 0 l [] [] ((0:Int)=0) []=some ⟨V,av,O,E⟩/\O/\AD E/\GZ (keys V0) V=V0/\ET (λ j=>CA j av) av0=true/\TM l es bs s.L=true/\
  (ET (λ e=>CA e done) es=true->XG c B k .next ⟨s.F,s.H,V++s.L⟩)/\
  ∀e o,l[e]? =some o->CA e es=true->CA e done=false->ET (λ j=>CA j av||CA j done) (BV o)=true->
   XG c B (.loop (DG c B k l es n (done++[e]) (bs++BV o) V av)::k) (.ops ⟨l⟩ [o]) ⟨s.F,s.H,IN l V s.L (BV o)⟩
theorem jM: ∀ {L:XE} {t:Nat} {x:Gd×XV},BE L t=some x->t∈keys L
 |[],_,_,h=>by cases h
 |(k,g,v)::L,t,x,h=>by
  unfold BE at h
  split at h
  ·rename_i e;have:=Nat.eq_of_beq_eq_true e;subst this;exact .head _
  ·exact .tail _ (jM h)
theorem jN: ∀ {V L:XE} {t:Nat},BE (V++L) t=match BE V t with|some x=>some x|none=>BE L t
 |[],_,_=>rfl
 |(k,g,v)::V,L,t=>by
  show(match Nat.beq k t with|true=>some (g,v)|false=>BE (V++L) t)=match(match Nat.beq k t with|true=>some (g,v)|false=>BE V t)with|some x=>some x|none=>BE L t
  split
  ·rfl
  ·exact jN
theorem aN{l:List Oper}{listed:Array Bool}{i:Nat}(hsz:listed.size=l.length):i∈Region.ready .any l.toArray listed↔ ∃o,l[i]? =some o/\listed.getD i true=false/\ ∀j∈BV o,listed.getD j false=true:=by
 unfold Region.ready
 rw[List.mem_filter,List.mem_range]
 constructor
 ·rintro⟨h1,h2⟩
  have h1:i<l.length:=by simpa using h1
  refine⟨l[i],by simp[h1],?_⟩
  have ho:l.toArray[i]? =some l[i]:=by simp[h1]
  rw[ho]at h2
  simp only[Bool.and_eq_true,Bool.not_eq_true',Option.map_some,Option.getD_some]at h2
  refine⟨h2.1,λ j hj=>?_⟩
  obtain⟨e,he,rfl⟩:=List.mem_map.1 hj
  have he':=List.mem_filter.1 he
  have:=(Array.all_eq_true_iff_forall_mem.1 h2.2) e (by simpa using he'.1)
  rw[he'.2]at this
  simpa using this
 ·rintro⟨o,ho,h1,h2⟩
  have hlt:=(List.getElem?_eq_some_iff.1 ho).1
  refine⟨by simpa using hlt,?_⟩
  have ho':l.toArray[i]? =some o:=by simpa using ho
  rw[ho',h1]
  simp only[Bool.not_false,Bool.true_and,Option.map_some,Option.getD_some]
  rw[Array.all_eq_true_iff_forall_mem]
  intro e he
  by_cases hb:Region.binds .any e=true
  ·rw[h2 e.on (List.mem_map.2 ⟨e,List.mem_filter.2 ⟨by simpa using he,hb⟩,rfl⟩)];simp
  ·simp[hb]
theorem jO{c:Cx}{B:Exit->Act->World->Prop}{k:List Fr}{id:Nat}{l:List Oper}{s:XS}(es:List Nat)(n:Nat)(hl: ∀ops Q l a w,c.W.list ops Q l a w->wpList c.P ops Q l a w)(hm:c.P.follows .mixedOrders=true)(hB:O5 l []=true)(hes:ET (λ e=>Nat.blt e l.length) es=true)(h:DG c B k l es n [] [] [] [] s)
  {a:Act} {w:World} (hs:GY c s a w) (t:Nat):wpOps c.P ⟨l⟩ (post c B k) (Region.schedule (c.P.follows .mixedOrders) ⟨l⟩ t) a { w with drawn:=w.drawn+1}:=by
 simp only[Region.schedule,hm,Bool.true_or,if_true]
 refine wpAny_sound _ t _ a _ ?_
 unfold O5 at hB
 simp only[Bool.and_eq_true]at hB
 obtain⟨⟨hac,hdd⟩,_⟩:=hB
 have acyc: ∀(i:Nat) o,l[i]? =some o-> ∀j∈BV o,j<i:=by
  intro i o ho j hj
  have hlt:i<l.length:=(List.getElem?_eq_some_iff.1 ho).1
  have:=List.all_eq_true.1 hac i (List.mem_range.2 hlt)
  rw[ho]at this
  simp only[Option.map_some,Option.getD_some]at this
  exact Nat.le_of_ble_eq_true (List.all_eq_true.1 this j hj)
 have dist: ∀i j a b,BO l i=some a->BO l j=some b->i≠j->a≠b:=by
  intro i j a b hi hj hij
  have h1:i<l.length:=by
   rcases Nat.lt_or_ge i l.length with h|h
   ·exact h
   ·simp[BO,h]at hi
  have h2:j<l.length:=by
   rcases Nat.lt_or_ge j l.length with h|h
   ·exact h
   ·simp[BO,h]at hj
  have:=List.all_eq_true.1 (List.all_eq_true.1 hdd i (List.mem_range.2 h1)) j (List.mem_range.2 h2)
  rw[hi,hj]at this
  simp only[Bool.or_eq_true,Bool.not_eq_true']at this
  rcases this with h|h
  ·exact absurd (Nat.eq_of_beq_eq_true h) hij
  ·intro e;subst e;simp at h
 let Inv:Array Bool->Act->World->Prop:=λ listed a w'=> ∃n done bs s V av O E,F2 c.T c.N s.F s.H l es done s.L 0 l [] [] ((0:Int)=0) []=some ⟨V,av,O,E⟩/\O/\AD E/\
  (ET (λ e=>CA e done) es=true->XG c B k .next ⟨s.F,s.H,V++s.L⟩)/\
  (∀e o,l[e]? =some o->CA e es=true->CA e done=false->ET (λ j=>CA j av||CA j done) (BV o)=true->XG c B (.loop (DG c B k l es n (done++[e]) (bs++BV o) V av)::k) (.ops ⟨l⟩ [o]) ⟨s.F,s.H,IN l V s.L (BV o)⟩)/\TM l es bs s.L=true/\(∀j∈bs,listed.getD j false=true)/\
  GY c s a w'/\(∀j,listed.getD j false=true->(j∈es/\j∈done)\/(j ∉ es/\j∈av/\ ∀d,BO l j=some d-> ∀g v,BE V d=some (g,v)->a.tmps[d]? =some (sv g.d v.d)))/\(∀e∈done,listed.getD e false=true)
 let cnt:Array Bool->Nat:=λ b=>(b.toList.filter (λ x=> !x)).length
 have cset: ∀(b:Array Bool) (i:Nat),i<b.size->b.getD i true=false->cnt (b.setIfInBounds i true)+1<=cnt b:=by
  intro b i hi hb
  have key: ∀(m:List Bool) (i:Nat),m[i]? =some false->((m.set i true).filter (λ x=> !x)).length+1=(m.filter (λ x=> !x)).length:=by
   intro m
   induction m with
   |nil=>intro i h;simp at h
   |cons x m ih=>
    intro i h
    cases i with
    |zero=>simp at h;subst h;simp
    |succ i=>
     have:=ih i (by simpa using h)
     cases x<;>simp[List.set_cons_succ,List.filter_cons]<;>omega
  have hb':b.toList[i]? =some false:=by
   simp[Array.getD,hi]at hb
   simp[hi,hb]
  have:=key b.toList i hb'
  simp only[cnt,Array.toList_setIfInBounds]
  omega
 have gd: ∀(b:Array Bool) (i:Nat),i<b.size->b.getD i true=b.getD i false:=λ b i hi=>by simp[Array.getD,hi]
 have setd: ∀(b:Array Bool) (i j:Nat),i<b.size->((b.setIfInBounds i true).getD j false=true↔j=i\/b.getD j false=true):=λ b i j hi=>by
  by_cases hji:j=i
  ·subst hji;simp[Array.getD_eq_getD_getElem?,hi]
  ·rw[Array.getD_eq_getD_getElem?,Array.getElem?_setIfInBounds_ne (Ne.symm hji),<-Array.getD_eq_getD_getElem?];simp[hji]
 have look: ∀ {done:List Nat} {s:XS} {V:XE} {av:List Nat} {O:Prop} {E:List Ck},F2 c.T c.N s.F s.H l es done s.L 0 l [] [] ((0:Int)=0) []=some ⟨V,av,O,E⟩->O->AD E->
   PO c s.F s.H l es done s.L l.length V av/\ ∀j,j<l.length->j ∉ es->(∀o,l[j]? =some o-> ∀j'∈BV o,j'∈av\/j'∈done)->j∈av:=by
  intro done s V av O E hq hO hE
  obtain⟨k1,_,_,k4,_⟩:=TL dist acyc l 0 [] [] _ [] ⟨V,av,O,E⟩ (by simp) ⟨λ t x hx=>(by cases hx),λ j hj=>(by cases hj),λ j hj=>(by cases hj)⟩ hq hO hE
  exact⟨k1,λ j h1 h2 h3=>k4 j (Nat.zero_le _) h1 h2 h3⟩
 have hend: ∀listed a w',Inv listed a w'->listed.size=l.length->Region.ready .any l.toArray listed=[]->post c B k .normal a w':=by
  rintro listed a w' ⟨n,done,bs,s,V,av,O,E,hq,hO,hE,hfin,_,_,_,hsat,hli,hdn⟩ hsz hr
  have all: ∀i,i<l.length->listed.getD i false=true:=by
   intro i
   induction i using Nat.strongRecOn with
   |_ i ih=>
    intro hi
    cases hli:listed.getD i false with
    |true=>rfl
    |false=>
     exfalso
     have:i∈Region.ready .any l.toArray listed:=(aN hsz).2 ⟨l[i],by simp[hi],by rw[gd _ _ (by omega)];exact hli,λ j hj=>by
      have hlt:=acyc i l[i] (by simp[hi]) j hj
      exact ih j hlt (by omega)⟩
     rw[hr]at this;cases this
  obtain⟨hI,_⟩:=look hq hO hE
  have hdall:ET (λ e=>CA e done) es=true:=NI.2 λ e he=>by
   have hlt:e<l.length:=Nat.le_of_ble_eq_true (NI.1 hes e he)
   rcases hli e (all e hlt)with⟨_,h2⟩|⟨h1,_⟩
   ·exact G9.2 h2
   ·exact absurd he h1
  obtain⟨hsl,hM⟩:=hsat
  refine hfin hdall a w' ⟨⟨hsl.size,hsl.DE,λ t g v ht=>?_⟩,hM⟩
  obtain⟨g',v',h3,rfl,rfl⟩:=PG ht
  rw[jN]at h3
  split at h3
  ·rename_i x hx
   cases h3
   obtain⟨j,hj,hd⟩:=hI.keys t _ hx
   rcases hli j (all j (hI.lt j hj).1)with⟨h4,_⟩|⟨_,h5,h6⟩
   ·exact absurd h4 (hI.lt j hj).2
   ·exact h6 t hd g' v' hx
  ·exact hsl.val t _ _ (HC h3)
 have main: ∀fuel listed a w',Inv listed a w'->listed.size=l.length->cnt listed<=fuel->wpAny c.P .any l.toArray (post c B k) fuel listed a w':=by
  intro fuel
  induction fuel with
  |zero=>
   intro listed a w' hI hsz hc
   have hr:Region.ready .any l.toArray listed=[]:=by
    refine List.eq_nil_iff_forall_not_mem.2 λ i hi=>?_
    obtain⟨o,ho,h1,_⟩:=(aN hsz).1 hi
    have:=cset listed i (by rw[hsz];exact(List.getElem?_eq_some_iff.1 ho).1) h1
    omega
   exact⟨hr,hend listed a w' hI hsz hr⟩
  |succ fuel ih=>
   intro listed a w' hI hsz hc
   refine⟨λ hr=>hend listed a w' hI hsz hr,λ i hi=>?_⟩
   obtain⟨n,done,bs,s,V,av,O,E,hq,hO,hE,hfin,hnx,hcb,hbs,hsat,hli,hdn⟩:=hI
   obtain⟨o,ho,hnl,hdep⟩:=(aN hsz).1 hi
   have hil:=(List.getElem?_eq_some_iff.1 ho).1
   have hnl':listed.getD i false=false:=by rw[<-gd _ _ (by omega)];exact hnl
   have ho':l.toArray[i]? =some o:=by simpa using ho
   obtain⟨hQ,hcov⟩:=look hq hO hE
   have hdp: ∀j∈BV o,j∈av\/j∈done:=λ j hj=>(hli j (hdep j hj)).elim (λ h=>.inr h.2) (λ h=>.inl h.2.1)
   obtain⟨hsl,M,hX⟩:=hsat
   have hcs:cnt (listed.setIfInBounds i true)<=fuel:=by have:=cset listed i (by omega) hnl;omega
   cases hes2:CA i es with
   |true=>
    have hie:=G9.1 hes2
    have hid:CA i done=false:=by
     cases hh:CA i done with
     |false=>rfl
     |true=>have:=hdn i (G9.1 hh);rw[hnl']at this;cases this
    have hstep:=hnx i o ho hes2 hid (NI.2 λ j hj=>by rw[Bool.or_eq_true];exact(hdp j hj).imp G9.2 G9.2)
    have hs2:AJ a c.N (XE.d (IN l V s.L (BV o))):=⟨hsl.size,hsl.DE,λ t g v ht=>by
     obtain⟨g',v',h3,rfl,rfl⟩:=PG ht
     rcases TJ h3 with h4|⟨j,hj,hd,h4⟩
     ·exact hsl.val t _ _ (HC h4)
     ·obtain⟨j2,hj2,hd2⟩:=hQ.keys t _ h4
      have hjj:j=j2:=Classical.byContradiction λ hne=>dist j j2 t t hd hd2 hne U
      subst hjj
      rcases hli j (hdep j hj)with⟨h5,_⟩|⟨_,_,h6⟩
      ·exact absurd h5 (hQ.lt j hj2).2
      ·exact h6 t hd g' v' h4⟩
    have h5:=hl _ _ _ _ _ (hstep a w' ⟨hs2,M,hX⟩)
    refine jK (K:=λ a w=> ∃s',DG c B k l es n (done++[i]) (bs++BV o) V av s'/\GY c s' a w) ho' h5 λ a' w'' ⟨s',hD,hsat'⟩ hput=>?_
    cases n with
    |zero=>exact hD.elim
    |succ n=>
     obtain⟨V',av',O',E',hq',hO',hE',hst,hav,hcb',hfin',hnx'⟩:=hD
     obtain⟨hQ',_⟩:=look hq' hO' hE'
     refine ih _ a' w'' ⟨n,done++[i],bs++BV o,s',V',av',O',E',hq',hO',hE',hfin',hnx',hcb',λ j hj=>(setd _ _ _ (by omega)).2 (.inr ((List.mem_append.1 hj).elim (hbs j) (hdep j))),hsat',λ j hj=>?_,λ e he=>?_⟩ (by simp[hsz]) hcs
     ·rcases(setd _ _ _ (by omega)).1 hj with rfl|hj
      ·exact .inl ⟨hie,by simp⟩
      ·rcases hli j hj with⟨h6,h7⟩|⟨h6,h7,h8⟩
       ·exact .inl ⟨h6,by simp[h7]⟩
       ·refine .inr ⟨h6,G9.1 (NI.1 hav j h7),λ d hd g v hv=>?_⟩
        obtain⟨d0,op,ty,ps,af,gd',W,v0,h9,h10,h11⟩:=hQ.ok j h7
        have hd0:d0=d:=by
         have:BO l j=some d0:=by unfold BO;rw[h9];rfl
         rw[hd]at this;exact(Option.some.inj this).symm
        subst hd0
        have h12:BE V' d0=some (W,v0):=by
         have:BE (GZ (keys V) V') d0=some (W,v0):=by rw[hst];exact h10
         exact VX _ _ _ _ _ this
        rw[h12]at hv;cases hv
        rw[hput d0 (λ e=>dist i j d0 d0 (by unfold BO;rw[ho];exact e) hd (λ e2=>by subst e2;exact h6 hie) rfl)]
        exact h8 d0 hd _ _ h10
     ·rcases List.mem_append.1 he with he|he
      ·exact(setd _ _ _ (by omega)).2 (.inr (hdn e he))
      ·rw[List.mem_singleton]at he;subst he;exact(setd _ _ _ (by omega)).2 (.inl rfl)
   |false=>
    have hie:i ∉ es:=λ h=>by rw[G9.2 h]at hes2;cases hes2
    have hiav:i∈av:=hcov i hil hie λ o2 ho2 j hj=>by rw[ho]at ho2;cases ho2;exact hdp j hj
    obtain⟨d,op,ty,ps,af,gd',W,v,h9,h10,h11⟩:=hQ.ok i hiav
    rw[ho]at h9;cases h9
    have hdi:BO l i=some d:=by unfold BO;rw[ho];rfl
    have hLd:BE s.L d=none:=by
     have:=NI.1 hcb i (jL hil)
     have hib:CA i bs=false:=by
      cases hh:CA i bs with
      |false=>rfl
      |true=>have:=hbs i (G9.1 hh);rw[hnl']at this;cases this
     rw[hes2,hib,jJ,hdi]at this
     simp only[Bool.false_or,Bool.not_eq_true']at this
     cases hx:BE s.L d with
     |none=>rfl
     |some x=>have hk:=G9.2 (jM hx);rw[hk]at this;cases this
    obtain⟨hd,h12⟩:=h11.resolve_left (λ⟨x,hx⟩=>by rw[hLd]at hx;cases hx)
    obtain⟨LL,hLL,hwt,hpv⟩:=h12 a hsl λ j' hj' d' hd' g u hu=>by
     obtain⟨j2,hj2,hd2⟩:=hQ.keys d' _ hu
     have hjj:j'=j2:=Classical.byContradiction λ hne=>dist j' j2 d' d' hd' hd2 hne U
     subst hjj
     rcases hli j' (hdep j' hj')with⟨h5,_⟩|⟨_,_,h6⟩
     ·exact absurd h5 (hQ.lt j' hj2).2
     ·exact h6 d' hd' g u hu
    have hstep:wpOp c.P l.toArray (post c B k) i (λ a' w''=>w''=w'/\a'.tmps.size=c.N/\a'.defers=[]/\a'.tmps[d]? =some (sv W.d v.d)/\ ∀t,d≠t->a'.tmps[t]? =a.tmps[t]?) a w':=by
     refine jK (K:=λ a' w''=>w''=w'/\AJ a' c.N ((d,W.d,v.d)::LL)) ho' (RL.v (rest:=[]) (Q:=Exit.then (λ a' w''=>w''=w'/\AJ a' c.N ((d,W.d,v.d)::LL)) (post c B k)) hwt (hpv w' M hX) hd (λ a2 hs2=>(show w'=w'/\AJ a2 c.N ((d,W.d,v.d)::LL)from⟨rfl,hs2⟩)) a hLL) λ a' w'' ⟨e1,e2⟩ e3=>⟨e1,e2.size,e2.DE,e2.val d _ _ (KL _ _ _ _),λ t ht=>e3 t (λ e=>ht (Option.some.inj e))⟩
    refine wpOp_mono (λ a' w'' ⟨e0,e1,e2,e3,e4⟩=>?_) hstep
    subst e0
    have hsl':AJ a' c.N s.L.d:=⟨e1,e2,λ t g u ht=>by
     by_cases hdt:d=t
     ·subst hdt
      obtain⟨g',v',h3,_,_⟩:=PG ht
      rw[hLd]at h3;cases h3
     ·rw[e4 t hdt];exact hsl.val t g u ht⟩
    refine ih _ a' w'' ⟨n,done,bs,s,V,av,O,E,hq,hO,hE,hfin,hnx,hcb,λ j hj=>(setd _ _ _ (by omega)).2 (.inr (hbs j hj)),⟨hsl',M,hX⟩,λ j hj=>?_,λ e he=>(setd _ _ _ (by omega)).2 (.inr (hdn e he))⟩ (by simp[hsz]) hcs
    rcases(setd _ _ _ (by omega)).1 hj with rfl|hj
    ·refine .inr ⟨hie,hiav,λ d2 hd2 g u hu=>?_⟩
     rw[hdi]at hd2;cases hd2
     rw[h10]at hu;cases hu;exact e3
    ·rcases hli j hj with h6|⟨h6,h7,h8⟩
     ·exact .inl h6
     ·refine .inr ⟨h6,h7,λ d2 hd2 g u hu=>?_⟩
      have hne:d≠d2:=dist i j d d2 hdi hd2 (λ e=>by subst e;rw[hnl']at hj;cases hj)
      rw[e4 d2 hne];exact h8 d2 hd2 g u hu
 cases n with
 |zero=>exact h.elim
 |succ n=>
  obtain⟨V,av,O,E,hq,hO,hE,_,_,hcb,hfin,hnx⟩:=h
  obtain⟨hsl,M,hX⟩:=hs
  refine main _ _ a _ ⟨n,[],[],s,V,av,O,E,hq,hO,hE,hfin,hnx,hcb,(λ j hj=>by cases hj),⟨hsl,M,hX.st.ext (Ext.drew w),hX.f,hX.le⟩,λ j hj=>?_,(λ e he=>by cases he)⟩ (by simp) ?_
  ·exfalso
   rcases Nat.lt_or_ge j l.length with h|h
   ·simp[Array.getD,h]at hj
   ·simp[Array.getD,Nat.not_lt.2 h]at hj
  ·simp[cnt]
section
variable {c:Cx} {B:Exit->Act->World->Prop} {k k':List Fr} {m:Md} {s s':XS} {O:Prop} {E:List Ck} {l:List Oper} {es done bs:List Nat} {n:Nat} {V0 V:XE} {av0 av:List Nat}
def ON(l:List Oper)(done av:List Nat):List Nat->List Nat
 |[]=>[]
 |e::es=>match CA e done with
  |true=>ON l done av es
  |false=>match nth l e with
   |none=>ON l done av es
   |some o=>match ET (λ j=>CA j av||CA j done) (BV o)with
    |true=>e::ON l done av es
    |false=>ON l done av es
theorem aO{e:Nat}{o:Oper}(ho:l[e]? =some o)(hd:CA e done=false)(hb:ET (λ j=>CA j av||CA j done) (BV o)=true): ∀ {es:List Nat},e∈es->e∈ON l done av es
 |x::es,h=>by
  unfold ON
  by_cases hx:e=x
  ·subst hx
   rw[hd]
   have:nth l e=some o:=by rw[HE];exact ho
   rw[this]
   dsimp only
   rw[hb]
   exact .head _
  ·have h':e∈es:=by rcases List.mem_cons.1 h with rfl|h;exact absurd rfl hx;exact h
   have ih:=aO ho hd hb h'
   split
   ·exact ih
   ·split
    ·exact ih
    ·split
     ·exact .tail _ ih
     ·exact ih
theorem MK(es:List Nat)(n:Nat){id:Nat}(hl: ∀ops Q l a w,c.W.list ops Q l a w->wpList c.P ops Q l a w)(h:run c.T c.N k m s=⟨k',.code (.region id ⟨l⟩ true),s',O,E⟩)(hE:AD E)(hO:O)(hm:c.P.follows .mixedOrders=true)(hB:(O5 l []&&ET (λ e=>Nat.blt e l.length) es)=true)(hn:DG c B k' l es n [] [] [] [] s'):XG c B k m s:=by
 rw[Bool.and_eq_true]at hB
 exact CX h hE hO λ a w hs=>c.W.drawS (jO (id:=id) es n hl hm hB.1 hB.2 hn hs)
theorem IP(hq:F2 c.T c.N s.F s.H l es done s.L 0 l [] [] ((0:Int)=0) []=some ⟨V,av,O,E⟩)(hE:AD E)(hO:O)(hk:GZ (keys V0) V=V0)(hc:(ET (λ j=>CA j av) av0,TM l es bs s.L,ET (λ e=>CA e done) es)=(true,true,true))
  (hn:XG c B k .next ⟨s.F,s.H,V++s.L⟩):DG c B k l es (n+1) done bs V0 av0 s:=by
 simp only[Prod.mk.injEq]at hc
 exact⟨V,av,O,E,hq,hO,hE,hk,hc.1,hc.2.1,λ _=>hn,λ e o _ h1 h2 _=>by rw[NI.1 hc.2.2 e (G9.1 h1)]at h2;cases h2⟩
theorem D2(e:Nat){o:Oper}(hq:F2 c.T c.N s.F s.H l es done s.L 0 l [] [] ((0:Int)=0) []=some ⟨V,av,O,E⟩)(hE:AD E)(hO:O)(hk:GZ (keys V0) V=V0)(hc:(ET (λ j=>CA j av) av0,TM l es bs s.L,ET (λ e=>CA e done) es,ON l done av es,nth l e)=(true,true,false,[e],some o))
  (hn:XG c B (.loop (DG c B k l es n (done++[e]) (bs++BV o) V av)::k) (.ops ⟨l⟩ [o]) ⟨s.F,s.H,IN l V s.L (BV o)⟩):DG c B k l es (n+1) done bs V0 av0 s:=by
 simp only[Prod.mk.injEq]at hc
 obtain⟨c1,c2,c3,c4,c5⟩:=hc
 refine⟨V,av,O,E,hq,hO,hE,hk,c1,c2,(λ h=>by rw[c3]at h;cases h),λ e' o' ho' h1 h2 h3=>?_⟩
 have:=aO ho' h2 h3 (G9.1 h1)
 rw[c4,List.mem_singleton]at this
 subst this
 rw[HE,ho']at c5;cases c5
 exact hn
theorem jQ(e1 e2:Nat){o1 o2:Oper}(hq:F2 c.T c.N s.F s.H l es done s.L 0 l [] [] ((0:Int)=0) []=some ⟨V,av,O,E⟩)(hE:AD E)(hO:O)(hk:GZ (keys V0) V=V0)(hc:(ET (λ j=>CA j av) av0,TM l es bs s.L,ET (λ e=>CA e done) es,ON l done av es,nth l e1,nth l e2)=(true,true,false,[e1,e2],some o1,some o2))
  (hn1:XG c B (.loop (DG c B k l es n (done++[e1]) (bs++BV o1) V av)::k) (.ops ⟨l⟩ [o1]) ⟨s.F,s.H,IN l V s.L (BV o1)⟩)
  (hn2:XG c B (.loop (DG c B k l es n (done++[e2]) (bs++BV o2) V av)::k) (.ops ⟨l⟩ [o2]) ⟨s.F,s.H,IN l V s.L (BV o2)⟩):DG c B k l es (n+1) done bs V0 av0 s:=by
 simp only[Prod.mk.injEq]at hc
 obtain⟨c1,c2,c3,c4,c5,c6⟩:=hc
 refine⟨V,av,O,E,hq,hO,hE,hk,c1,c2,(λ h=>by rw[c3]at h;cases h),λ e' o' ho' h1 h2 h3=>?_⟩
 have:=aO ho' h2 h3 (G9.1 h1)
 rw[c4]at this
 rcases List.mem_cons.1 this with rfl|this
 ·rw[HE,ho']at c5;cases c5;exact hn1
 ·rw[List.mem_singleton]at this
  subst this
  rw[HE,ho']at c6;cases c6;exact hn2
theorem CL{J:XS->Prop}(h:run c.T c.N k m s=⟨.loop J::k',.next,s',O,E⟩)(hE:AD E)(hO:O)(hJ:J s'):XG c B k m s:=
 CX h hE hO λ a w hs=>⟨s',hJ,hs⟩
theorem yA{α:Type}[Inhabited α](kk:Nat)(e:TypeId)(sz:Nat)(f:α->List Value)(hf: ∀x,(f x).length=sz)
  (hn:XG c B k m ⟨(kk,kn (.slice none 0 0) sz ([]:List α) f)::s.F,(kk,.ho (.own e sz (.slice none 0 0) ([]:List α).length (([]:List α).flatMap f)))::s.H,s.L⟩):XG c B k m s:=
 λ a w ⟨h1,M,h2⟩=>hn a w ⟨h1,M,h2.st.KN e sz,CK ⟨Sl.nil M sz,hf,trivial⟩ h2.f,h2.le⟩
theorem yB(kk:Nat){α:Type}{inh:Inhabited α}{v:Value}{sz:Nat}{r:List α}{f:α->List Value}{g:Mem->Prop}{hg: ∀M M',M.le M'->g M->g M'}(hk:OH s.F s.H kk=some (@Kn.mk α inh v sz r f g hg))(hn: ∀a q,v= .slice a r.length q->XG c B k m s):XG c B k m s:=λ a w ⟨h1,M,h2⟩=>by
 obtain⟨M',Hs',_,hK⟩:=R7 h2.f h2.st hk
 obtain⟨p,q,hv,_⟩:=hK.sl.val
 exact hn p q hv a w ⟨h1,M,h2⟩
theorem CZ{γ:Type}(ids:List Nat){all:Array Oper}{rest:List Oper}{d:Nat}{ty:TypeId}{ps:String}{af:Array Edge}{f:FuncId}{xs:List Operand}{tys:Array TypeId}{gd:Option (Nat×Bool)}{W:Gd}{vs:List XV}{E2:List Ck}{u:Value}(ux:XV){pu:γ->Prop}{A R:List (Nat×HX)}
  (h:run c.T c.N k m s=⟨k',.ops all (⟨some d,.call ⟨.value (.func f),⟨xs⟩,tys⟩,ty,ps,af,gd⟩::rest),s',O,E⟩) (hE:AD E) (hO:O) (ct:CT c.P f) (hg:(IJ all s'.L gd,Nat.blt d c.N)=(some W,true)) (hx:J6 s'.L W xs=some (vs,E2)) (hE2:AD E2) (hA:L1 ids s'.H=some (A,R))
  (hc:W.d=true-> ∀w M,St c.w0 c.M0 w M (HD A++(HD R++c.Hr))->BF M s'.F->Calls c.P f (vs.map XV.d).toArray w (DT c.w0 c.M0 M (HD R++c.Hr) (λ _:γ=>u) pu (λ _=>[]) (λ _=>HD A))) (hu:ux.d=u) (hn:XG c B k' (.ops all rest) ⟨s'.F,s'.H,(d,W,ux)::s'.L⟩):XG c B k m s:=by
 simp only[Prod.mk.injEq]at hg
 refine CX h hE hO λ a w ⟨hs,M,hX⟩=>?_
 have hwt:=DB.wanted (o:=⟨some d,.call ⟨.value (.func f),⟨xs⟩,tys⟩,ty,ps,af,gd⟩) (MC hg.1) hs
 have hxd:=NB hx hE2
 have hput: ∀a',AJ a' c.N s'.L.d-> ∀v,v=sv W.d ux.d->AJ (a'.put (some d) v) c.N (XE.d ((d,W,ux)::s'.L)):=λ a' hs' v hv=>by
  rw[hv];exact hs'.put hg.2 W.d ux.d
 cases hWd:W.d with
 |true=>
  rw[hWd]at hwt hxd
  have hSt:St c.w0 c.M0 w M (HD A++(HD R++c.Hr)):=hX.st.perm (by rw[<-List.append_assoc];exact(OJ hA).append_right _)
  refine c.W.want hwt (c.W.one ?_)
  refine wpList_plain U λ K hK=>?_
  have e1:(⟨xs⟩:Array Operand)=xs.toArray:=rfl
  have key:=O3 (P:=c.P) (w:=w) ct hxd hs U (d:=some d) (tys:=tys) (ty:=ty) (ps:=ps) (af:=af) (gd:=none)
  rw[e1]
  simp only[Oper.wp,key,Oper.upon_enter]
  refine(hc hWd w M hSt hX.f).mono λ e w' he=>?_
  obtain⟨g,M',rfl,hp,hle,hS,hF⟩:=he
  refine hK _ _ (c.W.back (hn _ w' ⟨hput a hs _ (by rw[hWd,hu];rfl),M',?_,hX.f.mono hle,hX.le.trans hle⟩))
  exact hS.perm (by rw[<-List.append_assoc];exact((OJ hA).append_right _).symm)
 |false=>
  refine c.W.one ?_
  unfold wpList
  rw[hwt,hWd]
  exact c.W.back (hn _ w ⟨hput a hs _ (by rw[hWd];rfl),M,hX⟩)
theorem E5.CQ {F:List (Nat×Kn)}{H:List (Nat×HX)}{w:World}{M:Mem}(ids:List Nat){A R:List (Nat×HX)}(h:E5 c F H w M)(hA:L1 ids H=some (A,R)):St c.w0 c.M0 w M (HD A++c.Hr):=by
 have h1:St c.w0 c.M0 w M (HD A++(HD R++c.Hr)):=h.st.perm (by rw[<-List.append_assoc];exact(OJ hA).append_right _)
 exact h1.drop _ (List.Sublist.append_left (List.sublist_append_right _ _) _)
theorem yC{all:Array Oper}{rest:List Oper}{d:Nat}{ty:TypeId}{ps:String}{af:Array Edge}{f:FuncId}{xs:List Operand}{tys:Array TypeId}{vs:List XV}{E2:List Ck}{u:Value}{v:XV}(hM:Sat c.w0 c.M0)(hb:c.Hr=[])(hle:c.M1=c.M0)
  (h:run c.T c.N k m s=⟨k',.ops all (⟨some d,.call ⟨.value (.func f),⟨xs⟩,tys⟩,ty,ps,af,none⟩::rest),s',O,E⟩) (hE:AD E) (hO:O) (ct:CT c.P f) (hd:Nat.blt d c.N=true) (hx:J6 s'.L .t xs=some (vs,E2)) (hE2:AD E2)
  (hc: ∀w M,E5 c s'.F s'.H w M->Calls c.P f (vs.map XV.d).toArray w (λ e w'=>e= .returned u/\Ext c.w0 w')) (hv:vx u=some v) (hn:XG c B k' (.ops all rest) ⟨[],[],(d,.t,v)::s'.L⟩):XG c B k m s:=by
 refine CX h hE hO λ a w ⟨hs,M,hX⟩=>?_
 have hxd:=NB hx hE2
 refine c.W.one ?_
 refine wpList_plain U λ K hK=>?_
 have e1:(⟨xs⟩:Array Operand)=xs.toArray:=rfl
 have key:=O3 (P:=c.P) (w:=w) ct hxd hs U (d:=some d) (tys:=tys) (ty:=ty) (ps:=ps) (af:=af) (gd:=none)
 rw[e1]
 simp only[Oper.wp,key,Oper.upon_enter]
 refine(hc w M hX).mono λ e w' ⟨he,hw⟩=>?_
 subst he
 have hp:=TC hs hd v
 rw[aB hv]at hp
 exact hK _ _ (c.W.back (hn _ w' ⟨hp,c.M0,by show St _ _ _ _ ([]++c.Hr);rw[hb];exact(Ak hM).ext hw,AA,by rw[hle];exact Mem.le.refl _⟩))
end
def L6{α:Type}(xs:List (List α))(k:Int):List α:=(xs.take k.toNat).flatten
theorem aP{α:Type}{xs:List (List α)}{k:Int}(h0:0<=k)(h1:k<len xs):L6 xs (k+1)=L6 xs k++at' xs k:=by
 have hk:k.toNat<xs.length:=by unfold len at h1;omega
 unfold L6 at'
 rw[show(k+1).toNat=k.toNat+1 from by omega,List.take_add_one,List.flatten_append]
 simp[hk]
theorem jR{α:Type}{xs:List (List α)}{k:Int}(h:len xs<=k):L6 xs k=xs.flatten:=by
 unfold L6;rw[List.take_of_length_le (by unfold len at h;omega)]
theorem WI{α:Type}(xs:List (List α))(k:Int):len (L6 xs k)<=len xs.flatten:=by
 have h:(xs.take k.toNat).flatten++(xs.drop k.toNat).flatten=xs.flatten:=by rw[<-List.flatten_append,List.take_append_drop]
 unfold L6
 rw[<-h,A5];have:=A4 (xs.drop k.toNat).flatten;omega
theorem at_mem{α:Type}[Inhabited α]{l:List α}{k:Int}(h0:0<=k)(h1:k<len l):at' l k∈l:=UZ h0 h1
theorem yD{α:Type}[Inhabited α]{l:List α}{x:α}(h:x∈l): ∃i:Int,0<=i/\i<len l/\at' l i=x:=by
 obtain⟨i,hi,e⟩:=List.getElem_of_mem h
 refine⟨i,by omega,by unfold len;omega,?_⟩
 obtain⟨hlt,e2⟩:=EU l (i:=i) (by omega) (by unfold len;omega)
 rw[e2];simpa using e
theorem NJ{α:Type}[Inhabited α]{l:List α}{k:Int}(h0:0<=k)(h1:k<len l):Eng.sub l 0 (k+1)=Eng.sub l 0 k++[at' l k]:=by
 obtain⟨hlt,e⟩:=EU l h0 h1
 unfold Eng.sub
 rw[e,show(k+1).toNat-(0:Int).toNat=k.toNat+1 by omega,show k.toNat-(0:Int).toNat=k.toNat by omega]
 simp only[Int.toNat_zero,List.drop_zero]
 rw[List.take_add_one,List.getElem?_eq_getElem hlt];rfl
theorem L7{α:Type}{l:List α}{k:Int}(h:len l<=k):Eng.sub l 0 k=l:=by
 unfold Eng.sub len at*
 simp only[Int.toNat_zero,List.drop_zero,Nat.sub_zero]
 exact List.take_of_length_le (by omega)
set_option maxRecDepth 100000
theorem PV.yE {P:Program}{C:World->Prop}{L:Env}{W:Bool}{d:Option Tmp}{ty:TypeId}{ps:String}{af:Array Edge}{gd:Option (Nat×Bool)}{t t' e:TypeId}{x:Operand}{M:Mem}{sz n n' c':Nat}{v:Value}{cs:List Value}(hS:Sl M sz n v cs)(hn:0<n)(hx:A8 L W x v)(ht:P.underlying t=some (.slice e)):
  PV P C L W ⟨d,.binOp .eql t x (.const (.slice none n' c')) t',ty,ps,af,gd⟩ (.bool false):=
 .bin hx .c λ _ w _=>by
  obtain⟨p,cap,rfl,_,_,hp⟩:=hS.val
  obtain⟨b,o,rfl,_⟩:=hp hn
  have:=Lib.run_eql_slice_nil (P:=P) w t e (some ⟨b,o,none⟩) n cap n' c' ht
  simp[go_sem,this,eqGuard]
end Go.Eng
namespace Go.Proofs.YtmjpjbmeamnfpaaGreatDoor
open Go.Proofs.Tryz
open Go.Eng
theorem Tm.cells_one (x:Tm): ∀u∈x.cells,u.oneCell'=true:=by intro u hu;simp[Tm.cells]at hu;rcases hu with rfl|rfl|rfl|rfl|rfl|rfl|rfl|rfl|rfl|rfl|rfl<;>rfl
abbrev GA(u:Value)(hs:List AX)(xs:List Fl):Kn:=⟨u,1,hs,DN,λ M=>D1 M 11 Tm.cells hs xs,λ _ _ hm h=>D1.mono hm h⟩
abbrev B7(u:Value)(x:Fl):Kn:=kn u 11 x Tm.cells
theorem WJ{M:Mem}{u:Value}{hs:List AX}{xs:List Fl}(h:(GA u hs xs).ok M){k:Int}(h0:0<=k)(h1:k<len hs):(B7 (at' hs k).v (at' xs k)).ok M:=⟨D1.at h.more h0 h1,Tm.B4,trivial⟩
theorem jS{M:Mem}{u:Value}{hs:List AX}{xs:List Fl}(h:(GA u hs xs).ok M):len hs=len xs:=by have:=D1.len (f:=Tm.cells) h.more;unfold len;omega
end Go.Proofs.YtmjpjbmeamnfpaaGreatDoor
namespace Go.Eng
def EJ(f:Fl)(i:Int)(us:List Tf)(R:Fl):Prop:=0<=i/\f.drop i.toNat=AM us++R
theorem Tf.KC (u:Tf):u.flat= { u.t with many:=len u.ps}::AM u.ps:=by cases u;rfl
theorem JG: ∀(a b:List Tf),AM (a++b)=AM a++AM b
 |[],b=>rfl
 |x::a,b=>by show x.flat++AM (a++b)=(x.flat++AM a)++AM b;rw[JG a b,List.append_assoc]
theorem EJ.step {f:Fl}{i:Int}{u:Tf}{us:List Tf}{R:Fl}(h:EJ f i (u::us) R):i<len f/\at' f i= { u.t with many:=len u.ps}/\EJ f (i+1) (u.ps++us) R:=by
 obtain⟨h0,h1⟩:=h
 have e:f.drop i.toNat= { u.t with many:=len u.ps}::(AM u.ps++(AM us++R)):=by
  rw[h1];show(u.flat++AM us)++R=_;rw[Tf.KC];simp
 have hlt:i.toNat<f.length:=by
  rcases Nat.lt_or_ge i.toNat f.length with h|h
  ·exact h
  ·rw[List.drop_of_length_le h]at e;cases e
 refine⟨by unfold len;omega,?_,by omega,?_⟩
 ·obtain⟨h2,h3⟩:=EU f h0 (by unfold len;omega)
  rw[h3]
  have:=congrArg (·[0]?) e
  simpa[hlt]using this
 ·rw[show(i+1).toNat=i.toNat+1 by omega,<-List.drop_drop,e]
  show AM u.ps++(AM us++R)=_
  rw[JG,List.append_assoc]
theorem EJ.OO {f:Fl}{i:Int}{us:List Tf}{R:Fl}(h:EJ f i us R)(hi:i<=len f):i+len (AM us)+len R=len f:=by
 have:=congrArg List.length h.2
 rw[List.length_drop,List.length_append]at this
 unfold len at*
 have:=h.1;omega
theorem EJ.part {f:Fl}{i j:Int}{u:Tf}{R:Fl}(h:EJ f i [u] R)(h2:EJ f j [] R)(hij:i<=j)(hj:j<=len f):Eng.sub f i j=u.flat:=by
 have h3:=h.OO (by omega)
 have h4:=h2.OO hj
 have e1:AM [u]=u.flat:=by show u.flat++AM []=_;simp[AM]
 have e2:len (AM [])=0:=rfl
 rw[e1]at h3
 unfold Eng.sub
 rw[h.2,e1,show j.toNat-i.toNat=u.flat.length by have:=h.1;unfold len at*;omega]
 exact List.take_left
theorem EJ.next {f:Fl}{i:Int}{us:List Tf}{k:Nat}(h:EJ f i (us.drop k) [])(hk:k<us.length):EJ f i [at' us k] (AM (us.drop (k+1))):=by
 refine⟨h.1,?_⟩
 rw[h.2]
 have e:us.drop k=at' us (k:Int)::us.drop (k+1):=by
  obtain⟨h1,h2⟩:=EU us (i:=(k:Int)) (by omega) (by unfold len;omega)
  rw[h2]
  rw[List.drop_eq_getElem_cons hk];simp
 rw[e]
 show(at' us (k:Int)).flat++AM _++[]=_
 simp[AM]
theorem Tf.yF (t:Tf):(at' t.flat 0).many=len t.ps:=by rw[Tf.KC];rfl
theorem Tf.WK (t:Tf):at' t.flat 0= { t.t with many:=len t.ps}:=by rw[Tf.KC];rfl
theorem Tf.aQ (t:Tf):t.flat≠[]:=by rw[Tf.KC];exact List.cons_ne_nil _ _
theorem Tf.FU (t:Tf):0<len t.flat:=by rw[Tf.KC,A6];have:=A4 (AM t.ps);omega
theorem Tf.jT (t:Tf)(n:A1):(t.flat).set 0 { at' t.flat 0 with name:=n}=(t.named n).flat:=by cases t;rfl
theorem Tf.yG (t:Tf)(n:A1):len (t.named n).flat=len t.flat:=by cases t;rfl
theorem RU: ∀xs:List Tf,AM xs=(xs.map Tf.flat).flatten
 |[]=>rfl
 |x::xs=>by show x.flat++AM xs=_;rw[RU xs];rfl
theorem Tf.aR (t:Tm)(ps:List Tf):(Tf.mk t ps).flat= { t with many:=len ps}::(ps.map Tf.flat).flatten:=by rw[<-RU];rfl
theorem jU{x:Tf}: ∀ {xs:List Tf},x∈xs->len x.flat<=len (AM xs)
 |y::xs,h=>by
  have h1:=A4 y.flat
  have h2:=A4 (AM xs)
  show _<=len (y.flat++AM xs)
  rw[A5]
  rcases List.mem_cons.1 h with rfl|h
  ·omega
  ·have:=jU h;omega
theorem WL: ∀xs:List Tf,len xs<=len (AM xs)
 |[]=>Int.le_refl _
 |x::xs=>by
  have h1:=x.FU
  have h2:=WL xs
  show _<=len (x.flat++AM xs)
  rw[A5,A6];omega
theorem Tf.jV {t:Tf}(h:t.t.name=[]):t.named []=t:=by
 obtain⟨tm,ps⟩:=t
 have h':tm.name=[]:=h
 show Tf.mk { tm with name:=[]} ps=_
 rw[<-h']
def TN:Tf->Prop
 | .mk t [a,b]=>t.op=4->a.t.name=[]/\b.t.name=[]/\TN b
 | .mk t _=>t.op≠4
theorem TN.no {x:Tf}(h:x.t.op≠4):TN x:=by
 obtain⟨t,ps⟩:=x
 have h':t.op≠4:=h
 unfold TN
 split
 ·rename_i t a b h1;cases h1;exact λ h2=>absurd h2 h'
 ·rename_i h1 h2;cases h2;exact h'
theorem yH{α:Type}[Inhabited α](l:List α)(x:α){i:Int}(h:i=len l):at' (l++[x]) i=x:=by
 subst h
 unfold at' len;simp
theorem jW{α:Type}[Inhabited α](l m:List α){i:Int}(h0:0<=i)(h1:i<len l):at' (l++m) i=at' l i:=by
 unfold at' len at*
 simp only[List.getD]
 rw[List.getElem?_append_left (by omega)]
theorem yI{α β:Type}[Inhabited α][Inhabited β](f:α->β)(l:List α){i:Int}(h0:0<=i)(h1:i<len l):at' (l.map f) i=f (at' l i):=by
 obtain⟨h2,h3⟩:=EU l h0 h1
 obtain⟨h4,h5⟩:=EU (l.map f) h0 (by unfold len at*;simpa using h1)
 rw[h3,h5];simp
end Go.Eng
set_option maxRecDepth 100000
namespace Go.Proofs.YtmjpjbmeamnfpaaGreatDoor
open Go.Proofs.Tryz
open Go.Eng
abbrev I1(t:Tf):List Fl:=t.ps.map λ x=>(x.named []).flat
theorem yJ{t:Tf}{k:Nat}(hk:k<t.ps.length):(I1 t).take (k+1)=(I1 t).take k++[((at' t.ps (k:Int)).named []).flat]:=by
 obtain⟨h1,h2⟩:=EU t.ps (i:=(k:Int)) (by omega) (by unfold len;omega)
 rw[h2,List.take_add_one]
 simp[I1,hk]
theorem KD{α:Type}{a b:α}{l:List α}:l.Sublist (a::b::l):=List.sublist_append_right [a,b] l
theorem jX{α:Type}{a b c:α}{l:List α}:l.Sublist (a::b::c::l):=List.sublist_append_right [a,b,c] l
theorem jY{α:Type}{a b c d:α}{l:List α}:l.Sublist (a::b::c::d::l):=List.sublist_append_right [a,b,c,d] l
abbrev KE(hs:List AX)(xs:List Fl):Kn:=⟨.slice none 0 0,1,([]:List A1),AZ,λ M=>D1 M 11 Tm.cells hs xs,λ _ _ hm h=>D1.mono hm h⟩
end Go.Proofs.YtmjpjbmeamnfpaaGreatDoor
namespace Go.Eng
structure EO (l:List Tk):Prop where
 last: ∀i,0<=i->i<len l->(at' l i).kind≠6->i+1<len l
 HA: ∀t∈l,t.kind=5-> ∀b∈t.c.s,C5 b=true
 num: ∀t∈l,t.kind=5->len t.c.s<=1048576/\t.c.e<=1000000000
 bd: ∀t∈l,len t.s<=1048576
 few:len l<=1048576
theorem BM{α β:Type}{r:PR α}{k:α->Int->PR β}{y:β}{m:Int}(h:r.bind k= .ok y m): ∃x j,r= .ok x j/\k x j= .ok y m:=by
 cases r with
 |er c p=>cases h
 |ok x j=>exact⟨x,j,rfl,h⟩
theorem DU{α:Type}{l:List Tk}{i e:Int}{x:α}{j:Int}(h:D0 l i e= .ok x j):False:=by cases h
section
variable {l:List Tk} (hl:EO l) {i:Int} (h0:0<=i) (h1:i<len l)
include hl h0 h1
theorem I2{m:A1}(h:AG l i m=true):i+1<len l:=hl.last i h0 h1 λ e=>by
 unfold AG at h;rw[e]at h;simp at h
theorem IQ{k:Int}(h:(at' l i).kind=k)(hk:k≠6):i+1<len l:=hl.last i h0 h1 λ e=>hk (by rw[<-h,e])
theorem GB{m:A1}{u:Unit}{j:Int}(h:B6 l i m= .ok u j):j=i+1/\j<len l/\AG l i m=true:=by
 unfold B6 at h
 split at h
 ·rename_i hm;cases h;exact⟨rfl,I2 hl h0 h1 hm,hm⟩
 ·exact(DU h).elim
theorem IS{d:Int}{m:A1}{u:Unit}{j:Int}(h:EA l d i m= .ok u j):j=i+1/\j<len l/\d<64/\AG l i m=true:=by
 unfold EA at h
 split at h
 ·exact(DU h).elim
 ·rename_i hd
  obtain⟨h2,h3,h4⟩:=GB hl h0 h1 h
  refine⟨h2,h3,?_,h4⟩
  rw[h4]at hd;simp at hd;exact hd
theorem aS{x:Int}{j:Int}(h:EZ l i= .ok x j):j=i+1/\j<len l/\x<=1000000/\(at' l i).kind=5:=by
 unfold EZ at h
 split at h
 ·exact(DU h).elim
 ·rename_i hc
  split at h
  ·exact(DU h).elim
  ·cases h
   have h5:(at' l i).kind=5:=Decidable.byContradiction λ e=>hc (.inl e)
   exact⟨rfl,IQ hl h0 h1 h5 (by decide),by omega,h5⟩
structure Am2 (l:List Tk) (i:Int) (x:Tf) (j:Int):Prop where
 lt:i<j
 le:j<len l
 pipe:TN x
 name:x.t.name=[]
 size:len x.flat<=4*(j-i)
def L8(xs:List Sp):Prop:=len xs<=20/\ ∀s∈xs,len s.name<=1048576/\(s.part=true->0<=s.n/\s.n<=1000000)
omit hl h0 h1 in
theorem jZ{l:List Tk}(hl:EO l){i:Int}(h0:0<=i)(h1:i<len l)(h5:(at' l i).kind=5):0<=IG (at' l i):=by
 have h2:=hl.HA _ (at_mem h0 h1) h5
 have key: ∀(s:A1) (n:Int),(∀b∈s,C5 b=true)->0<=n->0<=s.foldl (λ n c=>10*n+((c.toNat:Int)-48)) n:=by
  intro s
  induction s with
  |nil=>intro n _ h;exact h
  |cons a s ih=>
   intro n h hn
   have ha:=h a (by simp)
   unfold C5 BG at ha
   simp only[Bool.and_eq_true,decide_eq_true_eq]at ha
   exact ih _ (λ b hb=>h b (by simp[hb])) (show(0:Int)<=10*n+((a.toNat:Int)-48) by omega)
 unfold IG OE
 refine key _ 0 (λ b hb=>?_) (by omega)
 rcases List.mem_append.1 hb with hb|hb
 ·exact h2 b hb
 ·rw[(List.mem_replicate.1 hb).2];decide
omit hl h0 h1 in
theorem yK{l:List Tk}(hl:EO l){i:Int}(h0:0<=i)(h1:i<len l){n j:Int}(h2:EZ l i= .ok n j):0<=n:=by
 have h7:=(aS hl h0 h1 h2).2.2.2
 unfold EZ at h2
 split at h2
 ·exact(DU h2).elim
 ·split at h2
  ·exact(DU h2).elim
  ·cases h2;exact jZ hl h0 h1 h7
omit h0 h1 in
theorem RW{dot:Bool}: ∀(f:Nat) (xs:List Sp) (i:Int) {ys:List Sp} {j:Int},0<=i->i<len l->L8 xs->EV dot f l xs i= .ok ys j->i<=j/\j<len l/\L8 ys
 |0,xs,i,ys,j,_,_,_,h=>(DU h).elim
 |f+1,xs,i,ys,j,h0,h1,hg,h=>by
  unfold EV at h
  split at h
  ·rename_i hc
   split at h
   ·exact(DU h).elim
   ·rename_i h20
    have h21:len xs<20:=by have:=hg.1;omega
    split at h
    ·rename_i hk
     have h4:=IQ hl h0 h1 hk (by decide)
     obtain⟨n,k,h2,h3⟩:=BM h
     obtain⟨rfl,h5,h6,h7⟩:=aS hl (by omega) h4 h2
     obtain⟨u,m,h8,h9⟩:=BM h3
     obtain⟨rfl,h10,_⟩:=GB hl (by omega) h5 h8
     have hn:0<=n:=by
      unfold EZ at h2
      split at h2
      ·exact(DU h2).elim
      ·split at h2
       ·exact(DU h2).elim
       ·cases h2;exact jZ hl (by omega) h4 h7
     obtain⟨k1,k2,k3⟩:=RW f _ _ (by omega) h10 ⟨by rw[A5];show len xs+1<=20;omega,λ s hs=>by
      rcases List.mem_append.1 hs with hs|hs
      ·exact hg.2 s hs
      ·rw[List.mem_singleton]at hs;subst hs;exact⟨(by show len ([]:A1)<=1048576;decide),λ _=>⟨hn,h6⟩⟩⟩ h9
     exact⟨by omega,k2,k3⟩
    ·rename_i hk
     have h4:i+1<len l:=by
      rcases hc with hm|⟨hm,_⟩
      ·exact I2 hl h0 h1 hm
      ·exact IQ hl h0 h1 hm (by decide)
     obtain⟨k1,k2,k3⟩:=RW f _ _ (by omega) h4 ⟨by rw[A5];show len xs+1<=20;omega,λ s hs=>by
      rcases List.mem_append.1 hs with hs|hs
      ·exact hg.2 s hs
      ·rw[List.mem_singleton]at hs;subst hs;exact⟨hl.bd _ (at_mem h0 h1),λ e=>by cases e⟩⟩ h
     exact⟨by omega,k2,k3⟩
  ·cases h;exact⟨Int.le_refl _,h1,hg⟩
omit hl h0 h1 in
theorem L8.nil:L8 []:=⟨by decide,λ s hs=>by cases hs⟩
theorem yL{q:A1->A1}{s:A1}{j:Int}(h:OF q l i= .ok s j):i<=j/\j<len l:=by
 unfold OF at h
 split at h
 ·rename_i hm
  have h2:=I2 hl h0 h1 hm
  obtain⟨xs,k,h3,h4⟩:=BM h
  cases h4
  obtain⟨k1,k2,_⟩:=RW hl _ _ _ (by omega) h2 .nil h3
  exact⟨by omega,k2⟩
 ·split at h
  ·exact(DU h).elim
  ·obtain⟨xs,k,h3,h4⟩:=BM h
   cases h4
   obtain⟨k1,k2,_⟩:=RW hl _ _ _ h0 h1 .nil h3
   exact⟨k1,k2⟩
theorem k0{c:Nd}{j:Int}(h:GK l i= .ok c j):j=i+1/\j<len l:=by
 unfold GK at h
 split at h
 ·rename_i hk;cases h;exact⟨rfl,IQ hl h0 h1 hk (by decide)⟩
 ·split at h
  ·rename_i hk;cases h;exact⟨rfl,IQ hl h0 h1 hk (by decide)⟩
  ·split at h
   ·rename_i hk;cases h;exact⟨rfl,IQ hl h0 h1 hk.1 (by decide)⟩
   ·exact(DU h).elim
end
section
variable {l:List Tk} (hl:EO l) (q:A1->A1)
end
theorem yM(s:A1):OE s=BA s:=by
 unfold OE BA
 congr 1
 funext n b
 omega
theorem yN{l:A1}(h: ∀b∈l,C5 b=true)(hl:len l<=7):Lib.atoiAll ([48]++l)= .ok (BA l)/\0<=BA l/\BA l<10000000:=by
 have h1:=V9 l 0 h (by omega)
 have h2:(10:Int)^l.length<=10^7:=by
  have:(10:Nat)^l.length<=10^7:=Nat.pow_le_pow_right (by omega) (by unfold len at hl;omega)
  exact_mod_cast this
 have h3:=Z6 l 0 h (by
  have:(10:Nat)^l.length<=10^7:=Nat.pow_le_pow_right (by omega) (by unfold len at hl;omega)
  omega)
 have h4:0<=BA l/\BA l<10000000:=by unfold BA;omega
 refine⟨?_,h4⟩
 show Lib.atoiAll (48::l)=_
 have hm:Lib.parseMag (48::l)= .ok (BA l).toNat:=by
  unfold Lib.parseMag
  rw[if_neg (by simp),Lib.parseUint10,if_pos (by decide),if_neg (by decide),if_neg (by decide)]
  exact h3
 unfold Lib.atoiAll
 dsimp only
 rw[if_neg (by decide: ¬((48:UInt8).toNat=43\/(48:UInt8).toNat=45)),hm]
 dsimp only
 rw[if_neg (by omega),if_neg (by intro hh;exact absurd hh.1 (by decide)),if_neg (by decide)]
 congr 1;omega
theorem yO{l:List Tk}(hl:EO l){i:Int}(h0:0<=i)(h1:i<len l)(h5:(at' l i).kind=5)(he:0<=(at' l i).c.e)(hs:len (at' l i).c.s+(at' l i).c.e<=7):
  Lib.atoiAll (([48]++(at' l i).c.s)++List.replicate (at' l i).c.e.toNat 48)= .ok (IG (at' l i))/\0<=IG (at' l i)/\IG (at' l i)<10000000:=by
 unfold IG
 rw[yM,List.append_assoc]
 refine yN (λ b hb=>?_) (by rw[A5];unfold len at*;rw[List.length_replicate];omega)
 rcases List.mem_append.1 hb with hb|hb
 ·exact hl.HA _ (at_mem h0 h1) h5 b hb
 ·rw[(List.mem_replicate.1 hb).2];decide
end Go.Eng
namespace Go.Proofs.YtmjpjbmeamnfpaaGreatDoor
open Go.Proofs.Tryz
open Go.Eng
theorem yP(r:Int)(f:Bool)(w:World):
  Calls prog 108 [(.int .i32 r),(.bool f)].toArray w λ e w'=>e= .returned (.bool (BS r f))/\w'=w:=by
 refine CW.BH func108 U ntmps108 (Nat.le_of_ble_eq_true U) λ Q hE=>?_
 refine An [0,1] (L':=[Y 0 (.int .i32 r),Y 1 (.bool f)]) ?_ U
 refine Ad (Ab (.assign .c) U (Aa (Ac (Ad ?_))))
 refine Ae U U (Ab (.geq (.t U) .c) U (Ae U U (RL.v (.pos U U) (.move (.t U)) U (RL.v (.pos U U) (.leq (.g U (λ h=>h)) .c) U (Ab (.and (.t U) (.g U (λ h=>h))) U ?_)))))
 refine Ae U U (RL.v (.neg U U) (.move (.t U)) U (RL.v (.neg U U) (.geq (.g U (λ h=>h)) .c) U (RL.v (.neg U U) (.move (.g U (λ h=>h))) U (RL.v (.DY U U) (.move (.t U)) U (RL.v (.DY U U) (.leq (.g U (λ h=>h)) .c) U ?_)))))
 refine RL.v (.neg U U) (.and (.g U (λ h=>h)) (.g U (λ h=>h))) U (Ab (.or (.t U) (.g U (λ h=>h))) U (Ae U U (RL.v (.neg U U) (.move (.t U)) U (RL.v (.neg U U) (.eql (.g U (λ h=>h)) .c) U (Ab (.or (.t U) (.g U (λ h=>h))) U ?_)))))
 refine Aj U U (Aa (Ac ?_))
 refine Ad (Ae U U (Ae U U (RL.v (.neg U U) (.move (.t U)) U (RL.v (.neg U U) (.not (.g U (λ h=>h))) U (RL.v (.neg U U) (.move (.g U (λ h=>h))) U (RL.v (.DY U U) (.move (.t U)) U (RL.v (.DY U U) (.geq (.g U (λ h=>h)) .c) U (RL.v (.neg U U) (.and (.g U (λ h=>h)) (.g U (λ h=>h))) U (RL.v (.neg U U) (.move (.g U (λ h=>h))) U (RL.v (.DY U U) (.move (.t U)) U (RL.v (.DY U U) (.leq (.g U (λ h=>h)) .c) U (RL.v (.neg U U) (.and (.g U (λ h=>h)) (.g U (λ h=>h))) U (Ab (.or (.t U) (.g U (λ h=>h))) U (Aj U U (Aa (Ac ?_))))))))))))))))
 refine Ah (hE.r1 U U ?_)
 exact⟨by simp only[BS,E9,BG,Bool.and_assoc],rfl⟩
theorem aU(s:A1)(w:World)(hb:len s<=9223372036854775807):
  Calls prog 76 [(str s)].toArray w λ e w'=>e= .returned (str (AS s))/\Ext w w':=by
 refine CW.BH func76 U ntmps76 (Nat.le_of_ble_eq_true U) λ Q hE=>?_
 have:=A4 s
 have hS:St w nM w nM []:=Ak ⟨λ _ _ _ h=>by cases h⟩
 refine An [0] (L':=[Y 0 (str s)]) ?_ U
 refine Ad (Ab (.assign .c) U (Aa (Ac (Ag ?_))))
 refine Ad (Ae U U ?_)
 refine RL.UW (s:=s) hS (.t U) underlying9 U (λ w1 b2 hS3=>?_)
 replace hS3:St w nM w1 nM [.raw b2 (.stringIter ⟨⟨s⟩⟩ ((0:Int)).toNat)]:=hS3
 refine Aa (Ac (Am ?_))
 refine CW.loop (σ:=Int) (λ p=>[Y 0 (str s),Y 6 (.pointer (some ⟨b2,0,none⟩))]) (λ p wl=>St w nM wl nM [.raw b2 (.stringIter ⟨⟨s⟩⟩ ((p:Int)).toNat)]/\0<=p/\p<=len s/\CE s p=CE s 0) (λ p=>(len s-p).toNat) 0 [0,6] U ?_ ?_
 ·refine⟨hS3,?_⟩;exact⟨by omega,by omega,rfl⟩
 ·rintro p wl ⟨hS4,hp0,hp1,hpF⟩
  refine Ad ?_
  refine RL.UX (s:=s) (p:=p) hS4 (i:=0) U (.t U) (by omega) U (λ hlt w5 hS6=>?_) (λ hge=>?_)
  ·replace hS6:St w nM w5 nM [.raw b2 (.stringIter ⟨⟨s⟩⟩ ((p+runeLen s p:Int)).toNat)]:=hS6
   refine Ab (.ex (.t U) U) U (Aa (Ac ?_))
   refine Ag (Af rfl (λ _=>?_) (λ h=>by cases h))
   refine Ai (Ac (Am (Ad (Ab (.ex (.t U) U) U (Ab (.ex (.t U) U) U (Aj U U (Aj U U (Aa (Ac ?_)))))))))
   refine Ad (Ae U U (Ae U U (Ab (.eql (.t U) .c) U ?_)))
   refine RL.DC .none call108 (.cons (.t U) (.cons (.t U) .nil)) (λ _=>(yP (AO s p) (p==0) _)) U ?_
   refine Ab (.not (.t U)) U ?_
   refine Aa (CW.at [Y 0 (str s),Y 3 (i64 p),Y 6 (.pointer (some ⟨b2,0,none⟩)),Y 15 (.bool (!(BS (AO s p) (p==0))))] U ?_)
   refine Af rfl ?_ ?_<;>intro hb2<;>try simp only[zb]at hb2
   ·have hw:=fG (f:=p==0) hp0 hlt
    refine Ad (Ae U U (Ae U U (Ab (.QI (.t U) (.t U) underlying9 (λ _=>by omega)) U (Aj U U (Aa (Ac (Ah (hE.r1 U U ?_))))))))
    exact⟨by rw[AS,<-hpF,QO hp0 hlt (by rw[<-hw.1];exact hb2)],hS6.low⟩
   ·have hw:=fG (f:=p==0) hp0 hlt
    have hl1:runeLen s p=1:=hw.2 (by rw[<-hw.1];exact hb2)
    refine Ai λ a hs=>Exists.intro (p+runeLen s p) ⟨hs.BC [0,6],?_,?_⟩
    ·refine⟨hS6,?_⟩
     exact⟨by omega,by omega,by rw[<-hpF,hl1,QN hp0 hlt (by rw[<-hw.1];exact hb2)]⟩
    ·show Int.toNat _<Int.toNat _;omega
  ·refine Ab (.ex (.t U) U) U (Aa (Ac ?_))
   refine Ag (Af rfl (λ h=>by cases h) (λ _=>(CW.exit (CW.at [Y 0 (str s)] rfl (Ad ?_)))))
   refine Ae U U (Aj U U (Aa (Ac ?_)))
   refine Ah (hE.r1 U U ?_)
   exact⟨by rw[AS,<-hpF,QP hge,JW _ _ (by omega)],hS4.low⟩
theorem k6(w:World):(callFunc 264 #[]).run prog w= .ok (.value (.tuple #[])) w:=run_call_mark0 func264 (by kernel_rfl) (by kernel_rfl) (by kernel_rfl) .disable (by kernel_rfl) w
theorem k7(w:World):(callFunc 266 #[]).run prog w= .ok (.value (.tuple #[])) w:=run_call_mark0 func266 (by kernel_rfl) (by kernel_rfl) (by kernel_rfl) .enable (by kernel_rfl) w
theorem yQ(a:Addr)(w:World):(callFunc 267 #[.pointer (some a)]).run prog w= .ok (.value (.tuple #[])) w:=run_call_marked func267 (by kernel_rfl) (by kernel_rfl) (by kernel_rfl) .acquire (by kernel_rfl) a w
theorem yR(a:Addr)(w:World):(callFunc 269 #[.pointer (some a)]).run prog w= .ok (.value (.tuple #[])) w:=run_call_marked func269 (by kernel_rfl) (by kernel_rfl) (by kernel_rfl) .releaseMerge (by kernel_rfl) a w
theorem yS(a:Addr)(x:Value)(u:FrameMode)(w:World)(hc:w.cell? a=some x)(hz:w.frozen? a=false):
  CallsD prog 202 #[.pointer (some a),.bool true] u w λ e u' w'=>u'=u/\(e= .returned (.tuple #[])/\w'=w.drew.setCell a (.int .u32 1)):=by
 have hc':w.drew.cell? a=some x:=by go_simp
 have hz':w.drew.frozen? a=false:=by go_simp
 have hst:=run_call_store (P:=prog) func239 (by kernel_rfl) (by kernel_rfl) (by kernel_rfl) (by kernel_rfl) (k:=.u32) (y:=1) hc' hz'
 go_enter_d func202,ntmps202
 go_wp2
 go_region_calls
 all_goals (go_end0;exact⟨rfl,rfl⟩)
theorem yT(a:Addr)(u:FrameMode)(w:World)(hc:w.cell? a=some (.int .i32 1))(hz:w.frozen? a=false):
  CallsD prog 201 #[.pointer (some a)] u w λ e u' w'=>u'=u/\(e= .returned (.tuple #[])/\w'=w.setCell a (.int .i32 0)):=by
 have hd:=k6
 have he:=k7
 have hr:=yR
 have hadd:=run_call_add (P:=prog) func270 (by kernel_rfl) (by kernel_rfl) (by kernel_rfl) .i32 (by kernel_rfl) (y:= -1) (s:=0) hc hz (by simp[go_sem];rfl)
 have hcv:=run_convert_to_unsafe (P:=prog) (src:=297) (dst:=237) underlying297 underlying237 (by kernel_rfl) hc
 go_enter_d func201,ntmps201
 go_wp2
 go_end0
 go_wp2
 go_end0
 exact⟨rfl,rfl⟩
theorem yU(a:Addr)(w:World)(hc:w.cell? a=some (.int .i32 0))(hz:w.frozen? a=false):
  Calls prog 200 #[.pointer (some a)] w λ e w'=>e= .returned (.tuple #[])/\w'=w.setCell a (.int .i32 1):=by
 have hd:=k6
 have he:=k7
 have ha:=yQ
 have hcas:=run_call_cas_hit (P:=prog) func265 (by kernel_rfl) (by kernel_rfl) (by kernel_rfl) .i32 (by kernel_rfl) (y:=1) hc hz
 have hc':(w.setCell a (.int .i32 1)).cell? a=some (.int .i32 1):=World.cell?_setCell_same w a _ hc
 have hcv:=run_convert_to_unsafe (P:=prog) (src:=297) (dst:=237) underlying297 underlying237 (by kernel_rfl) hc'
 go_enter func200,ntmps200
 go_wp2
 first|go_end0|(simp only[Exit.inBlock,Exit.then];refine bodyPost_ret (results_none U _ _ _) U ?_)|refine bodyPost_ret (results_none U _ _ _) U ?_
 go_wp2
 go_end0
 exact⟨rfl,rfl⟩
set_option maxHeartbeats 1600000 in
theorem yV(g:Nat)(fv:Array Value)(b:Nat)(w:World)(R:World->Prop)(cg: ∀args w,(callFunc g args).run prog w= .ok (.enter g args) w)
  (h0:w.cell? ⟨b,0,none⟩=some (.int .u32 0)) (h1:w.cell? ⟨b,1,none⟩=some (.int .i32 0)) (f1:w.frozen? ⟨b,1,none⟩=false)
  (hclo:Calls prog g fv (w.setCell ⟨b,1,none⟩ (.int .i32 1)) λ e w'=>e= .returned (.tuple #[])/\w'.cell? ⟨b,0,none⟩=some (.int .u32 0)/\w'.frozen? ⟨b,0,none⟩=false/\w'.cell? ⟨b,1,none⟩=some (.int .i32 1)/\w'.frozen? ⟨b,1,none⟩=false/\R w'):
  Calls prog 152 #[.pointer (some ⟨b,0,none⟩),.func (.func g) #[] fv] w λ e w'=>e= .returned (.tuple #[])/\ ∃w1,R w1/\w1.cell? ⟨b,0,none⟩=some (.int .u32 0)/\w1.frozen? ⟨b,0,none⟩=false/\w1.cell? ⟨b,1,none⟩=some (.int .i32 1)/\w1.frozen? ⟨b,1,none⟩=false/\w'=(w1.drew.setCell ⟨b,0,none⟩ (.int .u32 1)).setCell ⟨b,1,none⟩ (.int .i32 0):=by
 have hl:=run_call_load (P:=prog) func199 (by kernel_rfl) (by kernel_rfl) (by kernel_rfl) .u32 (by kernel_rfl) (w:=w.setCell ⟨b,1,none⟩ (.int .i32 1)) (a:=⟨b,0,none⟩) (x:=0) ((World.cell?_setCell_other _ ⟨b,1,none⟩ ⟨b,0,none⟩ _ (by simp)).trans h0)
 have hnot: ∀(x:Bool) (w:World),(Op.unary .not (.bool x)).run prog w= .ok (.bool (!x)) w:=λ _ _=>rfl
 go_enter_defers func152,ntmps152
 go_wp2_with (first|(go_at_call 200;refine(yU ⟨b,1,none⟩ _ (by go_simp) (by go_simp)).mono ?_;rintro e w' ⟨rfl,rfl⟩)|(go_at_call 151;go_in))
 refine hclo.mono ?_
 rintro e w' ⟨rfl,c0,z0,c1,z1,hR⟩
 rename_i hk
 refine hk _ _ ?_
 go_wp2
 refine leaves_cons (f:=202) (args:= #[.pointer (some ⟨b,0,none⟩),.bool true]) (by simp) (by simp[go_sem]) ?_
 refine(yS ⟨b,0,none⟩ (.int .u32 0) .returning _ c0 z0).mono ?_
 rintro e u' w'' ⟨rfl,rfl,rfl⟩
 refine leaves_cons (f:=201) (args:= #[.pointer (some ⟨b,1,none⟩)]) (by simp[settle]) (by simp[go_sem]) ?_
 refine(yT ⟨b,1,none⟩ _ _ ?_ (by simp[z1])).mono ?_
 ·refine(World.cell?_setCell_other _ ⟨b,0,none⟩ ⟨b,1,none⟩ _ (by simp)).trans ?_
  rw[World.cell?_drew];exact c1
 rintro e u' w'' ⟨rfl,rfl,rfl⟩
 have hfin:(Ending.returned (.tuple #[])=Ending.returned (.tuple #[]))/\ ∃w1,R w1/\w1.cell? ⟨b,0,none⟩=some (.int .u32 0)/\w1.frozen? ⟨b,0,none⟩=false/\w1.cell? ⟨b,1,none⟩=some (.int .i32 1)/\w1.frozen? ⟨b,1,none⟩=false/\(w'.drew.setCell ⟨b,0,none⟩ (.int .u32 1)).setCell ⟨b,1,none⟩ (.int .i32 0)=(w1.drew.setCell ⟨b,0,none⟩ (.int .u32 1)).setCell ⟨b,1,none⟩ (.int .i32 0):=⟨rfl,w',hR,c0,z0,c1,z1,rfl⟩
 simpa[Leaves,settle,results,Tryz.results152]using hfin
set_option maxHeartbeats 1600000 in
theorem yW(g:Nat)(fv:Array Value)(b:Nat)(w:World)(R:World->Prop)(cg: ∀args w,(callFunc g args).run prog w= .ok (.enter g args) w)
  (h0:w.cell? ⟨b,0,none⟩=some (.int .u32 0)) (h1:w.cell? ⟨b,1,none⟩=some (.int .i32 0)) (f1:w.frozen? ⟨b,1,none⟩=false)
  (hclo:Calls prog g fv (w.setCell ⟨b,1,none⟩ (.int .i32 1)) λ e w'=>e= .returned (.tuple #[])/\w'.cell? ⟨b,0,none⟩=some (.int .u32 0)/\w'.frozen? ⟨b,0,none⟩=false/\w'.cell? ⟨b,1,none⟩=some (.int .i32 1)/\w'.frozen? ⟨b,1,none⟩=false/\R w'):
  Calls prog 113 #[.pointer (some ⟨b,0,none⟩),.func (.func g) #[] fv] w λ e w'=>e= .returned (.tuple #[])/\ ∃w1,R w1/\w1.cell? ⟨b,0,none⟩=some (.int .u32 0)/\w1.frozen? ⟨b,0,none⟩=false/\w1.cell? ⟨b,1,none⟩=some (.int .i32 1)/\w1.frozen? ⟨b,1,none⟩=false/\w'=(w1.drew.setCell ⟨b,0,none⟩ (.int .u32 1)).setCell ⟨b,1,none⟩ (.int .i32 0):=by
 have hl:=run_call_load (P:=prog) func199 (by kernel_rfl) (by kernel_rfl) (by kernel_rfl) .u32 (by kernel_rfl) h0
 have hnot: ∀(x:Bool) (w:World),(Op.unary .not (.bool x)).run prog w= .ok (.bool (!x)) w:=λ _ _=>rfl
 go_enter func113,ntmps113
 go_wp2_with (first|(go_at_call 152;refine(yV g fv b _ R cg h0 h1 f1 hclo).mono ?_;rintro e w' ⟨rfl,hw⟩)|(go_at_call 151;go_in))
 go_end0
 exact⟨rfl,hw⟩
theorem yX(a:Addr)(d:Int)(hd: ¬d=0)(fv:Value)(w:World)(h0:w.cell? a=some (.int .u32 d)):
  Calls prog 113 #[.pointer (some a),fv] w λ e w'=>e= .returned (.tuple #[])/\w'=w:=by
 have hl:=run_call_load (P:=prog) func199 (by kernel_rfl) (by kernel_rfl) (by kernel_rfl) .u32 (by kernel_rfl) h0
 have hnot: ∀(x:Bool) (w:World),(Op.unary .not (.bool x)).run prog w= .ok (.bool (!x)) w:=λ _ _=>rfl
 have hd':(d != 0)=true:=by simp[hd]
 go_enter func113,ntmps113
 go_wp2
 go_end0
 exact⟨rfl,rfl⟩
end Go.Proofs.YtmjpjbmeamnfpaaGreatDoor
