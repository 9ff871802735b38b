/-
  Parts Xx Rw Kc Fs Kd Ke, put together and made short by wip/py/merge.py (mini.py).
-/
import Derived.Test.YtmjpjbmeamnfpaaGreatDoorZe9
import Derived.Test.YtmjpjbmeamnfpaaGreatDoorZe3
import Derived.Test.YtmjpjbmeamnfpaaGreatDoorZe10
import Derived.Test.YtmjpjbmeamnfpaaGreatDoorZe11
import Derived.Lib.SliceRun
import Derived.Test.YtmjpjbmeamnfpaaGreatDoorZe0
set_option linter.unusedVariables false
set_option linter.unusedSimpArgs false
namespace Go.Eng
open Go.RowKit
structure QG where
 V:XE
 av:List Nat
 O:Prop
 E:List Ck
def QY(W:Gd):List Prop->Prop->(Prop->Option QG)->Option QG
 |[],O,K=>K O
 |p::ps,O,K=>match W with
  | .t=>QY W ps (p/\O) K
  | .g b=>QY W ps ((b=false\/p)/\O) K
theorem QZ{W:Gd}{K:Prop->Option QG}: ∀ {ps:List Prop} {O:Prop},∃O',QY W ps O K=K O'/\(O'->(W.d=true->GF ps)/\O)
 |[],O=>⟨O,rfl,λ h=>⟨λ _=>trivial,h⟩⟩
 |p::ps,O=>by
  unfold QY
  cases W with
  |t=>
   obtain⟨O',h1,h2⟩:=QZ (W:=.t) (K:=K) (ps:=ps) (O:=p/\O)
   exact⟨O',h1,λ h=>⟨λ hW=>⟨(h2 h).2.1,(h2 h).1 hW⟩,(h2 h).2.2⟩⟩
  |g b=>
   obtain⟨O',h1,h2⟩:=QZ (W:=.g b) (K:=K) (ps:=ps) (O:=(b=false\/p)/\O)
   exact⟨O',h1,λ h=>⟨λ hW=>⟨(h2 h).2.1.resolve_left (by rw[show b=true from hW];decide),(h2 h).1 hW⟩,(h2 h).2.2⟩⟩
def BP(k:Nat):List Nat->Bool
 |[]=>false
 |x::l=>match Nat.beq x k with
  |true=>true
  |false=>BP k l
theorem EY{k:Nat}: ∀ {l:List Nat},BP k l=true↔k∈l
 |[]=>by simp[BP]
 |x::l=>by
  unfold BP
  split
  ·rename_i e;have:=Nat.eq_of_beq_eq_true e;subst this;simp
  ·rename_i e
   have:k≠x:=λ h=>by subst h;rw[Nat.beq_refl]at e;cases e
   rw[EY];simp[this]
def DV(p:Nat->Bool):List Nat->Bool
 |[]=>true
 |x::l=>match p x with
  |true=>DV p l
  |false=>false
theorem KM{p:Nat->Bool}: ∀ {l:List Nat},DV p l=true↔ ∀x∈l,p x=true
 |[]=>by simp[DV]
 |x::l=>by
  unfold DV
  split
  ·rename_i e;rw[KM];simp[e]
  ·rename_i e;simp[e]
def U9(l:List Oper)(j:Nat):Option Tmp:=match nth l j with
 |some o=>o.dst
 |none=>none
theorem eS(l:List Oper)(j:Nat):U9 l j=BX l j:=by
 unfold U9 BX;rw[FU];cases l[j]?<;>rfl
def H4(l:List Oper)(V L:XE):List Nat->XE
 |[]=>L
 |j::js=>match U9 l j with
  |some d=>match B6 V d with
   |some (g,v)=>(d,g,v)::H4 l V L js
   |none=>H4 l V L js
  |none=>H4 l V L js
theorem R0{l:List Oper}{V L:XE}: ∀ {js:List Nat} {t:Nat} {g:Gd} {v:XV},B6 (H4 l V L js) t=some (g,v)->B6 L t=some (g,v)\/ ∃j∈js,BX l j=some t/\B6 V t=some (g,v)
 |[],_,_,_,h=>.inl h
 |j::js,t,g,v,h=>by
  unfold H4 at h
  split at h
  ·rename_i d hd
   split at h
   ·rename_i g' v' hv
    unfold B6 at h
    split at h
    ·rename_i e
     have:=Nat.eq_of_beq_eq_true e;subst this
     cases h
     exact .inr ⟨j,.head _,by rw[<-eS];exact hd,hv⟩
    ·exact(R0 h).imp id λ⟨j',h1,h2⟩=>⟨j',.tail _ h1,h2⟩
   ·exact(R0 h).imp id λ⟨j',h1,h2⟩=>⟨j',.tail _ h1,h2⟩
  ·exact(R0 h).imp id λ⟨j',h1,h2⟩=>⟨j',.tail _ h1,h2⟩
def EB(T:TT)(N:Nat)(F:List (Nat×Kn))(H:List (Nat×HX))(all:List Oper)(es done:List Nat)(L:XE):Nat->List Oper->XE->List Nat->Prop->List Ck->Option QG
 |_,[],V,av,O,E=>some ⟨V,av,O,E⟩
 |i,⟨dst,op,ty,ps,af,gd⟩::l,V,av,O,E=>match BP i es with
  |true=>EB T N F H all es done L (i+1) l V av O E
  |false=>match DV (λ j=>BP j av||BP j done) (BM ⟨dst,op,ty,ps,af,gd⟩)with
   |false=>EB T N F H all es done L (i+1) l V av O E
   |true=>
        match dst with
    |none=>none
    |some d=>match B6 L d with
     |some (g,v)=>EB T N F H all es done L (i+1) l ((d,g,v)::V) (i::av) O E
     |none=>match GY ⟨all⟩ (H4 all V L (BM ⟨some d,op,ty,ps,af,gd⟩)) gd with
      |none=>none
      |some W=>match O0 T F H (H4 all V L (BM ⟨some d,op,ty,ps,af,gd⟩)) W op with
       |none=>none
       |some (v,p,E')=>match Nat.blt d N with
        |false=>none
        |true=>QY W p O λ O'=>EB T N F H all es done L (i+1) l ((d,W,v)::V) (i::av) O' (E'++E)
section
variable {c:Cx} {F:List (Nat×Kn)} {H:List (Nat×HX)} {l:List Oper} {es done:List Nat} {L:XE}
def UA(c:Cx)(F:List (Nat×Kn))(H:List (Nat×HX))(l:List Oper)(L:XE)(V:XE)(j:Nat):Prop:=
 ∃d op ty ps af gd W v,l[j]? =some ⟨some d,op,ty,ps,af,gd⟩/\B6 V d=some (W,v)/\((∃x,B6 L d=some x)\/(Nat.blt d c.N=true/\ ∀a,AF a c.N L.d->
  (∀j'∈BM ⟨some d,op,ty,ps,af,gd⟩,∀d',BX l j'=some d'-> ∀g u,B6 V d'=some (g,u)->a.tmps[d']? =some (sv g.d u.d))-> ∃LL,AF a c.N LL/\CG l.toArray LL gd W.d/\ ∀w M,D4 c F H w M->PV c.P (· =w) LL W.d ⟨some d,op,ty,ps,af,gd⟩ v.d))
structure MY (c:Cx) (F:List (Nat×Kn)) (H:List (Nat×HX)) (l:List Oper) (es done:List Nat) (L:XE) (n:Nat) (V:XE) (av:List Nat):Prop where
 keys: ∀t x,B6 V t=some x-> ∃j∈av,BX l j=some t
 lt: ∀j∈av,j<n/\j ∉ es
 ok: ∀j∈av,UA c F H l L V j
theorem R1(
                dist: ∀i j a b,BX l i=some a->BX l j=some b->i≠j->a≠b) (ac: ∀(i:Nat) o,l[i]? =some o-> ∀j∈BM o,j<i): ∀(r:List Oper) (i:Nat) (V:XE) (av:List Nat) (O:Prop) (E:List Ck) (t:QG),l.drop i=r->MY c F H l es done L i V av->EB c.T c.N F H l es done L i r V av O E=some t->t.O->A6 t.E->
    MY c F H l es done L l.length t.V t.av/\O/\A6 E/\(∀j,i<=j->j<l.length->j ∉ es->(∀o,l[j]? =some o-> ∀j'∈BM o,j'∈t.av\/j'∈done)->j∈t.av)/\(∀j∈av,j∈t.av)
  |[],i,V,av,O,E,t,hr,hI,h,hO,hE=>by
    unfold EB at h
    cases h
    have hi:l.length<=i:=by
      have:=congrArg List.length hr
      simp at this;omega
    exact⟨⟨hI.keys,λ j hj=>by
      obtain⟨d,op,ty,ps,af,gd,W,v,h1,_⟩:=hI.ok j hj
      exact⟨(List.getElem?_eq_some_iff.1 h1).1,(hI.lt j hj).2⟩,hI.ok⟩,hO,hE,λ j h1 h2=>by omega,λ j hj=>hj⟩
  |⟨dst,op,ty,ps,af,gd⟩::r,i,V,av,O,E,t,hr,hI,h,hO,hE=>by
    have hr1:l.drop (i+1)=r:=by
      rw[show i+1=i+1 from rfl,<-List.drop_drop,hr];rfl
    have hoi:l[i]? =some ⟨dst,op,ty,ps,af,gd⟩:=by
      have:=congrArg (·[0]?) hr
      simpa using this
    have hI1:MY c F H l es done L (i+1) V av:=⟨hI.keys,λ j hj=>⟨by have:=(hI.lt j hj).1;omega,(hI.lt j hj).2⟩,hI.ok⟩
    unfold EB at h
    split at h
    · rename_i he
      obtain⟨k1,k2,k3,k4,k5⟩:=R1 dist ac r (i+1) V av O E t hr1 hI1 h hO hE
      refine⟨k1,k2,k3,λ j h1 h2 h3 h4=>?_,k5⟩
      by_cases hji:j=i
      · subst hji;exact absurd (EY.1 he) h3
      · exact k4 j (by omega) h2 h3 h4
    · rename_i he
      split at h
      · rename_i hb
        obtain⟨k1,k2,k3,k4,k5⟩:=R1 dist ac r (i+1) V av O E t hr1 hI1 h hO hE
        refine⟨k1,k2,k3,λ j h1 h2 h3 h4=>?_,k5⟩
        by_cases hji:j=i
        · subst hji
          exfalso
          have hall:DV (λ j=>BP j av||BP j done) (BM ⟨dst,op,ty,ps,af,gd⟩)=true:=KM.2 λ j' hj'=>by
            rcases h4 _ hoi j' hj' with h5|h5
            ·
              have hlt:=ac j _ hoi j' hj'
              rw[Bool.or_eq_true]
              left
              rw[EY]
              have: ∀j'',j''∈t.av->j''<j->j''∈av:=by
                intro j'' m1 m2
                exact(qgo_new r (j+1) V av O E t h j'' m1).resolve_right (by omega)
              exact this j' h5 hlt
            · rw[Bool.or_eq_true];right;exact EY.2 h5
          rw[hall]at hb;cases hb
        · exact k4 j (by omega) h2 h3 h4
      · rename_i hb
        have hbs: ∀j'∈BM ⟨dst,op,ty,ps,af,gd⟩,j'∈av\/j'∈done:=λ j' hj'=>by
          have:=KM.1 hb j' hj'
          rw[Bool.or_eq_true]at this
          exact this.imp EY.1 EY.1
        split at h
        · cases h
        · rename_i d
          have hdi:BX l i=some d:=by unfold BX;rw[hoi];rfl
          have hnew: ∀j∈av,∀d',BX l j=some d'->d'≠d:=λ j hj d' hd'=>dist j i d' d hd' hdi (by have:=(hI.lt j hj).1;omega)
          have hVd: ∀x,B6 V d≠some x:=λ x hx=>by
            obtain⟨j,hj,hd'⟩:=hI.keys d x hx
            exact hnew j hj d hd' U
          have hlk: ∀ {g:Gd} {v:XV} {t:Nat},t≠d->B6 ((d,g,v)::V) t=B6 V t:=λ{g v t} hne=>by
            show(match Nat.beq d t with|true=>some (g,v)|false=>B6 V t)=B6 V t
            split
            · rename_i e;exact absurd (Nat.eq_of_beq_eq_true e).symm hne
            · rfl
          have hself: ∀ {g:Gd} {v:XV},B6 ((d,g,v)::V) d=some (g,v):=λ{g v}=>by
            show(match Nat.beq d d with|true=>some (g,v)|false=>B6 V d)=_
            rw[Nat.beq_refl]
          have hnes:i ∉ es:=λ hm=>by rw[EY.2 hm]at he;cases he
          have BL: ∀ {g:Gd} {v:XV} (j:Nat),j∈av->UA c F H l L ((d,g,v)::V) j:=λ{g v} j hj=>by
            obtain⟨d1,op1,ty1,ps1,af1,gd1,W1,v1,h1,h2,h3⟩:=hI.ok j hj
            have hd1:d1≠d:=hnew j hj d1 (by unfold BX;rw[h1];rfl)
            refine⟨d1,op1,ty1,ps1,af1,gd1,W1,v1,h1,by rw[hlk hd1];exact h2,h3.imp id λ⟨h4,h5⟩=>⟨h4,λ a ha hdep=>h5 a ha λ j' hj' d' hd' g' u hu=>hdep j' hj' d' hd' g' u ?_⟩⟩
            rw[hlk (λ e=>by subst e;exact hVd _ hu)];exact hu
          have step: ∀ {g:Gd} {v:XV},UA c F H l L ((d,g,v)::V) i->MY c F H l es done L (i+1) ((d,g,v)::V) (i::av):=λ{g v} hq=>⟨λ t x hx=>by
            by_cases e:t=d
            · subst e;exact⟨i,.head _,hdi⟩
            · rw[hlk e]at hx
              obtain⟨j,hj,hd'⟩:=hI.keys t x hx
              exact⟨j,.tail _ hj,hd'⟩,λ j hj=>by
            rcases List.mem_cons.1 hj with rfl|hj
            · exact⟨by omega,hnes⟩
            · exact hI1.lt j hj,λ j hj=>by
            rcases List.mem_cons.1 hj with rfl|hj
            · exact hq
            · exact BL j hj⟩
          have fin: ∀ {V':XE} {O':Prop} {E':List Ck},(MY c F H l es done L l.length t.V t.av/\O'/\A6 E'/\(∀j,i+1<=j->j<l.length->j ∉ es->(∀o,l[j]? =some o-> ∀j'∈BM o,j'∈t.av\/j'∈done)->j∈t.av)/\(∀j∈i::av,j∈t.av))->
              MY c F H l es done L l.length t.V t.av/\O'/\A6 E'/\(∀j,i<=j->j<l.length->j ∉ es->(∀o,l[j]? =some o-> ∀j'∈BM o,j'∈t.av\/j'∈done)->j∈t.av)/\(∀j∈av,j∈t.av):=λ{V' O' E'} ⟨k1,k2,k3,k4,k5⟩=>⟨k1,k2,k3,λ j h1 h2 h3 h4=>by
            by_cases hji:j=i
            · subst hji;exact k5 j (.head _)
            · exact k4 j (by omega) h2 h3 h4,λ j hj=>k5 j (.tail _ hj)⟩
          split at h
          · rename_i g v hL
            exact fin (V':=V) (R1 dist ac r (i+1) _ _ O E t hr1 (step ⟨d,op,ty,ps,af,gd,g,v,hoi,hself,.inl ⟨_,hL⟩⟩) h hO hE)
          · rename_i hL
            split at h
            · cases h
            · rename_i W hW
              split at h
              · cases h
              · rename_i v p E' hv
                split at h
                · cases h
                · rename_i hd
                  obtain⟨O',hi,hO'⟩:=QZ (W:=W) (K:=λ O'=>EB c.T c.N F H l es done L (i+1) r ((d,W,v)::V) (i::av) O' (E'++E)) (ps:=p) (O:=O)
                  rw[hi]at h
                  have hob:=qgo_obl r (i+1) _ _ _ _ t h hO hE
                  obtain⟨hp,hOO⟩:=hO' hob.1
                  have hE':=(A6.app hob.2).1
                  have hq:UA c F H l L ((d,W,v)::V) i:=by
                    refine⟨d,op,ty,ps,af,gd,W,v,hoi,hself,.inr ⟨hd,λ a ha hdep=>⟨XE.d (H4 l V L (BM ⟨some d,op,ty,ps,af,gd⟩)),⟨ha.size,ha.CD,λ t g' v' hx=>?_⟩,JS hW,λ w M hX=>Q4 c.hT hX.f hX.st BG hv hE' hp⟩⟩⟩
                    obtain⟨g2,v2,h6,rfl,rfl⟩:=MH hx
                    rcases R0 h6 with h7|⟨j',hj',hd',h7⟩
                    · exact ha.val t _ _ (FT h7)
                    · refine hdep j' hj' t hd' g2 v2 ?_
                      rw[hlk (λ e=>by subst e;exact hVd _ h7)];exact h7
                  obtain⟨k1,k2,k3,k4,k5⟩:=fin (V':=V) (R1 dist ac r (i+1) _ _ O' (E'++E) t hr1 (step hq) h hO hE)
                  exact⟨k1,hOO,(A6.app hob.2).2,k4,k5⟩
where
 qgo_new: ∀(r:List Oper) (i:Nat) (V:XE) (av:List Nat) (O:Prop) (E:List Ck) (t:QG),EB c.T c.N F H l es done L i r V av O E=some t-> ∀j∈t.av,j∈av\/i<=j
  |[],i,V,av,O,E,t,h,j,hj=>by unfold EB at h;cases h;exact .inl hj
  |⟨dst,op,ty,ps,af,gd⟩::r,i,V,av,O,E,t,h,j,hj=>by
   have up: ∀ {av':List Nat},(j∈av'\/i+1<=j)->(∀x∈av',x∈av\/x=i)->j∈av\/i<=j:=λ{av'} h1 h2=>by
    rcases h1 with h1|h1
    ·rcases h2 j h1 with h3|h3
     ·exact .inl h3
     ·exact .inr (by omega)
    ·exact .inr (by omega)
   have cns: ∀x∈i::av,x∈av\/x=i:=λ x hx=>by
    rcases List.mem_cons.1 hx with rfl|hx
    ·exact .inr U
    ·exact .inl hx
   unfold EB at h
   split at h
   ·exact up (qgo_new r _ _ _ _ _ t h j hj) λ x hx=>.inl hx
   ·split at h
    ·exact up (qgo_new r _ _ _ _ _ t h j hj) λ x hx=>.inl hx
    ·split at h
     ·cases h
     ·rename_i d hb
      split at h
      ·exact up (qgo_new r _ _ _ _ _ t h j hj) cns
      ·split at h
       ·cases h
       ·rename_i W hW
        split at h
        ·cases h
        ·rename_i v p E' hv
         split at h
         ·cases h
         ·obtain⟨O',hi,_⟩:=QZ (W:=W) (K:=λ O'=>EB c.T c.N F H l es done L (i+1) r ((d,W,v)::V) (i::av) O' (E'++E)) (ps:=p) (O:=O)
          rw[hi]at h
          exact up (qgo_new r _ _ _ _ _ t h j hj) cns
 qgo_obl: ∀(r:List Oper) (i:Nat) (V:XE) (av:List Nat) (O:Prop) (E:List Ck) (t:QG),EB c.T c.N F H l es done L i r V av O E=some t->t.O->A6 t.E->O/\A6 E
  |[],i,V,av,O,E,t,h,hO,hE=>by unfold EB at h;cases h;exact⟨hO,hE⟩
  |⟨dst,op,ty,ps,af,gd⟩::r,i,V,av,O,E,t,h,hO,hE=>by
   unfold EB at h
   split at h
   ·exact qgo_obl r _ _ _ _ _ t h hO hE
   ·split at h
    ·exact qgo_obl r _ _ _ _ _ t h hO hE
    ·split at h
     ·cases h
     ·rename_i d hb
      split at h
      ·exact qgo_obl r _ _ _ _ _ t h hO hE
      ·split at h
       ·cases h
       ·rename_i W hW
        split at h
        ·cases h
        ·rename_i v p E' hv
         split at h
         ·cases h
         ·obtain⟨O',hi,hO'⟩:=QZ (W:=W) (K:=λ O'=>EB c.T c.N F H l es done L (i+1) r ((d,W,v)::V) (i::av) O' (E'++E)) (ps:=p) (O:=O)
          rw[hi]at h
          obtain⟨h1,h2⟩:=qgo_obl r _ _ _ _ _ t h hO hE
          exact⟨(hO' h1).2,(A6.app h2).2⟩
end
theorem OY{a:Act}{dd:Option Tmp}{v:Value}{t:Nat}(h:dd≠some t):(a.put dd v).tmps[t]? =a.tmps[t]?:=by
 cases dd with
 |none=>rfl
 |some d=>
  have hne:d≠t:=λ e=>h (by rw[e])
  simp[Act.put,Array.getElem?_setIfInBounds_ne hne]
theorem sO{P:Program}{o:Oper}{a:Act}{w:World}{K:Act->World->Prop}{Q:Exit->Act->World->Prop}(h:o.wp P a w K Q):o.wp P a w (λ a' w'=>K a' w'/\ ∀t,o.dst≠some t->a'.tmps[t]? =a.tmps[t]?) Q:=by
 unfold Oper.wp at*
 generalize (execOp a.eval o).run P w=r at*
 cases r with
 |ok x w'=>
  cases x with
  |value v=>exact⟨h,λ t ht=>OY ht⟩
  |skip=>exact⟨h,λ t ht=>OY ht⟩
  |defer d=>exact⟨h,λ t ht=>OY (a:= { a with defers:=d::a.defers}) ht⟩
  |enter f args=>
   refine Calls.mono h λ e w'' k=>?_
   cases e with
   |returned v=>exact⟨k,λ t ht=>OY ht⟩
   |panicked ch=>exact k
   |outgrown=>exact k
  |row r args=>exact Rows.mono h λ v w'' k=>⟨k,λ t ht=>OY ht⟩
  |_=>exact h
 |halt s w'=>cases s<;>exact h
theorem eT{P:Program}{ops:Array Oper}{Q:Exit->Act->World->Prop}{a:Act}{w:World}{i:Nat}{o:Oper}(ho:ops[i]? =some o){K K':Act->World->Prop}(h:wpList P ops (Exit.then K Q) [o] a w)(hk: ∀a' w',K a' w'->(∀t,o.dst≠some t->a'.tmps[t]? =a.tmps[t]?)->K' a' w'):wpOp P ops Q i K' a w:=by
 unfold wpOp
 rw[ho]
 unfold wpList at h
 dsimp only
 split
 ·rename_i hw
  rw[if_pos hw]at h
  rcases h with h|⟨h1,h2⟩
  ·exact .inl (Oper.wp_mono (λ a' w' hh=>hk a' w' hh.1 hh.2) (sO (Q9 h)))
  ·exact .inr ⟨h1,h2⟩
 ·rename_i hw
  rw[if_neg hw]at h
  exact hk _ _ h λ t ht=>OY ht
def Y6:Nat->List Nat
 |0=>[]
 |n+1=>n::Y6 n
theorem eU: ∀ {n i:Nat},i<n->i∈Y6 n
 |n+1,i,h=>by
  by_cases e:i=n
  ·subst e;exact .head _
  ·exact .tail _ (eU (by omega))
def R4(l:List Oper)(es bs:List Nat)(L:XE):Bool:=DV (λ j=>BP j es||BP j bs||match U9 l j with|some d=> !(BP d (keys L))|none=>true) (Y6 l.length)
def DG(c:Cx)(B:Exit->Act->World->Prop)(k:List Fr)(l:List Oper)(es:List Nat):Nat->List Nat->List Nat->XE->List Nat->XS->Prop
 |0,_,_,_,_,_=>False
 |n+1,done,bs,V0,av0,s=> ∃V av O E,EB c.T c.N s.F s.H l es done s.L 0 l [] [] ((0:Int)=0) []=some ⟨V,av,O,E⟩/\O/\A6 E/\FK (keys V0) V=V0/\DV (λ j=>BP j av) av0=true/\R4 l es bs s.L=true/\
  (DV (λ e=>BP e done) es=true->XG c B k .next ⟨s.F,s.H,V++s.L⟩)/\
  ∀e o,l[e]? =some o->BP e es=true->BP e done=false->DV (λ j=>BP j av||BP j done) (BM o)=true->
   XG c B (.loop (DG c B k l es n (done++[e]) (bs++BM o) V av)::k) (.ops ⟨l⟩ [o]) ⟨s.F,s.H,H4 l V s.L (BM o)⟩
theorem eV: ∀ {L:XE} {t:Nat} {x:Gd×XV},B6 L t=some x->t∈keys L
 |[],_,_,h=>by cases h
 |(k,g,v)::L,t,x,h=>by
  unfold B6 at h
  split at h
  ·rename_i e;have:=Nat.eq_of_beq_eq_true e;subst this;exact .head _
  ·exact .tail _ (eV h)
theorem eW: ∀ {V L:XE} {t:Nat},B6 (V++L) t=match B6 V t with|some x=>some x|none=>B6 L t
 |[],_,_=>rfl
 |(k,g,v)::V,L,t=>by
  show(match Nat.beq k t with|true=>some (g,v)|false=>B6 (V++L) t)=match(match Nat.beq k t with|true=>some (g,v)|false=>B6 V t)with|some x=>some x|none=>B6 L t
  split
  ·rfl
  ·exact eW
theorem Y7{l:List Oper}{listed:Array Bool}{i:Nat}(hsz:listed.size=l.length):i∈Region.ready .any l.toArray listed↔ ∃o,l[i]? =some o/\listed.getD i true=false/\ ∀j∈BM o,listed.getD j false=true:=by
 unfold Region.ready
 rw[List.mem_filter,List.mem_range]
 constructor
 ·rintro⟨h1,h2⟩
  have h1:i<l.length:=by simpa using h1
  refine⟨l[i],by simp[h1],?_⟩
  have ho:l.toArray[i]? =some l[i]:=by simp[h1]
  rw[ho]at h2
  simp only[Bool.and_eq_true,Bool.not_eq_true',Option.map_some,Option.getD_some]at h2
  refine⟨h2.1,λ j hj=>?_⟩
  obtain⟨e,he,rfl⟩:=List.mem_map.1 hj
  have he':=List.mem_filter.1 he
  have:=(Array.all_eq_true_iff_forall_mem.1 h2.2) e (by simpa using he'.1)
  rw[he'.2]at this
  simpa using this
 ·rintro⟨o,ho,h1,h2⟩
  have hlt:=(List.getElem?_eq_some_iff.1 ho).1
  refine⟨by simpa using hlt,?_⟩
  have ho':l.toArray[i]? =some o:=by simpa using ho
  rw[ho',h1]
  simp only[Bool.not_false,Bool.true_and,Option.map_some,Option.getD_some]
  rw[Array.all_eq_true_iff_forall_mem]
  intro e he
  by_cases hb:Region.binds .any e=true
  ·rw[h2 e.on (List.mem_map.2 ⟨e,List.mem_filter.2 ⟨by simpa using he,hb⟩,rfl⟩)];simp
  ·simp[hb]
theorem eX{c:Cx}{B:Exit->Act->World->Prop}{k:List Fr}{id:Nat}{l:List Oper}{s:XS}(es:List Nat)(n:Nat)(hl: ∀ops Q l a w,c.W.list ops Q l a w->wpList c.P ops Q l a w)(hm:c.P.follows .mixedOrders=true)(hB:NW l []=true)(hes:DV (λ e=>Nat.blt e l.length) es=true)(h:DG c B k l es n [] [] [] [] s)
  {a:Act} {w:World} (hs:FJ c s a w) (t:Nat):wpOps c.P ⟨l⟩ (post c B k) (Region.schedule (c.P.follows .mixedOrders) ⟨l⟩ t) a { w with drawn:=w.drawn+1}:=by
 simp only[Region.schedule,hm,Bool.true_or,if_true]
 refine wpAny_sound _ t _ a _ ?_
 unfold NW at hB
 simp only[Bool.and_eq_true]at hB
 obtain⟨⟨hac,hdd⟩,_⟩:=hB
 have acyc: ∀(i:Nat) o,l[i]? =some o-> ∀j∈BM o,j<i:=by
  intro i o ho j hj
  have hlt:i<l.length:=(List.getElem?_eq_some_iff.1 ho).1
  have:=List.all_eq_true.1 hac i (List.mem_range.2 hlt)
  rw[ho]at this
  simp only[Option.map_some,Option.getD_some]at this
  exact Nat.le_of_ble_eq_true (List.all_eq_true.1 this j hj)
 have dist: ∀i j a b,BX l i=some a->BX l j=some b->i≠j->a≠b:=by
  intro i j a b hi hj hij
  have h1:i<l.length:=by
   rcases Nat.lt_or_ge i l.length with h|h
   ·exact h
   ·simp[BX,h]at hi
  have h2:j<l.length:=by
   rcases Nat.lt_or_ge j l.length with h|h
   ·exact h
   ·simp[BX,h]at hj
  have:=List.all_eq_true.1 (List.all_eq_true.1 hdd i (List.mem_range.2 h1)) j (List.mem_range.2 h2)
  rw[hi,hj]at this
  simp only[Bool.or_eq_true,Bool.not_eq_true']at this
  rcases this with h|h
  ·exact absurd (Nat.eq_of_beq_eq_true h) hij
  ·intro e;subst e;simp at h
 let Inv:Array Bool->Act->World->Prop:=λ listed a w'=> ∃n done bs s V av O E,EB c.T c.N s.F s.H l es done s.L 0 l [] [] ((0:Int)=0) []=some ⟨V,av,O,E⟩/\O/\A6 E/\
  (DV (λ e=>BP e done) es=true->XG c B k .next ⟨s.F,s.H,V++s.L⟩)/\
  (∀e o,l[e]? =some o->BP e es=true->BP e done=false->DV (λ j=>BP j av||BP j done) (BM o)=true->XG c B (.loop (DG c B k l es n (done++[e]) (bs++BM o) V av)::k) (.ops ⟨l⟩ [o]) ⟨s.F,s.H,H4 l V s.L (BM o)⟩)/\R4 l es bs s.L=true/\(∀j∈bs,listed.getD j false=true)/\
  FJ c s a w'/\(∀j,listed.getD j false=true->(j∈es/\j∈done)\/(j ∉ es/\j∈av/\ ∀d,BX l j=some d-> ∀g v,B6 V d=some (g,v)->a.tmps[d]? =some (sv g.d v.d)))/\(∀e∈done,listed.getD e false=true)
 let cnt:Array Bool->Nat:=λ b=>(b.toList.filter (λ x=> !x)).length
 have cset: ∀(b:Array Bool) (i:Nat),i<b.size->b.getD i true=false->cnt (b.setIfInBounds i true)+1<=cnt b:=by
  intro b i hi hb
  have key: ∀(m:List Bool) (i:Nat),m[i]? =some false->((m.set i true).filter (λ x=> !x)).length+1=(m.filter (λ x=> !x)).length:=by
   intro m
   induction m with
   |nil=>intro i h;simp at h
   |cons x m ih=>
    intro i h
    cases i with
    |zero=>simp at h;subst h;simp
    |succ i=>
     have:=ih i (by simpa using h)
     cases x<;>simp[List.set_cons_succ,List.filter_cons]<;>omega
  have hb':b.toList[i]? =some false:=by
   simp[Array.getD,hi]at hb
   simp[hi,hb]
  have:=key b.toList i hb'
  simp only[cnt,Array.toList_setIfInBounds]
  omega
 have gd: ∀(b:Array Bool) (i:Nat),i<b.size->b.getD i true=b.getD i false:=λ b i hi=>by simp[Array.getD,hi]
 have setd: ∀(b:Array Bool) (i j:Nat),i<b.size->((b.setIfInBounds i true).getD j false=true↔j=i\/b.getD j false=true):=λ b i j hi=>by
  by_cases hji:j=i
  ·subst hji;simp[Array.getD_eq_getD_getElem?,hi]
  ·rw[Array.getD_eq_getD_getElem?,Array.getElem?_setIfInBounds_ne (Ne.symm hji),<-Array.getD_eq_getD_getElem?];simp[hji]
 have look: ∀ {done:List Nat} {s:XS} {V:XE} {av:List Nat} {O:Prop} {E:List Ck},EB c.T c.N s.F s.H l es done s.L 0 l [] [] ((0:Int)=0) []=some ⟨V,av,O,E⟩->O->A6 E->
   MY c s.F s.H l es done s.L l.length V av/\ ∀j,j<l.length->j ∉ es->(∀o,l[j]? =some o-> ∀j'∈BM o,j'∈av\/j'∈done)->j∈av:=by
  intro done s V av O E hq hO hE
  obtain⟨k1,_,_,k4,_⟩:=R1 dist acyc l 0 [] [] _ [] ⟨V,av,O,E⟩ (by simp) ⟨λ t x hx=>(by cases hx),λ j hj=>(by cases hj),λ j hj=>(by cases hj)⟩ hq hO hE
  exact⟨k1,λ j h1 h2 h3=>k4 j (Nat.zero_le _) h1 h2 h3⟩
 have hend: ∀listed a w',Inv listed a w'->listed.size=l.length->Region.ready .any l.toArray listed=[]->post c B k .normal a w':=by
  rintro listed a w' ⟨n,done,bs,s,V,av,O,E,hq,hO,hE,hfin,_,_,_,hsat,hli,hdn⟩ hsz hr
  have all: ∀i,i<l.length->listed.getD i false=true:=by
   intro i
   induction i using Nat.strongRecOn with
   |_ i ih=>
    intro hi
    cases hli:listed.getD i false with
    |true=>rfl
    |false=>
     exfalso
     have:i∈Region.ready .any l.toArray listed:=(Y7 hsz).2 ⟨l[i],by simp[hi],by rw[gd _ _ (by omega)];exact hli,λ j hj=>by
      have hlt:=acyc i l[i] (by simp[hi]) j hj
      exact ih j hlt (by omega)⟩
     rw[hr]at this;cases this
  obtain⟨hI,_⟩:=look hq hO hE
  have hdall:DV (λ e=>BP e done) es=true:=KM.2 λ e he=>by
   have hlt:e<l.length:=Nat.le_of_ble_eq_true (KM.1 hes e he)
   rcases hli e (all e hlt)with⟨_,h2⟩|⟨h1,_⟩
   ·exact EY.2 h2
   ·exact absurd he h1
  obtain⟨hsl,hM⟩:=hsat
  refine hfin hdall a w' ⟨⟨hsl.size,hsl.CD,λ t g v ht=>?_⟩,hM⟩
  obtain⟨g',v',h3,rfl,rfl⟩:=MH ht
  rw[eW]at h3
  split at h3
  ·rename_i x hx
   cases h3
   obtain⟨j,hj,hd⟩:=hI.keys t _ hx
   rcases hli j (all j (hI.lt j hj).1)with⟨h4,_⟩|⟨_,h5,h6⟩
   ·exact absurd h4 (hI.lt j hj).2
   ·exact h6 t hd g' v' hx
  ·exact hsl.val t _ _ (FT h3)
 have main: ∀fuel listed a w',Inv listed a w'->listed.size=l.length->cnt listed<=fuel->wpAny c.P .any l.toArray (post c B k) fuel listed a w':=by
  intro fuel
  induction fuel with
  |zero=>
   intro listed a w' hI hsz hc
   have hr:Region.ready .any l.toArray listed=[]:=by
    refine List.eq_nil_iff_forall_not_mem.2 λ i hi=>?_
    obtain⟨o,ho,h1,_⟩:=(Y7 hsz).1 hi
    have:=cset listed i (by rw[hsz];exact(List.getElem?_eq_some_iff.1 ho).1) h1
    omega
   exact⟨hr,hend listed a w' hI hsz hr⟩
  |succ fuel ih=>
   intro listed a w' hI hsz hc
   refine⟨λ hr=>hend listed a w' hI hsz hr,λ i hi=>?_⟩
   obtain⟨n,done,bs,s,V,av,O,E,hq,hO,hE,hfin,hnx,hcb,hbs,hsat,hli,hdn⟩:=hI
   obtain⟨o,ho,hnl,hdep⟩:=(Y7 hsz).1 hi
   have hil:=(List.getElem?_eq_some_iff.1 ho).1
   have hnl':listed.getD i false=false:=by rw[<-gd _ _ (by omega)];exact hnl
   have ho':l.toArray[i]? =some o:=by simpa using ho
   obtain⟨hQ,hcov⟩:=look hq hO hE
   have hdp: ∀j∈BM o,j∈av\/j∈done:=λ j hj=>(hli j (hdep j hj)).elim (λ h=>.inr h.2) (λ h=>.inl h.2.1)
   obtain⟨hsl,M,hX⟩:=hsat
   have hcs:cnt (listed.setIfInBounds i true)<=fuel:=by have:=cset listed i (by omega) hnl;omega
   cases hes2:BP i es with
   |true=>
    have hie:=EY.1 hes2
    have hid:BP i done=false:=by
     cases hh:BP i done with
     |false=>rfl
     |true=>have:=hdn i (EY.1 hh);rw[hnl']at this;cases this
    have hstep:=hnx i o ho hes2 hid (KM.2 λ j hj=>by rw[Bool.or_eq_true];exact(hdp j hj).imp EY.2 EY.2)
    have hs2:AF a c.N (XE.d (H4 l V s.L (BM o))):=⟨hsl.size,hsl.CD,λ t g v ht=>by
     obtain⟨g',v',h3,rfl,rfl⟩:=MH ht
     rcases R0 h3 with h4|⟨j,hj,hd,h4⟩
     ·exact hsl.val t _ _ (FT h4)
     ·obtain⟨j2,hj2,hd2⟩:=hQ.keys t _ h4
      have hjj:j=j2:=Classical.byContradiction λ hne=>dist j j2 t t hd hd2 hne U
      subst hjj
      rcases hli j (hdep j hj)with⟨h5,_⟩|⟨_,_,h6⟩
      ·exact absurd h5 (hQ.lt j hj2).2
      ·exact h6 t hd g' v' h4⟩
    have h5:=hl _ _ _ _ _ (hstep a w' ⟨hs2,M,hX⟩)
    refine eT (K:=λ a w=> ∃s',DG c B k l es n (done++[i]) (bs++BM o) V av s'/\FJ c s' a w) ho' h5 λ a' w'' ⟨s',hD,hsat'⟩ hput=>?_
    cases n with
    |zero=>exact hD.elim
    |succ n=>
     obtain⟨V',av',O',E',hq',hO',hE',hst,hav,hcb',hfin',hnx'⟩:=hD
     obtain⟨hQ',_⟩:=look hq' hO' hE'
     refine ih _ a' w'' ⟨n,done++[i],bs++BM o,s',V',av',O',E',hq',hO',hE',hfin',hnx',hcb',λ j hj=>(setd _ _ _ (by omega)).2 (.inr ((List.mem_append.1 hj).elim (hbs j) (hdep j))),hsat',λ j hj=>?_,λ e he=>?_⟩ (by simp[hsz]) hcs
     ·rcases(setd _ _ _ (by omega)).1 hj with rfl|hj
      ·exact .inl ⟨hie,by simp⟩
      ·rcases hli j hj with⟨h6,h7⟩|⟨h6,h7,h8⟩
       ·exact .inl ⟨h6,by simp[h7]⟩
       ·refine .inr ⟨h6,EY.1 (KM.1 hav j h7),λ d hd g v hv=>?_⟩
        obtain⟨d0,op,ty,ps,af,gd',W,v0,h9,h10,h11⟩:=hQ.ok j h7
        have hd0:d0=d:=by
         have:BX l j=some d0:=by unfold BX;rw[h9];rfl
         rw[hd]at this;exact(Option.some.inj this).symm
        subst hd0
        have h12:B6 V' d0=some (W,v0):=by
         have:B6 (FK (keys V) V') d0=some (W,v0):=by rw[hst];exact h10
         exact TF _ _ _ _ _ this
        rw[h12]at hv;cases hv
        rw[hput d0 (λ e=>dist i j d0 d0 (by unfold BX;rw[ho];exact e) hd (λ e2=>by subst e2;exact h6 hie) rfl)]
        exact h8 d0 hd _ _ h10
     ·rcases List.mem_append.1 he with he|he
      ·exact(setd _ _ _ (by omega)).2 (.inr (hdn e he))
      ·rw[List.mem_singleton]at he;subst he;exact(setd _ _ _ (by omega)).2 (.inl rfl)
   |false=>
    have hie:i ∉ es:=λ h=>by rw[EY.2 h]at hes2;cases hes2
    have hiav:i∈av:=hcov i hil hie λ o2 ho2 j hj=>by rw[ho]at ho2;cases ho2;exact hdp j hj
    obtain⟨d,op,ty,ps,af,gd',W,v,h9,h10,h11⟩:=hQ.ok i hiav
    rw[ho]at h9;cases h9
    have hdi:BX l i=some d:=by unfold BX;rw[ho];rfl
    have hLd:B6 s.L d=none:=by
     have:=KM.1 hcb i (eU hil)
     have hib:BP i bs=false:=by
      cases hh:BP i bs with
      |false=>rfl
      |true=>have:=hbs i (EY.1 hh);rw[hnl']at this;cases this
     rw[hes2,hib,eS,hdi]at this
     simp only[Bool.false_or,Bool.not_eq_true']at this
     cases hx:B6 s.L d with
     |none=>rfl
     |some x=>have hk:=EY.2 (eV hx);rw[hk]at this;cases this
    obtain⟨hd,h12⟩:=h11.resolve_left (λ⟨x,hx⟩=>by rw[hLd]at hx;cases hx)
    obtain⟨LL,hLL,hwt,hpv⟩:=h12 a hsl λ j' hj' d' hd' g u hu=>by
     obtain⟨j2,hj2,hd2⟩:=hQ.keys d' _ hu
     have hjj:j'=j2:=Classical.byContradiction λ hne=>dist j' j2 d' d' hd' hd2 hne U
     subst hjj
     rcases hli j' (hdep j' hj')with⟨h5,_⟩|⟨_,_,h6⟩
     ·exact absurd h5 (hQ.lt j' hj2).2
     ·exact h6 d' hd' g u hu
    have hstep:wpOp c.P l.toArray (post c B k) i (λ a' w''=>w''=w'/\a'.tmps.size=c.N/\a'.defers=[]/\a'.tmps[d]? =some (sv W.d v.d)/\ ∀t,d≠t->a'.tmps[t]? =a.tmps[t]?) a w':=by
     refine eT (K:=λ a' w''=>w''=w'/\AF a' c.N ((d,W.d,v.d)::LL)) ho' (RL.v (rest:=[]) (Q:=Exit.then (λ a' w''=>w''=w'/\AF a' c.N ((d,W.d,v.d)::LL)) (post c B k)) hwt (hpv w' M hX) hd (λ a2 hs2=>(show w'=w'/\AF a2 c.N ((d,W.d,v.d)::LL)from⟨rfl,hs2⟩)) a hLL) λ a' w'' ⟨e1,e2⟩ e3=>⟨e1,e2.size,e2.CD,e2.val d _ _ (JH _ _ _ _),λ t ht=>e3 t (λ e=>ht (Option.some.inj e))⟩
    refine wpOp_mono (λ a' w'' ⟨e0,e1,e2,e3,e4⟩=>?_) hstep
    subst e0
    have hsl':AF a' c.N s.L.d:=⟨e1,e2,λ t g u ht=>by
     by_cases hdt:d=t
     ·subst hdt
      obtain⟨g',v',h3,_,_⟩:=MH ht
      rw[hLd]at h3;cases h3
     ·rw[e4 t hdt];exact hsl.val t g u ht⟩
    refine ih _ a' w'' ⟨n,done,bs,s,V,av,O,E,hq,hO,hE,hfin,hnx,hcb,λ j hj=>(setd _ _ _ (by omega)).2 (.inr (hbs j hj)),⟨hsl',M,hX⟩,λ j hj=>?_,λ e he=>(setd _ _ _ (by omega)).2 (.inr (hdn e he))⟩ (by simp[hsz]) hcs
    rcases(setd _ _ _ (by omega)).1 hj with rfl|hj
    ·refine .inr ⟨hie,hiav,λ d2 hd2 g u hu=>?_⟩
     rw[hdi]at hd2;cases hd2
     rw[h10]at hu;cases hu;exact e3
    ·rcases hli j hj with h6|⟨h6,h7,h8⟩
     ·exact .inl h6
     ·refine .inr ⟨h6,h7,λ d2 hd2 g u hu=>?_⟩
      have hne:d≠d2:=dist i j d d2 hdi hd2 (λ e=>by subst e;rw[hnl']at hj;cases hj)
      rw[e4 d2 hne];exact h8 d2 hd2 g u hu
 cases n with
 |zero=>exact h.elim
 |succ n=>
  obtain⟨V,av,O,E,hq,hO,hE,_,_,hcb,hfin,hnx⟩:=h
  obtain⟨hsl,M,hX⟩:=hs
  refine main _ _ a _ ⟨n,[],[],s,V,av,O,E,hq,hO,hE,hfin,hnx,hcb,(λ j hj=>by cases hj),⟨hsl,M,hX.st.ext (Ext.drew w),hX.f,hX.le⟩,λ j hj=>?_,(λ e he=>by cases he)⟩ (by simp) ?_
  ·exfalso
   rcases Nat.lt_or_ge j l.length with h|h
   ·simp[Array.getD,h]at hj
   ·simp[Array.getD,Nat.not_lt.2 h]at hj
  ·simp[cnt]
section
variable {c:Cx} {B:Exit->Act->World->Prop} {k k':List Fr} {m:Md} {s s':XS} {O:Prop} {E:List Ck} {l:List Oper} {es done bs:List Nat} {n:Nat} {V0 V:XE} {av0 av:List Nat}
def LO(l:List Oper)(done av:List Nat):List Nat->List Nat
 |[]=>[]
 |e::es=>match BP e done with
  |true=>LO l done av es
  |false=>match nth l e with
   |none=>LO l done av es
   |some o=>match DV (λ j=>BP j av||BP j done) (BM o)with
    |true=>e::LO l done av es
    |false=>LO l done av es
theorem Y8{e:Nat}{o:Oper}(ho:l[e]? =some o)(hd:BP e done=false)(hb:DV (λ j=>BP j av||BP j done) (BM o)=true): ∀ {es:List Nat},e∈es->e∈LO l done av es
 |x::es,h=>by
  unfold LO
  by_cases hx:e=x
  ·subst hx
   rw[hd]
   have:nth l e=some o:=by rw[FU];exact ho
   rw[this]
   dsimp only
   rw[hb]
   exact .head _
  ·have h':e∈es:=by rcases List.mem_cons.1 h with rfl|h;exact absurd rfl hx;exact h
   have ih:=Y8 ho hd hb h'
   split
   ·exact ih
   ·split
    ·exact ih
    ·split
     ·exact .tail _ ih
     ·exact ih
theorem KN(es:List Nat)(n:Nat){id:Nat}(hl: ∀ops Q l a w,c.W.list ops Q l a w->wpList c.P ops Q l a w)(h:run c.T c.N k m s=⟨k',.code (.region id ⟨l⟩ true),s',O,E⟩)(hE:A6 E)(hO:O)(hm:c.P.follows .mixedOrders=true)(hB:(NW l []&&DV (λ e=>Nat.blt e l.length) es)=true)(hn:DG c B k' l es n [] [] [] [] s'):XG c B k m s:=by
 rw[Bool.and_eq_true]at hB
 exact CH h hE hO λ a w hs=>c.W.drawS (eX (id:=id) es n hl hm hB.1 hB.2 hn hs)
theorem HQ(hq:EB c.T c.N s.F s.H l es done s.L 0 l [] [] ((0:Int)=0) []=some ⟨V,av,O,E⟩)(hE:A6 E)(hO:O)(hk:FK (keys V0) V=V0)(hc:(DV (λ j=>BP j av) av0,R4 l es bs s.L,DV (λ e=>BP e done) es)=(true,true,true))
  (hn:XG c B k .next ⟨s.F,s.H,V++s.L⟩):DG c B k l es (n+1) done bs V0 av0 s:=by
 simp only[Prod.mk.injEq]at hc
 exact⟨V,av,O,E,hq,hO,hE,hk,hc.1,hc.2.1,λ _=>hn,λ e o _ h1 h2 _=>by rw[KM.1 hc.2.2 e (EY.1 h1)]at h2;cases h2⟩
theorem CS(e:Nat){o:Oper}(hq:EB c.T c.N s.F s.H l es done s.L 0 l [] [] ((0:Int)=0) []=some ⟨V,av,O,E⟩)(hE:A6 E)(hO:O)(hk:FK (keys V0) V=V0)(hc:(DV (λ j=>BP j av) av0,R4 l es bs s.L,DV (λ e=>BP e done) es,LO l done av es,nth l e)=(true,true,false,[e],some o))
  (hn:XG c B (.loop (DG c B k l es n (done++[e]) (bs++BM o) V av)::k) (.ops ⟨l⟩ [o]) ⟨s.F,s.H,H4 l V s.L (BM o)⟩):DG c B k l es (n+1) done bs V0 av0 s:=by
 simp only[Prod.mk.injEq]at hc
 obtain⟨c1,c2,c3,c4,c5⟩:=hc
 refine⟨V,av,O,E,hq,hO,hE,hk,c1,c2,(λ h=>by rw[c3]at h;cases h),λ e' o' ho' h1 h2 h3=>?_⟩
 have:=Y8 ho' h2 h3 (EY.1 h1)
 rw[c4,List.mem_singleton]at this
 subst this
 rw[FU,ho']at c5;cases c5
 exact hn
theorem eY(e1 e2:Nat){o1 o2:Oper}(hq:EB c.T c.N s.F s.H l es done s.L 0 l [] [] ((0:Int)=0) []=some ⟨V,av,O,E⟩)(hE:A6 E)(hO:O)(hk:FK (keys V0) V=V0)(hc:(DV (λ j=>BP j av) av0,R4 l es bs s.L,DV (λ e=>BP e done) es,LO l done av es,nth l e1,nth l e2)=(true,true,false,[e1,e2],some o1,some o2))
  (hn1:XG c B (.loop (DG c B k l es n (done++[e1]) (bs++BM o1) V av)::k) (.ops ⟨l⟩ [o1]) ⟨s.F,s.H,H4 l V s.L (BM o1)⟩)
  (hn2:XG c B (.loop (DG c B k l es n (done++[e2]) (bs++BM o2) V av)::k) (.ops ⟨l⟩ [o2]) ⟨s.F,s.H,H4 l V s.L (BM o2)⟩):DG c B k l es (n+1) done bs V0 av0 s:=by
 simp only[Prod.mk.injEq]at hc
 obtain⟨c1,c2,c3,c4,c5,c6⟩:=hc
 refine⟨V,av,O,E,hq,hO,hE,hk,c1,c2,(λ h=>by rw[c3]at h;cases h),λ e' o' ho' h1 h2 h3=>?_⟩
 have:=Y8 ho' h2 h3 (EY.1 h1)
 rw[c4]at this
 rcases List.mem_cons.1 this with rfl|this
 ·rw[FU,ho']at c5;cases c5;exact hn1
 ·rw[List.mem_singleton]at this
  subst this
  rw[FU,ho']at c6;cases c6;exact hn2
theorem CE{J:XS->Prop}(h:run c.T c.N k m s=⟨.loop J::k',.next,s',O,E⟩)(hE:A6 E)(hO:O)(hJ:J s'):XG c B k m s:=
 CH h hE hO λ a w hs=>⟨s',hJ,hs⟩
theorem sP{α:Type}[Inhabited α](kk:Nat)(e:TypeId)(sz:Nat)(f:α->List Value)(hf: ∀x,(f x).length=sz)
  (hn:XG c B k m ⟨(kk,kn (.slice none 0 0) sz ([]:List α) f)::s.F,(kk,.ho (.own e sz (.slice none 0 0) ([]:List α).length (([]:List α).flatMap f)))::s.H,s.L⟩):XG c B k m s:=
 λ a w ⟨h1,M,h2⟩=>hn a w ⟨h1,M,h2.st.IM e sz,C0 ⟨Sl.nil M sz,hf,trivial⟩ h2.f,h2.le⟩
theorem CF{γ:Type}(ids:List Nat){all:Array Oper}{rest:List Oper}{d:Nat}{ty:TypeId}{ps:String}{af:Array Edge}{f:FuncId}{xs:List Operand}{tys:Array TypeId}{gd:Option (Nat×Bool)}{W:Gd}{vs:List XV}{E2:List Ck}{u:Value}(ux:XV){pu:γ->Prop}{A R:List (Nat×HX)}
  (h:run c.T c.N k m s=⟨k',.ops all (⟨some d,.call ⟨.value (.func f),⟨xs⟩,tys⟩,ty,ps,af,gd⟩::rest),s',O,E⟩) (hE:A6 E) (hO:O) (ct:CT c.P f) (hg:(GY all s'.L gd,Nat.blt d c.N)=(some W,true)) (hx:HG s'.L W xs=some (vs,E2)) (hE2:A6 E2) (hA:IW ids s'.H=some (A,R))
  (hc:W.d=true-> ∀w M,St c.w0 c.M0 w M (HD A++(HD R++c.Hr))->B7 M s'.F->Calls c.P f (vs.map XV.d).toArray w (CX c.w0 c.M0 M (HD R++c.Hr) (λ _:γ=>u) pu (λ _=>[]) (λ _=>HD A))) (hu:ux.d=u) (hn:XG c B k' (.ops all rest) ⟨s'.F,s'.H,(d,W,ux)::s'.L⟩):XG c B k m s:=by
 simp only[Prod.mk.injEq]at hg
 refine CH h hE hO λ a w ⟨hs,M,hX⟩=>?_
 have hwt:=CG.wanted (o:=⟨some d,.call ⟨.value (.func f),⟨xs⟩,tys⟩,ty,ps,af,gd⟩) (JS hg.1) hs
 have hxd:=KA hx hE2
 have hput: ∀a',AF a' c.N s'.L.d-> ∀v,v=sv W.d ux.d->AF (a'.put (some d) v) c.N (XE.d ((d,W,ux)::s'.L)):=λ a' hs' v hv=>by
  rw[hv];exact hs'.put hg.2 W.d ux.d
 cases hWd:W.d with
 |true=>
  rw[hWd]at hwt hxd
  have hSt:St c.w0 c.M0 w M (HD A++(HD R++c.Hr)):=hX.st.perm (by rw[<-List.append_assoc];exact(LA hA).append_right _)
  refine c.W.want hwt (c.W.one ?_)
  refine wpList_plain U λ K hK=>?_
  have e1:(⟨xs⟩:Array Operand)=xs.toArray:=rfl
  have key:=L4 (P:=c.P) (w:=w) ct hxd hs U (d:=some d) (tys:=tys) (ty:=ty) (ps:=ps) (af:=af) (gd:=none)
  rw[e1]
  simp only[Oper.wp,key,Oper.upon_enter]
  refine(hc hWd w M hSt hX.f).mono λ e w' he=>?_
  obtain⟨g,M',rfl,hp,hle,hS,hF⟩:=he
  refine hK _ _ (c.W.back (hn _ w' ⟨hput a hs _ (by rw[hWd,hu];rfl),M',?_,hX.f.mono hle,hX.le.trans hle⟩))
  exact hS.perm (by rw[<-List.append_assoc];exact((LA hA).append_right _).symm)
 |false=>
  refine c.W.one ?_
  unfold wpList
  rw[hwt,hWd]
  exact c.W.back (hn _ w ⟨hput a hs _ (by rw[hWd];rfl),M,hX⟩)
theorem D4.C5 {F:List (Nat×Kn)}{H:List (Nat×HX)}{w:World}{M:Mem}(ids:List Nat){A R:List (Nat×HX)}(h:D4 c F H w M)(hA:IW ids H=some (A,R)):St c.w0 c.M0 w M (HD A++c.Hr):=by
 have h1:St c.w0 c.M0 w M (HD A++(HD R++c.Hr)):=h.st.perm (by rw[<-List.append_assoc];exact(LA hA).append_right _)
 exact h1.drop _ (List.Sublist.append_left (List.sublist_append_right _ _) _)
theorem sQ{all:Array Oper}{rest:List Oper}{d:Nat}{ty:TypeId}{ps:String}{af:Array Edge}{f:FuncId}{xs:List Operand}{tys:Array TypeId}{vs:List XV}{E2:List Ck}{u:Value}{v:XV}(hM:Sat c.w0 c.M0)(hb:c.Hr=[])(hle:c.M1=c.M0)
  (h:run c.T c.N k m s=⟨k',.ops all (⟨some d,.call ⟨.value (.func f),⟨xs⟩,tys⟩,ty,ps,af,none⟩::rest),s',O,E⟩) (hE:A6 E) (hO:O) (ct:CT c.P f) (hd:Nat.blt d c.N=true) (hx:HG s'.L .t xs=some (vs,E2)) (hE2:A6 E2)
  (hc: ∀w M,D4 c s'.F s'.H w M->Calls c.P f (vs.map XV.d).toArray w (λ e w'=>e= .returned u/\Ext c.w0 w')) (hv:vx u=some v) (hn:XG c B k' (.ops all rest) ⟨[],[],(d,.t,v)::s'.L⟩):XG c B k m s:=by
 refine CH h hE hO λ a w ⟨hs,M,hX⟩=>?_
 have hxd:=KA hx hE2
 refine c.W.one ?_
 refine wpList_plain U λ K hK=>?_
 have e1:(⟨xs⟩:Array Operand)=xs.toArray:=rfl
 have key:=L4 (P:=c.P) (w:=w) ct hxd hs U (d:=some d) (tys:=tys) (ty:=ty) (ps:=ps) (af:=af) (gd:=none)
 rw[e1]
 simp only[Oper.wp,key,Oper.upon_enter]
 refine(hc w M hX).mono λ e w' ⟨he,hw⟩=>?_
 subst he
 have hp:=QH hs hd v
 rw[XC hv]at hp
 exact hK _ _ (c.W.back (hn _ w' ⟨hp,c.M0,by show St _ _ _ _ ([]++c.Hr);rw[hb];exact(St.start hM).ext hw,AA,by rw[hle];exact Mem.le.refl _⟩))
end
end Go.Eng
namespace Go.Eng
def H5{α:Type}(xs:List (List α))(k:Int):List α:=(xs.take k.toNat).flatten
theorem UB{α:Type}{xs:List (List α)}{k:Int}(h0:0<=k)(h1:k<len xs):H5 xs (k+1)=H5 xs k++at' xs k:=by
 have hk:k.toNat<xs.length:=by unfold len at h1;omega
 unfold H5 at'
 rw[show(k+1).toNat=k.toNat+1 from by omega,List.take_add_one,List.flatten_append]
 simp[hk]
theorem eZ{α:Type}{xs:List (List α)}{k:Int}(h:len xs<=k):H5 xs k=xs.flatten:=by
 unfold H5;rw[List.take_of_length_le (by unfold len at h;omega)]
theorem R5{α:Type}(xs:List (List α))(k:Int):len (H5 xs k)<=len xs.flatten:=by
 have h:(xs.take k.toNat).flatten++(xs.drop k.toNat).flatten=xs.flatten:=by rw[<-List.flatten_append,List.take_append_drop]
 unfold H5
 rw[<-h,AG];have:=A8 (xs.drop k.toNat).flatten;omega
theorem at_mem{α:Type}[Inhabited α]{l:List α}{k:Int}(h0:0<=k)(h1:k<len l):at' l k∈l:=SU h0 h1
theorem sR{α:Type}[Inhabited α]{l:List α}{x:α}(h:x∈l): ∃i:Int,0<=i/\i<len l/\at' l i=x:=by
 obtain⟨i,hi,e⟩:=List.getElem_of_mem h
 refine⟨i,by omega,by unfold len;omega,?_⟩
 obtain⟨hlt,e2⟩:=G7 l (i:=i) (by omega) (by unfold len;omega)
 rw[e2];simpa using e
theorem OZ{α:Type}[Inhabited α]{l:List α}{k:Int}(h0:0<=k)(h1:k<len l):Eng.sub l 0 (k+1)=Eng.sub l 0 k++[at' l k]:=by
 obtain⟨hlt,e⟩:=G7 l h0 h1
 unfold Eng.sub
 rw[e,show(k+1).toNat-(0:Int).toNat=k.toNat+1 by omega,show k.toNat-(0:Int).toNat=k.toNat by omega]
 simp only[Int.toNat_zero,List.drop_zero]
 rw[List.take_add_one,List.getElem?_eq_getElem hlt];rfl
theorem LP{α:Type}{l:List α}{k:Int}(h:len l<=k):Eng.sub l 0 k=l:=by
 unfold Eng.sub len at*
 simp only[Int.toNat_zero,List.drop_zero,Nat.sub_zero]
 exact List.take_of_length_le (by omega)
end Go.Eng
set_option maxRecDepth 100000
namespace Go.Eng
theorem PV.sS {P:Program}{C:World->Prop}{L:Env}{W:Bool}{d:Option Tmp}{ty:TypeId}{ps:String}{af:Array Edge}{gd:Option (Nat×Bool)}{t t' e:TypeId}{x:Operand}{M:Mem}{sz n n' c':Nat}{v:Value}{cs:List Value}(hS:Sl M sz n v cs)(hn:0<n)(hx:A5 L W x v)(ht:P.underlying t=some (.slice e)):
  PV P C L W ⟨d,.binOp .eql t x (.const (.slice none n' c')) t',ty,ps,af,gd⟩ (.bool false):=
 .bin hx .c λ _ w _=>by
  obtain⟨p,cap,rfl,_,_,hp⟩:=hS.val
  obtain⟨b,o,rfl,_⟩:=hp hn
  have:=Lib.run_eql_slice_nil (P:=P) w t e (some ⟨b,o,none⟩) n cap n' c' ht
  simp[go_sem,this,eqGuard]
end Go.Eng
namespace Go.Proofs.YtmjpjbmeamnfpaaGreatDoor
open Go.Eng
theorem Tm.cells_one (x:Tm): ∀u∈x.cells,u.oneCell'=true:=by intro u hu;simp[Tm.cells]at hu;rcases hu with rfl|rfl|rfl|rfl|rfl|rfl|rfl|rfl|rfl|rfl|rfl<;>rfl
abbrev G0(u:Value)(hs:List AO)(xs:List Fl):Kn:=⟨u,1,hs,DB,λ M=>CK M 11 Tm.cells hs xs,λ _ _ hm h=>CK.mono hm h⟩
abbrev BS(u:Value)(x:Fl):Kn:=kn u 11 x Tm.cells
theorem UC{M:Mem}{u:Value}{hs:List AO}{xs:List Fl}(h:(G0 u hs xs).ok M){k:Int}(h0:0<=k)(h1:k<len hs):(BS (at' hs k).v (at' xs k)).ok M:=⟨CK.at h.more h0 h1,Tm.BZ,trivial⟩
theorem Y9{M:Mem}{u:Value}{hs:List AO}{xs:List Fl}(h:(G0 u hs xs).ok M):len hs=len xs:=by have:=CK.len (f:=Tm.cells) h.more;unfold len;omega
end Go.Proofs.YtmjpjbmeamnfpaaGreatDoor
namespace Go.Eng
def DK(f:Fl)(i:Int)(us:List Tf)(R:Fl):Prop:=0<=i/\f.drop i.toNat=AL us++R
theorem Tf.IA (u:Tf):u.flat= { u.t with many:=len u.ps}::AL u.ps:=by cases u;rfl
theorem HR: ∀(a b:List Tf),AL (a++b)=AL a++AL b
 |[],b=>rfl
 |x::a,b=>by show x.flat++AL (a++b)=(x.flat++AL a)++AL b;rw[HR a b,List.append_assoc]
theorem DK.step {f:Fl}{i:Int}{u:Tf}{us:List Tf}{R:Fl}(h:DK f i (u::us) R):i<len f/\at' f i= { u.t with many:=len u.ps}/\DK f (i+1) (u.ps++us) R:=by
 obtain⟨h0,h1⟩:=h
 have e:f.drop i.toNat= { u.t with many:=len u.ps}::(AL u.ps++(AL us++R)):=by
  rw[h1];show(u.flat++AL us)++R=_;rw[Tf.IA];simp
 have hlt:i.toNat<f.length:=by
  rcases Nat.lt_or_ge i.toNat f.length with h|h
  ·exact h
  ·rw[List.drop_of_length_le h]at e;cases e
 refine⟨by unfold len;omega,?_,by omega,?_⟩
 ·obtain⟨h2,h3⟩:=G7 f h0 (by unfold len;omega)
  rw[h3]
  have:=congrArg (·[0]?) e
  simpa[hlt]using this
 ·rw[show(i+1).toNat=i.toNat+1 by omega,<-List.drop_drop,e]
  show AL u.ps++(AL us++R)=_
  rw[HR,List.append_assoc]
theorem DK.LQ {f:Fl}{i:Int}{us:List Tf}{R:Fl}(h:DK f i us R)(hi:i<=len f):i+len (AL us)+len R=len f:=by
 have:=congrArg List.length h.2
 rw[List.length_drop,List.length_append]at this
 unfold len at*
 have:=h.1;omega
theorem DK.part {f:Fl}{i j:Int}{u:Tf}{R:Fl}(h:DK f i [u] R)(h2:DK f j [] R)(hij:i<=j)(hj:j<=len f):Eng.sub f i j=u.flat:=by
 have h3:=h.LQ (by omega)
 have h4:=h2.LQ hj
 have e1:AL [u]=u.flat:=by show u.flat++AL []=_;simp[AL]
 have e2:len (AL [])=0:=rfl
 rw[e1]at h3
 unfold Eng.sub
 rw[h.2,e1,show j.toNat-i.toNat=u.flat.length by have:=h.1;unfold len at*;omega]
 exact List.take_left
theorem DK.next {f:Fl}{i:Int}{us:List Tf}{k:Nat}(h:DK f i (us.drop k) [])(hk:k<us.length):DK f i [at' us k] (AL (us.drop (k+1))):=by
 refine⟨h.1,?_⟩
 rw[h.2]
 have e:us.drop k=at' us (k:Int)::us.drop (k+1):=by
  obtain⟨h1,h2⟩:=G7 us (i:=(k:Int)) (by omega) (by unfold len;omega)
  rw[h2]
  rw[List.drop_eq_getElem_cons hk];simp
 rw[e]
 show(at' us (k:Int)).flat++AL _++[]=_
 simp[AL]
theorem Tf.sT (t:Tf):(at' t.flat 0).many=len t.ps:=by rw[Tf.IA];rfl
theorem Tf.UD (t:Tf):at' t.flat 0= { t.t with many:=len t.ps}:=by rw[Tf.IA];rfl
theorem Tf.P0 (t:Tf):t.flat≠[]:=by rw[Tf.IA];exact List.cons_ne_nil _ _
theorem Tf.G3 (t:Tf):0<len t.flat:=by rw[Tf.IA,AK];have:=A8 (AL t.ps);omega
theorem Tf.sU (t:Tf)(n:A1):(t.flat).set 0 { at' t.flat 0 with name:=n}=(t.named n).flat:=by cases t;rfl
theorem Tf.sV (t:Tf)(n:A1):len (t.named n).flat=len t.flat:=by cases t;rfl
theorem P1: ∀xs:List Tf,AL xs=(xs.map Tf.flat).flatten
 |[]=>rfl
 |x::xs=>by show x.flat++AL xs=_;rw[P1 xs];rfl
theorem Tf.R6 (t:Tm)(ps:List Tf):(Tf.mk t ps).flat= { t with many:=len ps}::(ps.map Tf.flat).flatten:=by rw[<-P1];rfl
theorem fA{x:Tf}: ∀ {xs:List Tf},x∈xs->len x.flat<=len (AL xs)
 |y::xs,h=>by
  have h1:=A8 y.flat
  have h2:=A8 (AL xs)
  show _<=len (y.flat++AL xs)
  rw[AG]
  rcases List.mem_cons.1 h with rfl|h
  ·omega
  ·have:=fA h;omega
theorem UE: ∀xs:List Tf,len xs<=len (AL xs)
 |[]=>Int.le_refl _
 |x::xs=>by
  have h1:=x.G3
  have h2:=UE xs
  show _<=len (x.flat++AL xs)
  rw[AG,AK];omega
theorem Tf.sW {t:Tf}(h:t.t.name=[]):t.named []=t:=by
 obtain⟨tm,ps⟩:=t
 have h':tm.name=[]:=h
 show Tf.mk { tm with name:=[]} ps=_
 rw[<-h']
def H6:Tf->Prop
 | .mk t [a,b]=>t.op=4->a.t.name=[]/\b.t.name=[]/\H6 b
 | .mk t _=>t.op≠4
theorem H6.two {x:Tf}(h:H6 x)(ho:x.t.op=4): ∃a b,x= .mk x.t [a,b]/\a.t.name=[]/\b.t.name=[]/\H6 b/\ ∀g,QS x g= .mk (AN 4) [a,QS b g]:=by
 obtain⟨t,ps⟩:=x
 have h':t.op=4:=ho
 match ps,h with
 |[a,b],h=>
  unfold H6 at h
  obtain⟨h1,h2,h3⟩:=h h'
  exact⟨a,b,rfl,h1,h2,h3,λ g=>by rw[QS,if_pos h']⟩
 |[],h=>unfold H6 at h;exact absurd h' h
 |[_],h=>unfold H6 at h;exact absurd h' h
 |_::_::_::_,h=>unfold H6 at h;exact absurd h' h
theorem H6.no {x:Tf}(h:x.t.op≠4):H6 x:=by
 obtain⟨t,ps⟩:=x
 have h':t.op≠4:=h
 unfold H6
 split
 ·rename_i t a b h1;cases h1;exact λ h2=>absurd h2 h'
 ·rename_i h1 h2;cases h2;exact h'
theorem fB{α:Type}[Inhabited α](l:List α)(x:α){i:Int}(h:i=len l):at' (l++[x]) i=x:=by
 subst h
 unfold at' len;simp
theorem UF{α:Type}[Inhabited α](l m:List α){i:Int}(h0:0<=i)(h1:i<len l):at' (l++m) i=at' l i:=by
 unfold at' len at*
 simp only[List.getD]
 rw[List.getElem?_append_left (by omega)]
theorem fC{α β:Type}[Inhabited α][Inhabited β](f:α->β)(l:List α){i:Int}(h0:0<=i)(h1:i<len l):at' (l.map f) i=f (at' l i):=by
 obtain⟨h2,h3⟩:=G7 l h0 h1
 obtain⟨h4,h5⟩:=G7 (l.map f) h0 (by unfold len at*;simpa using h1)
 rw[h3,h5];simp
end Go.Eng
set_option maxRecDepth 100000
namespace Go.Proofs.YtmjpjbmeamnfpaaGreatDoor
open Go.Eng
theorem IB{α:Type}{a b:α}{l:List α}:l.Sublist (a::b::l):=List.sublist_append_right [a,b] l
theorem fD{α:Type}{a b c:α}{l:List α}:l.Sublist (a::b::c::l):=List.sublist_append_right [a,b,c] l
theorem fE{α:Type}{a b c d:α}{l:List α}:l.Sublist (a::b::c::d::l):=List.sublist_append_right [a,b,c,d] l
end Go.Proofs.YtmjpjbmeamnfpaaGreatDoor
set_option maxRecDepth 100000
namespace Go.Proofs.YtmjpjbmeamnfpaaGreatDoor
open Go.Eng
abbrev IC(hs:List AO)(xs:List Fl):Kn:=⟨.slice none 0 0,1,([]:List A1),AW,λ M=>CK M 11 Tm.cells hs xs,λ _ _ hm h=>CK.mono hm h⟩
end Go.Proofs.YtmjpjbmeamnfpaaGreatDoor
