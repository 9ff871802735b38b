/- Lemmas for the card. -/
import Derived.Test.YtnoegalemkbbbaaGreatDoorKp16
set_option linter.unusedVariables false
set_option linter.unusedSimpArgs false
set_option maxRecDepth 100000
namespace Go.Eng
open Go.RowKit
def TS(l:List Tk)(j:Int)(u:List Tk):Prop:=0<=j/\(A5 l j).map (strip false)=u
theorem TS.add {l:List Tk}{j:Int}{u r:List Tk}(h:TS l j (u++r)):TS l (j+len u) r:=by
 obtain⟨h0,b⟩:=h
 have e:=A9 u
 refine⟨Aa,?_⟩
 rw[<-KE l j (len u) h0 e]
 unfold A5 len at*
 rw[List.map_drop,b];simp
theorem TS.at {l:List Tk}{j:Int}{t:Tk}{r:List Tk}(h:TS l j (t::r)):(at' l j).kind=t.kind/\(at' l j).s=t.s/\(at' l j).c=t.c/\j<len l:=by
 obtain⟨h0,h1⟩:=h
 have hd:A5 l j=l.drop j.toNat:=rfl
 cases hf:A5 l j with
 |nil=>rw[hf]at h1;cases h1
 |cons a q=>
  rw[hf,List.map_cons]at h1
  have i:strip false a=t:=(List.cons.inj h1).1
  have b:(l.drop j.toNat)[0]? =some a:=by rw[<-hd,hf];rfl
  rw[List.getElem?_drop,Nat.add_zero]at b
  have e:at' l j=a:=by unfold at';rw[List.getD_eq_getElem?_getD,b];rfl
  have hl:=(List.getElem?_eq_some_iff.1 b).1
  rw[e,<-i]
  exact⟨rfl,rfl,rfl,by unfold len;omega⟩
theorem TS.CJ {l:List Tk}{j:Int}{t:Tk}{r:List Tk}(h:TS l j (t::r))(m:A0):CJ l j m=(t.kind==1&&t.s==m):=by unfold Eng.CJ;rw[h.at.1,h.at.2.1]
theorem TS.QM {l:List Tk}{j:Int}{m:A0}{r:List Tk}(h:TS l j (iE m::r)):HC l j m= .ok () (j+1):=by
 unfold HC;rw[h.CJ,if_pos (by show((1:Int)==1&&m==m)=true;simp)]
theorem TS.open {l:List Tk}{d j:Int}{m:A0}{r:List Tk}(h:TS l j (iE m::r))(hd:d<64):KW l d j m= .ok () (j+1):=by
 unfold KW;rw[h.CJ,if_neg (by simp;omega)];exact h.QM
abbrev ln(x:List Tk):Nat:=x.length
theorem Ap5(t:Tm)(n:A0):CU { t with name:=n}=CU t:=by
 obtain⟨o,m,nm,s,k,c⟩:=t
 unfold CU F0
 simp only[Tm.mk.injEq,true_and]
theorem Ap6(t:Tm)(n:A0)(dn:List Tf)(y:Tf):JV { t with name:=n} dn y=JV t dn y:=by unfold JV EG;rfl
theorem u5(t:Tm)(n:A0): ∀(l dn:List Tf),EM { t with name:=n} dn l=EM t dn l
 |[],dn=>rfl
 |y::l,dn=>by rw[EM,EM,Ap6,u5 t n l]
theorem Tf.AR.named {x:Tf}(h:x.AR)(n:A0):(x.named n).AR:=by
 obtain⟨t,ps⟩:=x
 obtain⟨h1,b⟩:=h
 refine⟨?_,?_⟩
 ·rw[Tf.zm]at h1;rw[Tf.named,Tf.zm];exact h1
 ·rw[Tf.IX]at b
  rw[Tf.named,Tf.IX,u5]
  have e:CU ⟨t.op,len ps,n,t.s,t.n,t.c⟩=CU ⟨t.op,len ps,t.name,t.s,t.n,t.c⟩:=Ap5 ⟨t.op,len ps,t.name,t.s,t.n,t.c⟩ n
  show(CU ⟨t.op,len ps,n,t.s,t.n,t.c⟩&&EM t [] ps&&H0 ps)=true
  rw[e];exact b
def W3(v:Fl):Prop:= ∀t∈v,len t.s<=100/\len t.name<=100/\len t.c.s<=100
theorem W3.root {x:Tf}(h:W3 x.flat):len x.t.s<=100/\len x.t.name<=100/\len x.t.c.s<=100:=by
 have:=h x.node (by rw[Tf.FK];exact List.mem_cons_self)
 exact this
theorem W3.named {x:Tf}(h:W3 x.flat):W3 (x.named []).flat:=by
 have e:=h.root
 intro t b
 rw[Tf.FK]at b
 rcases List.mem_cons.1 b with rfl|b
 ·obtain⟨t,ps⟩:=x
  exact⟨e.1,by show len ([]:A0)<=100;decide,e.2.2⟩
 ·rw[Tf.fW]at b
  exact h t (by rw[Tf.FK];exact List.mem_cons_of_mem _ b)
theorem Im.mono {y:Tf}{n m:Nat}(h:Im y n)(hm:n<=m):Im y m:=⟨Nat.le_trans h.size hm,h.ar,h.sh⟩
theorem LD(o:Int):len (AP o).name<=100/\len (AP o).s<=100/\len (AP o).c.s<=100:=by refine⟨?_,?_,?_⟩<;>(show len ([]:A0)<=_;decide)
theorem MU{l:List Tf}{k:Nat}(h:k<l.length):at' l (k:Int)∈l:=by
 obtain⟨_,b⟩:=CG l (i:=(k:Int)) Aa (by unfold len;omega)
 rw[b];exact List.getElem_mem _
theorem ZK(f:Tf):(AL f).length=f.ps.length:=List.length_map _
theorem u6{f x:Tf}(h:x∈AL f): ∃z∈f.ps,x=z.named []:=by
 obtain⟨z,b,rfl⟩:=List.mem_map.1 h
 exact⟨z,b,rfl⟩
theorem J5(n:A0)(f:Tf):hF (f.named n)=hF f:=by cases f;rfl
theorem Ap7{f:Tf}{k:Nat}(h:k<f.ps.length):at' (AL f) (k:Int)=(at' f.ps (k:Int)).named []:=by
 obtain⟨h1,b⟩:=CG f.ps (i:=(k:Int)) Aa (by unfold len;omega)
 obtain⟨j,e⟩:=CG (AL f) (i:=(k:Int)) Aa (by unfold len;rw[ZK];omega)
 rw[b,e];simp[AL]
theorem Tf.AR.CD {f x:Tf}(h:f.AR)(hx:x∈AL f):x.AR/\x.size<f.size:=by
 obtain⟨z,b,rfl⟩:=u6 hx
 refine⟨(h.kids z b).named [],?_⟩
 rw[Tf.E7,f.size_eq]
 have:=I0 b
 omega
theorem AT.CD {f x:Tf}(h:AT f)(hx:x∈AL f):AT x:=by
 obtain⟨z,b,rfl⟩:=u6 hx
 exact(h.kids z b).named (by show len ([]:A0)<=_;decide)
theorem iF:K2.AR:=⟨⟨rfl,trivial⟩,Ac⟩
theorem MV{g:Tf}{i:Int}(hg:g.AR)(hs:AT g)(h:H5 g=true):
  (BO g i).1.AR/\(BO g i).1.t.op=7/\(BO g i).2.1.AR/\AT (BO g i).1/\AT (BO g i).2.1/\(BO g i).1.size<g.size+1/\(BO g i).2.1.size<=g.size/\(1+(BO g i).1.size-1)*hF (BO g i).2.1<=hF g/\(g.t.op=4->(BO g i).2.1.size<g.size):=by
 unfold BO
 by_cases h4:g.t.op=4
 ·rw[if_pos h4]
  obtain⟨a,b,e⟩:=hg.two (.inl h4)
  have l:a.named []∈AL g:=by unfold AL;rw[e];simp
  have k:b.named []∈AL g:=by unfold AL;rw[e];simp
  have e0:at' (AL g) 0=a.named []:=by unfold AL;rw[e];rfl
  have n:at' (AL g) 1=b.named []:=by unfold AL;rw[e];rfl
  unfold H5 at h
  have j:a.t.op=7:=by
   rw[e]at h
   simp only[h4,Bool.or_eq_true,decide_eq_true_eq,Bool.and_eq_true]at h
   rcases h with h|h
   ·omega
   ·exact h.2
  show(at' (AL g) 0).AR/\_
  simp only[e0,n]
  refine⟨(hg.CD l).1,by rw[Tf.ZG];exact j,(hg.CD k).1,hs.CD l,hs.CD k,by have:=(hg.CD l).2;omega,by have:=(hg.CD k).2;omega,?_,λ _=>(hg.CD k).2⟩
  rw[J5,Tf.E7,J3 g,if_pos h4,e,hP,hP,hP,Nat.mul_one,J3 a,if_neg Aa,if_pos j,a.size_eq,Nat.add_sub_cancel_left]
  exact Nat.le_refl _
 ·rw[if_neg h4]
  have j:g.t.op=7:=by
   unfold H5 at h
   simp only[h4,decide_false,Bool.false_and,Bool.or_false,decide_eq_true_eq]at h
   exact h
  refine⟨hg,j,iF,hs,(H6 _).2 ⟨LD 0,λ x hx=>by cases hx⟩,by show g.size<_;omega,by show 1<=g.size;exact g.size_pos,?_,λ h=>absurd h h4⟩
  show(1+g.size-1)*1<=_
  rw[J3 g,if_neg h4,if_pos j,g.size_eq];omega
theorem u7{g:Tf}{i:Int}{t:Tf}(hg:g.AR)(h:AT g)(l:H5 g=true):
  ∃a,(BO g i).1.ps=[a]/\at' (AL (BO g i).1) 0=a.named []/\t.size+a.size<=t.size*hF g/\ ∀m,m<=t.size+a.size->m*hF (BO g i).2.1<=t.size*hF g:=by
 obtain⟨p1,p2,p3,p4,p5,p6,p7,j,_⟩:=MV (i:=i) hg h l
 obtain⟨a,e⟩:=p1.one (.inr (.inr (.inl p2)))
 have n:=t.size_pos
 have hs:=(BO g i).1.size_eq
 rw[e,A6,A6]at hs
 have hp:=KN _ p3
 have k:t.size+a.size<=t.size*(BO g i).1.size:=by
  rw[show(BO g i).1.size=a.size+1 by omega,Nat.mul_add,Nat.mul_one]
  have:=Nat.mul_le_mul_right a.size n
  omega
 rw[show 1+(BO g i).1.size-1=(BO g i).1.size by omega]at j
 have b:t.size*(BO g i).1.size*hF (BO g i).2.1<=t.size*hF g:=by rw[Nat.mul_assoc];exact Nat.mul_le_mul_left _ j
 refine⟨a,e,by unfold AL;rw[e];rfl,?_,λ m hm=>Nat.le_trans (Nat.mul_le_mul_right _ (Nat.le_trans hm k)) b⟩
 exact Nat.le_trans (Nat.le_trans k (Nat.le_mul_of_pos_right _ hp)) b
theorem uA{im:Tf->Int->Tf->PR Tf}{g:Tf}{i:Int}{t y:Tf}{j:Int}(hg:g.AR)(b:AT g)(n:H5 g=true)(hi:P6 im (BO g i).2.1)(he:LC im g i t= .ok y j)(s:B6 t=true)(hs:AT t):Im y (t.size*hF g):=by
 obtain⟨p1,p2,p3,p4,p5,p6,p7,z,_⟩:=MV (i:=i) hg b n
 unfold LC at he
 obtain⟨u,k,h1,h⟩:=PR.HW he
 obtain⟨a,e,e2,A,w⟩:=u7 (i:=i) (t:=t) hg b n
 rw[e2]at h1
 obtain⟨l,_⟩:=QV _ h1 ((p4.kids a (by rw[e];simp)).named (by show len ([]:A0)<=_;decide)) s hs
 have q:=l.size
 rw[Tf.E7]at q
 split at h
 ·exact(hi _ _ _ _ h l.ar l.sh).mono (w _ q)
 ·cases h
theorem ZL{x:Tf}: ∀ {l:List Tf},x∈l->hF x<=hS l
 |y::l,h=>by
  rw[hS]
  rcases List.mem_cons.1 h with rfl|h
  ·omega
  ·have:=ZL h;omega
theorem uB{v:Tf}{i:Int}(j:v.AR)(hs:AT v)(h:0<=(GP v i).2):(GP v i).1.AR/\AT (GP v i).1/\(GP v i).1.size<=v.size/\hF (GP v i).1<=hF v/\(GP v i).2+(GP v i).1.size<=i+v.size:=by
 have k:=v.size_pos
 unfold GP at h ⊢
 split at h<;>rename_i h1
 ·rw[if_pos h1]
  refine⟨iF,(H6 _).2 ⟨LD 0,λ x hx=>by cases hx⟩,k,KN v j,?_⟩
  show i+((1:Nat):Int)<=_
  omega
 ·rw[if_neg h1]
  split at h<;>rename_i l
  ·rw[if_pos l]
   obtain⟨a,b,e⟩:=j.two (.inl l.1)
   have n:b.named []∈AL v:=by unfold AL;rw[e];simp
   have q:at' (AL v) 1=b.named []:=by unfold AL;rw[e];rfl
   show(at' (AL v) 1).AR/\AT (at' (AL v) 1)/\(at' (AL v) 1).size<=_/\hF (at' (AL v) 1)<=_/\i+2+_<=_
   rw[q]
   have w:=a.size_pos
   have s:=v.size_eq
   rw[e,A6,A6,A6]at s
   refine⟨(j.CD n).1,hs.CD n,by have:=(j.CD n).2;omega,?_,by rw[Tf.E7];omega⟩
   rw[J5,J3 v,if_pos l.1,e,hP,hP,hP,Nat.mul_one]
   have:=KN a (j.kids a (by rw[e];simp))
   exact Nat.le_mul_of_pos_left _ this
  ·exact absurd h (by show ¬(0:Int)<= -1;decide)
theorem ZM{g:Tf}(hg:g.AR)(hs:AT g)(h:0<=(DM g).2):(DM g).1.AR/\AT (DM g).1/\(DM g).1.size<g.size/\hF (DM g).1<=hF g/\(DM g).2+(DM g).1.size<=g.size:=by
 unfold DM at h ⊢
 split at h<;>rename_i h1
 ·exact absurd h (by show ¬(0:Int)<= -1;decide)
 rw[if_neg h1]
 obtain⟨a,b,e⟩:=i7 (l:=g.ps) Aa
 have j:a∈g.ps:=by rw[e];simp
 have k:b∈g.ps:=by rw[e];simp
 have e0:at' g.ps 0=a:=by rw[e];rfl
 have y:at' g.ps 1=b:=by rw[e];rfl
 rw[e0,y]at h ⊢
 have z:g.t.op=8:=by omega
 have A:=I0 j
 have B:=I0 k
 have i:=g.size_eq
 have C:=ZL j
 have D:=ZL k
 have E:hF g=1+hS g.ps:=by rw[J3,if_neg Aa,if_neg Aa]
 split at h<;>rename_i w
 ·rw[if_pos w]
  split at h<;>rename_i n
  ·rw[if_pos n]
   obtain⟨q,s,F,G,H⟩:=uB (hg.kids b k) (hs.kids b k) h
   exact⟨q,s,Aa,Aa,by rw[e,A6,A6,A6]at i;omega⟩
  ·exact absurd h (by show ¬(0:Int)<= -1;decide)
 ·rw[if_neg w]
  split at h<;>rename_i n
  ·rw[if_pos n]
   split at h<;>rename_i J
   ·rw[if_pos J]
    obtain⟨q,s,F,G,H⟩:=uB (hg.kids a j) (hs.kids a j) h
    exact⟨q,s,Aa,Aa,by rw[e,A6,A6,A6]at i;omega⟩
   ·exact absurd h (by show ¬(0:Int)<= -1;decide)
  ·exact absurd h (by show ¬(0:Int)<= -1;decide)
abbrev uC(im:Tf->Int->Tf->PR Tf)(n:Nat):Prop:= ∀g:Tf,g.size<n->g.AR->AT g->P6 im g
theorem Ap8{im:Tf->Int->Tf->PR Tf}{g:Tf}{n:Nat}(hi:uC im n)(z:g.size<n)(hg:g.AR)(b:AT g){i:Int}{t y:Tf}{j:Int}(he:EU im g i t= .ok y j)(h:B6 t=true)(hs:AT t):Im y (t.size*(1+hF g)):=by
 have hle:t.size*hF g<=t.size*(1+hF g):=Nat.mul_le_mul_left _ Aa
 have l:=KN g hg
 unfold EU at he
 split at he<;>rename_i G
 ·split at he<;>rename_i s
  ·obtain⟨u,k,h1,D⟩:=PR.HW he
   have:=PR.DQ D
   subst this
   obtain⟨a,e⟩:=(B6.one h) (.inr Aa)
   have w:at' (AN t) 0∈AN t:=MU (k:=0) (by rw[MO Aa,List.length_map,e];exact Nat.zero_lt_one)
   obtain⟨H,A⟩:=MS h hs
   obtain⟨p1,p2,p3,p4,p5,p6,p7,J,K⟩:=MV (i:=i+1) hg b s
   have q:=uA hg b s (hi _ Aa p3 p5) h1 (A _ w).1 (A _ w).2
   refine⟨?_,MR (by show ¬(5:Int)=1;decide) (λ _=>rfl) (λ x hx=>?_),(H6 _).2 ⟨LD 5,λ x hx=>?_⟩⟩
   ·rw[Tf.size,A6,A6]
    have B:=q.size
    have L:=I0 w
    have E:(at' (AN t) 0).size*hF g<=t.size*hF g:=Nat.mul_le_mul_right _ (by rw[t.size_eq];omega)
    have:=t.size_pos
    rw[Nat.mul_add,Nat.mul_one];omega
   ·rw[List.mem_singleton.1 hx];exact q.ar
   ·rw[List.mem_singleton.1 hx];exact q.sh
  ·exact(W0 (hi g z hg b) l Aa he h hs).mono hle
 ·split at he<;>rename_i s
  ·exact(W0 (hi g z hg b) l Aa he h hs).mono hle
  ·split at he<;>rename_i q
   ·split at he<;>rename_i B
    ·obtain⟨C,F,M,N,_⟩:=ZM hg b B
     exact(W0 (hi _ Aa C F) (KN _ C) Aa he h hs).mono (Nat.mul_le_mul_left _ Aa)
    ·cases he
   ·cases he
theorem uD{im:Tf->Int->Tf->PR Tf}{t:Tf}(n:B6 t=true)(hs:AT t): ∀ {l:List Tf} {i:Int} {seen:List (List Sp)} {ys:List Tf} {j:Int},J2 im t l i seen= .ok ys j->(∀x∈l,P6 im (x.named []))->ys.length=l.length/\A6 ys<=t.size*hS l/\ ∀y∈ys,B6 y=true/\AT y
 |[],_,_,ys,j,he,_=>by
  have:=PR.DQ he
  subst this
  exact⟨rfl,Nat.zero_le _,λ y q=>by cases q⟩
 |x::l,i,seen,ys,j,he,hi=>by
  unfold J2 at he
  obtain⟨y,k,h1,h⟩:=PR.HW he
  split at h
  ·cases h
  ·obtain⟨zs,m,s,w⟩:=PR.HW h
   have:=PR.DQ w
   subst this
   have e:=hi x (.head _) _ _ _ _ h1 n hs
   rw[J5]at e
   obtain⟨A,C,B⟩:=uD n hs s λ z b=>hi z (.tail _ b)
   refine⟨by simp[A],?_,λ z b=>?_⟩
   ·rw[A6,hS,Nat.mul_add];have:=e.size;omega
   ·rcases List.mem_cons.1 b with rfl|b
    ·exact⟨e.ar,e.sh⟩
    ·exact B z b
theorem Ap9{ns:List A0}{l:List Tf}(h: ∀y∈l,B6 y=true/\AT y)(b: ∀n∈ns,len n<=100): ∀y∈CL ns l,B6 y=true/\AT y:=λ y i=>by
 obtain⟨x,hx,e⟩:=ZH i
 have:=h x hx
 rcases e with rfl|⟨n,hm,rfl⟩
 ·exact this
 ·exact⟨by rw[ZF];exact this.1,this.2.named (b n hm)⟩
theorem uE{im:Tf->Int->Tf->PR Tf}{f:Tf}(l:AT f)(hi: ∀x∈f.ps,P6 im (x.named [])){i:Int}{t y:Tf}{j:Int}(he:KM im f i t= .ok y j)(q:B6 t=true)(hs:AT t):Im y (t.size*(1+hS f.ps)):=by
 unfold KM at he
 obtain⟨ys,k,h1,s⟩:=PR.HW he
 obtain⟨A,B,b⟩:=uD q hs h1 hi
 have w:=t.size_pos
 have C:1+t.size*hS f.ps<=t.size*(1+hS f.ps):=by rw[Nat.mul_add,Nat.mul_one];omega
 have:=PR.DQ s
 subst this
 split
 ·exact⟨by rw[Tf.size];omega,MR (by show ¬(4:Int)=1;decide) (λ h=>absurd h (by show ¬((4:Int)=3\/(5<=(4:Int)/\(4:Int)<=8));omega)) (λ x hx=>(b x hx).1),(H6 _).2 ⟨LD 4,λ x hx=>(b x hx).2⟩⟩
 ·have e:=Ap9 (ns:=f.ps.map λ x=>x.t.name) b (λ n z=>by obtain⟨x,hx,rfl⟩:=List.mem_map.1 z;exact(l.kids x hx).root.1)
  refine⟨by rw[Tf.size,VZ (OY _),QU];omega,MR (by show ¬(2:Int)=1;decide) (λ h=>absurd h (by show ¬((2:Int)=3\/(5<=(2:Int)/\(2:Int)<=8));omega)) (λ x hx=>(e x ((OY _).mem_iff.1 hx)).1),(H6 _).2 ⟨LD 2,λ x hx=>(e x ((OY _).mem_iff.1 hx)).2⟩⟩
theorem ZN: ∀ {l:List Tf} {k:Nat} (y:Tf),k<l.length->A6 (l.set k y)+(at' l (k:Int)).size=A6 l+y.size
 |x::l,0,y,h=>by rw[List.set_cons_zero,A6,A6];show _+x.size=_;omega
 |x::l,k+1,y,h=>by
  have:=ZN (l:=l) (k:=k) y (by simpa using h)
  have e:at' (x::l) ((k+1:Nat):Int)=at' l (k:Int):=by unfold at';simp
  rw[List.set_cons_succ,A6,A6,e];omega
theorem ZO{a b:List Tf}(h:a.Sublist b):A6 a<=A6 b:=by
 induction h with
 |slnil=>exact Nat.le_refl _
 |cons x _ e=>rw[A6];omega
 |cons_cons x _ e=>rw[A6,A6];omega
theorem NR{ns:List A0}{n:A0}(h:n∈ns):(BU ns n).toNat<ns.length/\BU ns n=((BU ns n).toNat:Int):=by
 have:=rR h
 unfold len at this
 exact⟨Aa,Aa⟩
theorem ZP{i:Int}: ∀ {p:List Sp} {t y:Tf} {j:Int},FE i p t= .ok y j->B6 t=true->AT t->Im y t.size/\y.t=t.t
 |[],_,_,_,he,_,_=>by cases he
 |s::p,t,y,j,he,h,hs=>by
  unfold FE at he
  split at he
  ·cases he
  rename_i h1
  have h1:t.t.op=2:=Decidable.not_not.1 h1
  split at he
  ·cases he
  rename_i e
  have e:s.name∈B7 t:=Decidable.not_not.1 e
  obtain⟨A,q⟩:=NR e
  have B:(B7 t).length=t.ps.length:=by rw[NQ,MO Aa,List.length_map]
  split at he
  ·split at he
   ·cases he
   ·have:=PR.DQ he
    subst this
    have b:=List.eraseIdx_sublist t.ps (BU (B7 t) s.name).toNat
    refine⟨⟨by rw[Tf.size,t.size_eq];have:=ZO b;omega,MR Aa Aa (λ x hx=>(B6.kids h) x (b.subset hx)),(H6 _).2 ⟨hs.root,λ x hx=>hs.kids x (b.subset hx)⟩⟩,rfl⟩
  ·obtain⟨u,k,C,D⟩:=PR.HW he
   have:=PR.DQ D
   subst this
   obtain⟨G,w⟩:=MS h hs
   have z:(BU (B7 t) s.name).toNat<(AN t).length:=by rw[<-NQ];exact A
   have hm:at' (AN t) (BU (B7 t) s.name)∈AN t:=by rw[q];exact MU z
   obtain⟨n,H⟩:=ZP C (w _ hm).1 (w _ hm).2
   refine⟨⟨?_,MR Aa Aa (λ x hx=>?_),(H6 _).2 ⟨hs.root,λ x hx=>?_⟩⟩,rfl⟩
   ·have E:=ZN (u.named s.name) (l:=t.ps) (k:=(BU (B7 t) s.name).toNat) Aa
    have F:=n.size
    rw[q,gT z,Tf.E7]at F
    rw[Tf.E7]at E
    rw[Tf.size,t.size_eq];omega
   ·rcases List.mem_or_eq_of_mem_set hx with hx|rfl
    ·exact(B6.kids h) x hx
    ·rw[ZF];exact n.ar
   ·rcases List.mem_or_eq_of_mem_set hx with hx|rfl
    ·exact hs.kids x hx
    ·exact n.sh.named (u4 hs _ e)
theorem iG{o:Int}{s:A0}{t:Tf}(i:B6 t=true)(hs:AT t)(h1:o≠1)(ho:t.t.op≠1)(j:(o=3\/(5<=o/\o<=8))->len t.ps=1)(b:len s<=100):Im (.mk { AP o with s:=s} (AN t)) t.size:=by
 obtain⟨k,e⟩:=MS i hs
 have hl:len (AN t)=len t.ps:=by rw[MO ho];unfold len;rw[List.length_map]
 exact⟨by rw[Tf.size,t.size_eq];omega,MR h1 (λ h=>by rw[hl];exact j h) (λ x hx=>(e x hx).1),(H6 _).2 ⟨⟨(LD o).1,b,(LD o).2.2⟩,λ x hx=>(e x hx).2⟩⟩
theorem Aq0{x:Tm}{i:Int}{t y:Tf}{j:Int}(he:JN x i t= .ok y j)(hx:len x.s<=100)(b:B6 t=true)(hs:AT t):Im y t.size:=by
 unfold JN at he
 split at he
 ·cases he
 rename_i h1
 have h1:t.t.op=5:=Decidable.not_not.1 h1
 split at he
 ·have:=PR.DQ he
  subst this
  obtain⟨a,e⟩:=(B6.one b) (.inr Aa)
  exact iG b hs (by split<;>omega) Aa (λ _=>by rw[e];rfl) hx
 ·cases he
theorem uF{l m:List Tf}{n:Nat}(h: ∀x∈l,B6 x=true/\AT x)(b:1+A6 l<=n)(hm: ∀x∈m,x∈l)(e:A6 m<=A6 l):Im (.mk (AP 4) m) n:=
 ⟨by rw[Tf.size];omega,MR (by show ¬(4:Int)=1;decide) (λ h=>absurd h (by show ¬((4:Int)=3\/(5<=(4:Int)/\(4:Int)<=8));omega)) (λ x hx=>(h x (hm x hx)).1),(H6 _).2 ⟨LD 4,λ x hx=>(h x (hm x hx)).2⟩⟩
theorem Aq1{x:Tm}{i:Int}{l:List Tf}{y:Tf}{j:Int}{n:Nat}(he:I6 x i l= .ok y j)(hx:x.op=2->0<=x.n)(h: ∀x∈l,B6 x=true/\AT x)(e:1+A6 l<=n):Im y n:=by
 unfold I6 at he
 split at he
 ·cases he
 rename_i h1
 split at he<;>rename_i k
 ·have:=PR.DQ he
  subst this
  have q:=hx k
  have hm:at' l x.n∈l:=at_mem (l:=l) q Aa
  have:=I0 hm
  exact⟨Aa,(h _ hm).1,(h _ hm).2⟩
 ·have:=PR.DQ he
  subst this
  split
  ·exact uF h e (λ z b=>List.mem_of_mem_drop b) (ZO (List.drop_sublist _ _))
  ·exact uF h e (λ z b=>List.mem_reverse.1 b) (by rw[VZ (List.reverse_perm l)];exact Nat.le_refl _)
theorem Aq2{x:Tm}{i:Int}{t y:Tf}{j:Int}(he:GQ x i t= .ok y j)(hx:x.op=2->0<=x.n)(b:B6 t=true)(hs:AT t):Im y t.size:=by
 obtain⟨z,k⟩:=MS b hs
 have l:=t.size_eq
 unfold GQ at he
 split at he
 ·split at he
  ·split at he
   ·rename_i h1 A h
    have:=PR.DQ he
    subst this
    obtain⟨q,w⟩:=NR h
    have hm:at' (AN t) (BU (B7 t) x.s)∈AN t:=by rw[w];exact MU (by rw[<-NQ];exact q)
    have:=I0 hm
    exact⟨Aa,(k _ hm).1,(k _ hm).2⟩
   ·cases he
  ·cases he
 ·split at he
  ·split at he
   ·exact Aq1 he hx k Aa
   ·split at he
    ·have:=PR.DQ he
     subst this
     exact⟨Nat.le_refl _,b,hs⟩
    ·cases he
  ·split at he
   ·split at he
    ·rename_i h
     have:=PR.DQ he
     subst this
     obtain⟨a,e⟩:=(B6.one b) (.inl h)
     exact iG b hs Aa Aa (λ _=>by rw[e];rfl) (by show len ([]:A0)<=_;decide)
    ·cases he
   ·split at he
    ·split at he
     ·rename_i h
      have:=PR.DQ he
      subst this
      obtain⟨a,e⟩:=(B6.one b) (.inr Aa)
      exact iG b hs Aa Aa (λ _=>by rw[e];rfl) (by show len ([]:A0)<=_;decide)
     ·cases he
    ·cases he
theorem Aq3{im:Tf->Int->Tf->PR Tf}{f:Tf}(hi:uC im f.size)(hg:f.AR)(n:AT f):P6 (GD im) f:=by
 intro i t y j he l hs
 have D:=t.size_pos
 have hle:t.size<=t.size*hF f:=Nat.le_mul_of_pos_right _ (KN f hg)
 unfold GD at he
 split at he
 ·have:=PR.DQ he
  subst this
  exact⟨hle,l,hs⟩
 split at he<;>rename_i h1 s
 ·obtain⟨a,b,e⟩:=hg.two (.inl s)
  have h:a.named []∈AL f:=by unfold AL;rw[e];simp
  have w:b.named []∈AL f:=by unfold AL;rw[e];simp
  have e0:at' (AL f) 0=a.named []:=by unfold AL;rw[e];rfl
  have E:at' (AL f) 1=b.named []:=by unfold AL;rw[e];rfl
  rw[e0,E]at he
  obtain⟨u,k,z,A⟩:=PR.HW he
  have q:=hi _ (hg.CD h).2 (hg.CD h).1 (n.CD h) _ _ _ _ z l hs
  have C:=hi _ (hg.CD w).2 (hg.CD w).1 (n.CD w) _ _ _ _ A q.ar q.sh
  refine C.mono ?_
  rw[J5]
  have B:=q.size
  rw[J5]at B
  rw[J3 f,if_pos s,e,hP,hP,hP,Nat.mul_one,<-Nat.mul_assoc]
  exact Nat.mul_le_mul_right _ B
 split at he<;>rename_i z
 ·obtain⟨a,e⟩:=hg.one (.inl z)
  have h:a.named []∈AL f:=by unfold AL;rw[e];simp
  have e0:at' (AL f) 0=a.named []:=by unfold AL;rw[e];rfl
  rw[e0]at he
  have:=Ap8 hi (hg.CD h).2 (hg.CD h).1 (n.CD h) he l hs
  refine this.mono (Nat.mul_le_mul_left _ ?_)
  rw[J5,J3 f,if_neg s,if_neg Aa,e,hS,hS];omega
 split at he<;>rename_i A
 ·obtain⟨a,e⟩:=hg.one (.inr (.inl A))
  have h:a.named []∈AL f:=by unfold AL;rw[e];simp
  have e0:at' (AL f) 0=a.named []:=by unfold AL;rw[e];rfl
  rw[e0]at he
  split at he<;>rename_i q
  ·have:=W0 (hi _ (hg.CD h).2 (hg.CD h).1 (n.CD h)) (KN _ (hg.CD h).1) Aa he l hs
   refine this.mono (Nat.mul_le_mul_left _ ?_)
   rw[J5,J3 f,if_neg s,if_neg Aa,e,hS,hS];omega
  ·cases he
 split at he<;>rename_i q
 ·cases he
 split at he<;>rename_i C
 ·have:=uE n (λ x hx=>hi _ (by rw[Tf.E7,f.size_eq];have:=I0 hx;omega) ((hg.kids x hx).named []) ((n.kids x hx).named (by show len ([]:A0)<=_;decide))) he l hs
  rwa [J3 f,if_neg s,if_neg q]
 split at he<;>rename_i B
 ·exact(Aq0 he n.root.2.1 l hs).mono hle
 split at he<;>rename_i F
 ·split at he
  ·cases he
  ·exact(ZP he l hs).1.mono hle
 ·refine(Aq2 he (λ G=>?_) l hs).mono hle
  have:=ZE hg.plain (.inl G)
  exact this.2.1
theorem T5: ∀(n:Nat) (f:Tf),f.size<=n->f.AR->AT f->P6 (BG n) f:=by
 intro n
 induction n with
 |zero=>intro f h;have:=f.size_pos;omega
 |succ n b=>
  intro f e hg hs
  exact Aq3 (λ g i hg hs=>b g Aa hg hs) hg hs
theorem iH{α:Type}[Inhabited α](pre x post:List α){j:Int}(h0:0<=j)(h1:j<len x):at' (pre++(x++post)) (len pre+j)=at' x j:=by
 have hp:=A9 post
 have l:=A9 pre
 obtain⟨n,b⟩:=CG (pre++(x++post)) (i:=len pre+j) Aa (by rw[AQ,AQ];omega)
 obtain⟨h,k⟩:=CG x (i:=j) h0 h1
 rw[b,k]
 have e:(len pre+j).toNat=pre.length+j.toNat:=by unfold len at*;omega
 simp only[e]
 rw[List.getElem_append_right Aa]
 simp only[Nat.add_sub_cancel_left]
 rw[List.getElem_append_left h]
theorem Aq4(pre x post:Fl){j:Int}{a:Tm}(h0:0<=j)(h1:j<len x)(hm:0<=(at' x j).many)(b:j+(at' x j).many+1<=len x):GC (pre++(x++post)) (len pre+j) a=pre++(GC x j a++post):=by
 have h:=iH pre x post h0 h1
 obtain⟨m,e⟩: ∃m:Nat,(at' x j).many=m:=⟨(at' x j).many.toNat,Aa⟩
 obtain⟨k,rfl⟩: ∃k:Nat,j=k:=⟨j.toNat,Aa⟩
 have i:k+m+1<=x.length:=by unfold len at b;omega
 have l:JM (pre++(x++post)) (len pre+k)=pre++(JM x k++post):=by
  unfold JM
  rw[h,show(len pre+(k:Int)).toNat=pre.length+k by unfold len;omega,List.set_append_right _ _ Aa,Nat.add_sub_cancel_left,List.set_append_left _ _ Aa]
  rfl
 have n:(JM x (k:Int)).length=x.length:=by unfold JM;rw[List.length_set]
 unfold GC
 rw[l,h,e]
 have e2:(len pre+(k:Int)+m+1).toNat=pre.length+(k+m+1):=by unfold len;omega
 have e3:((k:Int)+m+1).toNat=k+m+1:=by omega
 rw[e2,e3,List.take_length_add_append,List.drop_length_add_append,List.take_append_of_le_length Aa,List.drop_append_of_le_length Aa]
 simp only[List.append_assoc,List.cons_append]
theorem eD{l:List Tf}(h: ∀x∈l,x.ps=[]):len (AO l)=len l:=by rw[tL h];unfold len;rw[List.length_map]
theorem uG{p:List Sp}{a:Tm}{n:A0}(q: ∀(t:Tf) (i:Int),BK p t=(i,true)->B6 t=true->GC t.flat i a=(FZ (K1 a.n a.c) p t).flat/\0<=(at' t.flat i).many/\i+(at' t.flat i).many+1<=len t.flat):
  ∀(l:List Tf) (pre:Fl) (i:Int),GB l (len pre) n (BK p)=(i,true)->(∀x∈l,B6 x=true)->GC (pre++AO l) i a=pre++AO (KL n (FZ (K1 a.n a.c) p) l)/\0<=(at' (pre++AO l) i).many/\i+(at' (pre++AO l) i).many+1<=len (pre++AO l)
 |[],pre,i,h,_=>by cases h
 |x::l,pre,i,h,s=>by
  unfold GB at h
  unfold KL
  split at h<;>rename_i w
  ·rw[if_pos w]
   split at h<;>rename_i z
   ·obtain⟨j,k⟩: ∃j,j=(BK p x).1:=⟨_,rfl⟩
    rw[<-k]at h
    have hi:i=len pre+j:=by have:=congrArg Prod.fst h;exact this.symm
    obtain⟨g1,g2,g3⟩:=q x j (by rw[k,<-z]) (s x (.head _))
    have b:=Z7 p x
    rw[<-k]at b
    subst hi
    show GC (pre++(x.flat++AO l)) _ a=pre++((FZ _ p x).flat++AO l)/\0<=(at' (pre++(x.flat++AO l)) _).many/\_+(at' (pre++(x.flat++AO l)) _).many+1<=len (pre++(x.flat++AO l))
    rw[Aq4 pre x.flat (AO l) b.1 b.2 g2 g3,g1,iH pre x.flat (AO l) b.1 b.2,AQ,AQ]
    have:=A9 (AO l)
    exact⟨rfl,g2,Aa⟩
   ·cases h
  ·rw[if_neg w]
   have e:len pre+len x.flat=len (pre++x.flat):=(AQ _ _).symm
   rw[e]at h
   have:=uG q l (pre++x.flat) i h λ y A=>s y (.tail _ A)
   show GC (pre++(x.flat++AO l)) _ a=pre++(x.flat++AO (KL n _ l))/\0<=(at' (pre++(x.flat++AO l)) _).many/\_+(at' (pre++(x.flat++AO l)) _).many+1<=len (pre++(x.flat++AO l))
   rw[<-List.append_assoc,<-List.append_assoc]
   exact this
theorem uH{a:Tm}: ∀(p:List Sp) (t:Tf) (i:Int),BK p t=(i,true)->B6 t=true->GC t.flat i a=(FZ (K1 a.n a.c) p t).flat/\0<=(at' t.flat i).many/\i+(at' t.flat i).many+1<=len t.flat
 |[],t,i,h,b=>by
  have ho:t.t.op=1:=by
   have:=congrArg Prod.snd h
   exact of_decide_eq_true this
  have hi:i=0:=(congrArg Prod.fst h).symm
  subst hi
  have hl:=eD (B6.leaf b ho)
  have hm:(at' t.flat 0).many=len t.ps:=t.YB
  have k:len t.flat=1+len t.ps:=by rw[Tf.FI,AM,hl];omega
  have j:=A9 t.ps
  refine⟨?_,by rw[hm];exact j,by rw[hm];omega⟩
  unfold GC
  have e:(0+(at' t.flat 0).many+1).toNat=(JM t.flat 0).length:=by
   unfold JM
   rw[List.length_set,hm];unfold len at k j ⊢;omega
  rw[e,List.take_length,List.drop_length]
  unfold JM FZ
  rw[hm,t.S9]
  conv=>lhs;rw[Tf.FI]
  rw[Tf.FI]
  show({ t.t with many:=len t.ps+1}::AO t.ps)++_= { t.t with many:=len (t.ps++[K1 a.n a.c])}::AO (t.ps++[K1 a.n a.c])
  rw[JJ,AQ]
  rfl
 |s::p,t,i,h,b=>by
  obtain⟨h1,w,q⟩:=iC (by rw[h])
  rw[q]at h
  have:=uG (a:=a) (λ t i=>uH p t i) t.ps [{ t.t with many:=len t.ps}] i h (B6.kids b)
  unfold FZ
  have e: ∀l:List Tf,len l=len t.ps->(Tf.mk t.t l).flat=[{ t.t with many:=len t.ps}]++AO l:=λ l hl=>by rw[Tf.FI];show{ t.t with many:=len l}::AO l=_;rw[hl];rfl
  rw[e _ (by unfold len;rw[tV]),show t.flat=[{ t.t with many:=len t.ps}]++AO t.ps by rw[Tf.FI];rfl]
  exact this
end Go.Eng
set_option maxRecDepth 100000
namespace Go.Proofs.YtnoegalemkbbbaaGreatDoor
open Go.Proofs.Tryz
open Go.Eng Go.RowKit
abbrev K3(w0:World)(M0 M:Mem)(Rs:List HO)(r:PR Tf):Ending->World->Prop:=XA w0 M0 M Rs 110 r λ y _=>BJ w0 M0 M Rs (λ h:AI=>h.v) (λ _=>True) (λ h=>[(0,A7 h.v y.flat)]) λ _=>[]
theorem P7(p:Tf):DU p=(AL p).map Tf.flat:=by unfold DU AL;rw[List.map_map];rfl
theorem Aq5{t:Tm}(h:EG t=true):t.op=16\/t.op=17\/t.op=18\/t.op=19:=by
 unfold EG at h
 simp only[Bool.and_eq_true,decide_eq_true_eq]at h
 omega
theorem uI{p:Tf}(hg:p.AR)(ho:p.t.op≠8)(i:EG p.t=true\/p.t.op=7): ∀x∈p.ps,x.AR/\EG x.t=true/\x.named []=x:=λ x hx=>by
 obtain⟨a,b,e⟩:=List.append_of_mem hx
 have h:=hg.L4 a x b e
 refine⟨hg.kids x hx,?_,Tf.ME (h.n ho)⟩
 rw[h.c]
 rcases i with h|h
 ·rw[h];rfl
 ·simp[h]
theorem Aq6{p:Tf}{i:Int}{t:Tf}{h:Bool}(e:p.ps=[]):E8 p i t h=if(BK (C8 p.t.s).1 t).2=true then .ok (FZ (K1 (if h=true then p.t.n else MM p.t.n) p.t.c) (C8 p.t.s).1 t) 0 else .er i 5:=by
 cases p with|mk x ps=>cases e;rfl
theorem Aq7{p a:Tf}{i:Int}{t:Tf}{h:Bool}(e:p.ps=[a]):E8 p i t h=E8 a (i+1) t (!h):=by
 cases p with|mk x ps=>cases e;rfl
theorem Aq8{p a b:Tf}{i:Int}{t:Tf}{h:Bool}(e:p.ps=[a,b]):E8 p i t h=if decide (p.t.op=17)≠h then .er i 4 else(E8 a (i+1) t h).bind λ y _=>E8 b (i+1+a.size) y h:=by
 cases p with|mk x ps=>cases e;rfl
theorem CN(x:Tf):len x.flat=x.size:=by unfold len;rw[Tf.DC]
theorem uJ: ∀(n:Nat) (p:Tf) {w0 wv:World} {M0 M:Mem} {Rs:List HO} (i:Int) (v u:Value) (t:Tf) (h:Bool),p.size<=n->p.AR->EG p.t=true->AT p->St w0 M0 wv M Rs->Gl w0->(A7 v p.flat).ok M->(A7 u t.flat).ok M->B6 t=true->AT t->(t.size:Int)+p.size<=16777216->0<=i->i+p.size<=1099511627776->
    Calls prog 35 [v,i64 i,u,.bool h].toArray wv (K3 w0 M0 M Rs (E8 p i t h)):=by
 intro n
 induction n with
 |zero=>intro p _ _ _ _ _ i v u t h hn;have:=p.size_pos;omega
 |succ n V=>
 intro p w0 wv M0 M Rs i v u t h hn hg hc X hS F hlp hlt T G hsz hi0 hi1
 have K:=p.size_eq
 have hpz:=CN p
 have htz:=CN t
 have htp:=t.size_pos
 have L:(at' p.flat 0).op=p.t.op:=by rw[p.DA];rfl
 have hco:=Aq5 hc
 have P:=uI hg Aa (.inl hc)
 have D: ∀x∈p.ps,AT x:=X.kids
 refine AH (Hr:=Rs) AF func35 U ntmps35 [(0,A7 v p.flat),(1,A7 u t.flat)] [] [.sl 0 v,I i,.sl 1 u,.v (.bool h)] U hS (AG hlp (AG hlt A4)) (λ B l=>BA 2 U zeroValue48 U λ b9=>AS [] (λ g:Value×List AI=>.sl 3 g.1) [3] (λ _=>[]) U U call77 U U (λ w M hS hF=>SA hS (hF.get (k:=0) U) Aa) λ N hgg=>?_) U
 refine A1 U (λ O=>?_) (λ O=>?_)<;>simp only[zb]at O<;>rw[L]at O
 ·obtain⟨a,e⟩:=hg.one (.inr (.inr (.inr O)))
  rw[e]at K
  rw[A6,A6]at K
  obtain⟨k1,k2,k3⟩:=P a (by rw[e];simp)
  have C:DU p=[a.flat]:=by rw[P7];unfold AL;rw[e];show [(a.named []).flat]=_;rw[k3]
  rw[Aq7 e,<-PR.ret (E8 a (i+1) t !h)]at l
  have hgl2:len N.2=1:=by rw[hgg,e];rfl
  exact EF [] [4] (λ _ (g:AI)=>.sl 4 g.v) (λ _ _ _=>[]) l U U call35 U U (List.sublist_cons_self _ _) (λ w M hS hF=>V a (i+1) (at' N.2 0).v u t (!h) Aa k1 k2 (D a (by rw[e];simp)) hS F (by have:=F9 (hF.get (k:=3) U) (k:=0) Aa Aa;rw[C]at this;exact this) (hF.get (k:=1) U) T G Aa Aa Aa) λ y j hy l g _=>A2 l U U U λ w M' A=>⟨g,M',rfl,trivial,A.le,A.B9 [] U,AG (A.f.get (k:=4) U) A4⟩
 refine A1 U (λ H=>?_) (λ H=>?_)<;>simp only[zb]at H<;>rw[L]at H
 ·have e:p.ps=[]:=by
   have:=(tT hg.plain H).1
   have h2:len p.ps=0:=this
   exact List.eq_nil_of_length_eq_zero (by unfold len at h2;omega)
  have hn5:=(tT hg.plain H).2.2.1
  have Q:(at' p.flat 0).s=p.t.s:=by rw[p.DA];rfl
  have hn0:(at' p.flat 0).n=p.t.n:=by rw[p.DA];rfl
  have hc0:(at' p.flat 0).c=p.t.c:=by rw[p.DA];rfl
  have hrs:=X.root
  rw[Aq6 e,<-Q,<-hn0,<-hc0]at l
  obtain⟨x,hx⟩: ∃x,x=at' p.flat 0:=⟨_,rfl⟩
  rw[<-hx]at l Q hn0 hc0
  have hrl:=VN x.s
  refine BA 5 U zeroValue113 U λ b11=>CP 0 (λ s=>s=⟨[(0,A7 v p.flat),(1,A7 u t.flat)],[(5,.box b11 (I (if h=true then(at' p.flat 0).n else MM (at' p.flat 0).n)::EO (at' p.flat 0).c.cells) 113),(2,.box b9 (EO (at' p.flat 0).cells) 48)],[Z 1 (I i),Z 2 (.sl 1 u),Z 9 (.bx 2 b9 0),Z 11 (.bx 5 b11 0)]⟩) U U (λ q=>?_) (λ q=>?_) ?_
  ·have hh:h=false:=by simpa using q
   subst hh
   exact AS [] (λ _:Unit=>I (MM (at' p.flat 0).n)) [] (λ _=>[]) (Fg:=λ _=>[]) (pu:=λ _=>True) U U call78 U U (λ w M hS hF=>Ak8 _ hS) λ _ _=>AW _ U U U
  ·have hh:h=true:=by simpa using q
   subst hh
   exact AW _ U U U
  rintro s rfl
  obtain⟨R,hnn⟩: ∃R,R=if h=true then x.n else MM x.n:=⟨_,rfl⟩
  rw[<-hx,<-hnn]
  rw[<-hnn]at l
  refine DI [3,5,9,10] 5 (λ _ _ _ _ _ h=>h) U BM U <|AK 3 U U U <|AS [] (λ u:Value=>.sl 6 u) [6] (λ _=>[]) (Fg:=λ u=>[(1,kn u 3 (C8 x.s).1 Sp.cells)]) (pu:=λ _=>True) U U call80 U U (λ w M hS hF=>gU x.s hS F (by rw[Q];omega)) λ v6 _=>AD U <|AK 5 U U U ?_
  obtain⟨k,hk⟩: ∃k,k=(BK (C8 x.s).1 t).1:=⟨_,rfl⟩
  cases hl:(BK (C8 x.s).1 t).2 with
  |false=>
   refine AS [] (λ _:Unit=>.tu [.v (.slice none 0 0),I 6]) [] (λ _=>[]) (Fg:=λ _=>[]) (pu:=λ _=>True) U U call79 U U (λ w M hS hF=>Ak4 (a:= { AP 9 with n:=R,c:=x.c}) hS (hF.get (k:=1) U) (hF.get (k:=6) U) Aa Aa hl) λ _ _=>?_
   refine AD U ?_
   refine AK 9 U U U ?_
   refine AD U ?_
   refine AK 10 U U U ?_
   refine AD U ?_
   refine BN U U U ?_
   rw[hl,if_neg Ab]at l
   refine A1 U (λ J=>?_) (λ J=>?_)
   ·refine EY [] U U call81 U U (λ w M hS hF=>FL i 5 hS) λ a w M hs hS hle=>?_
    exact E4 _ (l.p ⟨M,rfl,hS.drop _ ((List.sublist_cons_self _ _).cons _),hle⟩ a hs)
   ·exact absurd J (by simp)
  |true=>
   have hlq:BK (C8 x.s).1 t=(k,true):=by rw[hk,<-hl]
   obtain⟨r1,r2,r3⟩:=uH (a:= { AP 9 with n:=R,c:=x.c}) (C8 x.s).1 t k hlq T
   refine AS [] (λ g:Value=>.tu [.sl 7 g,I 0]) [] (λ g=>[(7,DV g (FZ (K1 R x.c) (C8 x.s).1 t).flat)]) (Fg:=λ _=>[]) (pu:=λ _=>True) (Hg:=λ g=>[IT g (FZ (K1 R x.c) (C8 x.s).1 t).flat]) U U call79 U U (hu:=λ _=>rfl) (hH:=λ _=>rfl) (λ w M hS hF=>by rw[<-r1];exact Ak5 (a:= { AP 9 with n:=R,c:=x.c}) hS (hF.get (k:=1) U) (hF.get (k:=6) U) Aa Aa hlq ⟨r2,r3⟩) λ g _=>?_
   refine AD U ?_
   refine AK 9 U U U ?_
   refine AD U ?_
   refine AK 10 U U U ?_
   refine AD U ?_
   refine BN U U U ?_
   rw[hl,if_pos U]at l
   refine A1 U (λ J=>?_) (λ J=>?_)
   ·exact absurd J (by simp)
   refine C2 7 U ?_
   refine UT 7 U λ a7 c7 e7=>?_
   subst e7
   exact A2 l U U U λ w M' A=>⟨⟨a7,_,c7⟩,M',rfl,trivial,A.le,A.B9 [] U,AG (A.f.get (k:=7) U) A4⟩
 ·obtain⟨a,b,e⟩:=hg.two (.inr Aa)
  rw[e]at K
  rw[A6,A6,A6]at K
  obtain⟨a1,a2,a3⟩:=P a (by rw[e];simp)
  obtain⟨b1,b2,b3⟩:=P b (by rw[e];simp)
  have C:DU p=[a.flat,b.flat]:=by rw[P7];unfold AL;rw[e];show [(a.named []).flat,(b.named []).flat]=_;rw[a3,b3]
  have hgl2:len N.2=2:=by rw[hgg,e];rfl
  have hz1:=CN a
  rw[Aq8 e]at l
  refine A1 U (λ q=>?_) (λ q=>?_)
  ·rw[if_pos (by rw[L]at q;simp only[bne_iff_ne,ne_eq]at q;exact q)]at l
   exact EY [] U U call81 U U (λ w M hS hF=>FL i 4 hS) λ a w M hs hS hle=>E4 _ (l.p ⟨M,rfl,hS.drop _ (List.sublist_cons_self _ _),hle⟩ a hs)
  rw[if_neg (by rw[L]at q;simp only[bne_eq_false_iff_eq]at q;exact λ h9=>h9 q)]at l
  refine DI [8,17,19,20] 5 (λ _ _ _ _ _ h=>h) U BM U <|G6 8 17 U U U ?_ ?_
  ·refine AU (W:=.t) (I (len a.flat)) U U (λ w M A=>by have:=F9 (A.f.get (k:=3) U) (k:=0) Aa Aa;rw[C]at this;exact PV.O4 this.sl (A8 (v:=.v (at' N.2 0).v) (E:=[]) U) ⟨_,underlying23⟩) <|AD U <|AK 17 U U U <|EF [] [4] (λ _ (g:AI)=>.sl 4 g.v) (λ _ _ _=>[]) l U U call35 U U (List.sublist_cons_self _ _) (λ w M hS hF=>V a (i+1) (at' N.2 0).v u t h Aa a1 a2 (D a (by rw[e];simp)) hS F (by have:=F9 (hF.get (k:=3) U) (k:=0) Aa Aa;rw[C]at this;exact this) (hF.get (k:=1) U) T G Aa Aa Aa) λ y j hy l g _=>?_
   obtain⟨S,y2⟩:=QV a hy (D a (by rw[e];simp)) T G
   have y3:=S.size
   refine AD U <|AK 19 U U U ?_
   rw[<-PR.ret (E8 b (i+1+a.size) y h)]at l
   refine EF [] [5] (λ _ (g:AI)=>.sl 5 g.v) (λ _ _ _=>[]) l U U call35 U U (List.sublist_cons_self _ _) (hu:=λ _ _=>rfl) (hH:=λ _ _ _=>rfl) (λ w M hS hF=>by
    have:=V b (i+1+a.size) (at' N.2 1).v g.v y h Aa b1 b2 (D b (by rw[e];simp)) hS F (by have:=F9 (hF.get (k:=3) U) (k:=1) Aa Aa;rw[C]at this;exact this) (hF.get (k:=4) U) S.ar S.sh Aa Aa Aa
    rw[<-hz1]at this ⊢
    exact this) λ z k hz l g2 _=>?_
   exact AD U <|AK 20 U U U <|AD U <|BN U U U <|A2 l U U U λ w M' A=>⟨g2,M',rfl,trivial,A.le,A.B9 [] U,AG (A.f.get (k:=5) U) A4⟩
  ·refine EF [] [4] (λ _ (g:AI)=>.sl 4 g.v) (λ _ _ _=>[]) l U U call35 U U (List.sublist_cons_self _ _) (λ w M hS hF=>V a (i+1) (at' N.2 0).v u t h Aa a1 a2 (D a (by rw[e];simp)) hS F (by have:=F9 (hF.get (k:=3) U) (k:=0) Aa Aa;rw[C]at this;exact this) (hF.get (k:=1) U) T G Aa Aa Aa) λ y j hy l g _=>?_
   obtain⟨S,y2⟩:=QV a hy (D a (by rw[e];simp)) T G
   have y3:=S.size
   refine AD U <|AK 8 U U U <|AU (W:=.t) (I (len a.flat)) U U (λ w M A=>by have:=F9 (A.f.get (k:=3) U) (k:=0) Aa Aa;rw[C]at this;exact PV.O4 this.sl (A8 (v:=.v (at' N.2 0).v) (E:=[]) U) ⟨_,underlying23⟩) <|AD U <|AK 19 U U U ?_
   rw[<-PR.ret (E8 b (i+1+a.size) y h)]at l
   refine EF [] [5] (λ _ (g:AI)=>.sl 5 g.v) (λ _ _ _=>[]) l U U call35 U U (List.sublist_cons_self _ _) (hu:=λ _ _=>rfl) (hH:=λ _ _ _=>rfl) (λ w M hS hF=>by
    have:=V b (i+1+a.size) (at' N.2 1).v g.v y h Aa b1 b2 (D b (by rw[e];simp)) hS F (by have:=F9 (hF.get (k:=3) U) (k:=1) Aa Aa;rw[C]at this;exact this) (hF.get (k:=4) U) S.ar S.sh Aa Aa Aa
    rw[<-hz1]at this ⊢
    exact this) λ z k hz l g2 _=>?_
   exact AD U <|AK 20 U U U <|AD U <|BN U U U <|A2 l U U U λ w M' A=>⟨g2,M',rfl,trivial,A.le,A.B9 [] U,AG (A.f.get (k:=5) U) A4⟩
end Go.Proofs.YtnoegalemkbbbaaGreatDoor
namespace Go.Eng
open Go.RowKit
theorem iI: ∀(ns:List A0) (xs:List Tf),FC ns (xs.map Tf.flat)=(CL ns xs).map Tf.flat
 |[],xs=>by rw[Z9];cases xs<;>rfl
 |n::ns,[]=>rfl
 |n::ns,x::xs=>by
  have b:=iI ns xs
  unfold FC at b ⊢
  rw[List.map_cons,List.mapIdx_cons,CL,List.map_cons,<-b]
  have i:=A9 ns
  congr 1
  ·unfold HK
   rw[if_pos (by rw[AM];show(0:Int)<_;omega)]
   exact Tf.YC _ _
  ·congr 1
   funext k y
   unfold HK
   have e:at' (n::ns) ((k+1:Nat):Int)=at' ns (k:Int):=by unfold at';simp
   rw[e,AM]
   by_cases h:(k:Int)<len ns
   ·rw[if_pos h,if_pos (by push_cast;omega)]
   ·rw[if_neg h,if_neg (by push_cast;omega)]
theorem Aq9(t:Tm)(ns:List A0)(xs:List Tf):({ t with many:=len (xs.map Tf.flat)}:Tm)::(FC ns (xs.map Tf.flat)).flatten=(CM t ns xs).flat:=by
 unfold CM
 rw[Tf.Q7,iI,iB]
 have:len (xs.map Tf.flat)=len xs:=by unfold len;rw[List.length_map]
 rw[this]
theorem uK{β:Type}{g:Tf->PR Tf}{x:Tf}{l ys:List Tf}(K:List Tf->PR β):((HN g (x::l)).bind λ r _=>K (ys++r))=(g x).bind λ y _=>(HN g l).bind λ r _=>K (ys++[y]++r):=by
 rw[HN,PR.assoc]
 refine PR.congr λ y i=>?_
 rw[PR.assoc]
 exact PR.congr λ r i=>by rw[PR.SH,List.append_assoc];rfl
theorem Ar0{β:Type}{g:Tf->PR Tf}{x y:Tf}{l ys:List Tf}{j:Int}(K:List Tf->PR β)(hx:g x= .ok y j):((HN g (x::l)).bind λ r _=>K (ys++r))=(HN g l).bind λ r _=>K (ys++[y]++r):=by
 rw[uK K,hx,PR.SH]
theorem ZQ{l:List Tf}{k:Nat}(h:k<l.length):l.drop k=at' l (k:Int)::l.drop (k+1):=by
 obtain⟨h1,b⟩:=CG l (i:=(k:Int)) Aa (by unfold len;omega)
 rw[b,List.drop_eq_getElem_cons h];simp
theorem MW{l:List Tf}{k:Nat}(h:k<l.length):at' (l.map Tf.flat) (k:Int)=(at' l (k:Int)).flat:=by
 obtain⟨j,b⟩:=CG l (i:=(k:Int)) Aa (by unfold len;omega)
 obtain⟨n,e⟩:=CG (l.map Tf.flat) (i:=(k:Int)) Aa (by unfold len;rw[List.length_map];omega)
 rw[b,e,List.getElem_map]
end Go.Eng
namespace Go.Proofs.YtnoegalemkbbbaaGreatDoor
open Go.Proofs.Tryz
open Go.Eng Go.RowKit
theorem LF{w0 e:World}{M0 M:Mem}{Rs:List HO}(t:Tm)(b:Value)(ns:List A0)(v:Value)(hs:List AI)(xs:List Tf)(hS:St w0 M0 e M Rs)(i:Sl M 1 ns.length b (ns.flatMap D7))(j:Sl M 1 hs.length v (hs.flatMap BR))(h:B3 M 11 Tm.cells hs (xs.map Tf.flat))(q:A6 xs<=16777216):
  Calls prog 146 [.agg t.cells.toArray,b,v].toArray e (MK w0 M0 M Rs (CM t ns xs).flat):=by
 have hl:=B3.len h
 rw[List.length_map]at hl
 have k:len (AO xs)=A6 xs:=by unfold len;rw[SN]
 have l:=JS xs
 have:=rV (Rs:=Rs) t b ns v hs (xs.map Tf.flat) hS i ⟨j,CR,h⟩ (λ y n=>by obtain⟨x,_,rfl⟩:=List.mem_map.1 n;exact x.OO) (by rw[<-eB];omega) (by unfold len at*;omega)
 rw[Aq9]at this
 exact this
abbrev QW(n:Nat):Prop:= ∀(g:Tf) {w0 wv:World} {M0 M:Mem} {Rs:List HO} (i:Int) (v:Value) (u:AI) (t:Tf),g.size<=n->g.AR->AT g->St w0 M0 wv M Rs->Gl w0->(A7 v g.flat).ok M->(A7 u.v t.flat).ok M->B6 t=true->AT t->t.size*hF g<=16777216->0<=i->i+2*g.size<=1099511627776->
 Calls prog 39 [v,i64 i,u.v].toArray wv (K3 w0 M0 M Rs (BG n g i t))
theorem ZR{n:Nat}(H:QW n)(g:Tf){w0 X:World}{M0 M:Mem}{Rs:List HO}(i:Int)(v:Value)(u:AI)(t:Tf)(hn:g.size<=n)(hg:g.AR)(A:AT g)(hS:St w0 M0 X M Rs)(K:Gl w0)(L:(A7 v g.flat).ok M)(N:(A7 u.v t.flat).ok M)(ha:B6 t=true)(hs:AT t)(ho:t.t.op≠1)(C:t.size*hF g<=16777216)(O:0<=i)(P:i+2*g.size<=1099511627776):
    Calls prog 91 [v,i64 i,u.v].toArray X (K3 w0 M0 M Rs (F1 (BG n) g i t)):=by
 have D:=KN g hg
 have htm:t.size<=16777216:=Nat.le_trans (Nat.le_mul_of_pos_right _ D) C
 have htz:=CN t
 have htp:=t.size_pos
 obtain⟨k1,k2⟩:=MS ha hs
 have hts:=t.size_eq
 have hkl:((AN t).length:Int)<=A6 (AN t):=MI _
 have E:(at' t.flat 0).op=t.t.op:=by rw[t.DA];rfl
 have Q:(at' t.flat 0).n=t.t.n:=by rw[t.DA];rfl
 refine AH (Hr:=Rs) AF func91 U ntmps91 [(0,A7 v g.flat),(1,A7 u.v t.flat)] [] [.sl 0 v,I i,.sl 1 u.v] U hS (AG L (AG N A4)) (λ B F=>AS [] (λ g:Value×List AI=>.sl 8 g.1) [9] (λ g=>[(8,EC g.1 g.2)]) U U call143 U U (λ w M hS hF=>SZ hS (hF.get (k:=1) U) Aa) λ gg G=>?_) U
 obtain⟨pu,b⟩:=gg
 dsimp only at G
 refine C2 8 U <|DS 8 (C6 pu b ((AN t).map Tf.flat)) (λ w M e=>⟨(e.f.get (k:=8) U).sl,CR,(e.f.get (k:=9) U).more⟩) <|UI 7 7 25 1 BR CR U <|DS 6 (FU [] (([]:List Tf).map Tf.flat)) (λ w M e=>⟨Sl.nil M 1,DN,trivial⟩) ?_
 refine B5 (σ:=Nat×Value×List AI×List Tf) (λ(k,o,gs,ys)=>⟨[(0,A7 v g.flat),(1,A7 u.v t.flat),(8,C6 pu b ((AN t).map Tf.flat)),(7,kn o 1 gs BR),(6,FU gs (ys.map Tf.flat))],[(7,.ho (.own 25 1 o gs.length (gs.flatMap BR)))],[Z 0 (.sl 0 v),Z 1 (I i),Z 2 (.sl 1 u.v),Z 7 (.sl 7 o),Z 11 (.sl 8 pu),Z 12 (I (len b)),Z 13 (I k)]⟩)
   (λ(k,o,gs,ys)=>k<=(AN t).length/\len gs=k/\F1 (BG n) g i t=(HN (λ x=>BG n g i x) ((AN t).drop k)).bind λ l _=>.ok (CM { AP t.t.op with n:=t.t.n} (B7 t) (ys++l)) 0) (λ(k,o,gs,ys)=>(AN t).length-k) (0,.slice none 0 0,[],[]) U U ⟨Aa,rfl,rfl⟩ ?_
 rintro⟨k,o,gs,ys⟩ ⟨hk,R,J⟩
 refine A1 U (λ q=>?_) (λ q=>?_)<;>simp only[zb]at q
 ·have s:k<(AN t).length:=by unfold len at q;omega
  have hlk:len b=len ((AN t).map Tf.flat):=by unfold len;rw[List.length_map,G]
  have z:=MU s
  have hkz:=I0 z
  have S:(at' (AN t) (k:Int)).size*hF g<=16777216:=Nat.le_trans (Nat.mul_le_mul_right _ Aa) C
  rw[J,ZQ s,uK (λ l=>.ok (CM { AP t.t.op with n:=t.t.n} (B7 t) l) 0)]at F
  exact EF [] [4] (λ _ (h:AI)=>.sl 4 h.v) (λ _ _ _=>[]) F U U call39 U U (List.sublist_cons_self _ _) (λ w M hS hF=>H g i v (at' b (k:Int)) (at' (AN t) (k:Int)) hn hg A hS K (hF.get (k:=0) U) (by have:=F9 (hF.get (k:=8) U) (k:=(k:Int)) Aa Aa;rw[MW s]at this;exact this) (k2 _ z).1 (k2 _ z).2 S O P) λ y j hy F h _=>BF 12 [h] BR 1 25 CR U U Ah U λ v12=>F5 24 U U U underlying53 type25 U U ON (by simp only[AM,len_nil];unfold len at*;omega) λ v'=>DS 6 (FU (gs++[h]) ((ys++[y]).map Tf.flat)) (λ w M e=>⟨Sl.nil M 1,DN,by rw[List.map_append];exact B3.snoc (e.sl 4 U) (e.f.get (k:=6) U).more⟩) <|AX (k+1,v',gs++[h],ys++[y]) U U ⟨Aa,by rw[AQ,R];rfl,by rw[J,ZQ s,Ar0 (λ l=>.ok (CM { AP t.t.op with n:=t.t.n} (B7 t) l) 0) hy]⟩ (by show(AN t).length-(k+1)<(AN t).length-k;omega)
 rw[List.drop_of_length_le (by unfold len at q;omega),HN,PR.SH,List.append_nil]at J
 have T:=W0 (T5 n g hn hg A) D ho J ha hs
 have V:A6 ys<=16777216:=by
  have:=T.size
  unfold CM at this
  rw[Tf.size,QU]at this
  omega
 rw[J]at F
 refine DI [10,12,13] 4 (λ _ _ _ _ _ h=>h) U BM U <|AK 10 U U U <|AS [] (λ u:Value=>.sl 5 u) [] (λ u=>[(5,QP u (B7 t))]) U U call147 U U (λ w M hS hF=>gV hS (hF.get (k:=1) U) Aa) λ nu _=>C2 5 U <|AD U <|AK 12 U U U ?_
 refine AS [] (λ h:AI=>.sl 10 h.v) [] (λ h=>[(10,DV h.v (CM { AP t.t.op with n:=t.t.n} (B7 t) ys).flat)]) U U call146 U U (hu:=λ _=>rfl) (hH:=λ _=>rfl) (λ w M hS hF=>by
  have:=LF { AP t.t.op with n:=t.t.n} nu (B7 t) o gs ys hS (hF.get (k:=5) U).sl (hF.get (k:=7) U).sl (hF.get (k:=6) U).more V
  rw[<-E,<-Q]at this ⊢
  exact this) λ W _=>?_
 exact C2 10 U <|AD U <|AK 13 U U U <|AD U <|BN U U U <|A2 F U U U λ w M' e=>⟨W,M',rfl,trivial,e.le,e.B9 [] U,AG (e.f.get (k:=10) U) A4⟩
theorem Ar1{x:Tf}(h:AT x):QI x.flat/\ ∀t∈x.flat,len t.c.s<=1000000:=⟨λ t b=>by have:=h t b;exact⟨Aa,Aa,Aa⟩,λ t b=>by have:=h t b;omega⟩
theorem Ar2{n:Nat}(H:QW n)(g:Tf){w0 wv:World}{M0 M:Mem}{Rs:List HO}(i:Int)(v:Value)(u:AI)(t:Tf)(hn:g.size<=n)(hg:g.AR)(N:AT g)(hS:St w0 M0 wv M Rs)(C:Gl w0)(V:(A7 v g.flat).ok M)(W:(A7 u.v t.flat).ok M)(ha:B6 t=true)(hs:AT t)(h7:H5 g=true)(X:t.size*hF g<=16777216)(hi0:0<=i)(hi1:i+2*g.size+1<=1099511627776):
    Calls prog 142 [v,i64 i,u.v].toArray wv (K3 w0 M0 M Rs (LC (BG n) g i t)):=by
 have hgz:=CN g
 have hgp:=g.size_pos
 have hge:=g.size_eq
 have O:(at' g.flat 0).op=g.t.op:=by rw[g.DA];rfl
 have htm:t.size<=16777216:=Nat.le_trans (Nat.le_mul_of_pos_right _ (KN g hg)) X
 have htz:=CN t
 refine AH (Hr:=Rs) AF func142 U ntmps142 [(0,A7 v g.flat),(1,A7 u.v t.flat)] [] [.sl 0 v,I i,.sl 1 u.v] U hS (AG V (AG W A4)) (λ B q=>BF 3 [AP 0] Tm.cells 11 48 Tm.AV U U Ah U λ v3=>?_) U
 obtain⟨G,P,D,hz⟩: ∃G P D,BO g i=(G,P,D):=⟨_,_,_,rfl⟩
 refine CP 0 (λ s=> ∃v' S,s=⟨[(0,A7 v' G.flat),(1,A7 u.v t.flat),(3,A7 S P.flat)],[],[Z 0 (.sl 0 v'),Z 1 (I D),Z 2 (.sl 1 u.v),Z 7 (.sl 3 S)]⟩) U U (λ l=>?_) (λ l=>?_) ?_<;>try simp only[zb]at l
 ·rw[O]at l
  obtain⟨a,b,e⟩:=hg.two (.inl l)
  have A:DU g=[(a.named []).flat,(b.named []).flat]:=by rw[P7];unfold AL;rw[e];rfl
  refine AS [] (λ g:Value×List AI=>.sl 4 g.1) [4] (λ _=>[]) U U call77 U U (λ w M hS hF=>SA hS (hF.get (k:=0) U) Aa) λ L E=>?_
  have Q:len L.2=2:=by rw[E,e];rfl
  have ek:AL g=[a.named [],b.named []]:=by unfold AL;rw[e];rfl
  refine DI [6,7] 3 (λ _ _ _ _ _ h=>h) U BM U <|AK 6 U U U <|AD U <|AK 7 U U U <|AD U <|BN U U U <|DS 0 (A7 (at' L.2 0).v (a.named []).flat) (λ w M F=>by have:=F9 (F.f.get (k:=4) U) (k:=0) Aa Aa;rw[A]at this;exact this) (KR 0 0 U ?_)
  refine DS 3 (A7 (at' L.2 1).v (b.named []).flat) (λ w M F=>by have:=F9 (F.f.get (k:=4) U) (k:=1) Aa Aa;rw[A]at this;exact this) (KR 7 3 U ?_)
  have e1:BO g i=(a.named [],b.named [],i+1):=by unfold BO;rw[if_pos l,ek];rfl
  cases hz.symm.trans e1
  exact AW _ U U ⟨_,_,rfl⟩
 ·rw[O]at l
  have e1:BO g i=(g,K2,i):=by unfold BO;rw[if_neg l]
  cases hz.symm.trans e1
  exact AW _ U U ⟨_,_,rfl⟩
 rintro s ⟨v',S,rfl⟩
 obtain⟨p1,p2,p3,p4,p5,p6,p7,p8,_⟩:=MV (i:=i) hg N h7
 obtain⟨a,e,e2,h3,h4⟩:=u7 (i:=i) (t:=t) hg N h7
 obtain⟨k1,k2,k3⟩:=uI p1 Aa (.inr p2) a (by rw[e];simp)
 have R:(BO g i).2.2=i/\(BO g i).1.size=g.size/\(BO g i).2.1.size=1\/(BO g i).2.2=i+1/\(BO g i).1.size+(BO g i).2.1.size+1<=g.size:=by
  unfold BO
  split
  ·rename_i hq
   obtain⟨a,b,e⟩:=hg.two (.inl hq)
   have ek:AL g=[a.named [],b.named []]:=by unfold AL;rw[e];rfl
   rw[e,A6,A6,A6]at hge
   refine .inr ⟨rfl,?_⟩
   rw[ek];show(a.named []).size+(b.named []).size+1<=_;rw[Tf.E7,Tf.E7];omega
  ·exact .inl ⟨rfl,rfl,rfl⟩
 unfold LC at q
 rw[e2,k3]at q
 rw[hz]at q p1 p2 p3 p4 p5 p6 p7 p8 e h4 R
 dsimp only at q p1 p2 p3 p4 p5 p6 p7 p8 e h4 R
 have hGz:=CN G
 have hGe:=G.size_eq
 rw[e,A6,A6]at hGe
 have A:DU G=[a.flat]:=by rw[P7];unfold AL;rw[e];show [(a.named []).flat]=_;rw[k3]
 refine AS [] (λ g:Value×List AI=>.sl 4 g.1) [4] (λ _=>[]) U U call77 U U (λ w M hS hF=>SA hS (hF.get (k:=0) U) Aa) λ L E=>?_
 have Q:len L.2=1:=by rw[E,e];rfl
 refine EF [] [6] (λ _ (h:AI)=>.sl 6 h.v) (λ _ _ _=>[]) q U U call35 U U (List.Sublist.refl _) (λ w M hS hF=>uJ a.size a (D+1) (at' L.2 0).v u.v t true (Nat.le_refl _) k1 k2 (p4.kids a (by rw[e];simp)) hS C (by have:=F9 (hF.get (k:=4) U) (k:=0) Aa Aa;rw[A]at this;exact this) (hF.get (k:=1) U) ha hs Aa Aa Aa) λ y j hy q h6 _=>?_
 obtain⟨T,y2⟩:=QV a hy (p4.kids a (by rw[e];simp)) ha hs
 have y3:=T.size
 have y4:=h4 _ y3
 obtain⟨z1,z2⟩:=Ar1 T.sh
 have hyz:=CN y
 refine AS [] (λ _:Unit=>.v (.bool (LB y))) [] (λ _=>[]) (Fg:=λ _=>[]) (pu:=λ _=>True) U U call175 U U (λ w M hS hF=>Ao2 h6.v y hS C (hF.get (k:=6) U) Aa z1 z2) λ _ _=>A1 U (λ J=>?_) (λ J=>?_)
 ·have K:LB y=false:=by simpa using J
  rw[K,if_neg Ab]at q
  exact EY [] U U call81 U U (λ w M hS hF=>FL D 6 hS) λ a w M hs hS hle=>E4 _ (q.p ⟨M,rfl,hS.drop _ (List.Sublist.refl _),hle⟩ a hs)
 have K:LB y=true:=by simpa using J
 rw[K,if_pos U,<-PR.ret (BG n P (D+G.size) y)]at q
 refine EF [] [5] (λ _ (h:AI)=>.sl 5 h.v) (λ _ _ _=>[]) q U U call39 U U (List.Sublist.refl _) (hu:=λ _ _=>rfl) (hH:=λ _ _ _=>rfl) (λ w M hS hF=>by
  have:=H P (D+G.size) S h6 y Aa p3 p5 hS C (hF.get (k:=3) U) (hF.get (k:=6) U) T.ar T.sh Aa Aa Aa
  rw[<-hGz]at this ⊢
  exact this) λ z k hzz q h5 _=>?_
 exact A2 q U U U λ w M' F=>⟨h5,M',rfl,trivial,F.le,F.B9 [] U,AG (F.f.get (k:=5) U) A4⟩
end Go.Proofs.YtnoegalemkbbbaaGreatDoor
namespace Go.Eng
open Go.RowKit
section pv
variable {P:Program} {C:World->Prop} {L:Env} {W:Bool} {d:Option Tmp} {ty:TypeId} {ps:String} {af:Array Edge} {gd:Option (Nat×Bool)}
theorem PV.Ar3 {ts:Array TypeId}{x y:Operand}{k k':IntKind}{a b:Int}(hx:AB L W x (.int k a))(h:AB L W y (.int k' b)):PV P C L W ⟨d,.call ⟨.builtin .min,#[x,y],ts⟩,ty,ps,af,gd⟩ (.int k (if b<a then b else a)):=by
 intro ac N hs e w _
 have:=run_min_int2 (P:=P) (w:=w) ts ty k k' a b
 simp only[execOp,resolve,invoke,builtin,List.map_toArray,List.map_cons,List.map_nil,hx ac N hs e,h ac N hs e,Sem.run_bind,Sem.run_pure,Result.andThen_ok,this]
end pv
end Go.Eng
namespace Go.Proofs.YtnoegalemkbbbaaGreatDoor
open Go.Proofs.Tryz
open Go.Eng Go.RowKit
abbrev T6(t:Tm):XV:=.ag [I t.op,I t.many,.v (str t.name),.v (str t.s),I t.n,I t.c.kind,I t.c.many,.v (str t.c.name),.v (str t.c.s),.v (.bool t.c.neg),I t.c.e]
abbrev uL(x:Sp):XV:=.ag [.v (.bool x.part),.v (str x.name),I x.n]
theorem Ar4:prog.underlying 105=some (.struct (prog.fieldsOf 105)):=by kernel_rfl
theorem Ar5:(prog.fieldsOf 105).toList=[⟨"Part",4,0,false,"","",0⟩,⟨"Name",9,1,false,"","",8⟩,⟨"N",3,2,false,"","",24⟩]:=by kernel_rfl
theorem Ar6(d:Nat)(a b:Sp)(w:World):(Op.equalIn (d+1+1+1) 105 (.agg (Sp.cells a).toArray) (.agg (Sp.cells b).toArray)).run prog w= .ok (decide (a=b)) w:=by
 rw[run_equalIn_agg w _ _ _ _ Ar4 Tryz.stoodInHeld105,Ar5]
 rw[G2 (P:=prog) (w:=w) (xs:=(Sp.cells a).toArray) (ys:=(Sp.cells b).toArray) (f:=⟨"Part",4,0,false,"","",0⟩) Ab (show(part 4 (Sp.cells a).toArray 0).run prog w= .ok (.bool a.part) w by kernel_rfl) (show(part 4 (Sp.cells b).toArray 0).run prog w= .ok (.bool b.part) w by kernel_rfl) (WI underlying4 w (d+1) a.part b.part)]
 rw[G2 (P:=prog) (w:=w) (xs:=(Sp.cells a).toArray) (ys:=(Sp.cells b).toArray) (f:=⟨"Name",9,1,false,"","",8⟩) Ab (show(part 9 (Sp.cells a).toArray 1).run prog w= .ok (str a.name) w by kernel_rfl) (show(part 9 (Sp.cells b).toArray 1).run prog w= .ok (str b.name) w by kernel_rfl) (PG underlying9 w (d+1) a.name b.name)]
 rw[G2 (P:=prog) (w:=w) (xs:=(Sp.cells a).toArray) (ys:=(Sp.cells b).toArray) (f:=⟨"N",3,2,false,"","",24⟩) Ab (show(part 3 (Sp.cells a).toArray 2).run prog w= .ok (i64 a.n) w by kernel_rfl) (show(part 3 (Sp.cells b).toArray 2).run prog w= .ok (i64 b.n) w by kernel_rfl) (LP underlying3 w (d+1) a.n b.n)]
 have e:(.ok true w:Result Bool)= .ok (decide True) w:=rfl
 rw[WG,e]
 simp only[WH]
 have hp:(a.part=b.part/\a.name=b.name/\a.n=b.n/\True)↔a=b:=by cases a;cases b;simp
 rw[decide_eq_decide.2 hp]
theorem Ar7(x y:Operand)(a b:Sp)(w:World):(do eqGuard .neq 105 x y (.agg (Sp.cells a).toArray) (.agg (Sp.cells b).toArray);binOp .neq 105 (.agg (Sp.cells a).toArray) (.agg (Sp.cells b).toArray):Sem Value).run prog w= .ok (.bool (!(decide (a=b)))) w:=aV x y w eqGuardType105 (Ar6 9997 a b w)
theorem Ar8(a b:Fl)(q s:Value)(w:World)(M:Mem)(G:Sat w M)(F:(A7 q a).ok M)(H:(A7 s b).ok M):
    Calls prog 208 [q,s].toArray w λ e w'=>e= .returned (.bool (decide (a=b)))/\Ext w w':=by
 have J:len a<=9223372036854775807:=F.sl.le
 refine AH (Hr:=[]) AF func208 U ntmps208 [(0,A7 q a),(1,A7 s b)] [] [.sl 0 q,.sl 1 s] U (Aj G) (AG F (AG H A4)) (λ B A=>?_) U
 refine A1 U (λ i=>?_) (λ i=>?_)<;>simp only[zb]at i
 ·exact A2 A U U U λ w M y=>⟨by rw[decide_eq_false (λ e=>i (by rw[e]))];rfl,y.st.low⟩
 refine B5 (λ k:Int=>⟨[(0,A7 q a),(1,A7 s b)],[],[Z 0 (.sl 0 q),Z 1 (.sl 1 s),Z 12 (I (len a)),Z 13 (I k)]⟩) (λ k=>0<=k/\k<=len a/\Eng.sub a 0 k=Eng.sub b 0 k) (λ k=>(len a-k).toNat) 0 U U ⟨Aa,by have:=A9 a;omega,rfl⟩ ?_
 rintro k ⟨z,K,j⟩
 refine A1 U (λ l=>?_) (λ l=>?_)<;>simp only[zb]at l
 ·have C:k<len b:=by omega
  refine DI [8] 2 (λ _ _ _ _ _ h=>h) U BM Ac <|AK 8 U U U <|AU (.v (.bool (!decide (at' a k=at' b k)))) U U (λ w M y=>PV.bin (A8 (v:=T6 (at' a k)) U) (A8 (v:=T6 (at' b k)) U) (λ _ w _=>AH0 _ _ _ _ w)) <|AD U <|BN U U U <|A1 U (λ n=>?_) (λ n=>?_)
  ·have D: ¬at' a k=at' b k:=by simpa[zb]using n
   exact A2 A U U U λ w M y=>⟨by rw[decide_eq_false (λ e=>D (by rw[e]))];rfl,y.st.low⟩
  ·have heq:at' a k=at' b k:=by simpa[zb]using n
   exact AX (k+1) U U ⟨Aa,Aa,by rw[FT z l,FT z C,j,heq]⟩ Ag
 ·have E:a=b:=by rw[G7 Aa,G7 Aa]at j;exact j
  exact A2 A U U U λ w M y=>⟨by rw[decide_eq_true E];rfl,y.st.low⟩
theorem uM(a b:List Sp)(q s:Value)(w:World)(M:Mem)(G:Sat w M)(F:(kn q 3 a Sp.cells).ok M)(H:(kn s 3 b Sp.cells).ok M):
    Calls prog 179 [q,s].toArray w λ e w'=>e= .returned (.bool (decide (a=b)))/\Ext w w':=by
 have J:len a<=9223372036854775807:=F.sl.le
 refine AH (Hr:=[]) AF func179 U ntmps179 [(0,kn q 3 a Sp.cells),(1,kn s 3 b Sp.cells)] [] [.sl 0 q,.sl 1 s] U (Aj G) (AG F (AG H A4)) (λ B A=>?_) U
 refine A1 U (λ i=>?_) (λ i=>?_)<;>simp only[zb]at i
 ·exact A2 A U U U λ w M y=>⟨by rw[decide_eq_false (λ e=>i (by rw[e]))];rfl,y.st.low⟩
 refine B5 (λ k:Int=>⟨[(0,kn q 3 a Sp.cells),(1,kn s 3 b Sp.cells)],[],[Z 0 (.sl 0 q),Z 1 (.sl 1 s),Z 12 (I (len a)),Z 13 (I k)]⟩) (λ k=>0<=k/\k<=len a/\Eng.sub a 0 k=Eng.sub b 0 k) (λ k=>(len a-k).toNat) 0 U U ⟨Aa,by have:=A9 a;omega,rfl⟩ ?_
 rintro k ⟨z,K,j⟩
 refine A1 U (λ l=>?_) (λ l=>?_)<;>simp only[zb]at l
 ·have C:k<len b:=by omega
  refine DI [8] 2 (λ _ _ _ _ _ h=>h) U BM Ac <|AK 8 U U U <|AU (.v (.bool (!decide (at' a k=at' b k)))) U U (λ w M y=>PV.bin (A8 (v:=uL (at' a k)) U) (A8 (v:=uL (at' b k)) U) (λ _ w _=>Ar7 _ _ _ _ w)) <|AD U <|BN U U U <|A1 U (λ n=>?_) (λ n=>?_)
  ·have D: ¬at' a k=at' b k:=by simpa[zb]using n
   exact A2 A U U U λ w M y=>⟨by rw[decide_eq_false (λ e=>D (by rw[e]))];rfl,y.st.low⟩
  ·have heq:at' a k=at' b k:=by simpa[zb]using n
   exact AX (k+1) U U ⟨Aa,Aa,by rw[FT z l,FT z C,j,heq]⟩ Ag
 ·have E:a=b:=by rw[G7 Aa,G7 Aa]at j;exact j
  exact A2 A U U U λ w M y=>⟨by rw[decide_eq_true E];rfl,y.st.low⟩
theorem Ar9(a b:Fl)(h i:Value)(w:World)(M:Mem)(l:Sat w M)(n:(A7 h a).ok M)(q:(A7 i b).ok M):
  Calls prog 176 [h,i].toArray w λ e w'=>e= .returned (.bool (decide (a=b)))/\Ext w w':=AH (Hr:=[]) AF func176 U ntmps176 [(0,A7 h a),(1,A7 i b)] [] [.sl 0 h,.sl 1 i] U (Aj l) (AG n (AG q A4)) (λ B s=>AJ U call208 U U (λ _ w M j=>Ar8 a b h i w M j.st.sat (j.f.get (k:=0) U) (j.f.get (k:=1) U)) U <|A2 s U U U λ w M j=>⟨rfl,j.st.low⟩) U
theorem As0(p q:List Sp)(i j:Value)(w:World)(M:Mem)(s:Sat w M)(hp:(kn i 3 p Sp.cells).ok M)(y:(kn j 3 q Sp.cells).ok M):
   Calls prog 150 [i,j].toArray w λ e w'=>e= .returned (.bool (IK p q))/\Ext w w':=by
 have h1:=A9 p
 have z:=A9 q
 have l:Eng.sub p 0 (if len q<len p then len q else len p)=p.take q.length:=by
  unfold Eng.sub len
  rw[show((0:Int)).toNat=0 from rfl,List.drop_zero,Nat.sub_zero,show(if(q.length:Int)<p.length then(q.length:Int)else p.length).toNat=min q.length p.length by split<;>omega,<-List.take_eq_take_min]
 have e2:Eng.sub q 0 (if len q<len p then len q else len p)=q.take p.length:=by
  unfold Eng.sub len
  rw[show((0:Int)).toNat=0 from rfl,List.drop_zero,Nat.sub_zero,show(if(q.length:Int)<p.length then(q.length:Int)else p.length).toNat=min p.length q.length by split<;>omega,<-List.take_eq_take_min]
 refine AH (Hr:=[]) AF func150 U ntmps150 [(0,kn i 3 p Sp.cells),(1,kn j 3 q Sp.cells)] [] [.sl 0 i,.sl 1 j] U (Aj s) (AG hp (AG y A4)) (λ B n=>AU (I (if len q<len p then len q else len p)) U U (λ w M b=>PV.Ar3 (A8 (v:=I (len p)) (E:=[]) U) (A8 (v:=I (len q)) (E:=[]) U)) <|DI [2,5,6,8] 5 (λ _ _ _ _ _ h=>h) U BM U <|G6 2 5 U U U ?_ ?_) U
 ·exact FO (gd:=none) 2 0 (if len q<len p then len q else len p) U U U U ⟨.i64,_,rfl,AE U⟩ underlying61 sizeOf105 Aa U λ v2=>AD U <|AK 5 U U U <|FO (gd:=none) 5 0 (if len q<len p then len q else len p) U U U U ⟨.i64,_,rfl,AE U⟩ underlying61 sizeOf105 Aa U λ v5=>AD U <|AK 6 U U U <|AJ U call179 U U (λ _ w M b=>uM (p.take q.length) (q.take p.length) v2 v5 w M b.st.sat (by rw[<-l];exact b.f.get (k:=2) U) (by rw[<-e2];exact b.f.get (k:=5) U)) U <|AD U <|AK 8 U U U <|AD U <|BN U U U <|A2 n U U U λ w M b=>⟨by rw[show IK p q= !decide (p.take q.length=q.take p.length) by unfold IK;simp];rfl,b.st.low⟩
 ·exact FO (gd:=none) 5 0 (if len q<len p then len q else len p) U U U U ⟨.i64,_,rfl,AE U⟩ underlying61 sizeOf105 Aa U λ v5=>AD U <|AK 2 U U U <|FO (gd:=none) 2 0 (if len q<len p then len q else len p) U U U U ⟨.i64,_,rfl,AE U⟩ underlying61 sizeOf105 Aa U λ v2=>AD U <|AK 6 U U U <|AJ U call179 U U (λ _ w M b=>uM (p.take q.length) (q.take p.length) v2 v5 w M b.st.sat (by rw[<-l];exact b.f.get (k:=2) U) (by rw[<-e2];exact b.f.get (k:=5) U)) U <|AD U <|AK 8 U U U <|AD U <|BN U U U <|A2 n U U U λ w M b=>⟨by rw[show IK p q= !decide (p.take q.length=q.take p.length) by unfold IK;simp];rfl,b.st.low⟩
theorem uN{ns:List A0}{n:A0}(h:n ∉ ns):MQ ns n= -1:=if_neg h
theorem As1{ns:List A0}{n:A0}{k:Nat}(e:k<ns.length)(h0: ∀j<k,ns[j]?≠some n)(h1:ns[k]? =some n):MQ ns n=k:=by
 have hm:n∈ns:=List.mem_of_getElem? h1
 unfold MQ BU
 rw[if_pos hm]
 have b:ns.idxOf n<ns.length:=List.idxOf_lt_length_of_mem hm
 have l:ns[ns.idxOf n]? =some n:=by rw[List.getElem?_eq_getElem b,List.getElem_idxOf b]
 have s: ¬ns.idxOf n<k:=λ h=>h0 _ h l
 have w: ¬k<ns.idxOf n:=λ h=>by
  have q:=List.not_of_lt_findIdx (p:=(· ==n)) (xs:=ns) (i:=k) h
  rw[List.getElem?_eq_getElem e,Option.some.injEq]at h1
  simp[h1]at q
 show((ns.idxOf n:Nat):Int)=_
 omega
theorem uO(ns:List A0)(n:A0)(v:Value)(w:World)(M:Mem)(E:Sat w M)(hl:(kn v 1 ns D7).ok M):
    Calls prog 153 [v,str n].toArray w λ e w'=>e= .returned (i64 (MQ ns n))/\Ext w w':=by
 have z:len ns<=9223372036854775807:=hl.sl.le
 refine AH (Hr:=[]) AF func153 U ntmps153 [(0,kn v 1 ns D7)] [] [.sl 0 v,.v (str n)] U (Aj E) (AG hl A4) (λ B D=>B5 (λ k:Nat=>⟨[(0,kn v 1 ns D7)],[],[Z 0 (.sl 0 v),Z 1 (.v (str n)),Z 7 (I (len ns)),Z 8 (I k)]⟩) (λ k=>k<=ns.length/\ ∀j<k,ns[j]?≠some n) (λ k=>ns.length-k) 0 U U ⟨Aa,λ j h=>by omega⟩ ?_) U
 rintro k ⟨H,q⟩
 refine A1 U (λ b=>?_) (λ b=>?_)<;>simp only[zb]at b
 ·have s:k<ns.length:=by unfold len at b;omega
  obtain⟨J,F⟩:=CG ns (i:=(k:Int)) Aa (by unfold len;omega)
  have y:ns[k]? =some (at' ns (k:Int)):=by rw[List.getElem?_eq_getElem s,F];rfl
  refine A1 U (λ l=>?_) (λ l=>?_)<;>simp only[zb]at l
  ·refine A2 D U U U λ w M A=>⟨?_,A.st.low⟩
   rw[As1 s q (by rw[y,<-l])];rfl
  ·exact AX (k+1) U (hO:=by simp only[zb]<;>unfold len at z<;>omega) U ⟨Aa,λ j C=>by
    rcases Nat.lt_or_ge j k with h|h
    ·exact q j h
    ·rw[show j=k by omega,y];intro e;exact l (Option.some.inj e).symm⟩ (by show ns.length-(k+1)<ns.length-k;omega)
 ·refine A2 D U U U λ w M A=>⟨?_,A.st.low⟩
  rw[uN (λ hm=>?_)];rfl
  obtain⟨j,C⟩:=List.mem_iff_getElem?.1 hm
  have G:=(List.getElem?_eq_some_iff.1 C).1
  exact q j (by unfold len at b;omega) C
abbrev T7(x:Int):List Value:=[i64 x]
theorem As2(l:List Int)(n:Int)(v:Value)(w:World)(M:Mem)(D:Sat w M)(hl:(kn v 1 l T7).ok M):
    Calls prog 145 [v,i64 n].toArray w λ e w'=>(∃k:Int,e= .returned (i64 k)/\(0<=k↔n∈l))/\Ext w w':=by
 have s:len l<=9223372036854775807:=hl.sl.le
 refine AH (Hr:=[]) AF func145 U ntmps145 [(0,kn v 1 l T7)] [] [.sl 0 v,I n] U (Aj D) (AG hl A4) (λ B A=>B5 (λ k:Nat=>⟨[(0,kn v 1 l T7)],[],[Z 0 (.sl 0 v),Z 1 (I n),Z 7 (I (len l)),Z 8 (I k)]⟩) (λ k=>k<=l.length/\n ∉ l.take k) (λ k=>l.length-k) 0 U U ⟨Aa,by simp⟩ ?_) U
 rintro k ⟨E,q⟩
 refine A1 U (λ b=>?_) (λ b=>?_)<;>simp only[zb]at b
 ·have y:k<l.length:=by unfold len at b;omega
  obtain⟨F,C⟩:=CG l (i:=(k:Int)) Aa (by unfold len;omega)
  refine A1 U (λ j=>?_) (λ j=>?_)<;>simp only[zb]at j
  ·exact A2 A U U U λ w M z=>⟨⟨k,rfl,λ _=>by rw[j,C];exact List.getElem_mem _,λ _=>by omega⟩,z.st.low⟩
  ·exact AX (k+1) U (hO:=by simp only[zb]<;>unfold len at s<;>omega) U ⟨Aa,by
    rw[List.take_add_one,List.getElem?_eq_getElem y]
    intro hm
    rcases List.mem_append.1 hm with hm|hm
    ·exact q hm
    ·have:n=l[k]:=by simpa using hm
     exact j (by rw[C];simpa using this)⟩ (by show l.length-(k+1)<l.length-k;omega)
 ·refine A2 A U U U λ w M z=>⟨⟨-1,rfl,λ h=>by omega,λ h=>?_⟩,z.st.low⟩
  rw[List.take_of_length_le (by unfold len at b;omega)]at q
  exact absurd h q
theorem As3(l:List Int)(n:Int)(v:Value)(w:World)(M:Mem)(h:Sat w M)(hl:(kn v 1 l T7).ok M):
  Calls prog 90 [v,i64 n].toArray w λ e w'=>e= .returned (.bool (decide (n∈l)))/\Ext w w':=AH (Hr:=[]) AF func90 U ntmps90 [(0,kn v 1 l T7)] [] [.sl 0 v,I n] U (Aj h) (AG hl A4) (λ B i=>EW (γ:=Int) (λ k:Int=>I k) [] (Fg:=λ _=>[]) (pu:=λ k=>0<=k↔n∈l) U U call145 U (λ w M b=>(As2 l n v w M b.st.sat (b.f.get (k:=0) U)).mono λ e w' ⟨⟨k,j,e2⟩,e3⟩=>⟨k,M,j,e2,Grow.TO b.st.sat e3,A4⟩) λ k q=>A2 i U U U λ w M b=>⟨by show Ending.returned (.bool (decide (0<=k)))=_;rw[decide_eq_decide.2 q],b.st.low⟩) U
end Go.Proofs.YtnoegalemkbbbaaGreatDoor
