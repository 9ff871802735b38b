/- Lemmas for the card. -/
import Derived.Test.YtnoegalemkbbbaaGreatDoorKs16
set_option linter.unusedVariables false
set_option linter.unusedSimpArgs false
set_option maxRecDepth 100000
namespace Go.Eng
open Go.RowKit
def TS(l:List Tk)(j:Int)(u:List Tk):Prop:=0<=j/\(A5 l j).map (strip false)=u
theorem TS.add {l:List Tk}{j:Int}{u r:List Tk}(h:TS l j (u++r)):TS l (j+len u) r:=by
 obtain⟨h0,b⟩:=h
 have e:=A8 u
 refine⟨Aa,?_⟩
 rw[<-K4 l j (len u) h0 e]
 unfold A5 len at*
 rw[List.map_drop,b];simp
theorem TS.at {l:List Tk}{j:Int}{t:Tk}{r:List Tk}(h:TS l j (t::r)):(at' l j).kind=t.kind/\(at' l j).s=t.s/\(at' l j).c=t.c/\j<len l:=by
 obtain⟨h0,h1⟩:=h
 have hd:A5 l j=l.drop j.toNat:=rfl
 cases hf:A5 l j with
 |nil=>rw[hf]at h1;cases h1
 |cons a q=>
  rw[hf,List.map_cons]at h1
  have i:strip false a=t:=(List.cons.inj h1).1
  have b:(l.drop j.toNat)[0]? =some a:=by rw[<-hd,hf];rfl
  rw[List.getElem?_drop,Nat.add_zero]at b
  have e:at' l j=a:=by unfold at';rw[List.getD_eq_getElem?_getD,b];rfl
  have hl:=(List.getElem?_eq_some_iff.1 b).1
  rw[e,<-i]
  exact⟨rfl,rfl,rfl,by unfold len;omega⟩
theorem TS.CI {l:List Tk}{j:Int}{t:Tk}{r:List Tk}(h:TS l j (t::r))(m:A0):CI l j m=(t.kind==1&&t.s==m):=by unfold Eng.CI;rw[h.at.1,h.at.2.1]
theorem TS.QC {l:List Tk}{j:Int}{m:A0}{r:List Tk}(h:TS l j (gM m::r)):H5 l j m= .ok () (j+1):=by
 unfold H5;rw[h.CI,if_pos (by show((1:Int)==1&&m==m)=true;simp)]
theorem TS.open {l:List Tk}{d j:Int}{m:A0}{r:List Tk}(h:TS l j (gM m::r))(hd:d<64):KL l d j m= .ok () (j+1):=by
 unfold KL;rw[h.CI,if_neg (by simp;omega)];exact h.QC
abbrev ln(x:List Tk):Nat:=x.length
theorem Am4(t:Tm)(n:A0):DH { t with name:=n}=DH t:=by
 obtain⟨o,m,nm,s,k,c⟩:=t
 unfold DH EZ
 simp only[Tm.mk.injEq,true_and]
theorem Am5(t:Tm)(n:A0)(dn:List Tf)(y:Tf):KQ { t with name:=n} dn y=KQ t dn y:=by unfold KQ F9;rfl
theorem sS(t:Tm)(n:A0): ∀(l dn:List Tf),G4 { t with name:=n} dn l=G4 t dn l
 |[],dn=>rfl
 |y::l,dn=>by rw[G4,G4,Am5,sS t n l]
theorem Tf.B3.named {x:Tf}(h:x.B3)(n:A0):(x.named n).B3:=by
 obtain⟨t,ps⟩:=x
 obtain⟨h1,b⟩:=h
 refine⟨?_,?_⟩
 ·rw[Tf.zm]at h1;rw[Tf.named,Tf.zm];exact h1
 ·rw[Tf.JA]at b
  rw[Tf.named,Tf.JA,sS]
  have e:DH ⟨t.op,len ps,n,t.s,t.n,t.c⟩=DH ⟨t.op,len ps,t.name,t.s,t.n,t.c⟩:=Am4 ⟨t.op,len ps,t.name,t.s,t.n,t.c⟩ n
  show(DH ⟨t.op,len ps,n,t.s,t.n,t.c⟩&&G4 t [] ps&&HP ps)=true
  rw[e];exact b
def VO(v:Fl):Prop:= ∀t∈v,len t.s<=100/\len t.name<=100/\len t.c.s<=100
theorem VO.root {x:Tf}(h:VO x.flat):len x.t.s<=100/\len x.t.name<=100/\len x.t.c.s<=100:=by
 have:=h x.node (by rw[Tf.G1];exact List.mem_cons_self)
 exact this
theorem VO.named {x:Tf}(h:VO x.flat):VO (x.named []).flat:=by
 have e:=h.root
 intro t b
 rw[Tf.G1]at b
 rcases List.mem_cons.1 b with rfl|b
 ·obtain⟨t,ps⟩:=x
  exact⟨e.1,by show len ([]:A0)<=100;decide,e.2.2⟩
 ·rw[Tf.fC]at b
  exact h t (by rw[Tf.G1];exact List.mem_cons_of_mem _ b)
theorem Im.mono {y:Tf}{n m:Nat}(h:Im y n)(hm:n<=m):Im y m:=⟨Nat.le_trans h.size hm,h.ar,h.sh⟩
theorem OT(o:Int):len (AV o).name<=100/\len (AV o).s<=100/\len (AV o).c.s<=100:=by refine⟨?_,?_,?_⟩<;>(show len ([]:A0)<=_;decide)
theorem NC{l:List Tf}{k:Nat}(h:k<l.length):at' l (k:Int)∈l:=by
 obtain⟨_,b⟩:=CE l (i:=(k:Int)) Aa (by unfold len;omega)
 rw[b];exact List.getElem_mem _
theorem Z5(f:Tf):(AQ f).length=f.ps.length:=List.length_map _
theorem sU{f x:Tf}(h:x∈AQ f): ∃z∈f.ps,x=z.named []:=by
 obtain⟨z,b,rfl⟩:=List.mem_map.1 h
 exact⟨z,b,rfl⟩
theorem IV(n:A0)(f:Tf):hF (f.named n)=hF f:=by cases f;rfl
theorem Am6{f:Tf}{k:Nat}(h:k<f.ps.length):at' (AQ f) (k:Int)=(at' f.ps (k:Int)).named []:=by
 obtain⟨h1,b⟩:=CE f.ps (i:=(k:Int)) Aa (by unfold len;omega)
 obtain⟨j,e⟩:=CE (AQ f) (i:=(k:Int)) Aa (by unfold len;rw[Z5];omega)
 rw[b,e];simp[AQ]
theorem Tf.B3.EL {f x:Tf}(h:f.B3)(hx:x∈AQ f):x.B3/\x.size<f.size:=by
 obtain⟨z,b,rfl⟩:=sU hx
 refine⟨(h.kids z b).named [],?_⟩
 rw[Tf.G2,f.size_eq]
 have:=I8 b
 omega
theorem AU.EL {f x:Tf}(h:AU f)(hx:x∈AQ f):AU x:=by
 obtain⟨z,b,rfl⟩:=sU hx
 exact(h.kids z b).named (by show len ([]:A0)<=_;decide)
theorem sV:SR.B3:=⟨⟨rfl,trivial⟩,Ac⟩
theorem QN{g:Tf}{i:Int}(hg:g.B3)(hs:AU g)(h:KZ g=true):
  (CJ g i).1.B3/\(CJ g i).1.t.op=7/\(CJ g i).2.1.B3/\AU (CJ g i).1/\AU (CJ g i).2.1/\(CJ g i).1.size<g.size+1/\(CJ g i).2.1.size<=g.size/\(1+(CJ g i).1.size-1)*hF (CJ g i).2.1<=hF g/\(g.t.op=4->(CJ g i).2.1.size<g.size):=by
 unfold CJ
 by_cases h4:g.t.op=4
 ·rw[if_pos h4]
  obtain⟨a,b,e⟩:=hg.two (.inl h4)
  have l:a.named []∈AQ g:=by unfold AQ;rw[e];simp
  have k:b.named []∈AQ g:=by unfold AQ;rw[e];simp
  have e0:at' (AQ g) 0=a.named []:=by unfold AQ;rw[e];rfl
  have n:at' (AQ g) 1=b.named []:=by unfold AQ;rw[e];rfl
  unfold KZ at h
  have j:a.t.op=7:=by
   rw[e]at h
   simp only[h4,Bool.or_eq_true,decide_eq_true_eq,Bool.and_eq_true]at h
   rcases h with h|h
   ·omega
   ·exact h.2
  show(at' (AQ g) 0).B3/\_
  simp only[e0,n]
  refine⟨(hg.EL l).1,by rw[Tf.gI];exact j,(hg.EL k).1,hs.EL l,hs.EL k,by have:=(hg.EL l).2;omega,by have:=(hg.EL k).2;omega,?_,λ _=>(hg.EL k).2⟩
  rw[IV,Tf.G2,JD g,if_pos h4,e,hP,hP,hP,Nat.mul_one,JD a,if_neg Aa,if_pos j,a.size_eq,Nat.add_sub_cancel_left]
  exact Nat.le_refl _
 ·rw[if_neg h4]
  have j:g.t.op=7:=by
   unfold KZ at h
   simp only[h4,decide_false,Bool.false_and,Bool.or_false,decide_eq_true_eq]at h
   exact h
  refine⟨hg,j,sV,hs,(IE _).2 ⟨OT 0,λ x hx=>by cases hx⟩,by show g.size<_;omega,by show 1<=g.size;exact g.size_pos,?_,λ h=>absurd h h4⟩
  show(1+g.size-1)*1<=_
  rw[JD g,if_neg h4,if_pos j,g.size_eq];omega
theorem sW{g:Tf}{i:Int}{t:Tf}(hg:g.B3)(h:AU g)(l:KZ g=true):
  ∃a,(CJ g i).1.ps=[a]/\at' (AQ (CJ g i).1) 0=a.named []/\t.size+a.size<=t.size*hF g/\ ∀m,m<=t.size+a.size->m*hF (CJ g i).2.1<=t.size*hF g:=by
 obtain⟨p1,p2,p3,p4,p5,p6,p7,j,_⟩:=QN (i:=i) hg h l
 obtain⟨a,e⟩:=p1.one (.inr (.inr (.inl p2)))
 have n:=t.size_pos
 have hs:=(CJ g i).1.size_eq
 rw[e,AB,AB]at hs
 have hp:=KD _ p3
 have k:t.size+a.size<=t.size*(CJ g i).1.size:=by
  rw[show(CJ g i).1.size=a.size+1 by omega,Nat.mul_add,Nat.mul_one]
  have:=Nat.mul_le_mul_right a.size n
  omega
 rw[show 1+(CJ g i).1.size-1=(CJ g i).1.size by omega]at j
 have b:t.size*(CJ g i).1.size*hF (CJ g i).2.1<=t.size*hF g:=by rw[Nat.mul_assoc];exact Nat.mul_le_mul_left _ j
 refine⟨a,e,by unfold AQ;rw[e];rfl,?_,λ m hm=>Nat.le_trans (Nat.mul_le_mul_right _ (Nat.le_trans hm k)) b⟩
 exact Nat.le_trans (Nat.le_trans k (Nat.le_mul_of_pos_right _ hp)) b
theorem sX{n:Tf->Int->Tf->PR Tf}{g:Tf}{i:Int}{t y:Tf}{j:Int}(hg:g.B3)(b:AU g)(q:KZ g=true)(hi:OS n (CJ g i).2.1)(he:SS n g i t= .ok y j)(w:B8 t=true)(hs:AU t):Im y (t.size*hF g):=by
 obtain⟨p1,p2,p3,p4,p5,p6,p7,A,_⟩:=QN (i:=i) hg b q
 unfold SS at he
 obtain⟨u,k,h1,h⟩:=PR.K5 he
 obtain⟨a,e,e2,B,z⟩:=sW (i:=i) (t:=t) hg b q
 rw[e2]at h1
 obtain⟨l,_⟩:=OR _ h1 ((p4.kids a (by rw[e];simp)).named (by show len ([]:A0)<=_;decide)) w hs
 have s:=l.size
 rw[Tf.G2]at s
 split at h
 ·exact(hi _ _ _ _ h l.ar l.sh).mono (z _ s)
 ·cases h
theorem Z6{x:Tf}: ∀ {l:List Tf},x∈l->hF x<=hS l
 |y::l,h=>by
  rw[hS]
  rcases List.mem_cons.1 h with rfl|h
  ·omega
  ·have:=Z6 h;omega
theorem sY{v:Tf}{i:Int}(j:v.B3)(hs:AU v)(h:0<=(GK v i).2):(GK v i).1.B3/\AU (GK v i).1/\(GK v i).1.size<=v.size/\hF (GK v i).1<=hF v/\(GK v i).2+(GK v i).1.size<=i+v.size:=by
 have k:=v.size_pos
 unfold GK at h ⊢
 split at h<;>rename_i h1
 ·rw[if_pos h1]
  refine⟨sV,(IE _).2 ⟨OT 0,λ x hx=>by cases hx⟩,k,KD v j,?_⟩
  show i+((1:Nat):Int)<=_
  omega
 ·rw[if_neg h1]
  split at h<;>rename_i l
  ·rw[if_pos l]
   obtain⟨a,b,e⟩:=j.two (.inl l.1)
   have n:b.named []∈AQ v:=by unfold AQ;rw[e];simp
   have q:at' (AQ v) 1=b.named []:=by unfold AQ;rw[e];rfl
   show(at' (AQ v) 1).B3/\AU (at' (AQ v) 1)/\(at' (AQ v) 1).size<=_/\hF (at' (AQ v) 1)<=_/\i+2+_<=_
   rw[q]
   have w:=a.size_pos
   have s:=v.size_eq
   rw[e,AB,AB,AB]at s
   refine⟨(j.EL n).1,hs.EL n,by have:=(j.EL n).2;omega,?_,by rw[Tf.G2];omega⟩
   rw[IV,JD v,if_pos l.1,e,hP,hP,hP,Nat.mul_one]
   have:=KD a (j.kids a (by rw[e];simp))
   exact Nat.le_mul_of_pos_left _ this
  ·exact absurd h (by show ¬(0:Int)<= -1;decide)
theorem sZ{g:Tf}(hg:g.B3)(hs:AU g)(h:0<=(DI g).2):(DI g).1.B3/\AU (DI g).1/\(DI g).1.size<g.size/\hF (DI g).1<=hF g/\(DI g).2+(DI g).1.size<=g.size:=by
 unfold DI at h ⊢
 split at h<;>rename_i h1
 ·exact absurd h (by show ¬(0:Int)<= -1;decide)
 rw[if_neg h1]
 obtain⟨a,b,e⟩:=gH (l:=g.ps) Aa
 have j:a∈g.ps:=by rw[e];simp
 have k:b∈g.ps:=by rw[e];simp
 have e0:at' g.ps 0=a:=by rw[e];rfl
 have y:at' g.ps 1=b:=by rw[e];rfl
 rw[e0,y]at h ⊢
 have z:g.t.op=8:=by omega
 have A:=I8 j
 have B:=I8 k
 have i:=g.size_eq
 have C:=Z6 j
 have D:=Z6 k
 have E:hF g=1+hS g.ps:=by rw[JD,if_neg Aa,if_neg Aa]
 split at h<;>rename_i w
 ·rw[if_pos w]
  split at h<;>rename_i n
  ·rw[if_pos n]
   obtain⟨q,s,F,G,H⟩:=sY (hg.kids b k) (hs.kids b k) h
   exact⟨q,s,Aa,Aa,by rw[e,AB,AB,AB]at i;omega⟩
  ·exact absurd h (by show ¬(0:Int)<= -1;decide)
 ·rw[if_neg w]
  split at h<;>rename_i n
  ·rw[if_pos n]
   split at h<;>rename_i J
   ·rw[if_pos J]
    obtain⟨q,s,F,G,H⟩:=sY (hg.kids a j) (hs.kids a j) h
    exact⟨q,s,Aa,Aa,by rw[e,AB,AB,AB]at i;omega⟩
   ·exact absurd h (by show ¬(0:Int)<= -1;decide)
  ·exact absurd h (by show ¬(0:Int)<= -1;decide)
abbrev tA(im:Tf->Int->Tf->PR Tf)(n:Nat):Prop:= ∀g:Tf,g.size<n->g.B3->AU g->OS im g
theorem Am7{z:Tf->Int->Tf->PR Tf}{g:Tf}{n:Nat}(hi:tA z n)(A:g.size<n)(hg:g.B3)(b:AU g){i:Int}{t y:Tf}{j:Int}(he:HV z g i t= .ok y j)(h:B8 t=true)(hs:AU t):Im y (t.size*(1+hF g)):=by
 have hle:t.size*hF g<=t.size*(1+hF g):=Nat.mul_le_mul_left _ Aa
 have l:=KD g hg
 unfold HV at he
 split at he<;>rename_i H
 ·split at he<;>rename_i s
  ·obtain⟨u,k,h1,E⟩:=PR.K5 he
   have:=PR.HF E
   subst this
   obtain⟨a,e⟩:=(B8.one h) (.inr Aa)
   have w:at' (AM t) 0∈AM t:=NC (k:=0) (by rw[NA Aa,List.length_map,e];exact Nat.zero_lt_one)
   obtain⟨J,B⟩:=MB h hs
   obtain⟨p1,p2,p3,p4,p5,p6,p7,K,L⟩:=QN (i:=i+1) hg b s
   have q:=sX hg b s (hi _ Aa p3 p5) h1 (B _ w).1 (B _ w).2
   refine⟨?_,MA (by show ¬(5:Int)=1;decide) (λ _=>rfl) (λ x hx=>?_),(IE _).2 ⟨OT 5,λ x hx=>?_⟩⟩
   ·rw[Tf.size,AB,AB]
    have C:=q.size
    have M:=I8 w
    have F:(at' (AM t) 0).size*hF g<=t.size*hF g:=Nat.mul_le_mul_right _ (by rw[t.size_eq];omega)
    have:=t.size_pos
    rw[Nat.mul_add,Nat.mul_one];omega
   ·rw[List.mem_singleton.1 hx];exact q.ar
   ·rw[List.mem_singleton.1 hx];exact q.sh
  ·exact(VN (hi g A hg b) l Aa he h hs).mono hle
 ·split at he<;>rename_i s
  ·exact(VN (hi g A hg b) l Aa he h hs).mono hle
  ·split at he<;>rename_i q
   ·split at he<;>rename_i C
    ·obtain⟨D,G,N,O,_⟩:=sZ hg b C
     exact(VN (hi _ Aa D G) (KD _ D) Aa he h hs).mono (Nat.mul_le_mul_left _ Aa)
    ·cases he
   ·cases he
theorem tC{n:Tf->Int->Tf->PR Tf}{t:Tf}(q:B8 t=true)(hs:AU t): ∀ {l:List Tf} {i:Int} {seen:List (List Sp)} {ys:List Tf} {j:Int},M8 n t l i seen= .ok ys j->(∀x∈l,OS n (x.named []))->ys.length=l.length/\AB ys<=t.size*hS l/\ ∀y∈ys,B8 y=true/\AU y
 |[],_,_,ys,j,he,_=>by
  have:=PR.HF he
  subst this
  exact⟨rfl,Nat.zero_le _,λ y s=>by cases s⟩
 |x::l,i,seen,ys,j,he,hi=>by
  unfold M8 at he
  obtain⟨y,k,h1,h⟩:=PR.K5 he
  split at h
  ·cases h
  ·obtain⟨zs,m,w,A⟩:=PR.K5 h
   have:=PR.HF A
   subst this
   have e:=hi x (.head _) _ _ _ _ h1 q hs
   rw[IV]at e
   obtain⟨B,D,C⟩:=tC q hs w λ z b=>hi z (.tail _ b)
   refine⟨by simp[B],?_,λ z b=>?_⟩
   ·rw[AB,hS,Nat.mul_add];have:=e.size;omega
   ·rcases List.mem_cons.1 b with rfl|b
    ·exact⟨e.ar,e.sh⟩
    ·exact C z b
theorem Am8{ns:List A0}{l:List Tf}(h: ∀y∈l,B8 y=true/\AU y)(b: ∀n∈ns,len n<=100): ∀y∈CN ns l,B8 y=true/\AU y:=λ y i=>by
 obtain⟨x,hx,e⟩:=Z2 i
 have:=h x hx
 rcases e with rfl|⟨n,hm,rfl⟩
 ·exact this
 ·exact⟨by rw[Z1];exact this.1,this.2.named (b n hm)⟩
theorem tD{e:Tf->Int->Tf->PR Tf}{f:Tf}(q:AU f)(hi: ∀x∈f.ps,OS e (x.named [])){i:Int}{t y:Tf}{j:Int}(he:QK e f i t= .ok y j)(s:B8 t=true)(hs:AU t):Im y (t.size*(1+hS f.ps)):=by
 unfold QK at he
 obtain⟨ys,k,h1,w⟩:=PR.K5 he
 obtain⟨B,C,b⟩:=tC s hs h1 hi
 have z:=t.size_pos
 have D:1+t.size*hS f.ps<=t.size*(1+hS f.ps):=by rw[Nat.mul_add,Nat.mul_one];omega
 have:=PR.HF w
 subst this
 split
 ·exact⟨by rw[Tf.size];omega,MA (by show ¬(4:Int)=1;decide) (λ h=>absurd h (by show ¬((4:Int)=3\/(5<=(4:Int)/\(4:Int)<=8));omega)) (λ x hx=>(b x hx).1),(IE _).2 ⟨OT 4,λ x hx=>(b x hx).2⟩⟩
 ·have l:=Am8 (ns:=f.ps.map λ x=>x.t.name) b (λ n A=>by obtain⟨x,hx,rfl⟩:=List.mem_map.1 A;exact(q.kids x hx).root.1)
  refine⟨by rw[Tf.size,VM (OI _),QM];omega,MA (by show ¬(2:Int)=1;decide) (λ h=>absurd h (by show ¬((2:Int)=3\/(5<=(2:Int)/\(2:Int)<=8));omega)) (λ x hx=>(l x ((OI _).mem_iff.1 hx)).1),(IE _).2 ⟨OT 2,λ x hx=>(l x ((OI _).mem_iff.1 hx)).2⟩⟩
theorem Z7: ∀ {l:List Tf} {k:Nat} (y:Tf),k<l.length->AB (l.set k y)+(at' l (k:Int)).size=AB l+y.size
 |x::l,0,y,h=>by rw[List.set_cons_zero,AB,AB];show _+x.size=_;omega
 |x::l,k+1,y,h=>by
  have:=Z7 (l:=l) (k:=k) y (by simpa using h)
  have e:at' (x::l) ((k+1:Nat):Int)=at' l (k:Int):=by unfold at';simp
  rw[List.set_cons_succ,AB,AB,e];omega
theorem Z8{a b:List Tf}(h:a.Sublist b):AB a<=AB b:=by
 induction h with
 |slnil=>exact Nat.le_refl _
 |cons x _ e=>rw[AB];omega
 |cons_cons x _ e=>rw[AB,AB];omega
theorem OU{ns:List A0}{n:A0}(h:n∈ns):(BP ns n).toNat<ns.length/\BP ns n=((BP ns n).toNat:Int):=by
 have:=qT h
 unfold len at this
 exact⟨Aa,Aa⟩
theorem Z9{i:Int}: ∀ {p:List Sp} {t y:Tf} {j:Int},HW i p t= .ok y j->B8 t=true->AU t->Im y t.size/\y.t=t.t
 |[],_,_,_,he,_,_=>by cases he
 |s::p,t,y,j,he,h,hs=>by
  unfold HW at he
  split at he
  ·cases he
  rename_i h1
  have h1:t.t.op=2:=Decidable.not_not.1 h1
  split at he
  ·cases he
  rename_i e
  have e:s.name∈BA t:=Decidable.not_not.1 e
  obtain⟨A,q⟩:=OU e
  have B:(BA t).length=t.ps.length:=by rw[OQ,NA Aa,List.length_map]
  split at he
  ·split at he
   ·cases he
   ·have:=PR.HF he
    subst this
    have b:=List.eraseIdx_sublist t.ps (BP (BA t) s.name).toNat
    refine⟨⟨by rw[Tf.size,t.size_eq];have:=Z8 b;omega,MA Aa Aa (λ x hx=>(B8.kids h) x (b.subset hx)),(IE _).2 ⟨hs.root,λ x hx=>hs.kids x (b.subset hx)⟩⟩,rfl⟩
  ·obtain⟨u,k,C,D⟩:=PR.K5 he
   have:=PR.HF D
   subst this
   obtain⟨G,w⟩:=MB h hs
   have z:(BP (BA t) s.name).toNat<(AM t).length:=by rw[<-OQ];exact A
   have hm:at' (AM t) (BP (BA t) s.name)∈AM t:=by rw[q];exact NC z
   obtain⟨n,H⟩:=Z9 C (w _ hm).1 (w _ hm).2
   refine⟨⟨?_,MA Aa Aa (λ x hx=>?_),(IE _).2 ⟨hs.root,λ x hx=>?_⟩⟩,rfl⟩
   ·have E:=Z7 (u.named s.name) (l:=t.ps) (k:=(BP (BA t) s.name).toNat) Aa
    have F:=n.size
    rw[q,fX z,Tf.G2]at F
    rw[Tf.G2]at E
    rw[Tf.size,t.size_eq];omega
   ·rcases List.mem_or_eq_of_mem_set hx with hx|rfl
    ·exact(B8.kids h) x hx
    ·rw[Z1];exact n.ar
   ·rcases List.mem_or_eq_of_mem_set hx with hx|rfl
    ·exact hs.kids x hx
    ·exact n.sh.named (sR hs _ e)
theorem gN{o:Int}{s:A0}{t:Tf}(i:B8 t=true)(hs:AU t)(h1:o≠1)(ho:t.t.op≠1)(j:(o=3\/(5<=o/\o<=8))->len t.ps=1)(b:len s<=100):Im (.mk { AV o with s:=s} (AM t)) t.size:=by
 obtain⟨k,e⟩:=MB i hs
 have hl:len (AM t)=len t.ps:=by rw[NA ho];unfold len;rw[List.length_map]
 exact⟨by rw[Tf.size,t.size_eq];omega,MA h1 (λ h=>by rw[hl];exact j h) (λ x hx=>(e x hx).1),(IE _).2 ⟨⟨(OT o).1,b,(OT o).2.2⟩,λ x hx=>(e x hx).2⟩⟩
theorem Am9{x:Tm}{i:Int}{t y:Tf}{j:Int}(he:L0 x i t= .ok y j)(hx:len x.s<=100)(b:B8 t=true)(hs:AU t):Im y t.size:=by
 unfold L0 at he
 split at he
 ·cases he
 rename_i h1
 have h1:t.t.op=5:=Decidable.not_not.1 h1
 split at he
 ·have:=PR.HF he
  subst this
  obtain⟨a,e⟩:=(B8.one b) (.inr Aa)
  exact gN b hs (by split<;>omega) Aa (λ _=>by rw[e];rfl) hx
 ·cases he
theorem tE{l m:List Tf}{n:Nat}(h: ∀x∈l,B8 x=true/\AU x)(b:1+AB l<=n)(hm: ∀x∈m,x∈l)(e:AB m<=AB l):Im (.mk (AV 4) m) n:=
 ⟨by rw[Tf.size];omega,MA (by show ¬(4:Int)=1;decide) (λ h=>absurd h (by show ¬((4:Int)=3\/(5<=(4:Int)/\(4:Int)<=8));omega)) (λ x hx=>(h x (hm x hx)).1),(IE _).2 ⟨OT 4,λ x hx=>(h x (hm x hx)).2⟩⟩
theorem An0{x:Tm}{i:Int}{l:List Tf}{y:Tf}{j:Int}{n:Nat}(he:JC x i l= .ok y j)(hx:x.op=2->0<=x.n)(h: ∀x∈l,B8 x=true/\AU x)(e:1+AB l<=n):Im y n:=by
 unfold JC at he
 split at he
 ·cases he
 rename_i h1
 split at he<;>rename_i k
 ·have:=PR.HF he
  subst this
  have q:=hx k
  have hm:at' l x.n∈l:=at_mem (l:=l) q Aa
  have:=I8 hm
  exact⟨Aa,(h _ hm).1,(h _ hm).2⟩
 ·have:=PR.HF he
  subst this
  split
  ·exact tE h e (λ z b=>List.mem_of_mem_drop b) (Z8 (List.drop_sublist _ _))
  ·exact tE h e (λ z b=>List.mem_reverse.1 b) (by rw[VM (List.reverse_perm l)];exact Nat.le_refl _)
theorem An1{x:Tm}{i:Int}{t y:Tf}{j:Int}(he:JR x i t= .ok y j)(hx:x.op=2->0<=x.n)(b:B8 t=true)(hs:AU t):Im y t.size:=by
 obtain⟨z,k⟩:=MB b hs
 have l:=t.size_eq
 unfold JR at he
 split at he
 ·split at he
  ·split at he
   ·rename_i h1 A h
    have:=PR.HF he
    subst this
    obtain⟨q,w⟩:=OU h
    have hm:at' (AM t) (BP (BA t) x.s)∈AM t:=by rw[w];exact NC (by rw[<-OQ];exact q)
    have:=I8 hm
    exact⟨Aa,(k _ hm).1,(k _ hm).2⟩
   ·cases he
  ·cases he
 ·split at he
  ·split at he
   ·exact An0 he hx k Aa
   ·split at he
    ·have:=PR.HF he
     subst this
     exact⟨Nat.le_refl _,b,hs⟩
    ·cases he
  ·split at he
   ·split at he
    ·rename_i h
     have:=PR.HF he
     subst this
     obtain⟨a,e⟩:=(B8.one b) (.inl h)
     exact gN b hs Aa Aa (λ _=>by rw[e];rfl) (by show len ([]:A0)<=_;decide)
    ·cases he
   ·split at he
    ·split at he
     ·rename_i h
      have:=PR.HF he
      subst this
      obtain⟨a,e⟩:=(B8.one b) (.inr Aa)
      exact gN b hs Aa Aa (λ _=>by rw[e];rfl) (by show len ([]:A0)<=_;decide)
     ·cases he
    ·cases he
theorem An2{C:Tf->Int->Tf->PR Tf}{f:Tf}(hi:tA C f.size)(hg:f.B3)(n:AU f):OS (VJ C) f:=by
 intro i t y j he l hs
 have E:=t.size_pos
 have hle:t.size<=t.size*hF f:=Nat.le_mul_of_pos_right _ (KD f hg)
 unfold VJ at he
 split at he
 ·have:=PR.HF he
  subst this
  exact⟨hle,l,hs⟩
 split at he<;>rename_i h1 s
 ·obtain⟨a,b,e⟩:=hg.two (.inl s)
  have h:a.named []∈AQ f:=by unfold AQ;rw[e];simp
  have w:b.named []∈AQ f:=by unfold AQ;rw[e];simp
  have e0:at' (AQ f) 0=a.named []:=by unfold AQ;rw[e];rfl
  have F:at' (AQ f) 1=b.named []:=by unfold AQ;rw[e];rfl
  rw[e0,F]at he
  obtain⟨u,k,z,A⟩:=PR.K5 he
  have q:=hi _ (hg.EL h).2 (hg.EL h).1 (n.EL h) _ _ _ _ z l hs
  have D:=hi _ (hg.EL w).2 (hg.EL w).1 (n.EL w) _ _ _ _ A q.ar q.sh
  refine D.mono ?_
  rw[IV]
  have B:=q.size
  rw[IV]at B
  rw[JD f,if_pos s,e,hP,hP,hP,Nat.mul_one,<-Nat.mul_assoc]
  exact Nat.mul_le_mul_right _ B
 split at he<;>rename_i z
 ·obtain⟨a,e⟩:=hg.one (.inl z)
  have h:a.named []∈AQ f:=by unfold AQ;rw[e];simp
  have e0:at' (AQ f) 0=a.named []:=by unfold AQ;rw[e];rfl
  rw[e0]at he
  have:=Am7 hi (hg.EL h).2 (hg.EL h).1 (n.EL h) he l hs
  refine this.mono (Nat.mul_le_mul_left _ ?_)
  rw[IV,JD f,if_neg s,if_neg Aa,e,hS,hS];omega
 split at he<;>rename_i A
 ·obtain⟨a,e⟩:=hg.one (.inr (.inl A))
  have h:a.named []∈AQ f:=by unfold AQ;rw[e];simp
  have e0:at' (AQ f) 0=a.named []:=by unfold AQ;rw[e];rfl
  rw[e0]at he
  split at he<;>rename_i q
  ·have:=VN (hi _ (hg.EL h).2 (hg.EL h).1 (n.EL h)) (KD _ (hg.EL h).1) Aa he l hs
   refine this.mono (Nat.mul_le_mul_left _ ?_)
   rw[IV,JD f,if_neg s,if_neg Aa,e,hS,hS];omega
  ·cases he
 split at he<;>rename_i q
 ·cases he
 split at he<;>rename_i D
 ·have:=tD n (λ x hx=>hi _ (by rw[Tf.G2,f.size_eq];have:=I8 hx;omega) ((hg.kids x hx).named []) ((n.kids x hx).named (by show len ([]:A0)<=_;decide))) he l hs
  rwa [JD f,if_neg s,if_neg q]
 split at he<;>rename_i B
 ·exact(Am9 he n.root.2.1 l hs).mono hle
 split at he<;>rename_i G
 ·split at he
  ·cases he
  ·exact(Z9 he l hs).1.mono hle
 ·refine(An1 he (λ H=>?_) l hs).mono hle
  have:=gG hg.plain (.inl H)
  exact this.2.1
theorem VP: ∀(n:Nat) (f:Tf),f.size<=n->f.B3->AU f->OS (CO n) f:=by
 intro n
 induction n with
 |zero=>intro f h;have:=f.size_pos;omega
 |succ n b=>
  intro f e hg hs
  exact An2 (λ g i hg hs=>b g Aa hg hs) hg hs
theorem gO{α:Type}[Inhabited α](pre x post:List α){j:Int}(h0:0<=j)(h1:j<len x):at' (pre++(x++post)) (len pre+j)=at' x j:=by
 have hp:=A8 post
 have l:=A8 pre
 obtain⟨n,b⟩:=CE (pre++(x++post)) (i:=len pre+j) Aa (by rw[AO,AO];omega)
 obtain⟨h,k⟩:=CE x (i:=j) h0 h1
 rw[b,k]
 have e:(len pre+j).toNat=pre.length+j.toNat:=by unfold len at*;omega
 simp only[e]
 rw[List.getElem_append_right Aa]
 simp only[Nat.add_sub_cancel_left]
 rw[List.getElem_append_left h]
theorem An3(pre x post:Fl){j:Int}{a:Tm}(h0:0<=j)(h1:j<len x)(hm:0<=(at' x j).many)(b:j+(at' x j).many+1<=len x):F0 (pre++(x++post)) (len pre+j) a=pre++(F0 x j a++post):=by
 have h:=gO pre x post h0 h1
 obtain⟨m,e⟩: ∃m:Nat,(at' x j).many=m:=⟨(at' x j).many.toNat,Aa⟩
 obtain⟨k,rfl⟩: ∃k:Nat,j=k:=⟨j.toNat,Aa⟩
 have i:k+m+1<=x.length:=by unfold len at b;omega
 have l:IS (pre++(x++post)) (len pre+k)=pre++(IS x k++post):=by
  unfold IS
  rw[h,show(len pre+(k:Int)).toNat=pre.length+k by unfold len;omega,List.set_append_right _ _ Aa,Nat.add_sub_cancel_left,List.set_append_left _ _ Aa]
  rfl
 have n:(IS x (k:Int)).length=x.length:=by unfold IS;rw[List.length_set]
 unfold F0
 rw[l,h,e]
 have e2:(len pre+(k:Int)+m+1).toNat=pre.length+(k+m+1):=by unfold len;omega
 have e3:((k:Int)+m+1).toNat=k+m+1:=by omega
 rw[e2,e3,List.take_length_add_append,List.drop_length_add_append,List.take_append_of_le_length Aa,List.drop_append_of_le_length Aa]
 simp only[List.append_assoc,List.cons_append]
theorem dI{l:List Tf}(h: ∀x∈l,x.ps=[]):len (AN l)=len l:=by rw[sG h];unfold len;rw[List.length_map]
theorem tF{p:List Sp}{a:Tm}{n:A0}(q: ∀(t:Tf) (i:Int),B1 p t=(i,true)->B8 t=true->F0 t.flat i a=(FD (IT a.n a.c) p t).flat/\0<=(at' t.flat i).many/\i+(at' t.flat i).many+1<=len t.flat):
  ∀(l:List Tf) (pre:Fl) (i:Int),EJ l (len pre) n (B1 p)=(i,true)->(∀x∈l,B8 x=true)->F0 (pre++AN l) i a=pre++AN (KC n (FD (IT a.n a.c) p) l)/\0<=(at' (pre++AN l) i).many/\i+(at' (pre++AN l) i).many+1<=len (pre++AN l)
 |[],pre,i,h,_=>by cases h
 |x::l,pre,i,h,s=>by
  unfold EJ at h
  unfold KC
  split at h<;>rename_i w
  ·rw[if_pos w]
   split at h<;>rename_i z
   ·obtain⟨j,k⟩: ∃j,j=(B1 p x).1:=⟨_,rfl⟩
    rw[<-k]at h
    have hi:i=len pre+j:=by have:=congrArg Prod.fst h;exact this.symm
    obtain⟨g1,g2,g3⟩:=q x j (by rw[k,<-z]) (s x (.head _))
    have b:=V7 p x
    rw[<-k]at b
    subst hi
    show F0 (pre++(x.flat++AN l)) _ a=pre++((FD _ p x).flat++AN l)/\0<=(at' (pre++(x.flat++AN l)) _).many/\_+(at' (pre++(x.flat++AN l)) _).many+1<=len (pre++(x.flat++AN l))
    rw[An3 pre x.flat (AN l) b.1 b.2 g2 g3,g1,gO pre x.flat (AN l) b.1 b.2,AO,AO]
    have:=A8 (AN l)
    exact⟨rfl,g2,Aa⟩
   ·cases h
  ·rw[if_neg w]
   have e:len pre+len x.flat=len (pre++x.flat):=(AO _ _).symm
   rw[e]at h
   have:=tF q l (pre++x.flat) i h λ y A=>s y (.tail _ A)
   show F0 (pre++(x.flat++AN l)) _ a=pre++(x.flat++AN (KC n _ l))/\0<=(at' (pre++(x.flat++AN l)) _).many/\_+(at' (pre++(x.flat++AN l)) _).many+1<=len (pre++(x.flat++AN l))
   rw[<-List.append_assoc,<-List.append_assoc]
   exact this
theorem gP{a:Tm}: ∀(p:List Sp) (t:Tf) (i:Int),B1 p t=(i,true)->B8 t=true->F0 t.flat i a=(FD (IT a.n a.c) p t).flat/\0<=(at' t.flat i).many/\i+(at' t.flat i).many+1<=len t.flat
 |[],t,i,h,b=>by
  have ho:t.t.op=1:=by
   have:=congrArg Prod.snd h
   exact of_decide_eq_true this
  have hi:i=0:=(congrArg Prod.fst h).symm
  subst hi
  have hl:=dI (B8.leaf b ho)
  have hm:(at' t.flat 0).many=len t.ps:=t.XX
  have k:len t.flat=1+len t.ps:=by rw[Tf.FG,AL,hl];omega
  have j:=A8 t.ps
  refine⟨?_,by rw[hm];exact j,by rw[hm];omega⟩
  unfold F0
  have e:(0+(at' t.flat 0).many+1).toNat=(IS t.flat 0).length:=by
   unfold IS
   rw[List.length_set,hm];unfold len at k j ⊢;omega
  rw[e,List.take_length,List.drop_length]
  unfold IS FD
  rw[hm,t.S0]
  conv=>lhs;rw[Tf.FG]
  rw[Tf.FG]
  show({ t.t with many:=len t.ps+1}::AN t.ps)++_= { t.t with many:=len (t.ps++[IT a.n a.c])}::AN (t.ps++[IT a.n a.c])
  rw[J8,AO]
  rfl
 |s::p,t,i,h,b=>by
  obtain⟨h1,w,q⟩:=gK (by rw[h])
  rw[q]at h
  have:=tF (a:=a) (λ t i=>gP p t i) t.ps [{ t.t with many:=len t.ps}] i h (B8.kids b)
  unfold FD
  have e: ∀l:List Tf,len l=len t.ps->(Tf.mk t.t l).flat=[{ t.t with many:=len t.ps}]++AN l:=λ l hl=>by rw[Tf.FG];show{ t.t with many:=len l}::AN l=_;rw[hl];rfl
  rw[e _ (by unfold len;rw[sL]),show t.flat=[{ t.t with many:=len t.ps}]++AN t.ps by rw[Tf.FG];rfl]
  exact this
end Go.Eng
set_option maxRecDepth 100000
namespace Go.Proofs.YtnoegalemkbbbaaGreatDoor
open Go.Proofs.Tryz
open Go.Eng Go.RowKit
abbrev JS(w0:World)(M0 M:Mem)(Rs:List HO)(r:PR Tf):Ending->World->Prop:=WU w0 M0 M Rs 110 r λ y _=>BF w0 M0 M Rs (λ h:AI=>h.v) (λ _=>True) (λ h=>[(0,A6 h.v y.flat)]) λ _=>[]
theorem ND(p:Tf):DL p=(AQ p).map Tf.flat:=by unfold DL AQ;rw[List.map_map];rfl
theorem tG{t:Tm}(h:F9 t=true):t.op=16\/t.op=17\/t.op=18\/t.op=19:=by
 unfold F9 at h
 simp only[Bool.and_eq_true,decide_eq_true_eq]at h
 omega
theorem gQ{p:Tf}(hg:p.B3)(ho:p.t.op≠8)(i:F9 p.t=true\/p.t.op=7): ∀x∈p.ps,x.B3/\F9 x.t=true/\x.named []=x:=λ x hx=>by
 obtain⟨a,b,e⟩:=List.append_of_mem hx
 have h:=hg.SF a x b e
 refine⟨hg.kids x hx,?_,Tf.dG (h.n ho)⟩
 rw[h.c]
 rcases i with h|h
 ·rw[h];rfl
 ·simp[h]
theorem tH{p:Tf}{i:Int}{t:Tf}{h:Bool}(e:p.ps=[]):DN p i t h=if(B1 (BZ p.t.s).1 t).2=true then .ok (FD (IT (if h=true then p.t.n else IA p.t.n) p.t.c) (BZ p.t.s).1 t) 0 else .er i 5:=by
 cases p with|mk x ps=>cases e;rfl
theorem tI{p a:Tf}{i:Int}{t:Tf}{h:Bool}(e:p.ps=[a]):DN p i t h=DN a (i+1) t (!h):=by
 cases p with|mk x ps=>cases e;rfl
theorem tJ{p a b:Tf}{i:Int}{t:Tf}{h:Bool}(e:p.ps=[a,b]):DN p i t h=if decide (p.t.op=17)≠h then .er i 4 else(DN a (i+1) t h).bind λ y _=>DN b (i+1+a.size) y h:=by
 cases p with|mk x ps=>cases e;rfl
theorem DS(x:Tf):len x.flat=x.size:=by unfold len;rw[Tf.D5]
theorem tK: ∀(n:Nat) (p:Tf) {w0 wv:World} {M0 M:Mem} {Rs:List HO} (i:Int) (v u:Value) (t:Tf) (h:Bool),p.size<=n->p.B3->F9 p.t=true->AU p->St w0 M0 wv M Rs->Gl w0->(A6 v p.flat).ok M->(A6 u t.flat).ok M->B8 t=true->AU t->(t.size:Int)+p.size<=16777216->0<=i->i+p.size<=1099511627776->
    Calls prog 35 [v,i64 i,u,.bool h].toArray wv (JS w0 M0 M Rs (DN p i t h)):=by
 intro n
 induction n with
 |zero=>intro p _ _ _ _ _ i v u t h hn;have:=p.size_pos;omega
 |succ n V=>
 intro p w0 wv M0 M Rs i v u t h hn hg hc X hS F hlp hlt T G hsz hi0 hi1
 have K:=p.size_eq
 have hpz:=DS p
 have htz:=DS t
 have htp:=t.size_pos
 have L:(at' p.flat 0).op=p.t.op:=by rw[p.CU];rfl
 have hco:=tG hc
 have P:=gQ hg Aa (.inl hc)
 have D: ∀x∈p.ps,AU x:=X.kids
 refine AH (Hr:=Rs) AF func35 U ntmps35 [(0,A6 v p.flat),(1,A6 u t.flat)] [] [.sl 0 v,I i,.sl 1 u,.v (.bool h)] U hS (AD hlp (AD hlt A3)) (λ B l=>B9 2 U zeroValue48 U λ b9=>AP [] (λ g:Value×List AI=>.sl 3 g.1) [3] (λ _=>[]) U U call77 U U (λ w M hS hF=>S1 hS (hF.get (k:=0) U) Aa) λ N hgg=>?_) U
 refine A1 U (λ O=>?_) (λ O=>?_)<;>simp only[zb]at O<;>rw[L]at O
 ·obtain⟨a,e⟩:=hg.one (.inr (.inr (.inr O)))
  rw[e]at K
  rw[AB,AB]at K
  obtain⟨k1,k2,k3⟩:=P a (by rw[e];simp)
  have C:DL p=[a.flat]:=by rw[ND];unfold AQ;rw[e];show [(a.named []).flat]=_;rw[k3]
  rw[tI e,<-PR.ret (DN a (i+1) t !h)]at l
  have hgl2:len N.2=1:=by rw[hgg,e];rfl
  exact EC [] [4] (λ _ (g:AI)=>.sl 4 g.v) (λ _ _ _=>[]) l U U call35 U U (List.sublist_cons_self _ _) (λ w M hS hF=>V a (i+1) (at' N.2 0).v u t (!h) Aa k1 k2 (D a (by rw[e];simp)) hS F (by have:=EN (hF.get (k:=3) U) (k:=0) Aa Aa;rw[C]at this;exact this) (hF.get (k:=1) U) T G Aa Aa Aa) λ y j hy l g _=>A2 l U U U λ w M' A=>⟨g,M',rfl,trivial,A.le,A.B6 [] U,AD (A.f.get (k:=4) U) A3⟩
 refine A1 U (λ H=>?_) (λ H=>?_)<;>simp only[zb]at H<;>rw[L]at H
 ·have e:p.ps=[]:=by
   have:=(VK hg.plain H).1
   have h2:len p.ps=0:=this
   exact List.eq_nil_of_length_eq_zero (by unfold len at h2;omega)
  have hn5:=(VK hg.plain H).2.2.1
  have Q:(at' p.flat 0).s=p.t.s:=by rw[p.CU];rfl
  have hn0:(at' p.flat 0).n=p.t.n:=by rw[p.CU];rfl
  have hc0:(at' p.flat 0).c=p.t.c:=by rw[p.CU];rfl
  have hrs:=X.root
  rw[tH e,<-Q,<-hn0,<-hc0]at l
  obtain⟨x,hx⟩: ∃x,x=at' p.flat 0:=⟨_,rfl⟩
  rw[<-hx]at l Q hn0 hc0
  have hrl:=V9 x.s
  refine B9 5 U zeroValue113 U λ b11=>CQ 0 (λ s=>s=⟨[(0,A6 v p.flat),(1,A6 u t.flat)],[(5,.box b11 (I (if h=true then(at' p.flat 0).n else IA (at' p.flat 0).n)::E8 (at' p.flat 0).c.cells) 113),(2,.box b9 (E8 (at' p.flat 0).cells) 48)],[Z 1 (I i),Z 2 (.sl 1 u),Z 9 (.bx 2 b9 0),Z 11 (.bx 5 b11 0)]⟩) U U (λ q=>?_) (λ q=>?_) ?_
  ·have hh:h=false:=by simpa using q
   subst hh
   exact AP [] (λ _:Unit=>I (IA (at' p.flat 0).n)) [] (λ _=>[]) (Fg:=λ _=>[]) (pu:=λ _=>True) U U call78 U U (λ w M hS hF=>Ah7 _ hS) λ _ _=>AT _ U U U
  ·have hh:h=true:=by simpa using q
   subst hh
   exact AT _ U U U
  rintro s rfl
  obtain⟨R,hnn⟩: ∃R,R=if h=true then x.n else IA x.n:=⟨_,rfl⟩
  rw[<-hx,<-hnn]
  rw[<-hnn]at l
  refine D7 [3,5,9,10] 5 (λ _ _ _ _ _ h=>h) U BK U <|AK 3 U U U <|AP [] (λ u:Value=>.sl 6 u) [6] (λ _=>[]) (Fg:=λ u=>[(1,kn u 3 (BZ x.s).1 Sp.cells)]) (pu:=λ _=>True) U U call80 U U (λ w M hS hF=>fY x.s hS F (by rw[Q];omega)) λ v6 _=>AE U <|AK 5 U U U ?_
  obtain⟨k,hk⟩: ∃k,k=(B1 (BZ x.s).1 t).1:=⟨_,rfl⟩
  cases hl:(B1 (BZ x.s).1 t).2 with
  |false=>
   refine AP [] (λ _:Unit=>.tu [.v (.slice none 0 0),I 6]) [] (λ _=>[]) (Fg:=λ _=>[]) (pu:=λ _=>True) U U call79 U U (λ w M hS hF=>Ah3 (a:= { AV 9 with n:=R,c:=x.c}) hS (hF.get (k:=1) U) (hF.get (k:=6) U) Aa Aa hl) λ _ _=>?_
   refine AE U ?_
   refine AK 9 U U U ?_
   refine AE U ?_
   refine AK 10 U U U ?_
   refine AE U ?_
   refine BL U U U ?_
   rw[hl,if_neg Ab]at l
   refine A1 U (λ J=>?_) (λ J=>?_)
   ·refine EU [] U U call81 U U (λ w M hS hF=>FJ i 5 hS) λ a w M hs hS hle=>?_
    exact DY _ (l.p ⟨M,rfl,hS.drop _ ((List.sublist_cons_self _ _).cons _),hle⟩ a hs)
   ·exact absurd J (by simp)
  |true=>
   have hlq:B1 (BZ x.s).1 t=(k,true):=by rw[hk,<-hl]
   obtain⟨r1,r2,r3⟩:=gP (a:= { AV 9 with n:=R,c:=x.c}) (BZ x.s).1 t k hlq T
   refine AP [] (λ g:Value=>.tu [.sl 7 g,I 0]) [] (λ g=>[(7,ED g (FD (IT R x.c) (BZ x.s).1 t).flat)]) (Fg:=λ _=>[]) (pu:=λ _=>True) (Hg:=λ g=>[HL g (FD (IT R x.c) (BZ x.s).1 t).flat]) U U call79 U U (hu:=λ _=>rfl) (hH:=λ _=>rfl) (λ w M hS hF=>by rw[<-r1];exact Ah4 (a:= { AV 9 with n:=R,c:=x.c}) hS (hF.get (k:=1) U) (hF.get (k:=6) U) Aa Aa hlq ⟨r2,r3⟩) λ g _=>?_
   refine AE U ?_
   refine AK 9 U U U ?_
   refine AE U ?_
   refine AK 10 U U U ?_
   refine AE U ?_
   refine BL U U U ?_
   rw[hl,if_pos U]at l
   refine A1 U (λ J=>?_) (λ J=>?_)
   ·exact absurd J (by simp)
   refine C6 7 U ?_
   refine RG 7 U λ a7 c7 e7=>?_
   subst e7
   exact A2 l U U U λ w M' A=>⟨⟨a7,_,c7⟩,M',rfl,trivial,A.le,A.B6 [] U,AD (A.f.get (k:=7) U) A3⟩
 ·obtain⟨a,b,e⟩:=hg.two (.inr Aa)
  rw[e]at K
  rw[AB,AB,AB]at K
  obtain⟨a1,a2,a3⟩:=P a (by rw[e];simp)
  obtain⟨b1,b2,b3⟩:=P b (by rw[e];simp)
  have C:DL p=[a.flat,b.flat]:=by rw[ND];unfold AQ;rw[e];show [(a.named []).flat,(b.named []).flat]=_;rw[a3,b3]
  have hgl2:len N.2=2:=by rw[hgg,e];rfl
  have hz1:=DS a
  rw[tJ e]at l
  refine A1 U (λ q=>?_) (λ q=>?_)
  ·rw[if_pos (by rw[L]at q;simp only[bne_iff_ne,ne_eq]at q;exact q)]at l
   exact EU [] U U call81 U U (λ w M hS hF=>FJ i 4 hS) λ a w M hs hS hle=>DY _ (l.p ⟨M,rfl,hS.drop _ (List.sublist_cons_self _ _),hle⟩ a hs)
  rw[if_neg (by rw[L]at q;simp only[bne_eq_false_iff_eq]at q;exact λ h9=>h9 q)]at l
  refine D7 [8,17,19,20] 5 (λ _ _ _ _ _ h=>h) U BK U <|FZ 8 17 U U U ?_ ?_
  ·refine AR (W:=.t) (I (len a.flat)) U U (λ w M A=>by have:=EN (A.f.get (k:=3) U) (k:=0) Aa Aa;rw[C]at this;exact PV.MJ this.sl (A7 (v:=.v (at' N.2 0).v) (E:=[]) U) ⟨_,underlying23⟩) <|AE U <|AK 17 U U U <|EC [] [4] (λ _ (g:AI)=>.sl 4 g.v) (λ _ _ _=>[]) l U U call35 U U (List.sublist_cons_self _ _) (λ w M hS hF=>V a (i+1) (at' N.2 0).v u t h Aa a1 a2 (D a (by rw[e];simp)) hS F (by have:=EN (hF.get (k:=3) U) (k:=0) Aa Aa;rw[C]at this;exact this) (hF.get (k:=1) U) T G Aa Aa Aa) λ y j hy l g _=>?_
   obtain⟨S,y2⟩:=OR a hy (D a (by rw[e];simp)) T G
   have y3:=S.size
   refine AE U <|AK 19 U U U ?_
   rw[<-PR.ret (DN b (i+1+a.size) y h)]at l
   refine EC [] [5] (λ _ (g:AI)=>.sl 5 g.v) (λ _ _ _=>[]) l U U call35 U U (List.sublist_cons_self _ _) (hu:=λ _ _=>rfl) (hH:=λ _ _ _=>rfl) (λ w M hS hF=>by
    have:=V b (i+1+a.size) (at' N.2 1).v g.v y h Aa b1 b2 (D b (by rw[e];simp)) hS F (by have:=EN (hF.get (k:=3) U) (k:=1) Aa Aa;rw[C]at this;exact this) (hF.get (k:=4) U) S.ar S.sh Aa Aa Aa
    rw[<-hz1]at this ⊢
    exact this) λ z k hz l g2 _=>?_
   exact AE U <|AK 20 U U U <|AE U <|BL U U U <|A2 l U U U λ w M' A=>⟨g2,M',rfl,trivial,A.le,A.B6 [] U,AD (A.f.get (k:=5) U) A3⟩
  ·refine EC [] [4] (λ _ (g:AI)=>.sl 4 g.v) (λ _ _ _=>[]) l U U call35 U U (List.sublist_cons_self _ _) (λ w M hS hF=>V a (i+1) (at' N.2 0).v u t h Aa a1 a2 (D a (by rw[e];simp)) hS F (by have:=EN (hF.get (k:=3) U) (k:=0) Aa Aa;rw[C]at this;exact this) (hF.get (k:=1) U) T G Aa Aa Aa) λ y j hy l g _=>?_
   obtain⟨S,y2⟩:=OR a hy (D a (by rw[e];simp)) T G
   have y3:=S.size
   refine AE U <|AK 8 U U U <|AR (W:=.t) (I (len a.flat)) U U (λ w M A=>by have:=EN (A.f.get (k:=3) U) (k:=0) Aa Aa;rw[C]at this;exact PV.MJ this.sl (A7 (v:=.v (at' N.2 0).v) (E:=[]) U) ⟨_,underlying23⟩) <|AE U <|AK 19 U U U ?_
   rw[<-PR.ret (DN b (i+1+a.size) y h)]at l
   refine EC [] [5] (λ _ (g:AI)=>.sl 5 g.v) (λ _ _ _=>[]) l U U call35 U U (List.sublist_cons_self _ _) (hu:=λ _ _=>rfl) (hH:=λ _ _ _=>rfl) (λ w M hS hF=>by
    have:=V b (i+1+a.size) (at' N.2 1).v g.v y h Aa b1 b2 (D b (by rw[e];simp)) hS F (by have:=EN (hF.get (k:=3) U) (k:=1) Aa Aa;rw[C]at this;exact this) (hF.get (k:=4) U) S.ar S.sh Aa Aa Aa
    rw[<-hz1]at this ⊢
    exact this) λ z k hz l g2 _=>?_
   exact AE U <|AK 20 U U U <|AE U <|BL U U U <|A2 l U U U λ w M' A=>⟨g2,M',rfl,trivial,A.le,A.B6 [] U,AD (A.f.get (k:=5) U) A3⟩
end Go.Proofs.YtnoegalemkbbbaaGreatDoor
namespace Go.Eng
open Go.RowKit
theorem gR: ∀(ns:List A0) (xs:List Tf),G5 ns (xs.map Tf.flat)=(CN ns xs).map Tf.flat
 |[],xs=>by rw[fM];cases xs<;>rfl
 |n::ns,[]=>rfl
 |n::ns,x::xs=>by
  have b:=gR ns xs
  unfold G5 at b ⊢
  rw[List.map_cons,List.mapIdx_cons,CN,List.map_cons,<-b]
  have i:=A8 ns
  congr 1
  ·unfold IL
   rw[if_pos (by rw[AL];show(0:Int)<_;omega)]
   exact Tf.XY _ _
  ·congr 1
   funext k y
   unfold IL
   have e:at' (n::ns) ((k+1:Nat):Int)=at' ns (k:Int):=by unfold at';simp
   rw[e,AL]
   by_cases h:(k:Int)<len ns
   ·rw[if_pos h,if_pos (by push_cast;omega)]
   ·rw[if_neg h,if_neg (by push_cast;omega)]
theorem An4(t:Tm)(ns:List A0)(xs:List Tf):({ t with many:=len (xs.map Tf.flat)}:Tm)::(G5 ns (xs.map Tf.flat)).flatten=(CK t ns xs).flat:=by
 unfold CK
 rw[Tf.UR,gR,gJ]
 have:len (xs.map Tf.flat)=len xs:=by unfold len;rw[List.length_map]
 rw[this]
theorem tL{β:Type}{g:Tf->PR Tf}{x:Tf}{l ys:List Tf}(K:List Tf->PR β):((KY g (x::l)).bind λ r _=>K (ys++r))=(g x).bind λ y _=>(KY g l).bind λ r _=>K (ys++[y]++r):=by
 rw[KY,PR.assoc]
 refine PR.congr λ y i=>?_
 rw[PR.assoc]
 exact PR.congr λ r i=>by rw[PR.S8,List.append_assoc];rfl
theorem An5{β:Type}{g:Tf->PR Tf}{x y:Tf}{l ys:List Tf}{j:Int}(K:List Tf->PR β)(hx:g x= .ok y j):((KY g (x::l)).bind λ r _=>K (ys++r))=(KY g l).bind λ r _=>K (ys++[y]++r):=by
 rw[tL K,hx,PR.S8]
theorem ZA{l:List Tf}{k:Nat}(h:k<l.length):l.drop k=at' l (k:Int)::l.drop (k+1):=by
 obtain⟨h1,b⟩:=CE l (i:=(k:Int)) Aa (by unfold len;omega)
 rw[b,List.drop_eq_getElem_cons h];simp
theorem MD{l:List Tf}{k:Nat}(h:k<l.length):at' (l.map Tf.flat) (k:Int)=(at' l (k:Int)).flat:=by
 obtain⟨j,b⟩:=CE l (i:=(k:Int)) Aa (by unfold len;omega)
 obtain⟨n,e⟩:=CE (l.map Tf.flat) (i:=(k:Int)) Aa (by unfold len;rw[List.length_map];omega)
 rw[b,e,List.getElem_map]
end Go.Eng
namespace Go.Proofs.YtnoegalemkbbbaaGreatDoor
open Go.Proofs.Tryz
open Go.Eng Go.RowKit
theorem L1{w0 e:World}{M0 M:Mem}{Rs:List HO}(t:Tm)(b:Value)(ns:List A0)(v:Value)(hs:List AI)(xs:List Tf)(hS:St w0 M0 e M Rs)(i:Sl M 1 ns.length b (ns.flatMap DV))(j:Sl M 1 hs.length v (hs.flatMap BX))(h:B5 M 11 Tm.cells hs (xs.map Tf.flat))(q:AB xs<=16777216):
  Calls prog 146 [.agg t.cells.toArray,b,v].toArray e (OJ w0 M0 M Rs (CK t ns xs).flat):=by
 have hl:=B5.len h
 rw[List.length_map]at hl
 have k:len (AN xs)=AB xs:=by unfold len;rw[SC]
 have l:=JJ xs
 have:=qZ (Rs:=Rs) t b ns v hs (xs.map Tf.flat) hS i ⟨j,E5,h⟩ (λ y n=>by obtain⟨x,_,rfl⟩:=List.mem_map.1 n;exact x.PU) (by rw[<-dF];omega) (by unfold len at*;omega)
 rw[An4]at this
 exact this
abbrev QO(n:Nat):Prop:= ∀(g:Tf) {w0 wv:World} {M0 M:Mem} {Rs:List HO} (i:Int) (v:Value) (u:AI) (t:Tf),g.size<=n->g.B3->AU g->St w0 M0 wv M Rs->Gl w0->(A6 v g.flat).ok M->(A6 u.v t.flat).ok M->B8 t=true->AU t->t.size*hF g<=16777216->0<=i->i+2*g.size<=1099511627776->
 Calls prog 39 [v,i64 i,u.v].toArray wv (JS w0 M0 M Rs (CO n g i t))
theorem ZB{n:Nat}(H:QO n)(g:Tf){w0 X:World}{M0 M:Mem}{Rs:List HO}(i:Int)(v:Value)(u:AI)(t:Tf)(hn:g.size<=n)(hg:g.B3)(A:AU g)(hS:St w0 M0 X M Rs)(K:Gl w0)(L:(A6 v g.flat).ok M)(N:(A6 u.v t.flat).ok M)(ha:B8 t=true)(hs:AU t)(ho:t.t.op≠1)(C:t.size*hF g<=16777216)(O:0<=i)(P:i+2*g.size<=1099511627776):
    Calls prog 91 [v,i64 i,u.v].toArray X (JS w0 M0 M Rs (IU (CO n) g i t)):=by
 have D:=KD g hg
 have htm:t.size<=16777216:=Nat.le_trans (Nat.le_mul_of_pos_right _ D) C
 have htz:=DS t
 have htp:=t.size_pos
 obtain⟨k1,k2⟩:=MB ha hs
 have hts:=t.size_eq
 have hkl:((AM t).length:Int)<=AB (AM t):=LZ _
 have E:(at' t.flat 0).op=t.t.op:=by rw[t.CU];rfl
 have Q:(at' t.flat 0).n=t.t.n:=by rw[t.CU];rfl
 refine AH (Hr:=Rs) AF func91 U ntmps91 [(0,A6 v g.flat),(1,A6 u.v t.flat)] [] [.sl 0 v,I i,.sl 1 u.v] U hS (AD L (AD N A3)) (λ B F=>AP [] (λ g:Value×List AI=>.sl 8 g.1) [9] (λ g=>[(8,EA g.1 g.2)]) U U call143 U U (λ w M hS hF=>SN hS (hF.get (k:=1) U) Aa) λ gg G=>?_) U
 obtain⟨pu,b⟩:=gg
 dsimp only at G
 refine C6 8 U <|DW 8 (C9 pu b ((AM t).map Tf.flat)) (λ w M e=>⟨(e.f.get (k:=8) U).sl,E5,(e.f.get (k:=9) U).more⟩) <|U6 7 7 25 1 BX E5 U <|DW 6 (FP [] (([]:List Tf).map Tf.flat)) (λ w M e=>⟨Sl.nil M 1,DO,trivial⟩) ?_
 refine B7 (σ:=Nat×Value×List AI×List Tf) (λ(k,o,gs,ys)=>⟨[(0,A6 v g.flat),(1,A6 u.v t.flat),(8,C9 pu b ((AM t).map Tf.flat)),(7,kn o 1 gs BX),(6,FP gs (ys.map Tf.flat))],[(7,.ho (.own 25 1 o gs.length (gs.flatMap BX)))],[Z 0 (.sl 0 v),Z 1 (I i),Z 2 (.sl 1 u.v),Z 7 (.sl 7 o),Z 11 (.sl 8 pu),Z 12 (I (len b)),Z 13 (I k)]⟩)
   (λ(k,o,gs,ys)=>k<=(AM t).length/\len gs=k/\IU (CO n) g i t=(KY (λ x=>CO n g i x) ((AM t).drop k)).bind λ l _=>.ok (CK { AV t.t.op with n:=t.t.n} (BA t) (ys++l)) 0) (λ(k,o,gs,ys)=>(AM t).length-k) (0,.slice none 0 0,[],[]) U U ⟨Aa,rfl,rfl⟩ ?_
 rintro⟨k,o,gs,ys⟩ ⟨hk,R,J⟩
 refine A1 U (λ q=>?_) (λ q=>?_)<;>simp only[zb]at q
 ·have s:k<(AM t).length:=by unfold len at q;omega
  have hlk:len b=len ((AM t).map Tf.flat):=by unfold len;rw[List.length_map,G]
  have z:=NC s
  have hkz:=I8 z
  have S:(at' (AM t) (k:Int)).size*hF g<=16777216:=Nat.le_trans (Nat.mul_le_mul_right _ Aa) C
  rw[J,ZA s,tL (λ l=>.ok (CK { AV t.t.op with n:=t.t.n} (BA t) l) 0)]at F
  exact EC [] [4] (λ _ (h:AI)=>.sl 4 h.v) (λ _ _ _=>[]) F U U call39 U U (List.sublist_cons_self _ _) (λ w M hS hF=>H g i v (at' b (k:Int)) (at' (AM t) (k:Int)) hn hg A hS K (hF.get (k:=0) U) (by have:=EN (hF.get (k:=8) U) (k:=(k:Int)) Aa Aa;rw[MD s]at this;exact this) (k2 _ z).1 (k2 _ z).2 S O P) λ y j hy F h _=>BH 12 [h] BX 1 25 E5 U U Ah U λ v12=>F4 24 U U U underlying53 type25 U U O7 (by simp only[AL,len_nil];unfold len at*;omega) λ v'=>DW 6 (FP (gs++[h]) ((ys++[y]).map Tf.flat)) (λ w M e=>⟨Sl.nil M 1,DO,by rw[List.map_append];exact B5.snoc (e.sl 4 U) (e.f.get (k:=6) U).more⟩) <|AX (k+1,v',gs++[h],ys++[y]) U U ⟨Aa,by rw[AO,R];rfl,by rw[J,ZA s,An5 (λ l=>.ok (CK { AV t.t.op with n:=t.t.n} (BA t) l) 0) hy]⟩ (by show(AM t).length-(k+1)<(AM t).length-k;omega)
 rw[List.drop_of_length_le (by unfold len at q;omega),KY,PR.S8,List.append_nil]at J
 have T:=VN (VP n g hn hg A) D ho J ha hs
 have V:AB ys<=16777216:=by
  have:=T.size
  unfold CK at this
  rw[Tf.size,QM]at this
  omega
 rw[J]at F
 refine D7 [10,12,13] 4 (λ _ _ _ _ _ h=>h) U BK U <|AK 10 U U U <|AP [] (λ u:Value=>.sl 5 u) [] (λ u=>[(5,QH u (BA t))]) U U call147 U U (λ w M hS hF=>fZ hS (hF.get (k:=1) U) Aa) λ nu _=>C6 5 U <|AE U <|AK 12 U U U ?_
 refine AP [] (λ h:AI=>.sl 10 h.v) [] (λ h=>[(10,ED h.v (CK { AV t.t.op with n:=t.t.n} (BA t) ys).flat)]) U U call146 U U (hu:=λ _=>rfl) (hH:=λ _=>rfl) (λ w M hS hF=>by
  have:=L1 { AV t.t.op with n:=t.t.n} nu (BA t) o gs ys hS (hF.get (k:=5) U).sl (hF.get (k:=7) U).sl (hF.get (k:=6) U).more V
  rw[<-E,<-Q]at this ⊢
  exact this) λ W _=>?_
 exact C6 10 U <|AE U <|AK 13 U U U <|AE U <|BL U U U <|A2 F U U U λ w M' e=>⟨W,M',rfl,trivial,e.le,e.B6 [] U,AD (e.f.get (k:=10) U) A3⟩
theorem An6{x:Tf}(h:AU x):Q8 x.flat/\ ∀t∈x.flat,len t.c.s<=1000000:=⟨λ t b=>by have:=h t b;exact⟨Aa,Aa,Aa⟩,λ t b=>by have:=h t b;omega⟩
theorem An7{n:Nat}(H:QO n)(g:Tf){w0 wv:World}{M0 M:Mem}{Rs:List HO}(i:Int)(v:Value)(u:AI)(t:Tf)(hn:g.size<=n)(hg:g.B3)(N:AU g)(hS:St w0 M0 wv M Rs)(C:Gl w0)(V:(A6 v g.flat).ok M)(W:(A6 u.v t.flat).ok M)(ha:B8 t=true)(hs:AU t)(h7:KZ g=true)(X:t.size*hF g<=16777216)(hi0:0<=i)(hi1:i+2*g.size+1<=1099511627776):
    Calls prog 142 [v,i64 i,u.v].toArray wv (JS w0 M0 M Rs (SS (CO n) g i t)):=by
 have hgz:=DS g
 have hgp:=g.size_pos
 have hge:=g.size_eq
 have O:(at' g.flat 0).op=g.t.op:=by rw[g.CU];rfl
 have htm:t.size<=16777216:=Nat.le_trans (Nat.le_mul_of_pos_right _ (KD g hg)) X
 have htz:=DS t
 refine AH (Hr:=Rs) AF func142 U ntmps142 [(0,A6 v g.flat),(1,A6 u.v t.flat)] [] [.sl 0 v,I i,.sl 1 u.v] U hS (AD V (AD W A3)) (λ B q=>BH 3 [AV 0] Tm.cells 11 48 Tm.AS U U Ah U λ v3=>?_) U
 obtain⟨G,P,D,hz⟩: ∃G P D,CJ g i=(G,P,D):=⟨_,_,_,rfl⟩
 refine CQ 0 (λ s=> ∃v' S,s=⟨[(0,A6 v' G.flat),(1,A6 u.v t.flat),(3,A6 S P.flat)],[],[Z 0 (.sl 0 v'),Z 1 (I D),Z 2 (.sl 1 u.v),Z 7 (.sl 3 S)]⟩) U U (λ l=>?_) (λ l=>?_) ?_<;>try simp only[zb]at l
 ·rw[O]at l
  obtain⟨a,b,e⟩:=hg.two (.inl l)
  have A:DL g=[(a.named []).flat,(b.named []).flat]:=by rw[ND];unfold AQ;rw[e];rfl
  refine AP [] (λ g:Value×List AI=>.sl 4 g.1) [4] (λ _=>[]) U U call77 U U (λ w M hS hF=>S1 hS (hF.get (k:=0) U) Aa) λ L E=>?_
  have Q:len L.2=2:=by rw[E,e];rfl
  have ek:AQ g=[a.named [],b.named []]:=by unfold AQ;rw[e];rfl
  refine D7 [6,7] 3 (λ _ _ _ _ _ h=>h) U BK U <|AK 6 U U U <|AE U <|AK 7 U U U <|AE U <|BL U U U <|DW 0 (A6 (at' L.2 0).v (a.named []).flat) (λ w M F=>by have:=EN (F.f.get (k:=4) U) (k:=0) Aa Aa;rw[A]at this;exact this) (MO 0 0 U ?_)
  refine DW 3 (A6 (at' L.2 1).v (b.named []).flat) (λ w M F=>by have:=EN (F.f.get (k:=4) U) (k:=1) Aa Aa;rw[A]at this;exact this) (MO 7 3 U ?_)
  have e1:CJ g i=(a.named [],b.named [],i+1):=by unfold CJ;rw[if_pos l,ek];rfl
  cases hz.symm.trans e1
  exact AT _ U U ⟨_,_,rfl⟩
 ·rw[O]at l
  have e1:CJ g i=(g,SR,i):=by unfold CJ;rw[if_neg l]
  cases hz.symm.trans e1
  exact AT _ U U ⟨_,_,rfl⟩
 rintro s ⟨v',S,rfl⟩
 obtain⟨p1,p2,p3,p4,p5,p6,p7,p8,_⟩:=QN (i:=i) hg N h7
 obtain⟨a,e,e2,h3,h4⟩:=sW (i:=i) (t:=t) hg N h7
 obtain⟨k1,k2,k3⟩:=gQ p1 Aa (.inr p2) a (by rw[e];simp)
 have R:(CJ g i).2.2=i/\(CJ g i).1.size=g.size/\(CJ g i).2.1.size=1\/(CJ g i).2.2=i+1/\(CJ g i).1.size+(CJ g i).2.1.size+1<=g.size:=by
  unfold CJ
  split
  ·rename_i hq
   obtain⟨a,b,e⟩:=hg.two (.inl hq)
   have ek:AQ g=[a.named [],b.named []]:=by unfold AQ;rw[e];rfl
   rw[e,AB,AB,AB]at hge
   refine .inr ⟨rfl,?_⟩
   rw[ek];show(a.named []).size+(b.named []).size+1<=_;rw[Tf.G2,Tf.G2];omega
  ·exact .inl ⟨rfl,rfl,rfl⟩
 unfold SS at q
 rw[e2,k3]at q
 rw[hz]at q p1 p2 p3 p4 p5 p6 p7 p8 e h4 R
 dsimp only at q p1 p2 p3 p4 p5 p6 p7 p8 e h4 R
 have hGz:=DS G
 have hGe:=G.size_eq
 rw[e,AB,AB]at hGe
 have A:DL G=[a.flat]:=by rw[ND];unfold AQ;rw[e];show [(a.named []).flat]=_;rw[k3]
 refine AP [] (λ g:Value×List AI=>.sl 4 g.1) [4] (λ _=>[]) U U call77 U U (λ w M hS hF=>S1 hS (hF.get (k:=0) U) Aa) λ L E=>?_
 have Q:len L.2=1:=by rw[E,e];rfl
 refine EC [] [6] (λ _ (h:AI)=>.sl 6 h.v) (λ _ _ _=>[]) q U U call35 U U (List.Sublist.refl _) (λ w M hS hF=>tK a.size a (D+1) (at' L.2 0).v u.v t true (Nat.le_refl _) k1 k2 (p4.kids a (by rw[e];simp)) hS C (by have:=EN (hF.get (k:=4) U) (k:=0) Aa Aa;rw[A]at this;exact this) (hF.get (k:=1) U) ha hs Aa Aa Aa) λ y j hy q h6 _=>?_
 obtain⟨T,y2⟩:=OR a hy (p4.kids a (by rw[e];simp)) ha hs
 have y3:=T.size
 have y4:=h4 _ y3
 obtain⟨z1,z2⟩:=An6 T.sh
 have hyz:=DS y
 refine AP [] (λ _:Unit=>.v (.bool (KX y))) [] (λ _=>[]) (Fg:=λ _=>[]) (pu:=λ _=>True) U U call175 U U (λ w M hS hF=>Al2 h6.v y hS C (hF.get (k:=6) U) Aa z1 z2) λ _ _=>A1 U (λ J=>?_) (λ J=>?_)
 ·have K:KX y=false:=by simpa using J
  rw[K,if_neg Ab]at q
  exact EU [] U U call81 U U (λ w M hS hF=>FJ D 6 hS) λ a w M hs hS hle=>DY _ (q.p ⟨M,rfl,hS.drop _ (List.Sublist.refl _),hle⟩ a hs)
 have K:KX y=true:=by simpa using J
 rw[K,if_pos U,<-PR.ret (CO n P (D+G.size) y)]at q
 refine EC [] [5] (λ _ (h:AI)=>.sl 5 h.v) (λ _ _ _=>[]) q U U call39 U U (List.Sublist.refl _) (hu:=λ _ _=>rfl) (hH:=λ _ _ _=>rfl) (λ w M hS hF=>by
  have:=H P (D+G.size) S h6 y Aa p3 p5 hS C (hF.get (k:=3) U) (hF.get (k:=6) U) T.ar T.sh Aa Aa Aa
  rw[<-hGz]at this ⊢
  exact this) λ z k hzz q h5 _=>?_
 exact A2 q U U U λ w M' F=>⟨h5,M',rfl,trivial,F.le,F.B6 [] U,AD (F.f.get (k:=5) U) A3⟩
end Go.Proofs.YtnoegalemkbbbaaGreatDoor
namespace Go.Eng
open Go.RowKit
section pv
variable {P:Program} {C:World->Prop} {L:Env} {W:Bool} {d:Option Tmp} {ty:TypeId} {ps:String} {af:Array Edge} {gd:Option (Nat×Bool)}
theorem PV.An8 {ts:Array TypeId}{x y:Operand}{k k':IntKind}{a b:Int}(hx:AA L W x (.int k a))(h:AA L W y (.int k' b)):PV P C L W ⟨d,.call ⟨.builtin .min,#[x,y],ts⟩,ty,ps,af,gd⟩ (.int k (if b<a then b else a)):=by
 intro ac N hs e w _
 have:=run_min_int2 (P:=P) (w:=w) ts ty k k' a b
 simp only[execOp,resolve,invoke,builtin,List.map_toArray,List.map_cons,List.map_nil,hx ac N hs e,h ac N hs e,Sem.run_bind,Sem.run_pure,Result.andThen_ok,this]
end pv
end Go.Eng
namespace Go.Proofs.YtnoegalemkbbbaaGreatDoor
open Go.Proofs.Tryz
open Go.Eng Go.RowKit
abbrev SW(t:Tm):XV:=.ag [I t.op,I t.many,.v (str t.name),.v (str t.s),I t.n,I t.c.kind,I t.c.many,.v (str t.c.name),.v (str t.c.s),.v (.bool t.c.neg),I t.c.e]
abbrev tM(x:Sp):XV:=.ag [.v (.bool x.part),.v (str x.name),I x.n]
theorem An9:prog.underlying 105=some (.struct (prog.fieldsOf 105)):=by kernel_rfl
theorem Ao0:(prog.fieldsOf 105).toList=[⟨"Part",4,0,false,"","",0⟩,⟨"Name",9,1,false,"","",8⟩,⟨"N",3,2,false,"","",24⟩]:=by kernel_rfl
theorem Ao1(d:Nat)(a b:Sp)(w:World):(Op.equalIn (d+1+1+1) 105 (.agg (Sp.cells a).toArray) (.agg (Sp.cells b).toArray)).run prog w= .ok (decide (a=b)) w:=by
 rw[run_equalIn_agg w _ _ _ _ An9 Tryz.stoodInHeld105,Ao0]
 rw[FV (P:=prog) (w:=w) (xs:=(Sp.cells a).toArray) (ys:=(Sp.cells b).toArray) (f:=⟨"Part",4,0,false,"","",0⟩) Ab (show(part 4 (Sp.cells a).toArray 0).run prog w= .ok (.bool a.part) w by kernel_rfl) (show(part 4 (Sp.cells b).toArray 0).run prog w= .ok (.bool b.part) w by kernel_rfl) (W3 underlying4 w (d+1) a.part b.part)]
 rw[FV (P:=prog) (w:=w) (xs:=(Sp.cells a).toArray) (ys:=(Sp.cells b).toArray) (f:=⟨"Name",9,1,false,"","",8⟩) Ab (show(part 9 (Sp.cells a).toArray 1).run prog w= .ok (str a.name) w by kernel_rfl) (show(part 9 (Sp.cells b).toArray 1).run prog w= .ok (str b.name) w by kernel_rfl) (P3 underlying9 w (d+1) a.name b.name)]
 rw[FV (P:=prog) (w:=w) (xs:=(Sp.cells a).toArray) (ys:=(Sp.cells b).toArray) (f:=⟨"N",3,2,false,"","",24⟩) Ab (show(part 3 (Sp.cells a).toArray 2).run prog w= .ok (i64 a.n) w by kernel_rfl) (show(part 3 (Sp.cells b).toArray 2).run prog w= .ok (i64 b.n) w by kernel_rfl) (L8 underlying3 w (d+1) a.n b.n)]
 have e:(.ok true w:Result Bool)= .ok (decide True) w:=rfl
 rw[VZ,e]
 simp only[W0]
 have hp:(a.part=b.part/\a.name=b.name/\a.n=b.n/\True)↔a=b:=by cases a;cases b;simp
 rw[decide_eq_decide.2 hp]
theorem Ao2(x y:Operand)(a b:Sp)(w:World):(do eqGuard .neq 105 x y (.agg (Sp.cells a).toArray) (.agg (Sp.cells b).toArray);binOp .neq 105 (.agg (Sp.cells a).toArray) (.agg (Sp.cells b).toArray):Sem Value).run prog w= .ok (.bool (!(decide (a=b)))) w:=ZX x y w eqGuardType105 (Ao1 9997 a b w)
theorem Ao3(a b:Fl)(q s:Value)(w:World)(M:Mem)(G:Sat w M)(F:(A6 q a).ok M)(H:(A6 s b).ok M):
    Calls prog 208 [q,s].toArray w λ e w'=>e= .returned (.bool (decide (a=b)))/\Ext w w':=by
 have J:len a<=9223372036854775807:=F.sl.le
 refine AH (Hr:=[]) AF func208 U ntmps208 [(0,A6 q a),(1,A6 s b)] [] [.sl 0 q,.sl 1 s] U (Aj G) (AD F (AD H A3)) (λ B A=>?_) U
 refine A1 U (λ i=>?_) (λ i=>?_)<;>simp only[zb]at i
 ·exact A2 A U U U λ w M y=>⟨by rw[decide_eq_false (λ e=>i (by rw[e]))];rfl,y.st.low⟩
 refine B7 (λ k:Int=>⟨[(0,A6 q a),(1,A6 s b)],[],[Z 0 (.sl 0 q),Z 1 (.sl 1 s),Z 12 (I (len a)),Z 13 (I k)]⟩) (λ k=>0<=k/\k<=len a/\Eng.sub a 0 k=Eng.sub b 0 k) (λ k=>(len a-k).toNat) 0 U U ⟨Aa,by have:=A8 a;omega,rfl⟩ ?_
 rintro k ⟨z,K,j⟩
 refine A1 U (λ l=>?_) (λ l=>?_)<;>simp only[zb]at l
 ·have C:k<len b:=by omega
  refine D7 [8] 2 (λ _ _ _ _ _ h=>h) U BK Ac <|AK 8 U U U <|AR (.v (.bool (!decide (at' a k=at' b k)))) U U (λ w M y=>PV.bin (A7 (v:=SW (at' a k)) U) (A7 (v:=SW (at' b k)) U) (λ _ w _=>AD7 _ _ _ _ w)) <|AE U <|BL U U U <|A1 U (λ n=>?_) (λ n=>?_)
  ·have D: ¬at' a k=at' b k:=by simpa[zb]using n
   exact A2 A U U U λ w M y=>⟨by rw[decide_eq_false (λ e=>D (by rw[e]))];rfl,y.st.low⟩
  ·have heq:at' a k=at' b k:=by simpa[zb]using n
   exact AX (k+1) U U ⟨Aa,Aa,by rw[G0 z l,G0 z C,j,heq]⟩ Ag
 ·have E:a=b:=by rw[GD Aa,GD Aa]at j;exact j
  exact A2 A U U U λ w M y=>⟨by rw[decide_eq_true E];rfl,y.st.low⟩
theorem tN(a b:List Sp)(q s:Value)(w:World)(M:Mem)(G:Sat w M)(F:(kn q 3 a Sp.cells).ok M)(H:(kn s 3 b Sp.cells).ok M):
    Calls prog 179 [q,s].toArray w λ e w'=>e= .returned (.bool (decide (a=b)))/\Ext w w':=by
 have J:len a<=9223372036854775807:=F.sl.le
 refine AH (Hr:=[]) AF func179 U ntmps179 [(0,kn q 3 a Sp.cells),(1,kn s 3 b Sp.cells)] [] [.sl 0 q,.sl 1 s] U (Aj G) (AD F (AD H A3)) (λ B A=>?_) U
 refine A1 U (λ i=>?_) (λ i=>?_)<;>simp only[zb]at i
 ·exact A2 A U U U λ w M y=>⟨by rw[decide_eq_false (λ e=>i (by rw[e]))];rfl,y.st.low⟩
 refine B7 (λ k:Int=>⟨[(0,kn q 3 a Sp.cells),(1,kn s 3 b Sp.cells)],[],[Z 0 (.sl 0 q),Z 1 (.sl 1 s),Z 12 (I (len a)),Z 13 (I k)]⟩) (λ k=>0<=k/\k<=len a/\Eng.sub a 0 k=Eng.sub b 0 k) (λ k=>(len a-k).toNat) 0 U U ⟨Aa,by have:=A8 a;omega,rfl⟩ ?_
 rintro k ⟨z,K,j⟩
 refine A1 U (λ l=>?_) (λ l=>?_)<;>simp only[zb]at l
 ·have C:k<len b:=by omega
  refine D7 [8] 2 (λ _ _ _ _ _ h=>h) U BK Ac <|AK 8 U U U <|AR (.v (.bool (!decide (at' a k=at' b k)))) U U (λ w M y=>PV.bin (A7 (v:=tM (at' a k)) U) (A7 (v:=tM (at' b k)) U) (λ _ w _=>Ao2 _ _ _ _ w)) <|AE U <|BL U U U <|A1 U (λ n=>?_) (λ n=>?_)
  ·have D: ¬at' a k=at' b k:=by simpa[zb]using n
   exact A2 A U U U λ w M y=>⟨by rw[decide_eq_false (λ e=>D (by rw[e]))];rfl,y.st.low⟩
  ·have heq:at' a k=at' b k:=by simpa[zb]using n
   exact AX (k+1) U U ⟨Aa,Aa,by rw[G0 z l,G0 z C,j,heq]⟩ Ag
 ·have E:a=b:=by rw[GD Aa,GD Aa]at j;exact j
  exact A2 A U U U λ w M y=>⟨by rw[decide_eq_true E];rfl,y.st.low⟩
theorem Ao4(a b:Fl)(h i:Value)(w:World)(M:Mem)(l:Sat w M)(n:(A6 h a).ok M)(q:(A6 i b).ok M):
  Calls prog 176 [h,i].toArray w λ e w'=>e= .returned (.bool (decide (a=b)))/\Ext w w':=AH (Hr:=[]) AF func176 U ntmps176 [(0,A6 h a),(1,A6 i b)] [] [.sl 0 h,.sl 1 i] U (Aj l) (AD n (AD q A3)) (λ B s=>AJ U call208 U U (λ _ w M j=>Ao3 a b h i w M j.st.sat (j.f.get (k:=0) U) (j.f.get (k:=1) U)) U <|A2 s U U U λ w M j=>⟨rfl,j.st.low⟩) U
theorem Ao5(p q:List Sp)(i j:Value)(w:World)(M:Mem)(s:Sat w M)(hp:(kn i 3 p Sp.cells).ok M)(y:(kn j 3 q Sp.cells).ok M):
   Calls prog 150 [i,j].toArray w λ e w'=>e= .returned (.bool (ID p q))/\Ext w w':=by
 have h1:=A8 p
 have z:=A8 q
 have l:Eng.sub p 0 (if len q<len p then len q else len p)=p.take q.length:=by
  unfold Eng.sub len
  rw[show((0:Int)).toNat=0 from rfl,List.drop_zero,Nat.sub_zero,show(if(q.length:Int)<p.length then(q.length:Int)else p.length).toNat=min q.length p.length by split<;>omega,<-List.take_eq_take_min]
 have e2:Eng.sub q 0 (if len q<len p then len q else len p)=q.take p.length:=by
  unfold Eng.sub len
  rw[show((0:Int)).toNat=0 from rfl,List.drop_zero,Nat.sub_zero,show(if(q.length:Int)<p.length then(q.length:Int)else p.length).toNat=min p.length q.length by split<;>omega,<-List.take_eq_take_min]
 refine AH (Hr:=[]) AF func150 U ntmps150 [(0,kn i 3 p Sp.cells),(1,kn j 3 q Sp.cells)] [] [.sl 0 i,.sl 1 j] U (Aj s) (AD hp (AD y A3)) (λ B n=>AR (I (if len q<len p then len q else len p)) U U (λ w M b=>PV.An8 (A7 (v:=I (len p)) (E:=[]) U) (A7 (v:=I (len q)) (E:=[]) U)) <|D7 [2,5,6,8] 5 (λ _ _ _ _ _ h=>h) U BK U <|FZ 2 5 U U U ?_ ?_) U
 ·exact ET (gd:=none) 2 0 (if len q<len p then len q else len p) U U U U ⟨.i64,_,rfl,AG U⟩ underlying61 sizeOf105 Aa U λ v2=>AE U <|AK 5 U U U <|ET (gd:=none) 5 0 (if len q<len p then len q else len p) U U U U ⟨.i64,_,rfl,AG U⟩ underlying61 sizeOf105 Aa U λ v5=>AE U <|AK 6 U U U <|AJ U call179 U U (λ _ w M b=>tN (p.take q.length) (q.take p.length) v2 v5 w M b.st.sat (by rw[<-l];exact b.f.get (k:=2) U) (by rw[<-e2];exact b.f.get (k:=5) U)) U <|AE U <|AK 8 U U U <|AE U <|BL U U U <|A2 n U U U λ w M b=>⟨by rw[show ID p q= !decide (p.take q.length=q.take p.length) by unfold ID;simp];rfl,b.st.low⟩
 ·exact ET (gd:=none) 5 0 (if len q<len p then len q else len p) U U U U ⟨.i64,_,rfl,AG U⟩ underlying61 sizeOf105 Aa U λ v5=>AE U <|AK 2 U U U <|ET (gd:=none) 2 0 (if len q<len p then len q else len p) U U U U ⟨.i64,_,rfl,AG U⟩ underlying61 sizeOf105 Aa U λ v2=>AE U <|AK 6 U U U <|AJ U call179 U U (λ _ w M b=>tN (p.take q.length) (q.take p.length) v2 v5 w M b.st.sat (by rw[<-l];exact b.f.get (k:=2) U) (by rw[<-e2];exact b.f.get (k:=5) U)) U <|AE U <|AK 8 U U U <|AE U <|BL U U U <|A2 n U U U λ w M b=>⟨by rw[show ID p q= !decide (p.take q.length=q.take p.length) by unfold ID;simp];rfl,b.st.low⟩
theorem tO{ns:List A0}{n:A0}(h:n ∉ ns):M9 ns n= -1:=if_neg h
theorem Ao6{ns:List A0}{n:A0}{k:Nat}(e:k<ns.length)(h0: ∀j<k,ns[j]?≠some n)(h1:ns[k]? =some n):M9 ns n=k:=by
 have hm:n∈ns:=List.mem_of_getElem? h1
 unfold M9 BP
 rw[if_pos hm]
 have b:ns.idxOf n<ns.length:=List.idxOf_lt_length_of_mem hm
 have l:ns[ns.idxOf n]? =some n:=by rw[List.getElem?_eq_getElem b,List.getElem_idxOf b]
 have s: ¬ns.idxOf n<k:=λ h=>h0 _ h l
 have w: ¬k<ns.idxOf n:=λ h=>by
  have q:=List.not_of_lt_findIdx (p:=(· ==n)) (xs:=ns) (i:=k) h
  rw[List.getElem?_eq_getElem e,Option.some.injEq]at h1
  simp[h1]at q
 show((ns.idxOf n:Nat):Int)=_
 omega
theorem tP(ns:List A0)(n:A0)(v:Value)(w:World)(M:Mem)(E:Sat w M)(hl:(kn v 1 ns DV).ok M):
    Calls prog 153 [v,str n].toArray w λ e w'=>e= .returned (i64 (M9 ns n))/\Ext w w':=by
 have z:len ns<=9223372036854775807:=hl.sl.le
 refine AH (Hr:=[]) AF func153 U ntmps153 [(0,kn v 1 ns DV)] [] [.sl 0 v,.v (str n)] U (Aj E) (AD hl A3) (λ B D=>B7 (λ k:Nat=>⟨[(0,kn v 1 ns DV)],[],[Z 0 (.sl 0 v),Z 1 (.v (str n)),Z 7 (I (len ns)),Z 8 (I k)]⟩) (λ k=>k<=ns.length/\ ∀j<k,ns[j]?≠some n) (λ k=>ns.length-k) 0 U U ⟨Aa,λ j h=>by omega⟩ ?_) U
 rintro k ⟨H,q⟩
 refine A1 U (λ b=>?_) (λ b=>?_)<;>simp only[zb]at b
 ·have s:k<ns.length:=by unfold len at b;omega
  obtain⟨J,F⟩:=CE ns (i:=(k:Int)) Aa (by unfold len;omega)
  have y:ns[k]? =some (at' ns (k:Int)):=by rw[List.getElem?_eq_getElem s,F];rfl
  refine A1 U (λ l=>?_) (λ l=>?_)<;>simp only[zb]at l
  ·refine A2 D U U U λ w M A=>⟨?_,A.st.low⟩
   rw[Ao6 s q (by rw[y,<-l])];rfl
  ·exact AX (k+1) U (hO:=by simp only[zb]<;>unfold len at z<;>omega) U ⟨Aa,λ j C=>by
    rcases Nat.lt_or_ge j k with h|h
    ·exact q j h
    ·rw[show j=k by omega,y];intro e;exact l (Option.some.inj e).symm⟩ (by show ns.length-(k+1)<ns.length-k;omega)
 ·refine A2 D U U U λ w M A=>⟨?_,A.st.low⟩
  rw[tO (λ hm=>?_)];rfl
  obtain⟨j,C⟩:=List.mem_iff_getElem?.1 hm
  have G:=(List.getElem?_eq_some_iff.1 C).1
  exact q j (by unfold len at b;omega) C
abbrev SX(x:Int):List Value:=[i64 x]
theorem Ao7(l:List Int)(n:Int)(v:Value)(w:World)(M:Mem)(D:Sat w M)(hl:(kn v 1 l SX).ok M):
    Calls prog 145 [v,i64 n].toArray w λ e w'=>(∃k:Int,e= .returned (i64 k)/\(0<=k↔n∈l))/\Ext w w':=by
 have s:len l<=9223372036854775807:=hl.sl.le
 refine AH (Hr:=[]) AF func145 U ntmps145 [(0,kn v 1 l SX)] [] [.sl 0 v,I n] U (Aj D) (AD hl A3) (λ B A=>B7 (λ k:Nat=>⟨[(0,kn v 1 l SX)],[],[Z 0 (.sl 0 v),Z 1 (I n),Z 7 (I (len l)),Z 8 (I k)]⟩) (λ k=>k<=l.length/\n ∉ l.take k) (λ k=>l.length-k) 0 U U ⟨Aa,by simp⟩ ?_) U
 rintro k ⟨E,q⟩
 refine A1 U (λ b=>?_) (λ b=>?_)<;>simp only[zb]at b
 ·have y:k<l.length:=by unfold len at b;omega
  obtain⟨F,C⟩:=CE l (i:=(k:Int)) Aa (by unfold len;omega)
  refine A1 U (λ j=>?_) (λ j=>?_)<;>simp only[zb]at j
  ·exact A2 A U U U λ w M z=>⟨⟨k,rfl,λ _=>by rw[j,C];exact List.getElem_mem _,λ _=>by omega⟩,z.st.low⟩
  ·exact AX (k+1) U (hO:=by simp only[zb]<;>unfold len at s<;>omega) U ⟨Aa,by
    rw[List.take_add_one,List.getElem?_eq_getElem y]
    intro hm
    rcases List.mem_append.1 hm with hm|hm
    ·exact q hm
    ·have:n=l[k]:=by simpa using hm
     exact j (by rw[C];simpa using this)⟩ (by show l.length-(k+1)<l.length-k;omega)
 ·refine A2 A U U U λ w M z=>⟨⟨-1,rfl,λ h=>by omega,λ h=>?_⟩,z.st.low⟩
  rw[List.take_of_length_le (by unfold len at b;omega)]at q
  exact absurd h q
theorem Ao8(l:List Int)(n:Int)(v:Value)(w:World)(M:Mem)(h:Sat w M)(hl:(kn v 1 l SX).ok M):
  Calls prog 90 [v,i64 n].toArray w λ e w'=>e= .returned (.bool (decide (n∈l)))/\Ext w w':=AH (Hr:=[]) AF func90 U ntmps90 [(0,kn v 1 l SX)] [] [.sl 0 v,I n] U (Aj h) (AD hl A3) (λ B i=>FM (γ:=Int) (λ k:Int=>I k) [] (Fg:=λ _=>[]) (pu:=λ k=>0<=k↔n∈l) U U call145 U (λ w M b=>(Ao7 l n v w M b.st.sat (b.f.get (k:=0) U)).mono λ e w' ⟨⟨k,j,e2⟩,e3⟩=>⟨k,M,j,e2,Grow.T9 b.st.sat e3,A3⟩) λ k q=>A2 i U U U λ w M b=>⟨by show Ending.returned (.bool (decide (0<=k)))=_;rw[decide_eq_decide.2 q],b.st.low⟩) U
end Go.Proofs.YtnoegalemkbbbaaGreatDoor
