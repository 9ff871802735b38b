/- Lemmas for the card. -/
import Derived.Test.YtmjpjbmeamnfpaaGreatDoorZf21
set_option linter.unusedVariables false
set_option linter.unusedSimpArgs false
namespace Go.Eng
open Go.RowKit
def TS(l:List Tk)(j:Int)(u:List Tk):Prop:=0<=j/\(A3 l j).map (strip false)=u
theorem TS.add {l:List Tk}{j:Int}{u r:List Tk}(h:TS l j (u++r)):TS l (j+len u) r:=by
 obtain⟨h0,h2⟩:=h
 have h3:=A4 u
 refine⟨by omega,?_⟩
 rw[<-IF l j (len u) h0 h3]
 unfold A3 len at*
 rw[List.map_drop,h2];simp
theorem TS.one {l:List Tk}{j:Int}{t:Tk}{r:List Tk}(h:TS l j (t::r)):TS l (j+1) r:=TS.add (u:=[t]) h
theorem TS.at {l:List Tk}{j:Int}{t:Tk}{r:List Tk}(h:TS l j (t::r)):(at' l j).kind=t.kind/\(at' l j).s=t.s/\(at' l j).c=t.c/\j<len l:=by
 obtain⟨h0,h1⟩:=h
 have hd:A3 l j=l.drop j.toNat:=rfl
 cases hf:A3 l j with
 |nil=>rw[hf]at h1;cases h1
 |cons a q=>
  rw[hf,List.map_cons]at h1
  have ha:strip false a=t:=(List.cons.inj h1).1
  have h2:(l.drop j.toNat)[0]? =some a:=by rw[<-hd,hf];rfl
  rw[List.getElem?_drop,Nat.add_zero]at h2
  have e:at' l j=a:=by unfold at';rw[List.getD_eq_getElem?_getD,h2];rfl
  have hl:=(List.getElem?_eq_some_iff.1 h2).1
  rw[e,<-ha]
  exact⟨rfl,rfl,rfl,by unfold len;omega⟩
theorem TS.AG {l:List Tk}{j:Int}{t:Tk}{r:List Tk}(h:TS l j (t::r))(m:A1):AG l j m=(t.kind==1&&t.s==m):=by unfold Eng.AG;rw[h.at.1,h.at.2.1]
theorem TS.FX {l:List Tk}{j:Int}{m:A1}{r:List Tk}(h:TS l j (AF m::r)):B6 l j m= .ok () (j+1):=by
 unfold B6;rw[h.AG,if_pos (by show((1:Int)==1&&m==m)=true;simp)]
theorem TS.open {l:List Tk}{d j:Int}{m:A1}{r:List Tk}(h:TS l j (AF m::r))(hd:d<64):EA l d j m= .ok () (j+1):=by
 unfold EA;rw[h.AG,if_neg (by simp;omega)];exact h.FX
def dZ(t:Tk):Prop:=t.kind≠3/\(t.kind==1&&t.s==[91])=false
theorem Ad2{l:List Tk}{j n:Int}{r:List Tk}(h:TS l j (dX n::r))(h0:0<=n)(h1:n<=1000000):EZ l j= .ok n (j+1):=by
 obtain⟨_,g1,g2,g3,g4⟩:=qG h0 h1
 obtain⟨a1,a2,a3,_⟩:=h.at
 have a3:(at' l j).c=JO n:=a3
 have a1:(at' l j).kind=5:=a1
 have hw:IG (at' l j)=n:=by unfold IG;rw[a3,g4]
 unfold EZ
 rw[a3,a1,g1,hw,if_neg (by rintro(h|h|h|h);exact h rfl;cases h;omega;omega),if_neg (by omega)]
theorem YA{l:List Tk}{t:Tk}{r:List Tk}{dot:Bool}(ht:dZ t): ∀(p:List Sp) (xs:List Sp) (j:Int) (f:Nat),(∀x∈p,x.JJ)->TS l j ((p.map JP).flatten++t::r)->len xs+len p<=20->
  (dot=false\/xs≠[]\/ ∀y q,p=y::q->y.part=true)->p.length+1<=f->EV dot f l xs j= .ok (xs++p) (j+len (p.map JP).flatten)
 |[],xs,j,f+1,_,h,_,_,_=>by
  rw[EV,h.AG,h.at.1,if_neg (by rintro(h1|h1);rw[ht.2]at h1;cases h1;exact ht.1 h1.1)]
  simp[len]
 |x::p,xs,j,f+1,hp,h,hl,hd,hf=>by
  rw[List.map_cons,List.flatten_cons,List.append_assoc]at h
  have hx:=hp x List.mem_cons_self
  have hlp:=A4 p
  rw[A6]at hl
  have hl2:len (xs++[x])+len p<=20:=by rw[A5];show len xs+1+len p<=20;omega
  have hd2:dot=false\/xs++[x]≠[]\/ ∀y q,p=y::q->y.part=true:=.inr (.inl (by simp))
  have hf2:p.length+1<=f:=by simpa using hf
  unfold JP at h
  by_cases hpt:x.part=true
  ·rw[if_pos hpt]at h
   obtain⟨g1,g2,g3⟩:=hx.1 hpt
   have hxe:(⟨true,[],x.n⟩:Sp)=x:=by cases x;simp only at g1 hpt;subst g1;subst hpt;rfl
   have ih:=YA ht p (xs++[x]) (j+3) f (λ y hy=>hp y (List.mem_cons_of_mem _ hy)) (by have:=TS.add h;exact this) hl2 hd2 hf2
   rw[EV,TS.AG h,if_pos (.inl (by rfl)),if_neg (by omega),(TS.at h).1,if_pos (by rfl),Ad2 (TS.one h) g2 g3]
   show(B6 l (j+1+1) [93]).bind _=_
   rw[(TS.one (TS.one h)).FX]
   show EV dot f l (xs++[⟨true,[],x.n⟩]) (j+1+1+1)=_
   rw[hxe,show j+1+1+1=j+3 by omega,ih,List.map_cons,List.flatten_cons,A5]
   unfold JP
   rw[if_pos hpt,List.append_assoc,show len [AF [91],dX x.n,AF [93]]=3 from rfl]
   show PR.ok (xs++(x::p)) _=_
   congr 1;omega
  ·rw[if_neg hpt]at h
   have hpf:x.part=false:=by simpa using hpt
   obtain⟨g1,g2⟩:=hx.2 hpf
   have hxe:(⟨false,x.name,0⟩:Sp)=x:=by cases x;simp only at g1 hpf;subst g1;subst hpf;rfl
   have ih:=YA ht p (xs++[x]) (j+1) f (λ y hy=>hp y (List.mem_cons_of_mem _ hy)) (by have:=TS.add h;exact this) hl2 hd2 hf2
   have hdd:dot=false\/xs≠[]:=by
    rcases hd with hd|hd|hd
    ·exact .inl hd
    ·exact .inr hd
    ·exact absurd (hd x p U) hpt
   rw[EV,TS.AG h,(TS.at h).1,(TS.at h).2.1,if_pos (.inr ⟨rfl,hdd⟩),if_neg (by omega),if_neg (by show ¬(3:Int)=1;decide)]
   show EV dot f l (xs++[⟨false,x.name,0⟩]) (j+1)=_
   rw[hxe,ih,List.map_cons,List.flatten_cons,A5]
   unfold JP
   rw[if_neg hpt,List.append_assoc,show len [Y8 x.name]=1 from rfl]
   show PR.ok (xs++(x::p)) _=_
   congr 1;omega
theorem Ad3(p:List Sp):p.length<=((p.map JP).flatten).length:=by
 induction p with
 |nil=>exact Nat.le_refl _
 |cons x p ih=>
  rw[List.map_cons,List.flatten_cons,List.length_append,List.length_cons]
  have:1<=(JP x).length:=by unfold JP;split<;>simp
  omega
theorem TS.le {l:List Tk}{j:Int}{u r:List Tk}(h:TS l j (u++r)):0<=j/\j+len u+len r<=len l\/u++r=[]:=by
 obtain⟨h0,h1⟩:=h
 by_cases e:u++r=[]
 ·exact .inr e
 left
 have h2:=congrArg List.length h1
 unfold A3 at h2
 rw[List.length_map,List.length_drop,List.length_append]at h2
 have h3:(u++r).length≠0:=λ h=>e (List.eq_nil_of_length_eq_zero h)
 rw[List.length_append]at h3
 unfold len;omega
theorem Ad4{l:List Tk}{j:Int}{p:List Sp}{t:Tk}{r:List Tk}(hp: ∀x∈p,x.JJ)(hl:p.length<=20)(ht:dZ t)(h:TS l j (JQ p++t::r)):OF AE l j= .ok (FG p) (j+len (JQ p)):=by
 have hle:len p<=20:=by unfold len;omega
 have hll:=TS.le h
 rcases hll with⟨hj,hll⟩|e
 case inr=>simp at e
 have hpk:=Ad3 p
 rw[A6]at hll
 have hrn:=A4 r
 unfold JQ at h hll ⊢
 by_cases hc:p=[]\/(at' p 0).part=true
 ·rw[if_pos hc]at h hll ⊢
  rw[A5]at hll
  have h:=h
  rw[List.append_assoc]at h
  unfold OF
  rw[TS.AG h,if_pos (by rfl),YA (dot:=true) ht p [] (j+1) l.length hp (TS.one h) (by rw[len_nil];omega) (.inr (.inr λ y q e=>?_)) (by unfold len at*;simp only[List.length_cons,List.length_nil]at hll;omega)]
  ·show PR.ok (FP AE ([]++p)) _=_
   rw[List.nil_append,oL hp,A5,show len [AF [46]]=1 from rfl]
   congr 1;omega
  ·rcases hc with hc|hc
   ·rw[hc]at e;cases e
   ·rw[e]at hc;exact hc
 ·rw[if_neg hc]at h hll ⊢
  rw[List.nil_append]at h hll ⊢
  cases p with
  |nil=>exact absurd (.inl U) hc
  |cons x p=>
   have hpt: ¬x.part=true:=λ e=>hc (.inr e)
   have h2:=h
   rw[List.map_cons,List.flatten_cons,List.append_assoc]at h2
   have hk:JP x=[Y8 x.name]:=by unfold JP;rw[if_neg hpt]
   rw[hk]at h2
   unfold OF
   rw[TS.AG h2,if_neg (by show ¬((3:Int)==1&&_)=true;simp),(TS.at h2).1,if_neg (by show ¬(3:Int)≠3;simp),YA (dot:=false) ht (x::p) [] j l.length hp h (by rw[len_nil];omega) (.inl U) (by unfold len at*;omega)]
   show PR.ok (FP AE ([]++(x::p))) _=_
   rw[List.nil_append,oL hp]
theorem Ad5{l:List Tk}{j:Int}{c:Nd}{r:List Tk}(hc:GV c=true)(h:TS l j (IX c::r)):GK l j= .ok c (j+1):=by
 obtain⟨a1,a2,a3,_⟩:=h.at
 unfold GK
 rw[a1,a2,a3]
 rcases dY hc with rfl|rfl|rfl|⟨h3,h4⟩|⟨s,rfl,hu⟩
 ·rfl
 ·rfl
 ·rfl
 ·unfold IX
  rw[h3];rfl
 ·rfl
theorem Tf.QD {x:Tf}(h:x.t.name=[]):x.named []=x:=Tf.jV h
def Ad6(t:Tk):Prop:=t.kind=2\/t.kind=3\/(t.kind=1/\t.s∈([[46],[40],[91],[123]]:List A1))
def NV(u:List Tk):Prop:= ∃t r,u=t::r/\Ad6 t
theorem NV.not {l:List Tk}{j:Int}{u r:List Tk}(h:NV u)(hs:TS l j (u++r)){m:A1}(hm:m ∉ ([[46],[40],[91],[123]]:List A1)):AG l j m=false:=by
 obtain⟨t,q,rfl,ht⟩:=h
 rw[TS.AG hs]
 rcases ht with ht|ht|⟨ht,h2⟩
 ·rw[ht];rfl
 ·rw[ht];rfl
 ·rw[Bool.and_eq_false_iff];right
  rw[beq_eq_false_iff_ne];intro e;rw[e]at h2;exact hm h2
theorem NV.pos {u:List Tk}(h:NV u):1<=u.length:=by obtain⟨t,r,rfl,_⟩:=h;simp
abbrev ln(x:List Tk):Nat:=x.length
theorem fu{f n:Nat}(h:n+1<=f): ∃g,f=g+1/\n<=g:=⟨f-1,by omega,by omega⟩
theorem qI{l:List Tk}{j:Int}{s:A1}{r:List Tk}(h:TS l j (NU s::r)):((at' l j).kind=2\/(at' l j).kind=4)/\(at' l j).s=s:=by
 obtain⟨a1,a2,_⟩:=h.at
 rw[a1,a2]
 unfold NU
 split
 ·exact⟨.inl U,rfl⟩
 ·exact⟨.inr U,rfl⟩
theorem qJ{l:List Tk}{j:Int}{e:Bool}{u:List Tk}(h:TS l j ((if e=true then []else [AF [44]])++u)):
  (if e=true then PR.ok () j else B6 l j [44])= .ok () (j+len (if e=true then([]:List Tk)else [AF [44]]))/\TS l (j+len (if e=true then([]:List Tk)else [AF [44]])) u:=by
 cases e
 ·exact⟨TS.FX (m:=[44]) (r:=u) h,TS.add h⟩
 ·exact⟨by simp[len],TS.add h⟩
theorem Ad7{e:Bool}{u:List Tk}{l:List Tk}{j:Int}{r:List Tk}(hu:NV u)(h:TS l j ((if e=true then []else [AF [44]])++(u++r))){m:A1}(hm:m ∉ ([[46],[40],[91],[123],[44]]:List A1)):AG l j m=false:=by
 simp only[List.mem_cons,List.not_mem_nil,or_false,not_or]at hm
 cases e
 ·rw[TS.AG (t:=AF [44]) (r:=u++r) h]
  show((1:Int)==1&&([44]:A1)==m)=false
  rw[Bool.and_eq_false_iff];right
  rw[beq_eq_false_iff_ne];intro e;exact hm.2.2.2.2 e.symm
 ·exact hu.not (r:=r) h (by simp only[List.mem_cons,List.not_mem_nil,or_false,not_or];exact⟨hm.1,hm.2.1,hm.2.2.1,hm.2.2.2.1⟩)
theorem SA{α:Type}(xs:List α)(x:α):(xs++[x]).isEmpty=false:=by cases xs<;>rfl
def e8:Tk:=⟨6,[],B2,0⟩
theorem Ad8{n:Nd}(h: -1000<=n.e/\n.e<=1000):0<=len (CP n)/\len (CP n)<=2*len n.s+1100:=by
 have h0:=A4 n.s
 have h1:=SM n.e
 have h2:=SM (1-n.e-len n.s)
 have h3:=P7 n.e
 have h4:=HB (BB (1-n.e-len n.s)++n.s) 0 (len (BB (1-n.e-len n.s)++n.s)+n.e)
 have h5:=LU (BB (1-n.e-len n.s)++n.s) (len (BB (1-n.e-len n.s)++n.s)+n.e)
 have h6:=A5 (BB (1-n.e-len n.s)) n.s
 have hs:len (if n.neg=true then([45]:A1)else [])<=1/\0<=len (if n.neg=true then([45]:A1)else []):=by split<;>decide
 unfold CP
 dsimp only
 split
 ·rw[A6,len_nil];omega
 ·split
  ·rename_i hc
   simp only[Bool.and_eq_true,decide_eq_true_eq]at hc
   rw[A5,A5];omega
  ·split
   ·rename_i hc
    simp only[Bool.and_eq_true,decide_eq_true_eq]at hc
    rw[A5,A5,A5,A6,len_nil];omega
   ·rw[A5,A5,A5,A6,len_nil];omega
theorem Ad9{n:Nd}(h:G5 n=true): -1000<=n.e/\n.e<=1000:=by
 unfold G5 at h
 split at h
 ·cases h
 ·rename_i hc
  simp only[Bool.or_eq_true,decide_eq_true_eq,not_or,Int.not_lt]at hc
  omega
theorem qK{c:Nd}(h:GV c=true): -1000<=c.e/\c.e<=1000:=by
 rcases dY h with rfl|rfl|rfl|⟨h3,h4⟩|⟨s,rfl,hu⟩
 ·decide
 ·decide
 ·decide
 ·exact Ad9 h4
 ·exact⟨by show(-1000:Int)<=0;decide,by show(0:Int)<=1000;decide⟩
theorem qL{c:Nd}(h:GV c=true)(hl:len c.s<=100):len (I7 c)<=1300:=by
 have he:=qK h
 have hp:=Ad8 he
 have hq:=kK c.s
 unfold I7
 split
 ·decide
 split
 ·decide
 split
 ·decide
 split
 ·omega
 ·omega
def KJ(v:Fl):Prop:= ∀t∈v,len t.s<=100/\len t.name<=100/\len t.c.s<=100
theorem KJ.root {x:Tf}(h:KJ x.flat):len x.t.s<=100/\len x.t.name<=100/\len x.t.c.s<=100:=by
 have:=h x.node (by rw[Tf.NS];exact List.mem_cons_self)
 exact this
theorem Ae0{t:Tm}: ∀ {l:List Tf},t∈AM l↔ ∃y∈l,t∈y.flat:=by
 intro l
 induction l with
 |nil=>simp[AM]
 |cons y l ih=>rw[AM,List.mem_append,ih];simp
theorem KJ.QE {x y:Tf}(h:KJ x.flat)(hy:y∈x.ps):KJ y.flat:=λ t ht=>h t (by rw[Tf.NS];exact List.mem_cons_of_mem _ (Ae0.2 ⟨y,hy,ht⟩))
theorem KJ.named {x:Tf}(h:KJ x.flat):KJ (x.named []).flat:=by
 have hr:=h.root
 intro t ht
 rw[Tf.NS]at ht
 rcases List.mem_cons.1 ht with rfl|ht
 ·obtain⟨t,ps⟩:=x
  exact⟨hr.1,by show len ([]:A1)<=100;decide,hr.2.2⟩
 ·rw[Tf.AT4]at ht
  exact h t (by rw[Tf.NS];exact List.mem_cons_of_mem _ ht)
set_option maxRecDepth 100000
def I8(n:Int):Nat->A1
 |0=>[]
 |k+1=>if S9 n k=true then(if I8 n k=[]then []else I8 n k++[124])++at' C0 (k:Int)else I8 n k
def IY:Bool->List Tm->A1
 |_,[]=>[]
 |b,q::qs=>(if b then [40]else [44,32])++at' CJ q.n++[32]++I7 q.c++IY false qs
def MY(n:Int)(qs:List Tm):A1:=I8 n 5++IY true qs++(if qs=[]then []else [41])
theorem qM: ∀(qs:List Tm) (b:Bool) (q:Tm),IY b (qs++[q])=IY b qs++((if b&&qs.isEmpty then [40]else [44,32])++at' CJ q.n++[32]++I7 q.c)
 |[],b,q=>by simp[IY]
 |x::qs,b,q=>by
  rw[List.cons_append,IY,qM qs false q,IY];simp
theorem e9(n:Int): ∀k:Nat,k<=5->len (I8 n k)<=6*k
 |0,_=>by rw[I8];show(0:Int)<=_;omega
 |k+1,h=>by
  have ih:=e9 n k (by omega)
  have hw:len (at' C0 (k:Int))<=5:=by
   have:k=0\/k=1\/k=2\/k=3\/k=4:=by omega
   rcases this with rfl|rfl|rfl|rfl|rfl<;>decide
  have h0:=A4 (I8 n k)
  rw[I8]
  split
  ·rw[A5]
   split
   ·rw[len_nil];omega
   ·rw[A5];show len (I8 n k)+1+_<=_;omega
  ·omega
end Go.Eng
namespace Go.Proofs.YtmjpjbmeamnfpaaGreatDoor
open Go.Proofs.Tryz
open Go.Eng
def MO(qs:List Tm):Prop:= ∀u∈qs,0<=u.n/\u.n<=5/\GV u.c=true/\len u.c.s<=100
theorem eA: ∀ {qs:List Tm} {b:Bool},MO qs->len (IY b qs)<=1310*len qs
 |[],b,_=>by show(0:Int)<=_;rw[len_nil];omega
 |q::qs,b,h=>by
  have ih:=eA (qs:=qs) (b:=false) λ u hu=>h u (.tail _ hu)
  obtain⟨h0,h1,h2,h3⟩:=h q (.head _)
  have hs:=qL h2 h3
  have hw:len (at' CJ q.n)<=2:=by
   have:q.n=0\/q.n=1\/q.n=2\/q.n=3\/q.n=4\/q.n=5:=by omega
   rcases this with e|e|e|e|e|e<;>rw[e]<;>decide
  rw[IY,A6]
  simp only[A5]
  have hb:len (if b then([40]:A1)else [44,32])<=2:=by cases b<;>decide
  have h1:len ([32]:A1)=1:=rfl
  omega
theorem Ae1(q:Tm)(qs:Fl)(v:Value)(w:World)(M:Mem)(hM:Sat w M)(hv:Sl M 11 (q::qs).length v ((q::qs).flatMap Tm.cells))(hb:len qs<=1048576)(hq:q.many=len qs)(ho:q.op=1)(hn:0<=q.n/\q.n<=31)(hA:MO qs):
    Calls prog 43 [v].toArray w λ e w'=>e= .returned (str (MY q.n qs))/\Ext w w':=by
 have hl0:=A4 qs
 have hlc:len (q::qs)=len qs+1:=A6 q qs
 have h0q:at' (q::qs) 0=q:=rfl
 have hkl:len C0=5:=rfl
 refine AU (Hr:=[]) AP func43 U ntmps43 [(0,B7 v (q::qs))] [] [.sl 0 v] U (Ak hM) (fc 0 hv Tm.B4 AA) (λ B hB=>?_) U
 refine DS 3 C0 AZ 1 9 DZ U (A0 U) U U (A0 U) (λ w=>by kernel_rfl) U λ v3=>?_
 refine CD (σ:=Nat×A1) (λ(k,s)=>⟨[(0,B7 v (q::qs)),(3,kn v3 1 C0 AZ)],[],[Z 0 (.sl 0 v),Z 3 (.sl 3 v3),Z 4 (.v (str s)),Z 5 (I k)]⟩) (λ(k,s)=>k<=5/\s=I8 q.n k) (λ(k,s)=>5-k) (0,[]) U (A0 U) U U ⟨by omega,rfl⟩ ?_
 rintro⟨k,s⟩ ⟨hk,hs⟩
 have hsl:=e9 q.n k hk
 rw[<-hs]at hsl
 have hs0:=A4 s
 refine A7 U (A0 U) U (λ hb1=>?_) (λ hb1=>?_)<;>simp only[zb]at hb1
 ·refine AY U (A0 U) (by omega) call66 U U (A0 U) (λ _ w M hX=>Ac0 q.n k w hn.1 (by omega) (by omega)) U ?_
  refine A7 U (A0 U) U (λ hb2=>?_) (λ hb2=>?_)
  ·have hw:len (at' C0 (k:Int))<=5:=by
    have:k=0\/k=1\/k=2\/k=3\/k=4:=by omega
    rcases this with rfl|rfl|rfl|rfl|rfl<;>decide
   have hw0:=A4 (at' C0 (k:Int))
   refine ES 0 (λ st=> ∃s2,s2=(if s=[]then []else s++[124])/\st=⟨[(0,B7 v (q::qs)),(3,kn v3 1 C0 AZ)],[],[Z 0 (.sl 0 v),Z 3 (.sl 3 v3),Z 4 (.v (str s2)),Z 5 (I k)]⟩) U (A0 U) U U (λ hb3=>?_) (λ hb3=>?_) ?_
   ·simp only[zb]at hb3
    exact B5 _ U (A0 U) (by simp only[A5,A6,len_nil];and_intros<;>first|omega|trivial) U ⟨_,by rw[if_neg hb3],rfl⟩
   ·simp only[zb]at hb3
    exact B5 _ U (A0 U) U U ⟨_,by rw[if_pos hb3,hb3],rfl⟩
   rintro _ ⟨s2,hs2,rfl⟩
   have hl2:len s2<=len s+1:=by rw[hs2];split;rw[len_nil];omega;rw[A5];show len s+1<=_;omega
   have hl20:=A4 s2
   exact C7 (k+1,s2++at' C0 (k:Int)) U (A0 U) (by omega) U ⟨by omega,by rw[I8,if_pos hb2,<-hs,hs2]⟩ (by show 5-(k+1)<5-k;omega)
  ·exact C7 (k+1,s) U (A0 U) (by omega) U ⟨by omega,by rw[I8,if_neg (by rw[hb2];decide),<-hs]⟩ (by show 5-(k+1)<5-k;omega)
 have hk5:k=5:=by omega
 subst hk5
 refine IL (λ u:Value=>.sl 6 u) [6] U (A0 U) U U call67 U U (A0 U) (λ w M hX=>Ac2 q qs v w M hX.st.sat (hX.sl 0 U) hb hq ho) (λ _=>rfl) λ u _=>?_
 have hul:len qs<=1048576:=hb
 refine CD (σ:=Int×A1) (λ(k,s')=>⟨[(0,B7 v (q::qs)),(6,kn u 7 qs LO)],[],[Z 0 (.sl 0 v),Z 4 (.v (str s')),Z 6 (.sl 6 u),Z 7 (I k)]⟩) (λ(k,s')=>0<=k/\k<=len qs/\s'=s++IY true (Eng.sub qs 0 k)) (λ(k,s')=>(len qs-k).toNat) (0,s) U (A0 U) U U ⟨by omega,by omega,by show s=s++[];rw[List.append_nil]⟩ ?_
 rintro⟨k,s'⟩ ⟨h0,h1,hs'⟩
 have hsub:MO (Eng.sub qs 0 k):=λ x hx=>hA x (by
  unfold Eng.sub at hx;exact List.mem_of_mem_drop (List.mem_of_mem_take hx))
 have hal:=eA (b:=true) hsub
 have hsubl:len (Eng.sub qs 0 k)<=len qs:=by unfold Eng.sub len;rw[List.length_take,List.length_drop];omega
 have hs'l:len s'<=30+1310*len qs:=by rw[hs',A5];omega
 have hs'0:=A4 s'
 refine A7 U (A0 U) U (λ hb1=>?_) (λ hb1=>?_)<;>simp only[zb]at hb1
 ·obtain⟨g0,g1,g2,g3⟩:=hA _ (at_mem h0 hb1)
  have hsr:=qL g2 g3
  have hse:=qK g2
  have hsr0:=A4 (I7 (at' qs k).c)
  have hw:len (at' CJ (at' qs k).n)<=2:=by
   have:(at' qs k).n=0\/(at' qs k).n=1\/(at' qs k).n=2\/(at' qs k).n=3\/(at' qs k).n=4\/(at' qs k).n=5:=by omega
   rcases this with e|e|e|e|e|e<;>rw[e]<;>decide
  have hw0:=A4 (at' CJ (at' qs k).n)
  refine ES 0 (λ st=> ∃s2:A1,s2=(if k=0 then [40]else [44,32])/\st=⟨[(0,B7 v (q::qs)),(6,kn u 7 qs LO)],[],[Z 0 (.sl 0 v),Z 4 (.v (str s')),Z 6 (.sl 6 u),Z 7 (I k),Z 8 (.v (str s2))]⟩) U (A0 U) U U (λ hb3=>?_) (λ hb3=>?_) ?_
  ·simp only[zb]at hb3
   exact B5 _ U (A0 U) U U ⟨_,by rw[if_pos hb3],rfl⟩
  ·simp only[zb]at hb3
   exact B5 _ U (A0 U) U U ⟨_,by rw[if_neg hb3],rfl⟩
  rintro _ ⟨s2,hs2,rfl⟩
  have hl2:len s2<=2:=by rw[hs2];split<;>decide
  have hl20:=A4 s2
  have hsg:len CJ=6:=rfl
  refine DS 9 CJ AZ 1 9 DZ U (A0 U) U U (A0 U) (λ w=>by kernel_rfl) U λ v9=>?_
  refine AY U (A0 U) (by simp only[A5,A6,len_nil];and_intros<;>first|omega|trivial) call32 U U (A0 U) (λ _ w M hX=>Ac3 (at' qs k).c w (by omega) (by omega)) U ?_
  refine C7 (k+1,s'++s2++at' CJ (at' qs k).n++[32]++I7 (at' qs k).c) U (A0 U) (by simp only[A5,A6,len_nil];and_intros<;>first|omega|trivial) U ⟨by omega,by omega,?_⟩ (by show Int.toNat _<Int.toNat _;omega)
  have he:(true&&(Eng.sub qs 0 k).isEmpty)=decide (k=0):=by
   rw[Bool.true_and,Bool.eq_iff_iff,List.isEmpty_iff,decide_eq_true_eq]
   constructor
   · intro e
     have h2:len (Eng.sub qs 0 k)=k:=by unfold Eng.sub;unfold len at*;rw[List.length_take,List.length_drop];simp only[Int.toNat_zero];omega
     rw[e]at h2;exact h2.symm
   · rintro rfl;rfl
  rw[NJ h0 hb1,qM,he,hs',hs2]
  simp only[decide_eq_true_eq,List.append_assoc]
 ·rw[L7 (by omega)]at hs'
  have hend:MY q.n qs=s'++(if qs=[]then []else [41]):=by unfold MY;rw[hs',hs]
  refine A7 U (A0 U) U (λ hb4=>?_) (λ hb4=>?_)<;>simp only[zb]at hb4
  ·have hne:qs≠[]:=λ e=>by rw[e]at hb4;exact absurd hb4 (by decide)
   refine A9 hB U U (A0 U) (by simp only[A5,A6,len_nil];and_intros<;>first|omega|trivial) U (A0 U) λ w M hX=>⟨?_,hX.st.low⟩
   rw[hend,if_neg hne];rfl
  ·have hne:qs=[]:=by
    cases qs with
    |nil=>rfl
    |cons a l=>rw[A6]at hb4;have:=A4 l;omega
   refine A9 hB U U (A0 U) U U (A0 U) λ w M hX=>⟨?_,hX.st.low⟩
   rw[hend,if_pos hne,List.append_nil];rfl
end Go.Proofs.YtmjpjbmeamnfpaaGreatDoor
set_option maxRecDepth 100000
namespace Go.Eng
mutual
def E7:Tf->A1
 | .mk t ps=>
  if t.op=0 then I0
  else if t.op=1 then MY t.n (ps.map Tf.node)
  else if t.op=3 then [123,63,58,32]++CN false true ps++[125]
  else if t.op=4 then [116,117,112,40]++CN false true ps++[41]
  else if t.op=5 then [91]++CN false true ps++[93]
  else if t.op=6 then [101,110,116,114,105,101,115,40]++CN false true ps++[41]
  else if t.op=7 then [115,111,114,116,101,100,40]++t.s++[44,32]++CN false true ps++[41]
  else if t.op=8 then [103,114,111,117,112,101,100,40]++t.s++[44,32]++CN false true ps++[41]
  else [123]++CN (t.op==2) true ps++(if t.n=1 then(if ps=[]then [63]else [44,32,63])else [])++[125]
def CN(nm:Bool):Bool->List Tf->A1
 |_,[]=>[]
 |b,x::l=>(if b then []else [44,32])++(if nm then CG x.t.name++[58,32]else [])++E7 x++CN nm false l
end
theorem qN(nm:Bool): ∀(l:List Tf) (b:Bool) (x:Tf),CN nm b (l++[x])=CN nm b l++((if b&&l.isEmpty then []else [44,32])++(if nm then CG x.t.name++[58,32]else [])++E7 x)
 |[],b,x=>by simp[CN]
 |y::l,b,x=>by
  rw[List.cons_append,CN,qN nm l false x,CN];simp
theorem qO(x:Tf)(n:A1):E7 (x.named n)=E7 x:=by
 obtain⟨t,ps⟩:=x
 show E7 (.mk { t with name:=n} ps)=_
 rw[E7,E7]
theorem NW: ∀ {l:List Tf},FZ l=true-> ∀x∈l,DX x=true
 |[],_,x,h=>by cases h
 |y::l,h,x,hx=>by
  rw[FZ,Bool.and_eq_true]at h
  rcases List.mem_cons.1 hx with rfl|hx
  ·exact h.1
  ·exact NW h.2 x hx
theorem SB: ∀ {l:List Tf} {o:Int} {L:Option A1},C8 o L l=true-> ∀x∈l,(x.t.op==9)=(o==1)
 |[],o,L,_,x,h=>by cases h
 |y::l,o,L,h,x,hx=>by
  rcases List.mem_cons.1 hx with rfl|hx
  ·rcases Decidable.em ((x.t.op==9)=(o==1))with h2|h2
   ·exact h2
   ·rw[qD h2]at h;cases h
  ·rw[C8]at h
   simp only[Bool.and_eq_true]at h
   exact SB h.2 x hx
theorem KK{x:Tf}(h:DX x=true):D5 x.node=true/\C8 x.t.op none x.ps=true/\LN x.t x.ps=true/\FZ x.ps=true:=by
 rw[dU]at h
 simp only[Bool.and_eq_true]at h
 exact⟨h.1.1.1,h.1.1.2,h.1.2,h.2⟩
theorem eB{x:Tf}(h:DX x=true)(ho:x.t.op=9):x.ps=[]/\NT x.t.n x.t.c=true:=by
 have hp:=(KK h).1
 unfold D5 FY at hp
 have e:x.node.op=9:=ho
 rw[if_neg (by omega),if_neg (by omega),if_pos e]at hp
 simp only[Bool.and_eq_true,beq_iff_eq]at hp
 have hm:len x.ps=0:=hp.2.1
 refine⟨?_,hp.2.2⟩
 cases hx:x.ps with
 |nil=>rfl
 |cons a l=>rw[hx,A6]at hm;have:=A4 l;omega
theorem qP: ∀ {l:List Tf},(∀y∈l,y.ps=[])->AM l=l.map Tf.node
 |[],_=>rfl
 |y::l,h=>by
  show y.flat++AM l=_
  rw[qP λ z hz=>h z (.tail _ hz),Tf.NS,h y (.head _)];rfl
theorem qQ{x:Tf}(h:DX x=true)(ho:x.t.op=1)(hs: ∀y∈x.ps,len y.t.c.s<=100):x.flat=x.node::x.ps.map Tf.node/\(1<=x.t.n/\x.t.n<=31)/\Go.Proofs.YtmjpjbmeamnfpaaGreatDoor.MO (x.ps.map Tf.node):=by
 obtain⟨h1,h2,_,h4⟩:=KK h
 have hk: ∀y∈x.ps,y.ps=[]/\NT y.t.n y.t.c=true:=λ y hy=>by
  have:=SB h2 y hy
  rw[ho]at this
  exact eB (NW h4 y hy) (by simpa using this)
 refine⟨by rw[Tf.NS,qP λ y hy=>(hk y hy).1],?_,λ u hu=>?_⟩
 ·unfold D5 FY at h1
  have e:x.node.op=1:=ho
  rw[if_neg (by omega),if_pos e]at h1
  simp only[Bool.and_eq_true,decide_eq_true_eq]at h1
  exact⟨h1.2.1.2,h1.2.2⟩
 ·obtain⟨y,hy,rfl⟩:=List.mem_map.1 hu
  have ha:=(hk y hy).2
  unfold NT at ha
  simp only[Bool.and_eq_true,decide_eq_true_eq]at ha
  refine⟨ha.1.1,ha.1.2,?_,hs y hy⟩
  show GV y.t.c=true
  unfold GV
  simp only[Bool.and_eq_true,decide_eq_true_eq]
  exact⟨ha.2.1,ha.2.2⟩
def NX(x:Tf):Prop:=len (E7 x)<=2500*x.size-1100
theorem YB{nm:Bool}: ∀(l:List Tf) (b:Bool),(∀y∈l,NX y/\len y.t.name<=100)->len (CN nm b l)<=2500*B1 l
 |[],b,_=>by rw[CN];show(0:Int)<=_;omega
 |x::l,b,h=>by
  have ih:=YB (nm:=nm) l false λ y hy=>h y (.tail _ hy)
  obtain⟨h1,h2⟩:=h x (.head _)
  unfold NX at h1
  have hn:=kL x.t.name
  have hb:len (if b=true then([]:A1)else [44,32])<=2:=by cases b<;>decide
  have hm:len (if nm=true then CG x.t.name++[58,32]else [])<=604:=by
   cases nm
   ·show(0:Int)<=_;omega
   ·show len (CG x.t.name++[58,32])<=_;rw[A5];show _+2<=_;omega
  rw[CN,B1]
  simp only[A5]
  push_cast;omega
theorem qR: ∀(n:Nat) (x:Tf),x.size<=n->DX x=true->KJ x.flat->NX x:=by
 intro n
 induction n with
 |zero=>intro x h;have:=x.size_pos;omega
 |succ n ih=>
 intro x hn ha hs
 have hp:=KK ha
 have hk: ∀y∈x.ps,NX y/\len y.t.name<=100:=λ y hy=>by
  have hz:=Q5 hy
  rw[Tf.size_eq]at hn
  exact⟨ih y (by omega) (NW hp.2.2.2 y hy) (hs.QE hy),(hs.QE hy).root.2.1⟩
 have hj:=λ nm=>YB (nm:=nm) x.ps true hk
 have hr:=hs.root
 have hsc:x.t.op=1->len (MY x.t.n (x.ps.map Tf.node))<=40+1310*len x.ps:=λ ho=>by
  obtain⟨_,h2,h3⟩:=qQ ha ho λ y hy=>(hs.QE hy).root.2.2
  have h4:=Go.Proofs.YtmjpjbmeamnfpaaGreatDoor.eA (b:=true) h3
  have h5:=e9 x.t.n 5 (by omega)
  have h6:len (x.ps.map Tf.node)=len x.ps:=by unfold len;rw[List.length_map]
  have h7:len (if x.ps.map Tf.node=[]then([]:A1)else [41])<=1:=by split<;>decide
  unfold MY
  simp only[A5]
  push_cast at h5;omega
 have hls:=OW x.ps
 have hl0:=A4 x.ps
 unfold NX
 rw[Tf.size_eq]
 have hj0:=hj false
 have hj1:=hj (x.t.op==2)
 obtain⟨t,ps⟩:=x
 have hj0:len (CN false true ps)<=2500*B1 ps:=hj0
 have hj1:len (CN (t.op==2) true ps)<=2500*B1 ps:=hj1
 have hls:len ps<=B1 ps:=hls
 have hl0:0<=len ps:=hl0
 have hr1:len t.s<=100:=hr.1
 have ho:len (if t.n=1 then(if ps=[]then([63]:A1)else [44,32,63])else [])<=3:=by
  split
  ·split<;>decide
  ·decide
 show len (E7 (.mk t ps))<=2500*((1+B1 ps:Nat):Int)-1100
 push_cast
 rw[E7]
 split
 ·have:len I0=3:=rfl;omega
 split
 ·rename_i h1
  have:=hsc h1
  have this:len (MY t.n (ps.map Tf.node))<=40+1310*len ps:=this
  omega
 repeat' split
 all_goals simp only[A5,A6,len_nil]
 all_goals omega
end Go.Eng
namespace Go.Proofs.YtmjpjbmeamnfpaaGreatDoor
open Go.Proofs.Tryz
open Go.Eng
def eC(x:Tf):Prop:= ∀(v:Value) (w:World) (M:Mem),Sat w M->Sl M 11 x.flat.length v (x.flat.flatMap Tm.cells)->Calls prog 18 [v].toArray w λ e w'=>e= .returned (str (E7 x))/\Ext w w'
theorem Ae2{α:Type}[Inhabited α]{l:List α}{k:Nat}(h:k<l.length):l.take (k+1)=l.take k++[at' l (k:Int)]:=by
 obtain⟨h1,h2⟩:=EU l (i:=(k:Int)) (by omega) (by unfold len;omega)
 rw[h2,List.take_add_one];simp[h]
theorem Ae3{x:Tf}{k:Nat}(h:k<x.ps.length):at' (I1 x) (k:Int)=((at' x.ps (k:Int)).named []).flat:=by
 obtain⟨h1,h2⟩:=EU x.ps (i:=(k:Int)) (by omega) (by unfold len;omega)
 obtain⟨h3,h4⟩:=EU (I1 x) (i:=(k:Int)) (by omega) (by unfold len;simp[I1];omega)
 rw[h2,h4];simp[I1]
theorem Ae4{x:Tf}{k:Nat}(h:k<x.ps.length)(ho:x.t.op=2):at' (JN x) (k:Int)=(at' x.ps (k:Int)).t.name:=by
 unfold JN
 rw[if_pos ho]
 obtain⟨h1,h2⟩:=EU x.ps (i:=(k:Int)) (by omega) (by unfold len;omega)
 obtain⟨h3,h4⟩:=EU (IW x) (i:=(k:Int)) (by omega) (by unfold len;simp[IW];omega)
 rw[h2,h4];simp[IW]
theorem Ae5(x:Tf)(h1x:x.t.op≠1)(ht: ∀y∈x.ps,eC (y.named [])/\NX y/\len y.t.name<=100)(hb:len x.flat<=1048576)(v:Value)(w:World)(M:Mem)(hM:Sat w M)(hv:Sl M 11 x.flat.length v (x.flat.flatMap Tm.cells)):
    Calls prog 44 [v].toArray w λ e w'=>e= .returned (str (CN (x.t.op==2) true x.ps))/\Ext w w':=by
 have hpos:=Tf.FU x
 have hlp:len x.ps=(x.ps.length:Int):=rfl
 have hpl:=OW x.ps
 have hfl:len x.flat=1+B1 x.ps:=by unfold len;rw[Tf.DQ,Tf.size_eq];omega
 have hnl:x.t.op=2->len (JN x)=len x.ps:=λ h=>by unfold JN;rw[if_pos h];unfold len;simp[IW]
 have hnl2:x.t.op≠2->JN x=[]:=λ h=>by unfold JN;rw[if_neg h]
 refine AU (Hr:=[]) AP func44 U ntmps44 [(0,B7 v x.flat)] [] [.sl 0 v] U (Ak hM) (fc 0 hv Tm.B4 AA) (λ B hB=>?_) U
 refine IL (λ g:Value×List AX=>.sl 5 g.1) [5] U (A0 U) U U call68 U U (A0 U) (λ w M hX=>Ab6 x h1x v w M hX.st.sat (hX.sl 0 U) hb) (λ _=>rfl) λ g hgl=>?_
 obtain⟨pv,hs⟩:=g
 have hgl:len hs=len x.ps:=hgl
 refine IL (λ u:Value=>.sl 6 u) [6] U (A0 U) U U call69 U U (A0 U) (λ w M hX=>Ab8 x v w M hX.st.sat (hX.sl 0 U) hb) (λ _=>rfl) λ u _=>?_
 refine CD (σ:=Nat×A1) (λ(k,s)=>⟨[(0,B7 v x.flat),(5,GA pv hs (I1 x)),(6,kn u 1 (JN x) AZ)],[],[Z 0 (.sl 0 v),Z 3 (.sl 5 pv),Z 4 (.sl 6 u),Z 5 (.v (str s)),Z 6 (I k)]⟩) (λ(k,s)=>k<=x.ps.length/\s=CN (x.t.op==2) true (x.ps.take k)) (λ(k,s)=>x.ps.length-k) (0,[]) U (A0 U) U U ⟨by omega,by rw[List.take_zero,CN]⟩ ?_
 rintro⟨k,s⟩ ⟨hk,hs0⟩
 have hsl:len s<=2500*B1 x.ps:=by
  have h1:=YB (nm:=x.t.op==2) (x.ps.take k) true λ y hy=>(ht y (List.mem_of_mem_take hy)).2
  have h2:=AT6 x.ps k
  rw[hs0];omega
 have hs1:=A4 s
 refine A7 U (A0 U) U (λ h1=>?_) (λ h1=>?_)<;>simp only[zb]at h1
 ·have hkl:k<x.ps.length:=by omega
  obtain⟨y,hy⟩: ∃y,y=at' x.ps (k:Int):=⟨_,rfl⟩
  have hym:y∈x.ps:=by rw[hy];exact at_mem (by omega) (by omega)
  obtain⟨t1,t2,t3⟩:=ht y hym
  have hyz:=Q5 hym
  have hn7:=kL y.t.name
  unfold NX at t2
  have hi0:=A4 (E7 y)
  refine ES 0 (λ st=> ∃s2,s2=s++(if k=0 then []else [44,32])/\st=⟨[(0,B7 v x.flat),(5,GA pv hs (I1 x)),(6,kn u 1 (JN x) AZ)],[],[Z 0 (.sl 0 v),Z 3 (.sl 5 pv),Z 4 (.sl 6 u),Z 5 (.v (str s2)),Z 6 (I k)]⟩) U (A0 U) U U (λ h2=>?_) (λ h2=>?_) ?_
  ·simp only[zb]at h2
   exact B5 _ U (A0 U) (by simp only[A5,A6,len_nil];and_intros<;>first|omega|trivial) U ⟨_,by rw[if_neg (by omega)],rfl⟩
  ·simp only[zb]at h2
   exact B5 _ U (A0 U) U U ⟨_,by rw[if_pos (by omega),List.append_nil],rfl⟩
  rintro _ ⟨s2,hs2,rfl⟩
  have hl2:len s2<=len s+2:=by
   rw[hs2,A5];split
   · rw[len_nil];omega
   · show len s+2<=_;omega
  have hl20:=A4 s2
  refine ES 0 (λ st=> ∃s3,s3=s2++(if(x.t.op==2)=true then CG y.t.name++[58,32]else [])/\st=⟨[(0,B7 v x.flat),(5,GA pv hs (I1 x)),(6,kn u 1 (JN x) AZ)],[],[Z 0 (.sl 0 v),Z 3 (.sl 5 pv),Z 4 (.sl 6 u),Z 5 (.v (str s3)),Z 6 (I k)]⟩) U (A0 U) U U (λ h3=>?_) (λ h3=>?_) ?_
  ·simp only[zb]at h3
   have ho:x.t.op=2:=Classical.byContradiction λ e=>by rw[hnl2 e,len_nil]at h3;omega
   have hyn:=Ae4 hkl ho
   rw[<-hy]at hyn
   have hnl3:=hnl ho
   refine AY U (A0 U) (by omega) call56 U U (A0 U) (λ _ w M hX=>by have:=AQ7 (at' (JN x) (k:Int)) w (by rw[hyn];omega);exact this) U ?_
   refine B5 _ U (A0 U) (by rw[hyn];simp only[A5,A6,len_nil];and_intros<;>first|omega|trivial) U ⟨_,by rw[if_pos (by rw[beq_iff_eq];exact ho),hyn,<-List.append_assoc],rfl⟩
  ·simp only[zb]at h3
   have ho: ¬x.t.op=2:=λ e=>by rw[hnl e]at h3;omega
   exact B5 _ U (A0 U) U U ⟨_,by rw[if_neg (by rw[beq_iff_eq];exact ho),List.append_nil],rfl⟩
  rintro _ ⟨s3,hs3,rfl⟩
  have hl3:len s3<=len s2+700:=by
   rw[hs3,A5];split
   ·rw[A5,A6,A6,len_nil];omega
   ·rw[len_nil];omega
  have hl30:=A4 s3
  refine CX U (A0 U) (by omega) ?_
  refine IK 9 (B7 (at' hs (k:Int)).v ((y.named []).flat)) (λ w M hX=>by have:=WJ (hX.f.get (k:=5) U) (k:=(k:Int)) (by omega) (by omega);rw[Ae3 hkl,<-hy]at this;exact this) (W0 36 9 U ?_)
  refine AY U (A0 U) U call18 U U (A0 U) (λ _ w M hX=>t1 _ w M hX.st.sat (hX.sl 9 U)) U ?_
  refine C7 (k+1,s3++E7 (y.named [])) U (A0 U) (by rw[qO];omega) U ⟨by omega,?_⟩ (by show x.ps.length-(k+1)<x.ps.length-k;omega)
  rw[qO,Ae2 hkl,<-hy,qN,hs3,hs2,hs0]
  have he:(true&&(x.ps.take k).isEmpty)=decide (k=0):=by
   cases k with
   |zero=>simp
   |succ k=>simp;intro e;rw[e]at hkl;simp at hkl
  rw[he]
  simp only[List.append_assoc,decide_eq_true_eq]
 ·refine A9 hB U U (A0 U) U U (A0 U) λ w M hX=>⟨?_,hX.st.low⟩
  rw[hs0,List.take_of_length_le (by omega)];rfl
theorem Ae6(t:Tm)(n:A1):D5 { t with name:=n}=D5 t:=by
 obtain⟨o,m,nm,s,k,c⟩:=t
 unfold D5 FY BX
 dsimp only
 repeat' split
 all_goals simp only[Tm.mk.injEq,true_and]
theorem Ae7(x:Tf)(n:A1):DX (x.named n)=DX x:=by
 obtain⟨t,ps⟩:=x
 show DX (.mk { t with name:=n} ps)=_
 rw[DX,DX]
 have:=Ae6 { t with many:=len ps} n
 rw[show({ ({ t with name:=n}:Tm)with many:=len ps}:Tm)= { ({ t with many:=len ps}:Tm)with name:=n}from rfl,this]
 congr 2
theorem Ae8(x:Tf)(n:A1):(x.named n).t.op=x.t.op:=by cases x;rfl
theorem Ae9{x:Tf}(h:DX x=true)(h0:x.t.op≠0)(h1:x.t.op≠1)(h3:x.t.op≠3)(h4:x.t.op≠4)(h5:x.t.op≠5)(h6:x.t.op≠6)(h7:x.t.op≠7)(h8:x.t.op≠8)(h9:x.t.op≠9):x.t.op=2:=by
 have hp:=(KK h).1
 unfold D5 FY at hp
 have e:x.node.op=x.t.op:=rfl
 rw[e]at hp
 rcases Decidable.em (x.t.op=2)with h2|h2
 ·exact h2
 ·rw[if_neg h0,if_neg h1,if_neg h9,if_neg h2,if_neg h4,if_neg (by omega),if_neg (by omega),Bool.and_false]at hp
  cases hp
theorem Af0: ∀(n:Nat) (x:Tf),x.size<=n->DX x=true->x.t.op≠9->KJ x.flat->len x.flat<=100000->eC x:=by
 intro n
 induction n with
 |zero=>intro x h;have:=x.size_pos;omega
 |succ n ih=>
 intro x hn ha h9 hsh hb0 v w M hM hv
 have hb:len x.flat<=1048576:=by omega
 have hp:=KK ha
 have hroot:=hsh.root
 have hpos:=Tf.FU x
 have hop:(at' x.flat 0).op=x.t.op:=by rw[x.MU];rfl
 have hss:(at' x.flat 0).s=x.t.s:=by rw[x.MU];rfl
 have hnn:(at' x.flat 0).n=x.t.n:=by rw[x.MU];rfl
 have hmm:(at' x.flat 0).many=len x.ps:=by rw[x.MU];rfl
 have hfl:len x.flat=1+B1 x.ps:=by unfold len;rw[Tf.DQ,Tf.size_eq];omega
 have hT:E7 x=(if x.t.op=0 then I0
    else if x.t.op=1 then MY x.t.n (x.ps.map Tf.node)
    else if x.t.op=3 then [123,63,58,32]++CN false true x.ps++[125]
    else if x.t.op=4 then [116,117,112,40]++CN false true x.ps++[41]
    else if x.t.op=5 then [91]++CN false true x.ps++[93]
    else if x.t.op=6 then [101,110,116,114,105,101,115,40]++CN false true x.ps++[41]
    else if x.t.op=7 then [115,111,114,116,101,100,40]++x.t.s++[44,32]++CN false true x.ps++[41]
    else if x.t.op=8 then [103,114,111,117,112,101,100,40]++x.t.s++[44,32]++CN false true x.ps++[41]
    else [123]++CN (x.t.op==2) true x.ps++(if x.t.n=1 then(if x.ps=[]then [63]else [44,32,63])else [])++[125]):=by obtain⟨t,ps⟩:=x;rw[E7];rfl
 have hK:x.t.op≠1-> ∀y∈x.ps,eC (y.named [])/\NX y/\len y.t.name<=100:=λ h1 y hy=>by
  have hz:=Q5 hy
  rw[Tf.size_eq]at hn
  have hay:=NW hp.2.2.2 y hy
  have hyl:len (y.named []).flat=y.size:=by unfold len;rw[Tf.AT3,Tf.DQ]
  have hyo:y.t.op≠9:=λ e=>by
   have:=SB hp.2.1 y hy
   rw[e]at this
   have h2:(x.t.op==1)=false:=by rw[beq_eq_false_iff_ne];exact h1
   rw[h2]at this;cases this
  exact⟨ih (y.named []) (by rw[Tf.AT5];omega) (by rw[Ae7];exact hay) (by rw[Ae8];exact hyo) (hsh.QE hy).named (by omega),qR y.size y (Nat.le_refl _) hay (hsh.QE hy),(hsh.QE hy).root.2.1⟩
 have hjl:x.t.op≠1-> ∀nm,0<=len (CN nm true x.ps)/\len (CN nm true x.ps)<=2500*B1 x.ps:=λ h1 nm=>⟨A4 _,YB x.ps true λ y hy=>(hK h1 y hy).2⟩
 refine AU (Hr:=[]) AP func18 U ntmps18 [(0,B7 v x.flat)] [] [.sl 0 v] U (Ak hM) (fc 0 hv Tm.B4 AA) (λ B hB=>?_) U
 refine A7 U (A0 U) (by omega) (λ h0=>?_) (λ h0=>?_)<;>simp only[zb]at h0<;>rw[hop]at h0
 ·exact A9 hB U U (A0 U) U U (A0 U) λ w M hX=>⟨by rw[hT,if_pos h0];rfl,hX.st.low⟩
 rw[if_neg h0]at hT
 refine A7 U (A0 U) U (λ h1=>?_) (λ h1=>?_)<;>simp only[zb]at h1<;>rw[hop]at h1
 ·obtain⟨e1,e2,e3⟩:=qQ ha h1 λ y hy=>(hsh.QE hy).root.2.2
  have hlm:len (x.ps.map Tf.node)=len x.ps:=by unfold len;rw[List.length_map]
  have hls:=OW x.ps
  refine AY U (A0 U) U call43 U U (A0 U) (λ _ w M hX=>Ae1 x.node (x.ps.map Tf.node) v w M hX.st.sat (by have q:=hX.sl (k:=0) U;rw[e1]at q;exact q) (by omega) (by rw[hlm];rfl) h1 ⟨by show 0<=x.t.n;omega,by show x.t.n<=31;omega⟩ e3) U ?_
  exact A9 hB U U (A0 U) U U (A0 U) λ w M hX=>⟨by rw[hT,if_pos h1];rfl,hX.st.low⟩
 rw[if_neg h1]at hT
 have hjl2:=hjl h1
 have hj:=λ w M hM hv=>Ae5 x h1 (hK h1) hb v w M hM hv
 have hjf:=hjl2 false
 have hjt:=hjl2 (x.t.op==2)
 have hnm:x.t.op≠2->(x.t.op==2)=false:=λ h=>by rw[beq_eq_false_iff_ne];exact h
 refine A7 U (A0 U) U (λ h3=>?_) (λ h3=>?_)<;>simp only[zb]at h3<;>rw[hop]at h3
 ·rw[if_pos h3]at hT
  rw[hnm (by omega)]at hj
  refine AY U (A0 U) U call44 U U (A0 U) (λ _ w M hX=>hj w M hX.st.sat (hX.sl 0 U)) U ?_
  exact A9 hB U U (A0 U) (by simp only[A5,A6,len_nil];and_intros<;>first|omega|trivial) U (A0 U) λ w M hX=>⟨by rw[hT];rfl,hX.st.low⟩
 rw[if_neg h3]at hT
 refine A7 U (A0 U) U (λ h4=>?_) (λ h4=>?_)<;>simp only[zb]at h4<;>rw[hop]at h4
 ·rw[if_pos h4]at hT
  rw[hnm (by omega)]at hj
  refine AY U (A0 U) U call44 U U (A0 U) (λ _ w M hX=>hj w M hX.st.sat (hX.sl 0 U)) U ?_
  exact A9 hB U U (A0 U) (by simp only[A5,A6,len_nil];and_intros<;>first|omega|trivial) U (A0 U) λ w M hX=>⟨by rw[hT];rfl,hX.st.low⟩
 rw[if_neg h4]at hT
 refine A7 U (A0 U) U (λ h5=>?_) (λ h5=>?_)<;>simp only[zb]at h5<;>rw[hop]at h5
 ·rw[if_pos h5]at hT
  rw[hnm (by omega)]at hj
  refine AY U (A0 U) U call44 U U (A0 U) (λ _ w M hX=>hj w M hX.st.sat (hX.sl 0 U)) U ?_
  exact A9 hB U U (A0 U) (by simp only[A5,A6,len_nil];and_intros<;>first|omega|trivial) U (A0 U) λ w M hX=>⟨by rw[hT];rfl,hX.st.low⟩
 rw[if_neg h5]at hT
 refine A7 U (A0 U) U (λ h6=>?_) (λ h6=>?_)<;>simp only[zb]at h6<;>rw[hop]at h6
 ·rw[if_pos h6]at hT
  rw[hnm (by omega)]at hj
  refine AY U (A0 U) U call44 U U (A0 U) (λ _ w M hX=>hj w M hX.st.sat (hX.sl 0 U)) U ?_
  exact A9 hB U U (A0 U) (by simp only[A5,A6,len_nil];and_intros<;>first|omega|trivial) U (A0 U) λ w M hX=>⟨by rw[hT];rfl,hX.st.low⟩
 rw[if_neg h6]at hT
 have hs100:=hroot.1
 have hs0:=A4 x.t.s
 refine A7 U (A0 U) U (λ h7=>?_) (λ h7=>?_)<;>simp only[zb]at h7<;>rw[hop]at h7
 ·rw[if_pos h7]at hT
  rw[hnm (by omega)]at hj
  refine J8 U (A0 U) U EM (by decide+kernel) ?_
  refine K7 U (A0 U) (by rw[hss];simp only[A5,A6,len_nil];and_intros<;>first|omega|trivial) call44 U U (A0 U) (λ _ w M hX=>hj w M hX.st.sat (hX.sl 0 U)) U ?_
  refine JA U (A0 U) (by rw[hss];simp only[A5,A6,len_nil];and_intros<;>first|omega|trivial) ?_
  exact A9 hB U U (A0 U) U U (A0 U) λ w M hX=>⟨by rw[hT,hss];rfl,hX.st.low⟩
 rw[if_neg h7]at hT
 refine A7 U (A0 U) U (λ h8=>?_) (λ h8=>?_)<;>simp only[zb]at h8<;>rw[hop]at h8
 ·rw[if_pos h8]at hT
  rw[hnm (by omega)]at hj
  refine J8 U (A0 U) U EM (by decide+kernel) ?_
  refine K7 U (A0 U) (by rw[hss];simp only[A5,A6,len_nil];and_intros<;>first|omega|trivial) call44 U U (A0 U) (λ _ w M hX=>hj w M hX.st.sat (hX.sl 0 U)) U ?_
  refine JA U (A0 U) (by rw[hss];simp only[A5,A6,len_nil];and_intros<;>first|omega|trivial) ?_
  exact A9 hB U U (A0 U) U U (A0 U) λ w M hX=>⟨by rw[hT,hss];rfl,hX.st.low⟩
 rw[if_neg h8]at hT
 have h2:=Ae9 ha h0 h1 h3 h4 h5 h6 h7 h8 h9
 refine ES 0 (λ st=> ∃s3:A1,s3=(if x.t.n=1 then [63]else [])/\st=⟨[(0,B7 v x.flat)],[],[Z 0 (.sl 0 v),Z 3 (.v (str s3))]⟩) U (A0 U) (by omega) U (λ g1=>?_) (λ g1=>?_) ?_
 ·simp only[zb]at g1
  rw[hnn]at g1
  exact B5 _ U (A0 U) U U ⟨_,by rw[if_pos g1],rfl⟩
 ·simp only[zb]at g1
  rw[hnn]at g1
  exact B5 _ U (A0 U) U U ⟨_,by rw[if_neg g1],rfl⟩
 rintro _ ⟨s3,hs3,rfl⟩
 have hps:x.ps=[]↔ ¬0<len x.ps:=by
  cases x.ps with
  |nil=>simp[len]
  |cons a l=>rw[A6];have:=A4 l;simp;omega
 refine ES 0 (λ st=> ∃s4:A1,s4=(if x.t.n=1 then(if x.ps=[]then [63]else [44,32,63])else [])/\st=⟨[(0,B7 v x.flat)],[],[Z 0 (.sl 0 v),Z 3 (.v (str s4))]⟩) U (A0 U) (by omega) U (λ g2=>?_) (λ g2=>?_) ?_
 ·simp only[zb]at g2
  rw[hnn,hmm]at g2
  exact B5 _ U (A0 U) U U ⟨_,by rw[if_pos g2.1,if_neg (λ e=>hps.1 e g2.2)],rfl⟩
 ·simp only[zb]at g2
  rw[hnn,hmm]at g2
  refine B5 _ U (A0 U) U U ⟨_,?_,rfl⟩
  rw[hs3]
  by_cases hn1:x.t.n=1
  · rw[if_pos hn1,if_pos hn1,if_pos (hps.2 (g2.resolve_left (λ h=>h hn1)))]
  · rw[if_neg hn1,if_neg hn1]
 rintro _ ⟨s4,hs4,rfl⟩
 have hl4:len s4<=3:=by
  rw[hs4];split
  · split<;>decide
  · decide
 have hl40:=A4 s4
 refine AY U (A0 U) U call44 U U (A0 U) (λ _ w M hX=>hj w M hX.st.sat (hX.sl 0 U)) U ?_
 refine A9 hB U U (A0 U) (by simp only[A5,A6,len_nil];and_intros<;>first|omega|trivial) U (A0 U) λ w M hX=>⟨?_,hX.st.low⟩
 rw[hT,<-hs4];rfl
end Go.Proofs.YtmjpjbmeamnfpaaGreatDoor
namespace Go.Eng
open Go.RowKit
theorem LS.Af1 {s r:A1}{u:List Tk}(hs:CF s=true)(hr: ∀c r',r=c::r'->BS (c.toNat:Int) false=false)(hl:LS r u):LS (s++r) (UE s 0::u):=by
 obtain⟨h1,h2⟩:=Y9 hs
 cases s with
 |nil=>exact absurd U h1
 |cons c w=>exact .tok (by simp) (AY3 h2 hr) hl
theorem LS.eD {r:A1}{u:List Tk}(hl:LS r u):LS (63::r) (AF [63]::u):=.tok (w:=[63]) (by simp) (AY4 r) hl
def QF(n:Int):Nat->List Tk
 |0=>[]
 |k+1=>if S9 n k=true then(if I8 n k=[]then []else QF n k++[AF [124]])++[DJ (at' C0 (k:Int))]else QF n k
def HN:Bool->List Tm->List Tk
 |_,[]=>[]
 |b,q::qs=>[AF (if b then [40]else [44]),AF (at' CJ q.n),IX q.c]++HN false qs
def LP(n:Int)(qs:List Tm):List Tk:=QF n 5++HN true qs++(if qs=[]then []else [AF [41]])
theorem Af2{k:Nat}(h:k<5):CF (at' C0 (k:Int))=true:=by
 rcases(by omega:k=0\/k=1\/k=2\/k=3\/k=4)with rfl|rfl|rfl|rfl|rfl<;>decide+kernel
theorem LS.mask (n:Int): ∀(k:Nat) {r:A1} {u:List Tk},k<=5->(∀c r',r=c::r'->BS (c.toNat:Int) false=false)->LS r u->LS (I8 n k++r) (QF n k++u)
 |0,r,u,_,_,hl=>hl
 |k+1,r,u,hk,hr,hl=>by
  have hw:=LS.Af1 (Af2 (k:=k) (by omega)) hr hl
  rw[I8,QF]
  split
  ·split
   ·exact hw
   ·simp only[List.append_assoc]
    exact LS.mask n k (by omega) (λ c r' e=>by rw[<-(List.cons.inj e).1];decide) (.mark (by decide) hw)
  ·exact LS.mask n k (by omega) hr hl
theorem Af3{k:Int}(h0:0<=k)(h5:k<=5):at' CJ k∈CJ:=by
 have:k=0\/k=1\/k=2\/k=3\/k=4\/k=5:=by omega
 rcases this with rfl|rfl|rfl|rfl|rfl|rfl<;>decide
theorem LS.atoms {r:A1}{u:List Tk}(hr:FJ r)(hl:LS r u): ∀(qs:List Tm) (b:Bool),(∀q∈qs,0<=q.n/\q.n<=5/\GV q.c=true)->LS (IY b qs++r) (HN b qs++u)/\FJ (IY b qs++r)
 |[],b,_=>⟨hl,hr⟩
 |q::qs,b,h=>by
  obtain⟨h1,h2⟩:=LS.atoms hr hl qs false λ x hx=>h x (.tail _ hx)
  obtain⟨h3,h4,h5⟩:=h q (.head _)
  have hs:LS (at' CJ q.n++([32]++(I7 q.c++(IY false qs++r)))) (AF (at' CJ q.n)::IX q.c::(HN false qs++u)):=.sign (Af3 h3 h4) (FK U) (.bl (.Ad1 h5 h2 h1))
  rw[IY,HN]
  simp only[List.append_assoc]
  cases b with
  |true=>exact⟨.mark (by decide) hs,FK U⟩
  |false=>exact⟨.mark (by decide) (.bl hs),FK U⟩
theorem LS.Af4 {n:Int}{qs:List Tm}{r:A1}{u:List Tk}(h: ∀q∈qs,0<=q.n/\q.n<=5/\GV q.c=true)(hr:FJ r)(hl:LS r u):LS (MY n qs++r) (LP n qs++u):=by
 unfold MY LP
 simp only[List.append_assoc]
 cases qs with
 |nil=>exact LS.mask n 5 (by omega) (λ c r' e=>(hr.nw c r' e).1) hl
 |cons q qs=>
  rw[if_neg (by simp),if_neg (by simp)]
  have h1:=LS.atoms (r:=[41]++r) (u:=[AF [41]]++u) (FK U) (.mark (by decide) hl) (q::qs) true h
  exact LS.mask n 5 (by omega) (λ c r' e=>(h1.2.nw c r' e).1) h1.1
mutual
def DA:Tf->List Tk
 | .mk t ps=>
  if t.op=0 then [DJ I0]
  else if t.op=1 then LP t.n (ps.map Tf.node)
  else if t.op=3 then [AF [123],AF [63],AF [58]]++C1 false true ps++[AF [125]]
  else if t.op=4 then [DJ JB,AF [40]]++C1 false true ps++[AF [41]]
  else if t.op=5 then [AF [91]]++C1 false true ps++[AF [93]]
  else if t.op=6 then [DJ JC,AF [40]]++C1 false true ps++[AF [41]]
  else if t.op=7 then [DJ K8,AF [40]]++JQ (DI t.s).1++[AF [44]]++C1 false true ps++[AF [41]]
  else if t.op=8 then [DJ K9,AF [40]]++JQ (DI t.s).1++[AF [44]]++C1 false true ps++[AF [41]]
  else [AF [123]]++C1 (t.op==2) true ps++(if t.n=1 then(if ps=[]then [AF [63]]else [AF [44],AF [63]])else [])++[AF [125]]
def C1(nm:Bool):Bool->List Tf->List Tk
 |_,[]=>[]
 |b,x::l=>(if b then []else [AF [44]])++(if nm then [NU x.t.name,AF [58]]else [])++DA x++C1 nm false l
end
def P0(x:Tf):Prop:= ∀r u,FJ r->LS r u->LS (E7 x++r) (DA x++u)
theorem P0.join {nm:Bool}{r:A1}{u:List Tk}(hr:FJ r)(hl:LS r u): ∀(l:List Tf) (b:Bool),(∀x∈l,P0 x)->(nm=true-> ∀x∈l,CR x.t.name=true)->LS (CN nm b l++r) (C1 nm b l++u)/\(b=false->FJ (CN nm b l++r))
 |[],b,_,_=>by rw[CN,C1];exact⟨hl,λ _=>hr⟩
 |x::l,b,hx,hn=>by
  obtain⟨h1,h2⟩:=P0.join hr hl l false (λ y hy=>hx y (.tail _ hy)) (λ e y hy=>hn e y (.tail _ hy))
  have hin:=hx x (.head _) _ _ (h2 U) h1
  have hnm:LS ((if nm=true then CG x.t.name++[58,32]else [])++(E7 x++(CN nm false l++r))) ((if nm=true then [NU x.t.name,AF [58]]else [])++(DA x++(C1 nm false l++u))):=by
   split
   ·rename_i e
    rw[List.append_assoc]
    exact LS.nm (hn e x (.head _)) (FK U) (.mark (by decide) (.bl hin))
   ·exact hin
  rw[CN,C1]
  simp only[List.append_assoc]
  cases b with
  |true=>exact⟨hnm,λ e=>by cases e⟩
  |false=>exact⟨.mark (by decide) (.bl hnm),λ _=>FK U⟩
theorem qS: ∀ {l:List Tf} {L:Option A1},C8 2 L l=true-> ∀x∈l,CR x.t.name=true
 |[],L,_,x,h=>by cases h
 |y::l,L,h,x,hx=>by
  rw[C8]at h
  simp only[Bool.and_eq_true]at h
  rcases List.mem_cons.1 hx with rfl|hx
  ·have:=h.1.2
   simp only[decide_true,Bool.not_true,Bool.false_or,Bool.and_eq_true]at this
   exact this.1
  ·exact qS h.2 x hx
theorem Af5:CF I0=true/\CF JB=true/\CF JC=true/\CF K8=true/\CF K9=true:=by decide+kernel
theorem eE{x:Tf}(h:DX x=true)(ho:x.t.op=7\/x.t.op=8): ∃p:List Sp,p.length<=20/\(∀y∈p,y.JJ)/\x.t.s=FG p/\(DI x.t.s).1=p/\(∀y∈p,y.part=false):=by
 have hp:=(KK h).1
 unfold D5 FY at hp
 have e:x.node.op=x.t.op:=rfl
 have es:x.node.s=x.t.s:=rfl
 rw[if_neg (by omega),if_neg (by omega),if_neg (by omega),if_neg (by omega),if_neg (by omega),if_neg (by omega),if_pos (by omega)]at hp
 simp only[Bool.and_eq_true]at hp
 have h2:=hp.2.2
 unfold H6 at h2
 simp only[Bool.and_eq_true,es]at h2
 obtain⟨p,p1,p2,p3,p4⟩:=AQ4 (s:=x.t.s) h2.1
 refine⟨p,p1,p2,p3,p4,λ y hy=>?_⟩
 have h3:=h2.2
 rw[p4]at h3
 cases hyp:y.part with
 |false=>rfl
 |true=>
  have:p.any (λ x=>x.part)=true:=List.any_eq_true.2 ⟨y,hy,hyp⟩
  rw[this]at h3;cases h3
theorem Af6: ∀(n:Nat) (x:Tf),x.size<=n->DX x=true->x.t.op≠9->P0 x:=by
 intro n
 induction n with
 |zero=>intro x h;have:=x.size_pos;omega
 |succ n ih=>
  intro x hn ha h9
  obtain⟨a1,a2,a3,a4⟩:=KK ha
  have hpath:=eE ha
  have hko:=SB a2
  obtain⟨t,ps⟩:=x
  have hsz: ∀y∈ps,y.size<=n:=λ y hy=>by have:=Q5 hy;rw[Tf.size]at hn;omega
  have h9:t.op≠9:=h9
  have a2:C8 t.op none ps=true:=a2
  have hko: ∀y∈ps,(y.t.op==9)=(t.op==1):=hko
  have hL:t.op≠1-> ∀y∈ps,P0 y:=λ ho y hy=>ih y (hsz y hy) (NW a4 y hy) (λ e=>ho (by have:=hko y hy;rw[e]at this;simpa using this.symm))
  have hJ:t.op≠1-> ∀ {r:A1} {u:List Tk},FJ r->LS r u->LS (CN false true ps++r) (C1 false true ps++u):=λ ho r u hr hl=>(P0.join hr hl ps true (hL ho) (λ e=>by cases e)).1
  obtain⟨w1,w2,w3,w4,w5⟩:=Af5
  intro r u hr hl
  unfold E7 DA
  by_cases h0:t.op=0
  ·rw[if_pos h0,if_pos h0]
   exact LS.word w1 hr hl
  rw[if_neg h0,if_neg h0]
  by_cases h1:t.op=1
  ·rw[if_pos h1,if_pos h1]
   refine LS.Af4 (λ q hq=>?_) hr hl
   obtain⟨y,hy,rfl⟩:=List.mem_map.1 hq
   have h9y:y.t.op=9:=by have:=hko y hy;rw[h1]at this;simpa using this
   have hat:=(eB (NW a4 y hy) h9y).2
   unfold NT at hat
   simp only[Bool.and_eq_true,decide_eq_true_eq]at hat
   refine⟨hat.1.1,hat.1.2,?_⟩
   show GV y.t.c=true
   unfold GV
   simp only[Bool.and_eq_true,decide_eq_true_eq]
   exact⟨hat.2.1,hat.2.2⟩
  rw[if_neg h1,if_neg h1]
  by_cases h3:t.op=3
  ·rw[if_pos h3,if_pos h3]
   simp only[List.append_assoc]
   exact .mark (by decide) (.eD (.mark (by decide) (.bl (hJ h1 (FK U) (.mark (by decide) hl)))))
  rw[if_neg h3,if_neg h3]
  by_cases h4:t.op=4
  ·rw[if_pos h4,if_pos h4]
   simp only[List.append_assoc]
   exact LS.word (s:=JB) (r:=40::_) w2 (FK U) (.mark (by decide) (hJ h1 (FK U) (.mark (by decide) hl)))
  rw[if_neg h4,if_neg h4]
  by_cases h5:t.op=5
  ·rw[if_pos h5,if_pos h5]
   simp only[List.append_assoc]
   exact .mark (by decide) (hJ h1 (FK U) (.mark (by decide) hl))
  rw[if_neg h5,if_neg h5]
  by_cases h6:t.op=6
  ·rw[if_pos h6,if_pos h6]
   simp only[List.append_assoc]
   exact LS.word (s:=JC) (r:=40::_) w3 (FK U) (.mark (by decide) (hJ h1 (FK U) (.mark (by decide) hl)))
  rw[if_neg h6,if_neg h6]
  by_cases h7:t.op=7
  ·rw[if_pos h7,if_pos h7]
   obtain⟨p,_,hpg,hs,hpe,_⟩:=hpath (.inl h7)
   have hs:t.s=FG p:=hs
   have hpe:(DI t.s).1=p:=hpe
   rw[hpe,hs]
   simp only[List.append_assoc]
   exact LS.word (s:=K8) (r:=40::_) w4 (FK U) (.mark (by decide) (.path hpg (FK U) (.mark (by decide) (.bl (hJ h1 (FK U) (.mark (by decide) hl))))))
  rw[if_neg h7,if_neg h7]
  by_cases h8:t.op=8
  ·rw[if_pos h8,if_pos h8]
   obtain⟨p,_,hpg,hs,hpe,_⟩:=hpath (.inr h8)
   have hs:t.s=FG p:=hs
   have hpe:(DI t.s).1=p:=hpe
   rw[hpe,hs]
   simp only[List.append_assoc]
   exact LS.word (s:=K9) (r:=40::_) w5 (FK U) (.mark (by decide) (.path hpg (FK U) (.mark (by decide) (.bl (hJ h1 (FK U) (.mark (by decide) hl))))))
  rw[if_neg h8,if_neg h8]
  ·simp only[List.append_assoc]
   have hu:(t.op==2)=true-> ∀y∈ps,CR y.t.name=true:=λ e=>by
    have e:t.op=2:=by simpa using e
    rw[e]at a2;exact qS a2
   refine .mark (by decide) ?_
   by_cases hn1:t.n=1
   ·rw[if_pos hn1,if_pos hn1]
    by_cases hps:ps=[]
    ·rw[if_pos hps,if_pos hps];subst hps
     rw[CN,C1]
     exact .eD (.mark (by decide) hl)
    ·rw[if_neg hps,if_neg hps]
     exact(P0.join (FK U) (.mark (by decide) (.bl (.eD (.mark (by decide) hl)))) ps true (hL h1) hu).1
   ·rw[if_neg hn1,if_neg hn1]
    exact(P0.join (FK U) (.mark (by decide) hl) ps true (hL h1) hu).1
theorem Af7{x:Tf}(h:DX x=true)(h9:x.t.op≠9): ∃l,C6 (E7 x)=(l++[GJ (E7 x)],0,0)/\l.map (strip false)=DA x:=by
 have:=Af6 x.size x (Nat.le_refl _) h h9 [] [] (.inl U) .nil
 rw[List.append_nil,List.append_nil]at this
 exact this.lex
def P1(t:Tk):Prop:=(t.kind==1&&t.s==[124])=false/\(t.kind==1&&t.s==[40])=false
theorem Af8{k:Nat}(h:k<5):at' C0 (k:Int)∈C0/\C0.idxOf (at' C0 (k:Int))=k:=by
 rcases(by omega:k=0\/k=1\/k=2\/k=3\/k=4)with rfl|rfl|rfl|rfl|rfl<;>decide+kernel
theorem eF{l:List Tk}{j m:Int}{k:Nat}{r:List Tk}(hk:k<5)(h:TS l j (DJ (at' C0 (k:Int))::r))(hm:m.toNat/2^k%2=0):MI l m j= .ok (m+(2^k:Nat)) (j+1):=by
 obtain⟨g1,g2⟩:=Af8 hk
 have e1:(at' l j).kind=2:=h.at.1
 have e2:(at' l j).s=at' C0 (k:Int):=h.at.2.1
 unfold MI
 rw[e1,e2,g2,if_pos ⟨rfl,g1,hm⟩]
def IZ:List Nat->List Tk
 |[]=>[]
 |k::ks=>AF [124]::DJ (at' C0 (k:Int))::IZ ks
def SC:Int->List Nat->Option Int
 |m,[]=>some m
 |m,k::ks=>if k<5/\m.toNat/2^k%2=0 then SC (m+(2^k:Nat)) ks else none
theorem eG{l:List Tk}{t:Tk}{r:List Tk}(ht:(t.kind==1&&t.s==[124])=false): ∀(ks:List Nat) (f:Nat) (m n j:Int),SC m ks=some n->ks.length+1<=f->TS l j (IZ ks++t::r)->JD f l m j= .ok n (j+len (IZ ks))
 |[],f,m,n,j,ho,hf,h=>by
  obtain⟨f,rfl⟩: ∃g,f=g+1:=⟨f-1,by simp at hf;omega⟩
  rw[JD,h.AG,ht,if_neg (by decide)]
  rw[SC]at ho
  cases ho
  simp[IZ,len]
 |k::ks,f,m,n,j,ho,hf,h=>by
  rw[List.length_cons]at hf
  obtain⟨f,rfl⟩: ∃g,f=g+1:=⟨f-1,by omega⟩
  rw[SC]at ho
  split at ho
  ·rename_i hk
   have h:TS l j (AF [124]::DJ (at' C0 (k:Int))::(IZ ks++t::r)):=h
   rw[JD,h.AG,if_pos (by rfl),eF hk.1 h.one hk.2]
   show JD f l _ _=_
   rw[eG ht ks f _ n _ ho (by omega) h.one.one,IZ,A6,A6]
   congr 1;omega
  ·cases ho
def Af9(n:Int):List Nat:=(List.range 5).filter λ k=>S9 n k
def qT(n:Int):Bool:=match Af9 n with
 |[]=>false
 |k::ks=>decide (k<5)&&decide (QF n 5=DJ (at' C0 (k:Int))::IZ ks)&&decide (SC (0+(2^k:Nat)) ks=some n)
theorem Ag0: ∀n∈List.range 31,qT ((n:Int)+1)=true:=by decide+kernel
theorem eH{n:Int}(h0:1<=n)(h1:n<=31): ∃(k:Nat) (ks:List Nat),k<5/\QF n 5=DJ (at' C0 (k:Int))::IZ ks/\SC (0+(2^k:Nat)) ks=some n:=by
 have h:=Ag0 (n.toNat-1) (List.mem_range.2 (by omega))
 rw[show((n.toNat-1:Nat):Int)+1=n by omega]at h
 unfold qT at h
 split at h
 ·cases h
 ·rename_i k ks _
  simp only[Bool.and_eq_true,decide_eq_true_eq]at h
  exact⟨k,ks,h.1.1,h.1.2,h.2⟩
theorem Ag1(ks:List Nat):ks.length<=(IZ ks).length:=by
 induction ks with
 |nil=>exact Nat.le_refl _
 |cons k ks ih=>rw[IZ];simp only[List.length_cons];omega
theorem Ag2{k:Nat}(hk:k<5):at' C0 (k:Int)≠I0/\at' C0 (k:Int)≠JB/\at' C0 (k:Int)≠JC/\at' C0 (k:Int)≠K8/\at' C0 (k:Int)≠K9:=by
 rcases(by omega:k=0\/k=1\/k=2\/k=3\/k=4)with rfl|rfl|rfl|rfl|rfl<;>decide+kernel
def YC(y:Tf):Prop:=y.ps=[]/\y.t=⟨9,0,[],[],y.t.n,y.t.c⟩/\0<=y.t.n/\y.t.n<=5/\GV y.t.c=true
theorem qU{l:List Tk}{j:Int}{y:Tf}{r:List Tk}(hy:YC y)(h:TS l j (AF (at' CJ y.t.n)::IX y.t.c::r)):L4 l j= .ok y (j+2):=by
 obtain⟨t,ps⟩:=y
 obtain⟨h1,h2,h3,h4,h5⟩:=hy
 have h1:ps=[]:=h1
 have h2:t=⟨9,0,[],[],t.n,t.c⟩:=h2
 have h3:0<=t.n:=h3
 have h4:t.n<=5:=h4
 have h5:GV t.c=true:=h5
 have h:TS l j (AF (at' CJ t.n)::IX t.c::r):=h
 have hm:at' CJ t.n∈CJ/\(CJ.idxOf (at' CJ t.n):Int)=t.n:=by
  have:t.n=0\/t.n=1\/t.n=2\/t.n=3\/t.n=4\/t.n=5:=by omega
  rcases this with e|e|e|e|e|e<;>rw[e]<;>decide
 have e1:(at' l j).kind=1:=h.at.1
 have e2:(at' l j).s=at' CJ t.n:=h.at.2.1
 unfold L4
 rw[e1,e2,if_pos ⟨rfl,hm.1⟩,Ad5 h5 h.one]
 show PR.ok (Tf.mk ⟨9,0,[],[],(CJ.idxOf (at' CJ t.n):Nat),t.c⟩ []) (j+1+1)=_
 rw[hm.2,<-h2,h1,show j+1+1=j+2 by omega]
theorem qV{l:List Tk}{r:List Tk}: ∀(ys xs:List Tf) (f:Nat) (j:Int),(∀y∈ys,YC y)->ys.length+1<=f->TS l j (HN false (ys.map Tf.node)++AF [41]::r)->KA f l xs j= .ok (xs++ys) (j+len (HN false (ys.map Tf.node)))
 |[],xs,f,j,_,hf,h=>by
  obtain⟨f,rfl⟩: ∃g,f=g+1:=⟨f-1,by simp at hf;omega⟩
  rw[KA,h.AG,if_neg (by decide),List.append_nil]
  simp[HN,len]
 |y::ys,xs,f,j,hy,hf,h=>by
  rw[List.length_cons]at hf
  obtain⟨f,rfl⟩: ∃g,f=g+1:=⟨f-1,by omega⟩
  have h:TS l j (AF [44]::AF (at' CJ y.t.n)::IX y.t.c::(HN false (ys.map Tf.node)++AF [41]::r)):=h
  have h2:=TS.add (u:=[AF [44],AF (at' CJ y.t.n),IX y.t.c]) h
  rw[KA,h.AG,if_pos (by rfl),qU (hy y (.head _)) h.one]
  show KA f l (xs++[y]) (j+1+2)=_
  rw[show j+1+2=j+len [AF [44],AF (at' CJ y.t.n),IX y.t.c]from by show j+1+2=j+3;omega,qV ys (xs++[y]) f _ (λ z hz=>hy z (.tail _ hz)) (by omega) h2,List.map_cons,HN,A5]
  show PR.ok (xs++[y]++ys) (j+3+_)=PR.ok (xs++y::ys) (j+(3+_))
  rw[List.append_assoc,Int.add_assoc];rfl
theorem Ag3(b:Bool)(qs:List Tm):qs.length<=(HN b qs).length:=by
 induction qs generalizing b with
 |nil=>exact Nat.le_refl _
 |cons q qs ih=>rw[HN];have:=ih false;simp only[List.length_append,List.length_cons,List.length_nil];omega
theorem Ag4{l:List Tk}{d j n:Int}{ys:List Tf}{t:Tk}{r:List Tk}(h0:1<=n)(h1:n<=31)(hy: ∀y∈ys,YC y)(ht:P1 t)(hd:d<64)(h:TS l j (LP n (ys.map Tf.node)++t::r)):NH l d j= .ok (L5 n ys) (j+len (LP n (ys.map Tf.node))):=by
 obtain⟨k,ks,k5,e1,e2⟩:=eH h0 h1
 have hll:=TS.le h
 rcases hll with⟨hj,hll⟩|e
 case inr=>simp at e
 have hmk:=Ag1 ks
 have hak:=Ag3 true (ys.map Tf.node)
 rw[List.length_map]at hak
 have hm0:(0:Int).toNat/2^k%2=0:=by simp
 unfold LP at h hll ⊢
 rw[e1]at h hll ⊢
 rw[A5,A5,A6,A6]at hll
 have hrn:=A4 r
 cases ys with
 |nil=>
  simp only[List.map_nil,HN,if_true,List.append_nil,len_nil,if_pos]at h hll ⊢
  have h:TS l j (DJ (at' C0 (k:Int))::(IZ ks++t::r)):=h
  unfold NH
  rw[eF k5 h hm0]
  show(JD l.length l _ (j+1)).bind _=_
  have h2:=TS.add h.one
  rw[eG ht.1 ks l.length _ n (j+1) e2 (by unfold len at hll;omega) h.one]
  show(if AG l (j+1+len (IZ ks)) [40]=true then _ else _)=_
  rw[TS.AG h2,ht.2,if_neg (by decide),A6]
  congr 1;omega
 |cons y ys=>
  rw[if_neg (by simp)]at h hll ⊢
  have h:TS l j (DJ (at' C0 (k:Int))::(IZ ks++AF [40]::AF (at' CJ y.t.n)::IX y.t.c::(HN false (ys.map Tf.node)++AF [41]::t::r))):=by
   have:=h
   simp only[List.map_cons,HN,List.append_assoc,List.cons_append,List.nil_append]at this
   exact this
  unfold NH
  rw[eF k5 h hm0]
  show(JD l.length l _ (j+1)).bind _=_
  have h2:=TS.add h.one
  rw[eG (t:=AF [40]) (by rfl) ks l.length _ n (j+1) e2 (by unfold len at hll;omega) h.one]
  obtain⟨K,hK⟩: ∃K,K=j+1+len (IZ ks):=⟨_,rfl⟩
  rw[<-hK]at h2 ⊢
  have h3:=TS.add (u:=[AF [40],AF (at' CJ y.t.n),IX y.t.c]) h2
  have h4:=TS.add h3
  show(if AG l K [40]=true then _ else _)=_
  rw[TS.AG h2,if_pos (by rfl),TS.open h2 hd]
  show(L4 l (K+1)).bind _=_
  rw[qU (hy y (.head _)) (TS.one h2)]
  show(KA l.length l [y] (K+1+2)).bind _=_
  rw[show K+1+2=K+len [AF [40],AF (at' CJ y.t.n),IX y.t.c]from by show K+1+2=K+3;omega,qV ys [y] l.length _ (λ z hz=>hy z (.tail _ hz)) (by rw[List.length_cons]at hak;unfold len at hll;omega) h3]
  show(B6 l _ [41]).bind _=_
  rw[TS.FX h4,List.map_cons,HN]
  simp only[A5,A6,len_nil]
  show PR.ok (L5 n ([y]++ys)) _=PR.ok (L5 n (y::ys)) _
  congr 1;omega
inductive JR:Tm->List Tf->Prop
 |any (n:A1):JR ⟨0,0,n,[],0,B2⟩ []
 |mask (n:A1) (m:Int) (ps:List Tf):1<=m->m<=31->(∀y∈ps,YC y)->JR ⟨1,0,n,[],m,B2⟩ ps
 |obj (n:A1) (m:Int) (ps:List Tf):m=0\/m=1->JR ⟨2,0,n,[],m,B2⟩ ps
 |map (n:A1) (a:Tf):JR ⟨3,0,n,[],0,B2⟩ [a]
 |tup (n:A1) (ps:List Tf):JR ⟨4,0,n,[],0,B2⟩ ps
 |list (n:A1) (a:Tf):JR ⟨5,0,n,[],0,B2⟩ [a]
 |ents (n:A1) (a:Tf):JR ⟨6,0,n,[],0,B2⟩ [a]
 |led (n s:A1) (o:Int) (a:Tf):o=7\/o=8->JR ⟨o,0,n,s,0,B2⟩ [a]
theorem YD: ∀ {l:List Tf} {o:Int} {L:Option A1},C8 o L l=true->o≠2-> ∀x∈l,x.t.name=[]
 |[],o,L,_,_,x,h=>by cases h
 |y::l,o,L,h,ho,x,hx=>by
  rw[C8]at h
  simp only[Bool.and_eq_true]at h
  rcases List.mem_cons.1 hx with rfl|hx
  ·have:=h.1.1.2
   simpa[ho]using this
  ·exact YD h.2 ho x hx
theorem Tf.eI {x:Tf}(h:x.zm):x.t.many=0/\ ∀y∈x.ps,y.zm:=by
 obtain⟨t,ps⟩:=x
 rw[Tf.zm]at h
 exact⟨h.1,AT1.1 h.2⟩
theorem eJ{x:Tf}(ha:DX x=true)(hz:x.zm)(h9:x.t.op≠9):JR x.t x.ps:=by
 obtain⟨hp,a2,a3,a4⟩:=KK ha
 obtain⟨z1,z2⟩:=Tf.eI hz
 have hko:=SB a2
 have hkn:=YD a2
 obtain⟨⟨op,many,name,s,n,c⟩,ps⟩:=x
 have z1:many=0:=z1
 subst z1
 have h9:op≠9:=h9
 replace hko: ∀y∈ps,(y.t.op==9)=(op==1):=hko
 replace hkn:op≠2-> ∀y∈ps,y.t.name=[]:=hkn
 replace z2: ∀y∈ps,y.zm:=z2
 replace a4:FZ ps=true:=a4
 have hp:D5 ⟨op,len ps,name,s,n,c⟩=true:=hp
 show JR ⟨op,0,name,s,n,c⟩ ps
 unfold D5 FY BX at hp
 dsimp only at hp
 by_cases h0:op=0
 ·rw[if_pos h0]at hp
  simp only[Bool.and_eq_true,decide_eq_true_eq,Tm.mk.injEq,true_and,beq_iff_eq]at hp
  obtain⟨⟨rfl,rfl,rfl⟩,hl⟩:=hp
  rw[Ac9 hl,h0];exact .any _
 rw[if_neg h0]at hp
 by_cases h1:op=1
 ·rw[if_pos h1]at hp
  simp only[Bool.and_eq_true,decide_eq_true_eq,Tm.mk.injEq,true_and,beq_iff_eq]at hp
  obtain⟨⟨rfl,rfl⟩,hl⟩:=hp
  subst h1
  refine .mask _ _ _ hl.1.2 hl.2 λ y hy=>?_
  have hy9:y.t.op=9:=by have:=hko y hy;simpa using this
  have hay:=NW a4 y hy
  obtain⟨q1,q2⟩:=eB hay hy9
  obtain⟨y1,y2⟩:=Tf.eI (z2 y hy)
  have hyn:=hkn (by decide) y hy
  have hyp:=(KK hay).1
  unfold NT at q2
  simp only[Bool.and_eq_true,decide_eq_true_eq]at q2
  have hsc:GV y.t.c=true:=by
   unfold GV
   simp only[Bool.and_eq_true,decide_eq_true_eq]
   exact⟨q2.2.1,q2.2.2⟩
  refine⟨q1,?_,q2.1.1,q2.1.2,hsc⟩
  obtain⟨⟨op,many,name,s,n,c⟩,qs⟩:=y
  have y1:many=0:=y1
  have hyn:name=[]:=hyn
  have hy9:op=9:=hy9
  subst y1 hyn hy9
  have hyp:D5 ⟨9,len qs,[],s,n,c⟩=true:=hyp
  unfold D5 FY BX at hyp
  dsimp only at hyp
  rw[if_neg (by decide),if_neg (by decide),if_pos U]at hyp
  simp only[Bool.and_eq_true,decide_eq_true_eq,Tm.mk.injEq,true_and,and_true,beq_iff_eq]at hyp
  show(⟨9,0,[],s,n,c⟩:Tm)=⟨9,0,[],[],n,c⟩
  rw[hyp.1]
 rw[if_neg h1,if_neg h9]at hp
 by_cases h2:op=2
 ·rw[if_pos h2]at hp
  simp only[Bool.and_eq_true,decide_eq_true_eq,Tm.mk.injEq,true_and,beq_iff_eq,Bool.or_eq_true]at hp
  obtain⟨⟨rfl,rfl⟩,hl⟩:=hp
  rw[h2];exact .obj _ _ _ hl.2
 rw[if_neg h2]at hp
 by_cases h4:op=4
 ·rw[if_pos h4]at hp
  simp only[Bool.and_eq_true,decide_eq_true_eq,Tm.mk.injEq,true_and,beq_iff_eq]at hp
  obtain⟨⟨rfl,rfl,rfl⟩,hl⟩:=hp
  rw[h4];exact .tup _ _
 rw[if_neg h4]at hp
 by_cases h3:op=3\/op=5\/op=6
 ·rw[if_pos h3]at hp
  simp only[Bool.and_eq_true,decide_eq_true_eq,Tm.mk.injEq,true_and,beq_iff_eq]at hp
  obtain⟨⟨rfl,rfl,rfl⟩,hl⟩:=hp
  obtain⟨a,rfl⟩:=qH hl
  rcases h3 with rfl|rfl|rfl
  ·exact .map _ _
  ·exact .list _ _
  ·exact .ents _ _
 rw[if_neg h3]at hp
 by_cases h7:op=7\/op=8
 ·rw[if_pos h7]at hp
  simp only[Bool.and_eq_true,decide_eq_true_eq,Tm.mk.injEq,true_and,beq_iff_eq]at hp
  obtain⟨⟨rfl,rfl⟩,hl⟩:=hp
  obtain⟨a,rfl⟩:=qH hl.1
  exact .led _ _ _ _ h7
 rw[if_neg h7]at hp
 simp at hp
theorem Ag5{x:Tf}(ha:DX x=true)(hz:x.zm)(h9:x.t.op≠9):NV (DA x):=by
 have hv:=eJ ha hz h9
 obtain⟨t,ps⟩:=x
 have hv:JR t ps:=hv
 have wd: ∀(s:A1) (r:List Tk),NV (DJ s::r):=λ s r=>⟨_,_,rfl,.inl U⟩
 have mk: ∀(s:A1) (r:List Tk),s∈([[46],[40],[91],[123]]:List A1)->NV (AF s::r):=λ s r h=>⟨_,_,rfl,.inr (.inr ⟨rfl,h⟩)⟩
 cases hv with
 |any n=>exact wd _ _
 |mask n m ps h0 h1 hy=>
  obtain⟨k,ks,k5,e1,e2⟩:=eH h0 h1
  show NV (LP m (ps.map Tf.node))
  unfold LP
  rw[e1]
  exact wd _ _
 |obj n m ps h=>exact mk _ _ (by decide)
 |map n a=>exact mk _ _ (by decide)
 |tup n ps=>exact wd _ _
 |list n a=>exact mk _ _ (by decide)
 |ents n a=>exact wd _ _
 |led n s o a h=>rcases h with rfl|rfl<;>exact wd _ _
theorem qW: ∀ {l:List Tf} {L:Option A1},C8 2 L l=true->MJ l=l
 |[],L,_=>rfl
 |x::l,L,h=>by
  rw[C8]at h
  simp only[Bool.and_eq_true]at h
  rw[MJ,qW h.2]
  cases l with
  |nil=>rfl
  |cons y l=>
   have h2:=h.2
   rw[C8]at h2
   simp only[Bool.and_eq_true,decide_true,Bool.not_true,Bool.false_or,Option.all_some,Bool.not_eq_true',decide_eq_false_iff_not]at h2
   have h3:=h2.1.2.2
   rw[PN,if_pos (by rcases List.le_total x.t.name y.t.name with h|h;exact h;exact absurd h h3)]
theorem qX: ∀ {l:List Tf} {n:A1},C8 2 (some n) l=true-> ∀x∈l,¬x.t.name<=n
 |[],n,_,x,hx=>by cases hx
 |y::l,n,h,x,hx=>by
  rw[C8]at h
  simp only[Bool.and_eq_true,decide_true,Bool.not_true,Bool.false_or,Option.all_some,Bool.not_eq_true',decide_eq_false_iff_not]at h
  have h3:=h.1.2.2
  rcases List.mem_cons.1 hx with rfl|hx
  ·exact h3
  ·have:=qX h.2 x hx
   intro hle
   rcases List.le_total n y.t.name with h4|h4
   ·exact this (List.le_trans hle h4)
   ·exact h3 h4
theorem qY: ∀ {l:List Tf} {L:Option A1},C8 2 L l=true-> ∀a x b,l=a++x::b->x.t.name ∉ a.map (·.t.name)
 |[],L,_,a,x,b,e=>by cases a<;>cases e
 |y::l,L,h,[],x,b,e=>by simp
 |y::l,L,h,z::a,x,b,e=>by
  rw[C8]at h
  simp only[Bool.and_eq_true]at h
  obtain⟨rfl,rfl⟩:=List.cons.inj e
  rw[List.map_cons,List.mem_cons,not_or]
  refine⟨λ e=>?_,qY h.2 a x b U⟩
  exact qX h.2 x (by simp) (by rw[e];exact List.le_refl _)
def YE(rt:Tf->Bool):Prop:= ∀(x a:Tf),DX x=true->x.zm->(x.t.op=7\/x.t.op=8)->x.ps=[a]->x.size<=64->rt (.mk { BJ x.t.op with s:=x.t.s} [a.named []])=true
def UI(rt:Tf->Bool)(n:Nat):Prop:= ∀x:Tf,DX x=true->x.zm->x.t.op≠9->x.size<=n-> ∀(l:List Tk) (d j:Int) (t:Tk) (r:List Tk) (f:Nat),TS l j (DA x++t::r)->P1 t->4*ln (DA x)+2<=f->0<=d->d+x.size<=64->C3 AE rt f l d j= .ok (x.named []) (j+len (DA x))
structure YF (n:Nat) (x:Tf):Prop where
 all:DX x=true
 zm:x.zm
 op:x.t.op≠9
 size:x.size<=n
theorem P2{c:A1}(h1:c≠[124])(h2:c≠[40]):P1 (AF c):=by
 unfold P1
 constructor
 ·show((1:Int)==1&&c==[124])=false
  simp[h1]
 ·show((1:Int)==1&&c==[40])=false
  simp[h2]
theorem qZ{nm:Bool}{u:List Tk}(hu: ∃t r2,u=t::r2/\P1 t)(ps:List Tf): ∃t r2,C1 nm false ps++u=t::r2/\P1 t:=by
 cases ps with
 |nil=>exact hu
 |cons y ps=>rw[C1];exact⟨_,_,rfl,P2 (by decide) (by decide)⟩
theorem Ag6(x:Tf)(n:A1):(x.named []).named n=x.named n:=by cases x;rfl
theorem r0{rt:Tf->Bool}{n:Nat}(hp:UI rt n): ∀(ps:List Tf) (l:List Tk) (d j:Int) (xs:List Tf) (r:List Tk) (f:Nat),(∀x∈ps,YF n x/\x.t.name=[])->TS l j (C1 false xs.isEmpty ps++AF [41]::r)->4*ln (C1 false xs.isEmpty ps)+3<=f->0<=d->(∀x∈ps,d+x.size<=64)->
  HG AE rt f l d xs j= .ok (.mk (BJ 4) (xs++ps)) (j+len (C1 false xs.isEmpty ps))
 |[],l,d,j,xs,r,f,_,h,hf,_,_=>by
  rw[C1]at h hf ⊢
  obtain⟨f,rfl,_⟩:=fu (n:=2) hf
  rw[HG,TS.AG (t:=AF [41]) h,if_pos (by rfl),List.append_nil]
  simp[len]
 |x::ps,l,d,j,xs,r,f,hx,h,hf,h0,hd=>by
  obtain⟨g,g4⟩:=hx x List.mem_cons_self
  rw[C1,if_neg (show ¬(false=true) by decide),List.append_nil,List.append_assoc,List.append_assoc]at h
  rw[C1,if_neg (show ¬(false=true) by decide),List.append_nil]at hf ⊢
  obtain⟨f,rfl⟩: ∃g,f=g+1:=⟨f-1,by omega⟩
  have hst:=Ag5 g.all g.zm g.op
  have hin1:=hst.pos
  obtain⟨t,r2,e2,ht⟩:=qZ (nm:=false) (u:=AF [41]::r) ⟨_,_,rfl,P2 (by decide) (by decide)⟩ ps
  obtain⟨s1,s2⟩:=qJ h
  rw[e2]at s2
  simp only[ln,List.length_append]at hf
  have h3:=hp x g.all g.zm g.op g.size l d _ t r2 f s2 ht (by simp only[ln];omega) h0 (hd x List.mem_cons_self)
  have h4:=TS.add s2
  rw[<-e2]at h4
  have ih:=r0 hp ps l d _ (xs++[x]) r f (λ y hy=>hx y (List.mem_cons_of_mem _ hy)) (by rw[SA];exact h4) (by rw[SA];simp only[ln];omega) h0 (λ y hy=>hd y (List.mem_cons_of_mem _ hy))
  rw[HG,Ad7 hst h (by decide),if_neg (by decide),s1]
  show(C3 AE rt f l d _).bind _=_
  rw[h3,Tf.QD g4]
  show HG AE rt f l d (xs++[x]) _=_
  rw[ih,SA,A5,A5]
  show PR.ok (Tf.mk (BJ 4) (xs++[x]++ps)) _=_
  rw[List.append_assoc]
  congr 1;omega
def NY(o:Int)(e:Bool):List Tk:=if o=1 then(if e then [AF [63]]else [AF [44],AF [63]])else []
theorem Ag7(o:Int)(r:List Tk): ∃t r2,NY o false++AF [125]::r=t::r2/\P1 t:=by
 unfold NY
 split
 ·exact⟨_,_,rfl,P2 (by decide) (by decide)⟩
 ·exact⟨_,_,rfl,P2 (by decide) (by decide)⟩
theorem r7{rt:Tf->Bool}{n:Nat}(hp:UI rt n){o:Int}(ho:o=0\/o=1): ∀(ps:List Tf) (l:List Tk) (d j:Int) (xs:List Tf) (r:List Tk) (f:Nat),(∀x∈ps,YF n x)->(∀a x b,ps=a++x::b->x.t.name ∉ (xs++a).map (·.t.name))->TS l j (C1 true xs.isEmpty ps++(NY o (xs.isEmpty&&ps.isEmpty)++AF [125]::r))->4*ln (C1 true xs.isEmpty ps)+3<=f->0<=d->(∀x∈ps,d+x.size<=64)->
  FT AE rt f l d xs j= .ok (FQ o (xs++ps)) (j+len (C1 true xs.isEmpty ps)+len (NY o (xs.isEmpty&&ps.isEmpty))+1)
 |[],l,d,j,xs,r,f,_,_,h,hf,_,_=>by
  rw[C1]at h hf ⊢
  obtain⟨f,rfl,_⟩:=fu (n:=2) hf
  rw[show(xs.isEmpty&&([]:List Tf).isEmpty)=xs.isEmpty by simp]at h ⊢
  rw[List.append_nil]
  rcases ho with rfl|rfl
  ·have h:TS l j (AF [125]::r):=h
   rw[FT,h.AG,if_pos (by rfl)]
   show PR.ok (FQ 0 xs) (j+1)=PR.ok (FQ 0 xs) (j+0+0+1)
   congr 1;omega
  ·cases he:xs.isEmpty with
   |true=>
    rw[he]at h
    have h:TS l j (AF [63]::AF [125]::r):=h
    rw[FT,h.AG,if_neg (by decide),he,if_pos U]
    show(if AG l j [63]=true then(if(true&&AG l (j+1) [58])=true then _ else _)else _)=_
    rw[h.AG,if_pos (by rfl),h.one.AG,if_neg (by decide),h.one.FX]
    show PR.ok (FQ 1 xs) (j+1+1)=PR.ok (FQ 1 xs) (j+0+1+1)
    congr 1;omega
   |false=>
    rw[he]at h
    have h:TS l j (AF [44]::AF [63]::AF [125]::r):=h
    rw[FT,h.AG,if_neg (by decide),he,if_neg (by decide),h.FX]
    show(if AG l (j+1) [63]=true then(if(false&&AG l (j+1+1) [58])=true then _ else _)else _)=_
    rw[h.one.AG,if_pos (by rfl),Bool.false_and,if_neg (by decide),h.one.one.FX]
    show PR.ok (FQ 1 xs) (j+1+1+1)=PR.ok (FQ 1 xs) (j+0+2+1)
    congr 1;omega
 |x::ps,l,d,j,xs,r,f,hx,hn,h,hf,h0,hd=>by
  have g:=hx x List.mem_cons_self
  have hnn:=hn [] x ps U
  rw[List.append_nil]at hnn
  rw[show(xs.isEmpty&&(x::ps).isEmpty)=false by simp]at h ⊢
  rw[C1,if_pos U,List.append_assoc,List.append_assoc,List.append_assoc]at h
  rw[C1,if_pos U]at hf ⊢
  obtain⟨f,rfl⟩: ∃g,f=g+1:=⟨f-1,by omega⟩
  have hnst:AG l j [125]=false:=by
   cases he:xs.isEmpty with
   |true=>
    rw[he,if_pos U]at h
    unfold Eng.AG
    rcases(qI (r:=AF [58]::(DA x++(C1 true false ps++(NY o false++AF [125]::r)))) h).1 with e|e<;>rw[e]<;>rfl
   |false=>
    rw[he,if_neg (by decide)]at h
    rw[TS.AG (t:=AF [44]) (r:=[NU x.t.name,AF [58]]++(DA x++(C1 true false ps++(NY o false++AF [125]::r)))) h]
    rfl
  obtain⟨t,r2,e2,ht⟩:=qZ (nm:=true) (Ag7 o r) ps
  obtain⟨s1,s2⟩:=qJ h
  rw[e2]at s2
  have s3:TS l _ (NU x.t.name::AF [58]::(DA x++t::r2)):=s2
  obtain⟨n1,n2⟩:=qI s3
  simp only[ln,List.length_append,List.length_cons,List.length_nil]at hf
  have h3:=hp x g.all g.zm g.op g.size l d _ t r2 f s3.one.one ht (by simp only[ln];omega) h0 (hd x List.mem_cons_self)
  have h4:=TS.add s3.one.one
  rw[<-e2]at h4
  have ih:=r7 hp ho ps l d _ (xs++[x]) r f (λ y hy=>hx y (List.mem_cons_of_mem _ hy)) (λ a y b e=>by rw[List.append_assoc];exact hn (x::a) y b (by rw[e];rfl)) (by rw[SA,Bool.false_and];exact h4) (by rw[SA];simp only[ln];omega) h0 (λ y hy=>hd y (List.mem_cons_of_mem _ hy))
  rw[FT,hnst,if_neg (by decide),s1]
  obtain⟨K,hK⟩: ∃K,K=j+len (if xs.isEmpty=true then([]:List Tk)else [AF [44]]):=⟨_,rfl⟩
  rw[<-hK]at n1 n2 s3 h3 ih ⊢
  have q63:AG l K [63]=false:=by
   unfold Eng.AG
   rcases n1 with e|e<;>rw[e]<;>rfl
  show(if AG l K [63]=true then _ else if(at' l K).kind≠2/\(at' l K).kind≠4\/(at' l K).s∈xs.map (λ x=>x.t.name)then _ else _)=_
  rw[q63,if_neg (by decide),n2,if_neg (by rintro(h|h);(rcases n1 with e|e;exact h.1 e;exact h.2 e);exact hnn h),s3.one.FX]
  show(C3 AE rt f l d (K+1+1)).bind _=_
  rw[h3]
  show FT AE rt f l d (xs++[(x.named []).named x.t.name]) _=_
  rw[Ag6,show x.named x.t.name=x by cases x;rfl,ih,SA,Bool.false_and,A5,A5,A5,List.append_assoc]
  show PR.ok (FQ o (xs++(x::ps))) _=PR.ok (FQ o (xs++(x::ps))) _
  rw[show len [NU x.t.name,AF [58]]=2 from rfl]
  congr 1;omega
end Go.Eng
