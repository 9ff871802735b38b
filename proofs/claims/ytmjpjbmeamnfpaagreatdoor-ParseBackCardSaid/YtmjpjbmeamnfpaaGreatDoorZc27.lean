/-
  Parts Fw Fr Rc Rd, put together and made short by wip/py/merge.py (mini.py).
-/
import Derived.Test.YtmjpjbmeamnfpaaGreatDoorZc21
import Derived.Test.YtmjpjbmeamnfpaaGreatDoorZc24
import Derived.Test.YtmjpjbmeamnfpaaGreatDoorZc26
import Derived.Test.YtmjpjbmeamnfpaaGreatDoorZc7
import Derived.Test.YtmjpjbmeamnfpaaGreatDoorZc14
import Derived.Test.YtmjpjbmeamnfpaaGreatDoorZc0
set_option linter.unusedVariables false
set_option linter.unusedSimpArgs false
namespace Go.Eng
open Go.RowKit
mutual
def Tf.size:Tf->Nat
 | .mk _ ps=>1+AQ ps
def AQ:List Tf->Nat
 |[]=>0
 |x::l=>x.size+AQ l
end
mutual
theorem Tf.E5:(x:Tf)->x.flat.length=x.size
 | .mk n ps=>by rw[Tf.flat,Tf.size,List.length_cons,TB ps];omega
theorem TB:(l:List Tf)->(B1 l).length=AQ l
 |[]=>rfl
 |t::ts=>by rw[B1,AQ,List.length_append,Tf.E5 t,TB ts]
end
theorem MA(a b:List Tf):AQ (a++b)=AQ a+AQ b:=by
 induction a with
 |nil=>simp[AQ]
 |cons x a ih=>rw[List.cons_append,AQ,AQ,ih];omega
theorem Tf.size_pos (t:Tf):1<=t.size:=by cases t;rw[Tf.size];omega
theorem Tf.size_eq (t:Tf):t.size=1+AQ t.ps:=by cases t;rfl
theorem QW(l:List Tf):len l<=AQ l:=by
 induction l with
 |nil=>exact Int.le_refl _
 |cons t l ih=>rw[A7,AQ];have:=t.size_pos;omega
def Tf.node (x:Tf):Tm:= { x.t with many:=len x.ps}
theorem Tf.TC (x:Tf):x.flat=x.node::B1 x.ps:=by cases x;rfl
def C5(v:Fl)(i:Int)(l:List Tf):Prop:=0<=i/\ ∃pre post,v=pre++(B1 l++post)/\len pre=i
theorem C5.le {v:Fl}{i:Int}{l:List Tf}(h:C5 v i l):i+AQ l<=len v:=by
 obtain⟨h0,pre,post,rfl,rfl⟩:=h
 unfold len;simp only[List.length_append,TB];omega
theorem C5.kids {v:Fl}{i:Int}{n:Tm}{ps ts:List Tf}(h:C5 v i (.mk n ps::ts)):C5 v (i+1) (ps++ts):=by
 obtain⟨h0,pre,post,rfl,rfl⟩:=h
 exact⟨by omega,pre++[{ n with many:=len ps}],post,by rw[B1,Tf.flat,LY];simp,by unfold len;simp⟩
theorem C5.bW {v:Fl}{i:Int}{x:Tf}{ts:List Tf}(h:C5 v i (x::ts)):C5 v (i+1) (x.ps++ts):=by cases x;exact h.kids
theorem C5.skip {v:Fl}{i:Int}{a b:List Tf}(h:C5 v i (a++b)):C5 v (i+AQ a) b:=by
 obtain⟨h0,pre,post,rfl,rfl⟩:=h
 exact⟨by omega,pre++B1 a,post,by rw[LY];simp,by unfold len;rw[List.length_append,TB];omega⟩
theorem C5.rest {v:Fl}{i:Int}{x:Tf}{b:List Tf}(h:C5 v i (x::b)):C5 v (i+x.size) b:=by
 have:=C5.skip (a:=[x]) h
 rw[AQ,AQ,Nat.add_zero]at this;exact this
theorem C5.head {v:Fl}{i:Int}{x:Tf}{b:List Tf}(h:C5 v i (x::b)):C5 v i [x]:=by
 obtain⟨h0,pre,post,rfl,rfl⟩:=h
 exact⟨h0,pre,B1 b++post,by simp[B1],rfl⟩
theorem C5.left {v:Fl}{i:Int}{a b:List Tf}(h:C5 v i (a++b)):C5 v i a:=by
 obtain⟨h0,pre,post,rfl,rfl⟩:=h
 exact⟨h0,pre,B1 b++post,by rw[LY];simp,rfl⟩
theorem C5.node {v:Fl}{i:Int}{x:Tf}{b:List Tf}(h:C5 v i (x::b)):0<=i/\i<len v/\A2 v i=x.node:=by
 have hl:=h.le
 have hz:=x.size_pos
 obtain⟨h0,pre,post,rfl,rfl⟩:=h
 rw[AQ]at hl
 refine⟨h0,by omega,?_⟩
 unfold A2 len
 rw[Int.toNat_natCast,List.getD_eq_getElem?_getD,List.getElem?_append_right (Nat.le_refl _),Nat.sub_self,B1,Tf.TC];rfl
theorem C5.top (x:Tf):C5 x.flat 0 [x]:=⟨Int.le_refl _,[],[],by simp[B1],rfl⟩
theorem Tf.IG (x:Tf):A2 x.flat 0=x.node:=(C5.top x).node.2.2
theorem Tf.lU (x:Tf):C5 x.flat 1 x.ps:=by
 have:=(C5.top x).bW
 rw[List.append_nil]at this;exact this
theorem AB9{v:Fl}{i:Int}{x:Tf}{b:List Tf}(h:C5 v i (x::b)):Eng.sub v i (i+x.size)=x.flat:=by
 obtain⟨h0,pre,post,rfl,rfl⟩:=h
 unfold Eng.sub len
 have:(Int.toNat ((pre.length:Int)+x.size))-(Int.toNat (pre.length:Int))=x.flat.length:=by rw[Tf.E5];omega
 simp only[Int.toNat_natCast]at*
 rw[B1,List.drop_left,this,List.append_assoc,List.take_left]
def IH:Nat->Fl->Int->Int->Int
 |0,_,_,_=> -1
 |f+1,v,op,i=>if op<=0 then i else if len v<=i\/(A2 v i).many<0\/len v<(A2 v i).many then-1 else IH f v (op-1+(A2 v i).many) (i+1)
def J7(v:Fl)(i:Int):Int:=IH (v.length+2) v 1 i
theorem lV{f:Nat}{v:Fl}{op i:Int}(h:op<=0):IH (f+1) v op i=i:=by rw[IH,if_pos h]
theorem AC0{v:Fl}: ∀(n:Nat) (ts:List Tf) (f:Nat) (op i:Int),AQ ts=n->C5 v i ts->0<=op->IH (f+n) v (op+len ts) i=IH f v op (i+n):=by
 intro n
 induction n with
 |zero=>
  intro ts f op i hn hs ho
  cases ts with
  |nil=>simp[len]
  |cons t ts=>rw[AQ]at hn;have:=t.size_pos;omega
 |succ n ih=>
  intro ts f op i hn hs ho
  cases ts with
  |nil=>rw[AQ]at hn;omega
  |cons t ts=>
   obtain⟨n0,ps⟩:=t
   have h1:=hs.node
   have hle:=hs.le
   have hps:=QW ps
   have hp0:=AA ps
   have hk:=hs.kids
   rw[AQ,Tf.size]at hn hle
   rw[show f+(n+1)=(f+n)+1 by omega,IH,if_neg (by rw[A7];have:=AA ts;omega),h1.2.2]
   show(if len v<=i\/len ps<0\/len v<len ps then(-1:Int)else IH (f+n) v (op+len (Tf.mk n0 ps::ts)-1+len ps) (i+1))=_
   rw[if_neg (by omega)]
   have:=ih (ps++ts) f op (i+1) (by rw[MA];omega) hk ho
   rw[A5]at this
   rw[A7,show op+(len ts+1)-1+len ps=op+(len ps+len ts) by omega,this]
   congr 1;omega
theorem TE{v:Fl}{i:Int}{t:Tf}{b:List Tf}(h:C5 v i (t::b)):J7 v i=i+t.size:=by
 have hs:=h.head
 have hle:=hs.le
 have:=h.1
 have hsz:AQ [t]=t.size:=by simp[AQ]
 obtain⟨f,hf⟩: ∃f,v.length+2=(f+1)+t.size:=⟨v.length+1-t.size,by unfold len at hle;omega⟩
 unfold J7
 rw[hf]
 have:=AC0 t.size [t] (f+1) 0 i hsz hs (by omega)
 rw[show(0:Int)+len [t]=1 from rfl]at this
 rw[this,lV (by omega)]
mutual
def Tf.zm:Tf->Prop
 | .mk t ps=>t.many=0/\H8 ps
def H8:List Tf->Prop
 |[]=>True
 |x::l=>x.zm/\H8 l
end
theorem bX{a b:List Tf}:H8 (a++b)↔H8 a/\H8 b:=by
 induction a with
 |nil=>simp[H8]
 |cons x a ih=>rw[List.cons_append,H8,H8,ih,and_assoc]
theorem AC1{l:List Tf}:H8 l↔ ∀x∈l,x.zm:=by
 induction l with
 |nil=>simp[H8]
 |cons x l ih=>rw[H8,ih];simp
theorem lW{v:Fl}: ∀(f:Nat) (op i j:Int),IH f v op i=j->j≠ -1->0<=i->i<=len v->0<=op-> ∃ts,len ts=op/\H8 ts/\C5 v i ts/\j=i+AQ ts
 |0,op,i,j,h,hj,_,_,_=>by rw[IH]at h;omega
 |f+1,op,i,j,h,hj,h0,h1,ho=>by
  rw[IH]at h
  split at h
  ·refine⟨[],by rw[len_nil];omega,trivial,⟨h0,v.take i.toNat,v.drop i.toNat,by simp[B1],by unfold len at*;rw[List.length_take];omega⟩,by simp[AQ];omega⟩
  ·split at h
   ·omega
   ·rename_i hb
    have hlt:i<len v:=by omega
    obtain⟨ts,e1,e2,e3,e4⟩:=lW f _ _ j h hj (by omega) (by omega) (by omega)
    have hmn:(A2 v i).many.toNat<=ts.length:=by unfold len at e1;omega
    have hml:len (ts.take (A2 v i).many.toNat)=(A2 v i).many:=by unfold len;rw[List.length_take];omega
    refine⟨.mk { A2 v i with many:=0} (ts.take (A2 v i).many.toNat)::ts.drop (A2 v i).many.toNat,?_,?_,?_,?_⟩
    ·rw[A7];unfold len at*;rw[List.length_drop];omega
    ·have:=List.take_append_drop (A2 v i).many.toNat ts
     rw[<-this,bX]at e2
     rw[H8,Tf.zm]
     exact⟨⟨rfl,e2.1⟩,e2.2⟩
    ·obtain⟨_,pre,post,hv,hp⟩:=e3
     refine⟨h0,v.take i.toNat,post,?_,by unfold len at*;rw[List.length_take];omega⟩
     rw[B1,Tf.flat,hml,List.cons_append,<-LY,List.take_append_drop]
     have hpre:pre=v.take (i.toNat+1):=by
      have:pre=v.take pre.length:=by rw[hv];simp
      rw[this];congr 1;unfold len at hp;omega
     have hi:i.toNat<v.length:=by unfold len at hlt;omega
     have h4:v.take (i.toNat+1)=v.take i.toNat++[A2 v i]:=by
      rw[List.take_add_one,List.getElem?_eq_getElem hi];simp[A2,List.getD_eq_getElem?_getD,hi]
     rw[hpre,h4]at hv
     calc v=(v.take i.toNat++[A2 v i])++(B1 ts++post):=hv
      _=_:=by simp
    ·rw[e4,AQ,Tf.size]
     have:=MA (ts.take (A2 v i).many.toNat) (ts.drop (A2 v i).many.toNat)
     rw[List.take_append_drop]at this
     omega
theorem AC2{v:Fl}(h:J7 v 0=len v)(hne:v≠[]): ∃x:Tf,x.zm/\v=x.flat:=by
 have hl:=AA v
 obtain⟨ts,e1,e2,e3,e4⟩:=lW _ _ _ _ h (by omega) (Int.le_refl _) hl (by omega)
 cases ts with
 |nil=>rw[len_nil]at e1;omega
 |cons t ts=>
  cases ts with
  |cons u us=>rw[A7,A7]at e1;have:=AA us;omega
  |nil=>
   refine⟨t,e2.1,?_⟩
   obtain⟨_,pre,post,hv,hp⟩:=e3
   have h1:pre=[]:=List.eq_nil_of_length_eq_zero (by unfold len at hp;omega)
   have h2:post=[]:=by
    refine List.eq_nil_of_length_eq_zero ?_
    have:=congrArg List.length hv
    simp only[List.length_append,TB]at this
    unfold len at e4;omega
   rw[hv,h1,h2];simp[B1]
theorem AC3(x:Tf):J7 x.flat 0=len x.flat:=by
 rw[TE (C5.top x)]
 show 0+(x.size:Int)=(x.flat.length:Nat)
 rw[Tf.E5];omega
theorem Tf.AC4 (n:A1)(x:Tf):(x.named n).flat.length=x.flat.length:=by cases x;rfl
theorem Tf.AC5 (n:A1)(x:Tf):(x.named n).ps=x.ps:=by cases x;rfl
theorem Tf.AC6 (n:A1)(x:Tf):(x.named n).size=x.size:=by cases x;rfl
theorem Tf.AC7 (x:Tf):x.named x.t.name=x:=by cases x;rfl
theorem Tf.AC8 (n m:A1)(x:Tf):(x.named n).named m=x.named m:=by cases x;rfl
theorem MB{u:Tf}: ∀ {l:List Tf},u∈l->u.size<=AQ l
 |t::l,h=>by
  rw[AQ]
  rcases List.mem_cons.1 h with rfl|h
  ·omega
  ·have:=MB h;omega
theorem AC9(l:List Tf)(n:Nat):AQ (l.take n)<=AQ l:=by
 have:=MA (l.take n) (l.drop n);rw[List.take_append_drop]at this;omega
theorem AD0: ∀(n:Nat) (a b:List Tf),AQ a=n->H8 a->H8 b->len a=len b->B1 a=B1 b->a=b:=by
 intro n
 induction n with
 |zero=>
  intro a b hn _ _ hl _
  cases a with
  |nil=>cases b with
   |nil=>rfl
   |cons y b=>rw[len_nil,A7]at hl;have:=AA b;omega
  |cons x a=>rw[AQ]at hn;have:=x.size_pos;omega
 |succ n ih=>
  intro a b hn ha hb hl he
  cases a with
  |nil=>rw[AQ]at hn;omega
  |cons x a=>
   cases b with
   |nil=>rw[len_nil,A7]at hl;have:=AA a;omega
   |cons y b=>
    obtain⟨t,ps⟩:=x
    obtain⟨u,qs⟩:=y
    rw[H8,Tf.zm]at ha hb
    rw[B1,B1,Tf.flat,Tf.flat,List.cons_append,List.cons_append,<-LY,<-LY]at he
    obtain⟨h1,h2⟩:=List.cons.inj he
    rw[AQ,Tf.size]at hn
    rw[A7,A7]at hl
    have hm:len ps=len qs:=congrArg Tm.many h1
    have htu:t=u:=by
     obtain⟨o,m,nm,s,k,c⟩:=t
     obtain⟨o',m',nm',s',k',c'⟩:=u
     have e1:m=0:=ha.1.1
     have e2:m'=0:=hb.1.1
     simp only[Tm.mk.injEq]at h1 ⊢
     exact⟨h1.1,by omega,h1.2.2.1,h1.2.2.2.1,h1.2.2.2.2.1,h1.2.2.2.2.2⟩
    have h3:=ih (ps++a) (qs++b) (by rw[MA];omega) (bX.2 ⟨ha.1.2,ha.2⟩) (bX.2 ⟨hb.1.2,hb.2⟩) (by rw[A5,A5];omega) h2
    have hlen:ps.length=qs.length:=by unfold len at hm;omega
    obtain⟨h4,h5⟩:=List.append_inj h3 hlen
    rw[htu,h4,h5]
theorem Tf.AD1 {x y:Tf}(hx:x.zm)(hy:y.zm)(h:x.flat=y.flat):x=y:=by
 have:=AD0 _ [x] [y] U ⟨hx,trivial⟩ ⟨hy,trivial⟩ U (by show x.flat++[]=y.flat++[];rw[h])
 exact(List.cons.inj this).1
end Go.Eng
namespace Go.Eng
open Go.RowKit
def CN(t:Tm):Bool:=decide (16<=t.op)&&decide (t.op<=19)
def EJ(t:Tm):Tm:=⟨t.op,t.many,t.name,[],0,AO⟩
def J8(n:Nd):Nd:= { n with name:=[]}
def II(n:Nd):Bool:=
 if n.kind=0\/n.kind=1\/n.kind=2 then decide (J8 n=⟨n.kind,0,[],[],false,0⟩)
 else if n.kind=3 then GK (J8 n)
 else if n.kind=4 then E6 n.s&&decide (J8 n=⟨n.kind,0,[],n.s,false,0⟩)
 else if n.kind=5\/n.kind=6 then decide (0<=n.many)&&decide (J8 n=⟨n.kind,n.many,[],[],false,0⟩)
 else false
def J9(c:Nd):Bool:=decide (c.kind<5)&&(decide (c.name=[])&&decide (c.many=0)&&II c)
def EP(t:Tm):Bool:=
 if t.op=0\/t.op=10\/t.op=11\/t.op=14 then decide (t=EJ t)&&decide (t.many=0)
 else if t.op=1 then decide (t= { EJ t with s:=t.s})&&decide (t.many=0)&&E6 t.s
 else if t.op=2\/t.op=3 then decide (t= { EJ t with n:=t.n})&&decide (t.many=0)&&decide (0<=t.n)&&decide (t.n<=1000000)
 else if t.op=4\/t.op=17\/t.op=18 then decide (t=EJ t)&&decide (t.many=2)
 else if t.op=5\/t.op=6\/t.op=7\/t.op=19 then decide (t=EJ t)&&decide (t.many=1)
 else if t.op=8\/t.op=9 then decide (t=EJ t)&&decide (0<=t.many)
 else if t.op=12\/t.op=13\/t.op=15 then decide (t= { EJ t with s:=t.s})&&decide (t.many=0)&&K0 t.s
 else if t.op=16 then decide (t= { EJ t with s:=t.s,n:=t.n,c:=t.c})&&decide (t.many=0)&&K0 t.s&&decide (0<=t.n)&&decide (t.n<=5)&&J9 t.c
 else false
def KX(t:Tm)(dn:List Tf)(x:Tf):Bool:=
 if(CN x.t != (CN t||t.op==7))||(t.op==4&&dn.isEmpty&&x.t.op==4)then false
 else if(t.op≠8/\x.t.name≠[])\/(t.op=8/\(E6 x.t.name=false\/x.t.name∈dn.map (·.t.name)))then false
 else true
def FC(t:Tm):List Tf->List Tf->Bool
 |_,[]=>true
 |dn,x::r=>KX t dn x&&FC t (dn++[x]) r
mutual
def Tf.IJ:Tf->Bool
 | .mk t ps=>EP { t with many:=len ps}&&FC t [] ps&&GQ ps
def GQ:List Tf->Bool
 |[]=>true
 |x::l=>x.IJ&&GQ l
end
theorem AD2(a b:List Tf):GQ (a++b)=(GQ a&&GQ b):=by
 induction a with
 |nil=>simp[GQ]
 |cons x a ih=>rw[List.cons_append,GQ,GQ,ih,Bool.and_assoc]
theorem AD3{l:List Tf}(h:GQ l=true): ∀x∈l,x.IJ=true:=by
 induction l with
 |nil=>intro x hx;cases hx
 |cons y l ih=>
  rw[GQ,Bool.and_eq_true]at h
  intro x hx
  rcases List.mem_cons.1 hx with rfl|hx
  ·exact h.1
  ·exact ih h.2 x hx
structure Tf.BP (x:Tf):Prop where
 zm:x.zm
 ok:x.IJ=true
theorem Tf.BP.kids {x:Tf}(h:x.BP): ∀y∈x.ps,y.BP:=by
 obtain⟨t,ps⟩:=x
 obtain⟨h1,h2⟩:=h
 rw[Tf.zm]at h1
 rw[Tf.IJ,Bool.and_eq_true]at h2
 exact λ y hy=>⟨AC1.1 h1.2 y hy,AD3 h2.2 y hy⟩
theorem lX{t:Tm}: ∀ {r dn:List Tf},FC t dn r=true-> ∀(a:List Tf) (x:Tf) (b:List Tf),r=a++x::b->KX t (dn++a) x=true
 |[],dn,_,a,x,b,e=>by cases a<;>cases e
 |y::r,dn,h,a,x,b,e=>by
  rw[FC,Bool.and_eq_true]at h
  cases a with
  |nil=>obtain⟨rfl,rfl⟩:=List.cons.inj e;rw[List.append_nil];exact h.1
  |cons z a=>
   obtain⟨rfl,e2⟩:=List.cons.inj e
   have:=lX h.2 a x b e2
   rwa [List.append_assoc]at this
structure lY (t:Tm) (dn:List Tf) (x:Tf):Prop where
 c:CN x.t=(CN t||t.op==7)
 p:t.op=4->dn=[]->x.t.op≠4
 n:t.op≠8->x.t.name=[]
 u:t.op=8->E6 x.t.name=true
 d:t.op=8->x.t.name ∉ dn.map (·.t.name)
theorem AD4{t:Tm}{dn:List Tf}{x:Tf}(h:KX t dn x=true):lY t dn x:=by
 unfold KX at h
 split at h
 ·cases h
 ·rename_i h1
  split at h
  ·cases h
  ·rename_i h2
   simp only[Bool.or_eq_true,bne_iff_ne,ne_eq,Bool.and_eq_true,beq_iff_eq,not_or,Decidable.not_not,not_and]at h1
   refine⟨?_,λ e1 e2 e3=>h1.2 ⟨e1,by rw[e2];rfl⟩ e3,λ e=>?_,λ e=>?_,λ e hm=>h2 (.inr ⟨e,.inr hm⟩)⟩
   ·rw[h1.1]
   ·by_cases hn:x.t.name=[]
    ·exact hn
    ·exact absurd (.inl ⟨e,hn⟩) h2
   ·cases hu:E6 x.t.name with
    |true=>rfl
    |false=>exact absurd (.inr ⟨e,.inl hu⟩) h2
theorem Tf.BP.IK {x:Tf}(h:x.BP)(a:List Tf)(y:Tf)(b:List Tf)(e:x.ps=a++y::b):lY x.t a y:=by
 obtain⟨t,ps⟩:=x
 have h2:=h.ok
 rw[Tf.IJ,Bool.and_eq_true,Bool.and_eq_true]at h2
 have:=lX h2.1.2 a y b e
 exact AD4 this
theorem Tf.BP.plain {x:Tf}(h:x.BP):EP x.node=true:=by
 obtain⟨t,ps⟩:=x
 have h2:=h.ok
 rw[Tf.IJ,Bool.and_eq_true,Bool.and_eq_true]at h2
 exact h2.1.1
def AD5(v:Fl):Prop:= ∃x:Tf,x.zm/\v=x.flat/\x.t.name=[]/\x.IJ=true
open Classical in
noncomputable def KY (v:Fl):Bool:=decide (AD5 v)
noncomputable def bY (v:Fl):Bool:=KY v&& !CN (A2 v 0)
def OA(t:Tm):Bool:=decide (len t.s<=100)&&decide (len t.name<=100)&&decide (len t.c.s<=100)
noncomputable def QX (v:Fl) (m:Int):Bool:=decide (len v<=m)&&v.all OA&&bY v
open Classical in
theorem AD6{x:Tf}(hz:x.zm)(hn:x.t.name=[]):KY x.flat=x.IJ:=by
 unfold KY
 cases h:x.IJ with
 |true=>exact decide_eq_true ⟨x,hz,rfl,hn,h⟩
 |false=>
  refine decide_eq_false ?_
  rintro⟨y,h1,h2,h3,h4⟩
  rw[<-Tf.AD1 hz h1 h2,h]at h4;cases h4
open Classical in
theorem lZ{v:Fl}(h:v=[]\/(A2 v 0).name≠[]\/J7 v 0≠len v):KY v=false:=by
 unfold KY
 refine decide_eq_false ?_
 rintro⟨x,h1,rfl,h3,h4⟩
 rcases h with h|h|h
 ·exact x.jZ h
 ·rw[x.IG]at h;exact h h3
 ·exact h (AC3 x)
theorem AD7{v:Fl}{m:Int}(h:QX v m=true): ∃x:Tf,x.BP/\v=x.flat/\x.t.name=[]/\CN x.t=false/\len v<=m/\ ∀t∈v,len t.s<=100/\len t.name<=100/\len t.c.s<=100:=by
 unfold QX bY KY at h
 simp only[Bool.and_eq_true,decide_eq_true_eq,Bool.not_eq_true',List.all_eq_true]at h
 obtain⟨⟨h1,h2⟩,⟨x,h3,rfl,h5,h6⟩,h7⟩:=h
 refine⟨x,⟨h3,h6⟩,rfl,h5,?_,h1,λ t ht=>?_⟩
 ·rw[x.IG]at h7;exact h7
 ·have:=h2 t ht
  unfold OA at this
  simp only[Bool.and_eq_true,decide_eq_true_eq]at this
  exact⟨this.1.1,this.1.2,this.2⟩
def C6(o:Int):A1:=A2 [[109,97,112],[109,97,112,95,118,97,108,117,101,115],[115,101,108,101,99,116],[],[],[],[],[103,114,111,117,112,95,98,121],[115,111,114,116,95,98,121],[],[100,101,108]] (o-5)
def H9(c:Nd):A1:=if c.kind=0 then LG else if c.kind=1 then LF else if c.kind=2 then LD else if c.kind=3 then CP c else IU c.s
def GR(o:Int):Bool:=o==4||o==17||o==18
def FW(o:Int)(s:A1):A1:=if GR o then [40]++s++[41]else s
mutual
def B4:Tf->A1
 | .mk t ps=>
  if t.op=0 then [46]
  else if t.op=1 then [46]++DE t.s
  else if t.op=2 then [46,91]++Lib.itoa t.n++[93]
  else if t.op=3 then [46,91]++Lib.itoa t.n++[58,93]
  else if t.op=4 then bZ [32,124,32] ps
  else if t.op=8 then [123]++D3 true [44,32] true ps++[125]
  else if t.op=9 then [91]++D3 false [44,32] true ps++[93]
  else if t.op=10 then I8
  else if t.op=11 then IY
  else if t.op=14 then JK
  else if t.op=16 then t.s++[32]++A2 CH t.n++[32]++H9 t.c
  else if t.op=17 then D3 false [32,97,110,100,32] true ps
  else if t.op=18 then D3 false [32,111,114,32] true ps
  else if t.op=19 then [40]++KZ ps++[32,124,32,110,111,116,41]
  else C6 t.op++[40]++(if len ps=1 then KZ ps else t.s)++[41]
def D3:Bool->A1->Bool->List Tf->A1
 |_,_,_,[]=>[]
 |nm,bt,fst,x::l=>(if fst then []else bt)++(if nm then DE x.t.name++[58,32]else [])++FW x.t.op (B4 x)++D3 nm bt false l
def KZ:List Tf->A1
 |[]=>[]
 |x::_=>B4 x
def bZ:A1->List Tf->A1
 |_,[]=>[]
 |bt,x::l=>FW x.t.op (B4 x)++bt++mA l
def mA:List Tf->A1
 |[]=>[]
 |x::_=>B4 x
end
theorem NA(n:A1)(x:Tf):B4 (x.named n)=B4 x:=by obtain⟨t,ps⟩:=x;unfold Tf.named B4;rfl
end Go.Eng
set_option maxRecDepth 100000
namespace Go.Proofs.YtmjpjbmeamnfpaaGreatDoor
open Go.Eng
abbrev OB(c:Nd):XV:=.ag [I c.kind,I c.many,.v (str c.name),.v (str c.s),.v (.bool c.neg),I c.e]
theorem AD8(c:Nd)(w:World)(hb:len c.s<=1099511627776):Calls Tryz.prog 143 [JF c].toArray w λ e w'=>e= .returned (.bool (II c))/\Ext w w':=by
 refine B8 B3 Tryz.func143 U Tryz.ntmps143 [] [] [OB c] U (H3 w) AF (λ B hB=>?_) U
 refine JU 1 U (A0 U) (by omega) U U (A0 U) λ bb=>?_
 refine G8 0 (λ s=> ∃b:Bool,(b=true↔(c.kind=0\/c.kind=1\/c.kind=2))/\s=⟨[],[(1,.box bb [I c.kind,I c.many,.v (str []),.v (str c.s),.v (.bool c.neg),I c.e] 46)],[Z 1 (.bx 1 bb 0),Z 5 (I c.kind),Z 6 (.v (.bool b))]⟩) U (A0 U) (by omega) U (λ h1=>?_) (λ h1=>?_) ?_
 ·exact BO _ U (A0 U) (by omega) U ⟨_,by simp only[zb]at h1 ⊢;omega,rfl⟩
 ·refine AE U (A0 U) (by omega) (λ h2=>?_) (λ h2=>?_)
  ·exact BO _ U (A0 U) (by omega) U ⟨_,by simp only[zb]at h2 ⊢;omega,rfl⟩
  ·exact BO _ U (A0 U) (by omega) U ⟨_,by simp only[zb]at h1 h2 ⊢;omega,rfl⟩
 rintro _ ⟨b,hbk,rfl⟩
 refine AE U (A0 U) (by omega) (λ h3=>?_) (λ h3=>?_)
 ·refine CX (.v (.bool (decide (J8 c=⟨c.kind,0,[],[],false,0⟩)))) U (A0 U) (by omega) U (λ w M hX=>PV.bin (AT (v:=OB (J8 c)) U (A0 U)) (AT (v:=OB ⟨c.kind,0,[],[],false,0⟩) U (A0 U)) (λ _ w _=>Y1 _ _ _ _ w)) ?_
  refine AD hB U U (A0 U) (by omega) U (A0 U) λ w M hX=>⟨?_,hX.st.low⟩
  unfold II;rw[if_pos (hbk.1 h3)];rfl
 have hk:=λ e=>(by rw[h3]at hbk;simp at hbk;omega: ¬(c.kind=0\/c.kind=1\/c.kind=2)) e
 refine AE U (A0 U) (by omega) (λ h4=>?_) (λ h4=>?_)<;>simp only[zb]at h4
 ·refine B7 U (A0 U) (by omega) Tryz.call191 U U (A0 U) (λ _ w M hX=>rE (J8 c) w (by show len c.s<=_;omega)) U ?_
  refine AD hB U U (A0 U) (by omega) U (A0 U) λ w M hX=>⟨?_,hX.st.low⟩
  unfold II;rw[if_neg hk,if_pos h4];rfl
 refine AE U (A0 U) (by omega) (λ h5=>?_) (λ h5=>?_)<;>simp only[zb]at h5
 ·refine B7 U (A0 U) (by omega) Tryz.call59 U U (A0 U) (λ _ w M hX=>QU (Y0 c.s w (by omega))) U ?_
  refine CX (.v (.bool (decide (J8 c=⟨c.kind,0,[],c.s,false,0⟩)))) U (A0 U) (by omega) U (λ w M hX=>PV.bin (AT (v:=OB (J8 c)) U (A0 U)) (AT (v:=OB ⟨c.kind,0,[],c.s,false,0⟩) U (A0 U)) (λ _ w _=>Y1 _ _ _ _ w)) ?_
  refine AD hB U U (A0 U) (by omega) U (A0 U) λ w M hX=>⟨?_,hX.st.low⟩
  unfold II;rw[if_neg hk,if_neg h4,if_pos h5];rfl
 refine G8 0 (λ s=> ∃b:Bool,(b=true↔(c.kind=5\/c.kind=6))/\s=⟨[],[(1,.box bb [I c.kind,I c.many,.v (str []),.v (str c.s),.v (.bool c.neg),I c.e] 46)],[Z 1 (.bx 1 bb 0),Z 33 (.v (.bool b))]⟩) U (A0 U) (by omega) U (λ h1=>?_) (λ h1=>?_) ?_
 ·exact BO _ U (A0 U) (by omega) U ⟨_,by simp only[zb]at h1 ⊢;omega,rfl⟩
 ·exact BO _ U (A0 U) (by omega) U ⟨_,by simp only[zb]at h1 ⊢;omega,rfl⟩
 rintro _ ⟨b2,hbk2,rfl⟩
 refine AE U (A0 U) (by omega) (λ h6=>?_) (λ h6=>?_)
 ·refine CX (.v (.bool (decide (J8 c=⟨c.kind,c.many,[],[],false,0⟩)))) U (A0 U) (by omega) U (λ w M hX=>PV.bin (AT (v:=OB (J8 c)) U (A0 U)) (AT (v:=OB ⟨c.kind,c.many,[],[],false,0⟩) U (A0 U)) (λ _ w _=>Y1 _ _ _ _ w)) ?_
  refine AD hB U U (A0 U) (by omega) U (A0 U) λ w M hX=>⟨?_,hX.st.low⟩
  unfold II;rw[if_neg hk,if_neg h4,if_neg h5,if_pos (hbk2.1 h6)];rfl
 ·have hk2: ¬(c.kind=5\/c.kind=6):=λ e=>by have:=hbk2.2 e;rw[h6]at this;cases this
  refine AD hB U U (A0 U) (by omega) U (A0 U) λ w M hX=>⟨?_,hX.st.low⟩
  unfold II;rw[if_neg hk,if_neg h4,if_neg h5,if_neg hk2];rfl
theorem AD9(c:Nd)(v:Value)(M:Mem)(w:World)(hM:Sat w M)(hv:Sl M 6 [c].length v ([c].flatMap Nd.cells)):
    Calls Tryz.prog 142 [v,i64 0].toArray w λ e w'=>e= .returned (i64 (if c.many=0 then 1 else-1))/\Ext w w':=by
 have hl:len [c]=1:=rfl
 refine B8 (Hr:=[]) B3 Tryz.func142 U Tryz.ntmps142 [(0,kn v 6 [c] Nd.cells)] [] [.sl 0 v,I 0] U (St.start hM) (fc 0 hv Nd.BI AF) (λ B hB=>?_) U
 refine DI (σ:=Int×Int) (λ(o,i)=>⟨[(0,kn v 6 [c] Nd.cells)],[],[Z 0 (.sl 0 v),Z 1 (I i),Z 5 (I o)]⟩) (λ(o,i)=>(o=1/\i=0)\/(o=c.many/\i=1/\0<=c.many/\c.many<=1)) (λ(o,i)=>(1-i).toNat) (1,0) U (A0 U) (by omega) U (.inl ⟨rfl,rfl⟩) ?_
 rintro⟨o,i⟩ hoi
 refine AE U (A0 U) (by omega) (λ h1=>?_) (λ h1=>?_)<;>simp only[zb]at h1
 ·have hc:i=0->(A2 [c] i).many=c.many:=λ e=>by subst e;rfl
  refine AE U (A0 U) (by simp only[zb]<;>omega) (λ h2=>?_) (λ h2=>?_)<;>simp only[zb]at h2
  ·refine AD hB U U (A0 U) (by omega) U (A0 U) λ w M hX=>⟨?_,hX.st.low⟩
   rw[if_neg (by have:=hc;omega)];rfl
  ·have hi:i=0:=by omega
   subst hi
   have hcc:(A2 [c] 0).many=c.many:=rfl
   exact CS (c.many,1) U (A0 U) (by omega) (by dsimp only;rw[show c.many=o-1+(A2 [c] 0).many by omega];rfl) (.inr ⟨rfl,rfl,by omega,by omega⟩) (by show Int.toNat _<Int.toNat _;omega)
 ·have hm:c.many=0/\i=1:=by omega
  refine AD hB U U (A0 U) (by omega) U (A0 U) λ w M hX=>⟨?_,hX.st.low⟩
  rw[if_pos hm.1,hm.2];rfl
theorem AE0(c:Nd)(v:Value)(M:Mem)(w:World)(hM:Sat w M)(hv:Sl M 6 [c].length v ([c].flatMap Nd.cells))(h0:c.many=0):
   Calls Tryz.prog 144 [v,i64 0].toArray w λ e w'=>e= .returned (.bool true)/\Ext w w':=by
 have hl:len [c]=1:=rfl
 have hm:(A2 [c] 0).many=0:=h0
 refine B8 (Hr:=[]) B3 Tryz.func144 U Tryz.ntmps144 [(0,kn v 6 [c] Nd.cells)] [] [.sl 0 v,I 0] U (St.start hM) (fc 0 hv Nd.BI AF) (λ B hB=>?_) U
 refine DI (σ:=Unit) (λ _=>⟨[(0,kn v 6 [c] Nd.cells)],[],[Z 0 (.sl 0 v),Z 1 (I 0),Z 5 (I 1),Z 6 (I 0)]⟩) (λ _=>True) (λ _=>0) () U (A0 U) (by omega) U trivial ?_
 rintro⟨⟩ _
 refine AE U (A0 U) (by omega) (λ h1=>?_) (λ h1=>?_)<;>simp only[zb]at h1
 ·omega
 ·exact AD hB U U (A0 U) (by omega) U (A0 U) λ w M hX=>⟨rfl,hX.st.low⟩
theorem AE1(c:Nd)(v:Value)(M:Mem)(w:World)(hM:Sat w M)(hv:Sl M 6 [c].length v ([c].flatMap Nd.cells))(hb:len c.s<=1099511627776):
    Calls Tryz.prog 103 [v].toArray w λ e w'=>e= .returned (.bool (decide (c.name=[])&&decide (c.many=0)&&II c))/\Ext w w':=by
 have hl:len [c]=1:=rfl
 have hn:(A2 [c] 0).name=c.name:=rfl
 refine B8 (Hr:=[]) B3 Tryz.func103 U Tryz.ntmps103 [(0,kn v 6 [c] Nd.cells)] [] [.sl 0 v] U (St.start hM) (fc 0 hv Nd.BI AF) (λ B hB=>?_) U
 refine B7 U (A0 U) (by simp only[zb]<;>omega) Tryz.call142 U U (A0 U) (λ _ w M hX=>AD9 c v M w hX.st.sat (hX.sl 0 U)) U ?_
 refine AE U (A0 U) (by simp only[zb]<;>omega) (λ h1=>?_) (λ h1=>?_)<;>simp only[zb]at h1
 ·refine AD hB U U (A0 U) (by omega) U (A0 U) λ w M hX=>⟨?_,hX.st.low⟩
  have:(decide (c.name=[])&&decide (c.many=0)&&II c)=false:=by
   rcases h1 with(h1|h1)|h1
   ·omega
   ·have h1: ¬c.name=[]:=h1
    rw[decide_eq_false h1];rfl
   ·by_cases hm:c.many=0
    ·rw[if_pos hm]at h1;omega
    ·rw[decide_eq_false hm,Bool.and_false];rfl
  rw[this];rfl
 have hm:c.many=0:=Classical.byContradiction λ e=>by rw[if_neg e]at h1;omega
 have hnm:c.name=[]:=h1.1.2
 refine DI (σ:=Int) (λ i=>⟨[(0,kn v 6 [c] Nd.cells)],[],[Z 0 (.sl 0 v),Z 3 (I i)]⟩) (λ i=>0<=i/\i<=1/\(i=1->II c=true)) (λ i=>(1-i).toNat) 0 rfl (A0 rfl) (by omega) rfl ⟨by omega,by omega,λ e=>by cases e⟩ ?_
 rintro i ⟨hi0,hi1,hip⟩
 refine AE U (A0 U) (by omega) (λ h2=>?_) (λ h2=>?_)<;>simp only[zb]at h2
 ·have hi:i=0:=by omega
  subst hi
  refine B7 U (A0 U) (by omega) Tryz.call143 U U (A0 U) (λ _ w M hX=>AD8 c w hb) U ?_
  refine B7 U (A0 U) (by omega) Tryz.call144 U U (A0 U) (λ _ w M hX=>AE0 c v M w hX.st.sat (hX.sl 0 U) hm) U ?_
  refine AE U (A0 U) (by omega) (λ h3=>?_) (λ h3=>?_)
  ·have hp:II c=false:=by simpa using h3
   refine AD hB U U (A0 U) (by omega) U (A0 U) λ w M hX=>⟨?_,hX.st.low⟩
   rw[hp,Bool.and_false];rfl
  ·have hp:II c=true:=by simpa using h3
   exact CS 1 U (A0 U) (by omega) U ⟨by omega,by omega,λ _=>hp⟩ (by show Int.toNat _<Int.toNat _;omega)
 ·have hp:=hip (by omega)
  refine AD hB U U (A0 U) (by omega) U (A0 U) λ w M hX=>⟨?_,hX.st.low⟩
  rw[hp,decide_eq_true hm,decide_eq_true hnm];rfl
end Go.Proofs.YtmjpjbmeamnfpaaGreatDoor
set_option maxRecDepth 100000
namespace Go.Proofs.YtmjpjbmeamnfpaaGreatDoor
open Go.Eng
abbrev mB(t:Tm):Value:=.agg #[i64 t.op,i64 t.many,str t.name,str t.s,i64 t.n,i64 t.c.kind,i64 t.c.many,str t.c.name,str t.c.s,.bool t.c.neg,i64 t.c.e]
abbrev GF(t:Tm):XV:=.ag [I t.op,I t.many,.v (str t.name),.v (str t.s),I t.n,I t.c.kind,I t.c.many,.v (str t.c.name),.v (str t.c.s),.v (.bool t.c.neg),I t.c.e]
theorem cA(t:Tm)(w:World):Calls Tryz.prog 46 [mB t].toArray w λ e w'=>e= .returned (.bool (CN t))/\Ext w w':=by
 refine B8 B3 Tryz.func46 U Tryz.ntmps46 [] [] [GF t] U (H3 w) AF (λ B hB=>?_) U
 refine JU 1 U (A0 U) (by omega) U U (A0 U) λ bb=>?_
 exact AD hB U U (A0 U) (by omega) U (A0 U) λ w M hX=>⟨rfl,hX.st.low⟩
theorem TF(f:Fl)(v:Value)(i:Int)(M:Mem)(w:World)(hM:Sat w M)(hv:Sl M 11 f.length v (f.flatMap Tm.cells))(hb:len f<=1048576)(h0:0<=i)(h1:i<=1048576):
    Calls Tryz.prog 54 [v,i64 i].toArray w λ e w'=>e= .returned (i64 (J7 f i))/\Ext w w':=by
 have hl0:=AA f
 refine B8 (Hr:=[]) B3 Tryz.func54 U Tryz.ntmps54 [(0,BD v f)] [] [.sl 0 v,I i] U (St.start hM) (fc 0 hv Tm.BI AF) (λ B hB=>?_) U
 refine DI (σ:=Nat×Int×Int) (λ(g,o,j)=>⟨[(0,BD v f)],[],[Z 0 (.sl 0 v),Z 1 (I j),Z 5 (I o)]⟩) (λ(g,o,j)=>IH g f o j=J7 f i/\len f+2<=g+j/\i<=j/\(o=1/\j=i\/j<=len f)/\o<=1+(j-i)*1048576/\0<=o) (λ(g,o,j)=>(len f-j).toNat) (f.length+2,1,i) U (A0 U) (by omega) U ⟨rfl,by unfold len;omega,by omega,.inl ⟨rfl,rfl⟩,by omega,by omega⟩ ?_
 rintro⟨g,o,j⟩ ⟨hg,hgj,hj,hoj,ho,ho0⟩
 refine AE U (A0 U) (by omega) (λ h2=>?_) (λ h2=>?_)<;>simp only[zb]at h2
 ·refine AE U (A0 U) (by simp only[zb]<;>omega) (λ h3=>?_) (λ h3=>?_)<;>simp only[zb]at h3
  ·have hr:J7 f i= -1:=by
    rw[<-hg]
    cases g with
    |zero=>rfl
    |succ g=>rw[IH,if_neg (by omega),if_pos (by omega)]
   refine AD hB U U (A0 U) (by omega) U (A0 U) λ w M hX=>⟨?_,hX.st.low⟩
   rw[hr];rfl
  ·obtain⟨g,rfl⟩: ∃q,g=q+1:=⟨g-1,by omega⟩
   rw[IH,if_neg (by omega),if_neg (by omega)]at hg
   exact CS (g,o-1+(A2 f j).many,j+1) U (A0 U) (by omega) U ⟨hg,by omega,by omega,.inr (by omega),by omega,by omega⟩ (by show Int.toNat _<Int.toNat _;omega)
 ·obtain⟨g,rfl⟩: ∃q,g=q+1:=⟨g-1,by omega⟩
  rw[lV (by omega)]at hg
  refine AD hB U U (A0 U) (by omega) U (A0 U) λ w M hX=>⟨?_,hX.st.low⟩
  rw[<-hg];rfl
theorem AE2(f:Fl)(v:Value)(a:Int)(dn:List Tf)(x:Tf)(r:List Tf)(M:Mem)(w:World)(hM:Sat w M)(hv:Sl M 11 f.length v (f.flatMap Tm.cells))(hb:len f<=1048576)(ha:0<=a)(hs:C5 f (a+1) (dn++x::r)):
    Calls Tryz.prog 104 [v,i64 a,i64 (a+1+AQ dn)].toArray w λ e w'=>e= .returned (.bool (decide (x.t.name∈dn.map (·.t.name))))/\Ext w w':=by
 have hx:=hs.skip.node
 have hle:=hs.le
 rw[MA,AQ]at hle
 have hxn:(A2 f (a+1+AQ dn)).name=x.t.name:=by rw[hx.2.2];rfl
 refine B8 (Hr:=[]) B3 Tryz.func104 U Tryz.ntmps104 [(0,BD v f)] [] [.sl 0 v,I a,I (a+1+AQ dn)] U (St.start hM) (fc 0 hv Tm.BI AF) (λ B hB=>?_) U
 refine DI (σ:=List Tf×List Tf×Int) (λ(p,q,i)=>⟨[(0,BD v f)],[],[Z 0 (.sl 0 v),Z 1 (I a),Z 2 (I (a+1+AQ dn)),Z 7 (I i)]⟩) (λ(p,q,i)=>dn=p++q/\i=a+1+AQ p/\x.t.name ∉ p.map (·.t.name)) (λ(p,q,i)=>q.length) ([],dn,a+1) U (A0 U) (by omega) U ⟨rfl,by simp[AQ],by simp⟩ ?_
 rintro⟨p,q,i⟩ ⟨hpq,hi,hp⟩
 have hsz:=congrArg AQ hpq
 rw[MA]at hsz
 have hsi:C5 f i (q++x::r):=by
  have:=hs
  rw[hpq,List.append_assoc]at this
  rw[hi];exact this.skip
 refine AE U (A0 U) (by omega) (λ h2=>?_) (λ h2=>?_)<;>simp only[zb]at h2
 ·cases q with
  |nil=>simp[AQ]at hsz;omega
  |cons y q=>
   have hy:=hsi.node
   have hyn:(A2 f i).name=y.t.name:=by rw[hy.2.2];rfl
   have hnx:=TE hsi
   have hys:=y.size_pos
   rw[AQ]at hsz
   refine SN U (A0 U) (by omega) IA (by decide+kernel) (SP U (A0 U) (by simp only[zb]<;>omega) ?_)
   refine AE U (A0 U) (by omega) (λ h3=>?_) (λ h3=>?_)<;>simp only[zb]at h3
   ·rw[hyn,hxn]at h3
    refine AD hB U U (A0 U) (by omega) U (A0 U) λ w M hX=>⟨?_,hX.st.low⟩
    rw[decide_eq_true (by rw[hpq];simp[h3])];rfl
   ·rw[hyn,hxn]at h3
    refine B7 U (A0 U) (by omega) Tryz.call54 U U (A0 U) (λ _ w M hX=>TF f v i M w hX.st.sat (hX.sl 0 U) hb (by omega) (by omega)) U ?_
    refine CS (p++[y],q,J7 f i) U (A0 U) (by omega) U ⟨by rw[hpq];simp,by rw[hnx,hi,MA,AQ,AQ];omega,?_⟩ (by show q.length<(y::q).length;simp)
    simp only[List.map_append,List.map_cons,List.map_nil,List.mem_append,List.mem_singleton,not_or]
    exact⟨hp,λ e=>h3 e.symm⟩
 ·have hq:q=[]:=by
   cases q with
   |nil=>rfl
   |cons y q=>rw[AQ]at hsz;have:=y.size_pos;omega
  subst hq
  rw[List.append_nil]at hpq
  subst hpq
  refine AD hB U U (A0 U) (by omega) U (A0 U) λ w M hX=>⟨?_,hX.st.low⟩
  rw[decide_eq_false hp];rfl
theorem AE3(f:Fl)(v:Value)(a:Int)(x:Tf)(z:List Tf)(M:Mem)(w:World)(hM:Sat w M)(hv:Sl M 11 f.length v (f.flatMap Tm.cells))(hb:len f<=1048576)(hs:C5 f a (x::z))(hst: ∀t∈f,len t.name<=1048576):
    Calls Tryz.prog 71 [v,i64 a].toArray w λ e w'=>e= .returned (.bool (FC x.t [] x.ps))/\Ext w w':=by
 have hx:=hs.node
 have hk:=hs.bW
 have hle:=hs.le
 rw[AQ,Tf.size_eq]at hle
 have hxo:(A2 f a).op=x.t.op:=by rw[hx.2.2];rfl
 have hxm:(A2 f a).many=len x.ps:=by rw[hx.2.2];rfl
 have hxc:CN (A2 f a)=CN x.t:=by rw[hx.2.2];rfl
 have hlp:=AA x.ps
 have hls:=QW x.ps
 refine B8 (Hr:=[]) B3 Tryz.func71 U Tryz.ntmps71 [(0,BD v f)] [] [.sl 0 v,I a] U (St.start hM) (fc 0 hv Tm.BI AF) (λ B hB=>?_) U
 refine CY 1 U (A0 U) (by omega) Tryz.zeroValue51 U λ bb=>?_
 refine DI (σ:=List Tf×List Tf×Int) (λ(p,q,i)=>⟨[(0,BD v f)],[(1,.box bb [I (A2 f a).op,I (A2 f a).many,.v (str (A2 f a).name),.v (str (A2 f a).s),I (A2 f a).n,I (A2 f a).c.kind,I (A2 f a).c.many,.v (str (A2 f a).c.name),.v (str (A2 f a).c.s),.v (.bool (A2 f a).c.neg),I (A2 f a).c.e] 51)],[Z 0 (.sl 0 v),Z 1 (I a),Z 5 (.bx 1 bb 0),Z 6 (I i),Z 7 (I (len p))]⟩) (λ(p,q,i)=>x.ps=p++q/\i=a+1+AQ p/\FC x.t [] x.ps=FC x.t p q) (λ(p,q,i)=>q.length) ([],x.ps,a+1) U (A0 U) (by omega) U ⟨rfl,by simp[AQ],rfl⟩ ?_
 rintro⟨p,q,i⟩ ⟨hpq,hi,hkk⟩
 have hsz:=congrArg AQ hpq
 rw[MA]at hsz
 have hlz:=congrArg len hpq
 rw[A5]at hlz
 have hl0:=AA p
 have hq0:=AA q
 have hsi:C5 f i (q++z):=by
  have:=hk
  rw[hpq,List.append_assoc]at this
  rw[hi];exact this.skip
 refine AE U (A0 U) (by omega) (λ h2=>?_) (λ h2=>?_)<;>simp only[zb]at h2
 ·cases q with
  |nil=>rw[len_nil]at hlz;omega
  |cons y q=>
   have hy:=hsi.node
   have hyo:(A2 f i).op=y.t.op:=by rw[hy.2.2];rfl
   have hyn:(A2 f i).name=y.t.name:=by rw[hy.2.2];rfl
   have hyc:CN (A2 f i)=CN y.t:=by rw[hy.2.2];rfl
   have hnx:=TE hsi
   have hys:=y.size_pos
   have hyl:=hst _ (at_mem hy.1 hy.2.1)
   rw[AQ]at hsz
   have hhad:C5 f (a+1) (p++y::(q++z)):=by rw[hpq]at hk;simpa using hk
   refine CY 2 U (A0 U) (by omega) Tryz.zeroValue51 U λ b2=>?_
   refine SN U (A0 U) (by omega) IA (by decide+kernel) ?_
   refine QC U (A0 U) (by simp only[zb]<;>omega) Tryz.call46 U U (A0 U) (λ _ w M hX=>cA (A2 f i) w) U ?_
   refine QC U (A0 U) (by simp only[zb]<;>omega) Tryz.call46 U U (A0 U) (λ _ w M hX=>cA (A2 f a) w) U ?_
   refine SP U (A0 U) (by simp only[zb]<;>omega) ?_
   refine AE U (A0 U) (by omega) (λ h3=>?_) (λ h3=>?_)
   ·rw[hyc,hxc,hxo,hyo]at h3
    refine AD hB U U (A0 U) (by omega) U (A0 U) λ w M hX=>⟨?_,hX.st.low⟩
    rw[hkk,FC]
    unfold KX
    rw[if_pos (by rw[T9];exact h3)];rfl
   rw[hyc,hxc,hxo,hyo]at h3
   refine B7 U (A0 U) (by simp only[zb]<;>omega) Tryz.call59 U U (A0 U) (λ _ w M hX=>QU (Y0 (A2 f i).name w (by omega))) U ?_
   refine B7 U (A0 U) (by simp only[zb]<;>omega) Tryz.call104 U U (A0 U) (λ _ w M hX=>by have:=AE2 f v a p y (q++z) M w hX.st.sat (hX.sl 0 U) hb hs.1 hhad;rw[<-hi]at this;exact this) U ?_
   refine AE U (A0 U) (by simp only[zb]<;>omega) (λ h4=>?_) (λ h4=>?_)<;>simp only[zb]at h4
   ·rw[hxo,hyn]at h4
    refine AD hB U U (A0 U) (by omega) U (A0 U) λ w M hX=>⟨?_,hX.st.low⟩
    rw[hkk,FC]
    unfold KX
    rw[if_neg (by rw[T9,h3];decide),if_pos (by rcases h4 with h4|h4;exact .inl h4;exact .inr ⟨h4.1,h4.2⟩)];rfl
   ·rw[hxo,hyn]at h4
    have hkb:KX x.t p y=true:=by
     unfold KX
     rw[if_neg (by rw[T9,h3];decide),if_neg]
     rintro(⟨q1,q2⟩|⟨q1,q2⟩)
     ·rcases h4.1 with h|h
      ·exact q1 h
      ·exact q2 h
     ·rcases h4.2 with h|h
      ·exact h q1
      ·rcases q2 with q2|q2
       ·rw[h.1]at q2;cases q2
       ·exact h.2 q2
    refine B7 U (A0 U) (by simp only[zb]<;>omega) Tryz.call54 U U (A0 U) (λ _ w M hX=>TF f v i M w hX.st.sat (hX.sl 0 U) hb (by omega) (by omega)) U ?_
    refine CS (p++[y],q,J7 f i) U (A0 U) (by omega) (by dsimp only;rw[A5];rfl) ⟨by rw[hpq];simp,by rw[hnx,hi,MA,AQ,AQ];omega,?_⟩ (by show q.length<(y::q).length;simp)
    rw[hkk,FC,hkb];rfl
 ·have hq:q=[]:=QV (by omega)
  subst hq
  refine AD hB U U (A0 U) (by omega) U (A0 U) λ w M hX=>⟨?_,hX.st.low⟩
  rw[hkk,FC];rfl
end Go.Proofs.YtmjpjbmeamnfpaaGreatDoor
