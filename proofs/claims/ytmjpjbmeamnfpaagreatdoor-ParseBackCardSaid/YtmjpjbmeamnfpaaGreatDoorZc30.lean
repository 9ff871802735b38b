/-
  Parts Fq Fz Fx Fy, put together and made short by wip/py/merge.py (mini.py).
-/
import Derived.Test.YtmjpjbmeamnfpaaGreatDoorZc29
import Derived.Test.YtmjpjbmeamnfpaaGreatDoorZc0
set_option linter.unusedVariables false
set_option linter.unusedSimpArgs false
namespace Go.Eng
open Go.RowKit
abbrev ln(x:List Tk):Nat:=x.length
abbrev extra(o:Int):Int:=if GR o then 1 else 0
def WU(n:Nat):Prop:= ∀x:Tf,x.BP->CN x.t=false->x.size<=n-> ∀(l:List Tk) (d j:Int) (t:Tk) (r:List Tk) (f:Nat),TS l j (AN x++t::r)->R1 t->8*ln (AN x)+4<=f->0<=d->d+x.size<=64+extra x.t.op->EM A9 f l d j= .ok (x.named []) (j+len (AN x))
def cI(n:Nat):Prop:= ∀x:Tf,x.BP->CN x.t=false->x.size<=n-> ∀(l:List Tk) (d j:Int) (xs:List Tf) (t:Tk) (r:List Tk) (f:Nat),TS l j (A6 [124]::(AN x++t::r))->R1 t->8*ln (AN x)+5<=f->0<=d->d+x.size<=64+extra x.t.op->HM A9 f l d xs j= .ok (DW (xs++spine x)) (j+1+len (AN x))
def TJ(n:Nat):Prop:= ∀x:Tf,x.BP->CN x.t=false->x.size<=n-> ∀(l:List Tk) (d j:Int) (t:Tk) (r:List Tk) (f:Nat),TS l j (CO x.t.op (AN x)++t::r)->F7 t->8*ln (CO x.t.op (AN x))+3<=f->0<=d->d+x.size<=64->EC A9 f l d j= .ok (x.named []) (j+len (CO x.t.op (AN x)))
def TL(n:Nat):Prop:= ∀x:Tf,x.BP->CN x.t=true->x.size<=n-> ∀(l:List Tk) (d j:Int) (t:Tk) (r:List Tk) (f:Nat),TS l j (AN x++t::r)->WR t->8*ln (AN x)+4<=f->0<=d->d+x.size<=64+extra x.t.op->G7 A9 f l d j= .ok (x.named []) (j+len (AN x))
def cJ(n:Nat):Prop:= ∀x:Tf,x.BP->CN x.t=true->x.size<=n-> ∀(l:List Tk) (d j:Int) (r:List Tk) (f:Nat),TS l j (CO x.t.op (AN x)++r)->8*ln (CO x.t.op (AN x))+2<=f->0<=d->d+x.size<=64->GM A9 f l d j= .ok (x.named []) (j+len (CO x.t.op (AN x)))
theorem R2(o:Int):0<=extra o:=by unfold extra;split<;>decide
theorem TM:R1 (A6 [41])/\WR (A6 [41]):=by unfold R1 F7 WR;decide
theorem fu{f n:Nat}(h:n+1<=f): ∃g,f=g+1/\n<=g:=⟨f-1,by omega,by omega⟩
theorem mU{l:List Tk}{j:Int}{s:A1}{r:List Tk}(h:TS l j (NB s::r)):((A2 l j).kind=2\/(A2 l j).kind=4)/\(A2 l j).s=s:=by
 obtain⟨a1,a2,_⟩:=h.at
 rw[a1,a2]
 unfold NB
 split
 ·exact⟨.inl U,rfl⟩
 ·exact⟨.inr U,rfl⟩
theorem mV{l:List Tk}{j:Int}{e:Bool}{u:List Tk}(h:TS l j ((if e=true then []else [A6 [44]])++u)):
  (if e=true then PR.ok () j else BV l j [44])= .ok () (j+len (if e=true then([]:List Tk)else [A6 [44]]))/\TS l (j+len (if e=true then([]:List Tk)else [A6 [44]])) u:=by
 cases e
 ·exact⟨TS.ND (m:=[44]) (r:=u) h,TS.add h⟩
 ·exact⟨by simp[len],TS.add h⟩
theorem AI2{e:Bool}{u:List Tk}{l:List Tk}{j:Int}{r:List Tk}(hu:FD u)(h:TS l j ((if e=true then []else [A6 [44]])++(u++r))){m:A1}(hm:m ∉ ([[46],[40],[91],[123],[44]]:List A1)):AL l j m=false:=by
 simp only[List.mem_cons,List.not_mem_nil,or_false,not_or]at hm
 cases e
 ·rw[TS.AL (t:=A6 [44]) (r:=u++r) h]
  show((1:Int)==1&&([44]:A1)==m)=false
  rw[Bool.and_eq_false_iff];right
  rw[beq_eq_false_iff_ne];intro e;exact hm.2.2.2.2 e.symm
 ·exact hu.not (r:=r) h (by simp only[List.mem_cons,List.not_mem_nil,or_false,not_or];exact⟨hm.1,hm.2.1,hm.2.2.1,hm.2.2.2.1⟩)
theorem R4{α:Type}(xs:List α)(x:α):(xs++[x]).isEmpty=false:=by cases xs<;>rfl
theorem mW{nm:Bool}{c:A1}(hc:F7 (A6 c))(ps:List Tf)(r:List Tk): ∃t r2,C8 nm [A6 [44]] false ps++A6 c::r=t::r2/\F7 t:=by
 cases ps with
 |nil=>exact⟨_,_,rfl,hc⟩
 |cons y ps=>rw[C8];exact⟨_,_,rfl,by unfold F7;decide⟩
theorem mX{n:Nat}(hp:TJ n): ∀(ps:List Tf) (l:List Tk) (d j:Int) (xs:List Tf) (r:List Tk) (f:Nat),(∀x∈ps,x.BP/\CN x.t=false/\x.size<=n/\x.t.name=[])->TS l j (C8 false [A6 [44]] xs.isEmpty ps++A6 [93]::r)->8*ln (C8 false [A6 [44]] xs.isEmpty ps)+5<=f->0<=d->(∀x∈ps,d+x.size<=64)->
  J0 A9 f l d xs j= .ok (.mk (AH 9) (xs++ps)) (j+len (C8 false [A6 [44]] xs.isEmpty ps)+1)
 |[],l,d,j,xs,r,f,_,h,hf,_,_=>by
  rw[C8]at h hf ⊢
  obtain⟨f,rfl,_⟩:=fu (n:=4) hf
  rw[J0,TS.AL (t:=A6 [93]) h,if_pos (by rfl),List.append_nil]
  simp[len]
 |x::ps,l,d,j,xs,r,f,hx,h,hf,h0,hd=>by
  obtain⟨g1,g2,g3,g4⟩:=hx x List.mem_cons_self
  rw[C8,if_neg (show ¬(false=true) by decide),List.append_nil,List.append_assoc,List.append_assoc]at h
  rw[C8,if_neg (show ¬(false=true) by decide),List.append_nil]at hf ⊢
  obtain⟨f,rfl⟩: ∃g,f=g+1:=⟨f-1,by omega⟩
  have hst:=g1.start
  have hin:=hst.CO (o:=x.t.op)
  have hin1:=hin.pos
  obtain⟨t,r2,e2,ht⟩:=mW (nm:=false) (c:=[93]) (by unfold F7;decide) ps r
  obtain⟨s1,s2⟩:=mV h
  rw[e2]at s2
  simp only[ln,List.length_append]at hf
  have h3:=hp x g1 g2 g3 l d _ t r2 f s2 ht (by simp only[ln];omega) h0 (hd x List.mem_cons_self)
  have h4:=TS.add s2
  rw[<-e2]at h4
  have ih:=mX hp ps l d _ (xs++[x]) r f (λ y hy=>hx y (List.mem_cons_of_mem _ hy)) (by rw[R4];exact h4) (by rw[R4];simp only[ln];omega) h0 (λ y hy=>hd y (List.mem_cons_of_mem _ hy))
  rw[J0,AI2 hin h (by decide),if_neg (by decide),s1]
  show(EC A9 f l d _).bind _=_
  rw[h3,Tf.K5 g4]
  show J0 A9 f l d (xs++[x]) _=_
  rw[ih,R4,A5,A5]
  show PR.ok (Tf.mk (AH 9) (xs++[x]++ps)) _=_
  rw[List.append_assoc]
  congr 1;omega
theorem mY{n:Nat}(hp:TJ n): ∀(ps:List Tf) (l:List Tk) (d j:Int) (xs:List Tf) (r:List Tk) (f:Nat),(∀x∈ps,x.BP/\CN x.t=false/\x.size<=n)->(∀a x b,ps=a++x::b->x.t.name ∉ (xs++a).map (·.t.name))->TS l j (C8 true [A6 [44]] xs.isEmpty ps++A6 [125]::r)->8*ln (C8 true [A6 [44]] xs.isEmpty ps)+5<=f->0<=d->(∀x∈ps,d+x.size<=64)->
  IZ A9 f l d xs j= .ok (.mk (AH 8) (xs++ps)) (j+len (C8 true [A6 [44]] xs.isEmpty ps)+1)
 |[],l,d,j,xs,r,f,_,_,h,hf,_,_=>by
  rw[C8]at h hf ⊢
  obtain⟨f,rfl,_⟩:=fu (n:=4) hf
  rw[IZ,TS.AL (t:=A6 [125]) h,if_pos (by rfl),List.append_nil]
  simp[len]
 |x::ps,l,d,j,xs,r,f,hx,hn,h,hf,h0,hd=>by
  obtain⟨g1,g2,g3⟩:=hx x List.mem_cons_self
  have hnn:=hn [] x ps U
  rw[List.append_nil]at hnn
  rw[C8,if_pos U,List.append_assoc,List.append_assoc,List.append_assoc]at h
  rw[C8,if_pos U]at hf ⊢
  obtain⟨f,rfl⟩: ∃g,f=g+1:=⟨f-1,by omega⟩
  have hnst: ∀m:A1,m ∉ ([[46],[40],[91],[123],[44]]:List A1)->AL l j m=false:=λ m hm=>by
   cases he:xs.isEmpty with
   |true=>
    rw[he,if_pos U]at h
    unfold Eng.AL
    rcases(mU (r:=A6 [58]::(CO x.t.op (AN x)++(C8 true [A6 [44]] false ps++A6 [125]::r))) h).1 with e|e<;>rw[e]<;>rfl
   |false=>
    rw[he,if_neg (by decide)]at h
    rw[TS.AL (t:=A6 [44]) (r:=[NB x.t.name,A6 [58]]++(CO x.t.op (AN x)++(C8 true [A6 [44]] false ps++A6 [125]::r))) h]
    show((1:Int)==1&&([44]:A1)==m)=false
    rw[Bool.and_eq_false_iff];right
    rw[beq_eq_false_iff_ne];intro e;rw[<-e]at hm;exact hm (by decide)
  obtain⟨t,r2,e2,ht⟩:=mW (nm:=true) (c:=[125]) (by unfold F7;decide) ps r
  obtain⟨s1,s2⟩:=mV h
  rw[e2]at s2
  have s3:TS l _ (NB x.t.name::A6 [58]::(CO x.t.op (AN x)++t::r2)):=s2
  obtain⟨n1,n2⟩:=mU s3
  simp only[ln,List.length_append,List.length_cons,List.length_nil]at hf
  have h3:=hp x g1 g2 g3 l d _ t r2 f s3.one.one ht (by simp only[ln];omega) h0 (hd x List.mem_cons_self)
  have h4:=TS.add s3.one.one
  rw[<-e2]at h4
  have ih:=mY hp ps l d _ (xs++[x]) r f (λ y hy=>hx y (List.mem_cons_of_mem _ hy)) (λ a y b e=>by rw[List.append_assoc];exact hn (x::a) y b (by rw[e];rfl)) (by rw[R4];exact h4) (by rw[R4];simp only[ln];omega) h0 (λ y hy=>hd y (List.mem_cons_of_mem _ hy))
  rw[IZ,hnst [125] (by decide),if_neg (by decide),s1]
  show(if _ then _ else _)=_
  rw[n2,if_neg (by rintro(h|h);rcases n1 with n1|n1;exact h.1 n1;exact h.2 n1;exact hnn h),s3.one.ND]
  show(EC A9 f l d _).bind _=_
  rw[h3]
  show IZ A9 f l d (xs++[(x.named []).named x.t.name]) _=_
  rw[Tf.AC8,Tf.AC7,ih,R4]
  show PR.ok (Tf.mk (AH 8) (xs++[x]++ps)) _=_
  rw[List.append_assoc]
  simp only[A5]
  rw[show len [NB x.t.name,A6 [58]]=2 from rfl]
  congr 1;omega
theorem cK{o:Int}(h:GR o=false)(u:List Tk):CO o u=u:=by unfold CO;rw[h];rfl
theorem mZ{o:Int}(h:GR o=true)(u:List Tk):CO o u=[A6 [40]]++u++[A6 [41]]:=by unfold CO;rw[h];rfl
theorem cL{l:List Tk}{d j:Int}{f:Nat}{s:A1}{u r:List Tk}{y:Tf}{X:Int->PR Tf}(h:TS l j ([BQ s,A6 [40]]++u++[A6 [41]]++r))(hd:d<64)(hx:X (j+2)= .ok y (j+2+len u)):D1 l d (j+1) X= .ok y (j+len ([BQ s,A6 [40]]++u++[A6 [41]]))/\(A2 l j).s=s/\(A2 l j).kind=2:=by
 simp only[List.append_assoc]at h
 have h:TS l j (BQ s::A6 [40]::(u++(A6 [41]::r))):=h
 have h3:=TS.add h.one.one
 have hx':X (j+1+1)= .ok y (j+2+len u):=by rw[show j+1+1=j+2 by omega];exact hx
 rw[show j+1+1=j+2 by omega]at h3
 refine⟨?_,h.at.2.1,h.at.1⟩
 rw[h.one.call hd hx' h3]
 simp only[A5]
 rw[show len [BQ s,A6 [40]]=2 from rfl,show len [A6 [41]]=1 from rfl]
 congr 1;omega
theorem P5{q:A1->A1}{l:List Tk}{d j:Int}{f:Nat}{s:A1}{r:List Tk}(h:TS l j (BQ s::r)):GZ q (f+1) l d j=G6 q f l d j:=by
 rw[GZ,h.AL,if_neg (by show ¬((2:Int)==1&&_)=true;simp),h.at.1,if_neg (by show ¬(2:Int)=3;decide),if_pos (by rfl)]
theorem cM{q:A1->A1}{l:List Tk}{d j:Int}{f:Nat}{r:List Tk}{m:A1}(h:TS l j (A6 m::r))(hm:m=[123]\/m=[91]\/m=[40]):GZ q (f+1) l d j=
  if m=[123]then(F2 l d j [123]).bind λ _ j=>IZ q f l (d+1) [] j else if m=[91]then(F2 l d j [91]).bind λ _ j=>J0 q f l (d+1) [] j else D1 l d j (EM q f l (d+1)):=by
 rw[GZ,h.AL,h.AL,h.AL,h.at.1]
 rcases hm with rfl|rfl|rfl<;>rfl
theorem AI3{q:A1->A1}{l:List Tk}{d j:Int}{f:Nat}(h:(A2 l j).s=C6 5):G6 q (f+1) l d j=(D1 l d (j+1) (EM q f l (d+1))).bind λ x j=>.ok (.mk (AH 5) [x]) j:=by rw[G6,h];rfl
theorem AI4{q:A1->A1}{l:List Tk}{d j:Int}{f:Nat}(h:(A2 l j).s=C6 6):G6 q (f+1) l d j=(D1 l d (j+1) (EM q f l (d+1))).bind λ x j=>.ok (.mk (AH 6) [x]) j:=by rw[G6,h];rfl
theorem AI5{q:A1->A1}{l:List Tk}{d j:Int}{f:Nat}(h:(A2 l j).s=C6 7):G6 q (f+1) l d j=(D1 l d (j+1) (G7 q f l (d+1))).bind λ x j=>.ok (.mk (AH 7) [x]) j:=by rw[G6,h];rfl
theorem AI6{q:A1->A1}{l:List Tk}{d j o:Int}{f:Nat}(ho:o=12\/o=13\/o=15)(h:(A2 l j).s=C6 o):G6 q (f+1) l d j=D1 l d (j+1) λ j=>(G5 q l j).bind λ s k=>.ok (.mk { AH o with s:=s} []) k:=by
 rw[G6,h]
 rcases ho with rfl|rfl|rfl<;>rfl
theorem cN{q:A1->A1}{l:List Tk}{d j o:Int}{f:Nat}{s:A1}(ho:(o=10/\s=I8)\/(o=11/\s=IY)\/(o=14/\s=JK))(h:(A2 l j).s=s):G6 q (f+1) l d j= .ok (.mk (AH o) []) (j+1):=by
 rw[G6,h]
 rcases ho with⟨rfl,rfl⟩|⟨rfl,rfl⟩|⟨rfl,rfl⟩<;>rfl
theorem cO{l:List Tk}{d j o:Int}{f:Nat}{nm s:A1}{t:Tk}{r:List Tk}(ho:o=12\/o=13\/o=15)(hs:K0 s=true)(h:TS l j (([BQ (C6 o),A6 [40]]++ET (EF s).1++[A6 [41]])++t::r))(ht:F7 t)(hd:d<64)(hf:3<=f):
  EC A9 f l d j= .ok (.mk { AH o with s:=s} []) (j+len ([BQ (C6 o),A6 [40]]++ET (EF s).1++[A6 [41]])):=by
 obtain⟨p,hpl,hpg,hse,hpe⟩:=QT hs
 rw[hpe]at h ⊢
 obtain⟨f,rfl⟩: ∃g,f=g+3:=⟨f-3,by omega⟩
 have h2:=TS.add h
 simp only[List.append_assoc]at h
 have h:TS l j (BQ (C6 o)::A6 [40]::(ET p++(A6 [41]::(t::r)))):=h
 have hp:=mR hpg hpl (by unfold F7;decide) h.one.one
 have h3:=TS.add h.one.one
 refine K4 (t:=t) (r:=r) ?_ h2 ht
 rw[P5 h,AI6 ho h.at.2.1,h.one.call (k:=j+1+1+len (ET p)) (x:=.mk { AH o with s:=s} []) hd (by rw[hp,<-hse];rfl) h3]
 simp only[A5]
 rw[show len [BQ (C6 o),A6 [40]]=2 from rfl,show len [A6 [41]]=1 from rfl]
 congr 1;omega
theorem AI7{l:List Tk}{k:Int}{xs:List Tf}{t:Tk}{r:List Tk}{n:Nat}(h:TS l k (t::r))(ht:F7 t):I7 (n+1) l xs k= .ok (DW xs) k:=by
 rw[I7,h.at.1,h.AL,if_neg (by rw[ht.2];rintro(h|h);exact ht.1 h;cases h)]
theorem n5{q:A1->A1}{f:Nat}{l:List Tk}{d j k:Int}{y:Tf}{u r:List Tk}{t:Tk}(h:TS l j (A6 [46]::A6 [91]::u))(hy:HK l (j+1)= .ok y k)(h2:TS l k (t::r))(ht:F7 t):EC q (f+2) l d j= .ok y k:=by
 have hl:=h.one.lt
 have h0:=h.1
 obtain⟨n,hn⟩: ∃n,l.length=n+2:=⟨l.length-2,by unfold len at hl;omega⟩
 have hpri:GZ q (f+1) l d j= .ok (Tf.mk (AH 0) []) (j+1):=by rw[GZ,h.AL,if_pos (by rfl)]
 rw[EC,hpri]
 show I7 l.length l (if Eng.AL l j [46]&&Eng.AL l (j+1) [91]then []else [Tf.mk (AH 0) []]) (j+1)=_
 rw[h.AL,h.one.AL,if_pos (by rfl),hn,I7,h.one.AL,if_pos (.inr (by rfl)),hy]
 show I7 (n+1) l ([]++[y]) k=_
 rw[AI7 h2 ht];rfl
theorem AI8{n:Nat}(hp:TJ n)(hfn:WU n)(he:TL n): ∀x:Tf,x.BP->CN x.t=false->x.size<=n+1->x.t.op≠4-> ∀(l:List Tk) (d j:Int) (t:Tk) (r:List Tk) (f:Nat),TS l j (AN x++t::r)->F7 t->8*ln (AN x)+3<=f->0<=d->d+x.size<=64->EC A9 f l d j= .ok (x.named []) (j+len (AN x)):=by
 intro x hg hc hn h4 l d j t r f h ht hff h0 hd
 have hv:=K3 hg
 have hk:=hg.kids
 have hkd:=hg.IK
 have hend:=TS.add h
 have hpos:=hg.start.pos
 simp only[ln]at hff
 obtain⟨tt,ps⟩:=x
 have h4:tt.op≠4:=h4
 have hc:CN tt=false:=hc
 have hv:D4 tt ps:=hv
 rw[Tf.size]at hn hd
 have sz1: ∀ {a:Tf},ps=[a]->a.size<=n/\d+1+a.size<=64:=λ{a} e=>by subst e;rw[AQ,AQ]at hn hd;omega
 obtain⟨f,rfl⟩: ∃g,f=g+3:=⟨f-3,by omega⟩
 have hff:8*(AN (.mk tt ps)).length<=f:=by omega
 cases hv with
 |id nm=>
  have h:TS l j (A6 [46]::(t::r)):=h
  refine K4 (t:=t) (r:=r) ?_ hend ht
  rw[GZ,h.AL,if_pos (by rfl)];rfl
 |field nm s hu=>
  have h:TS l j (P4 s::(t::r)):=h
  refine K4 (t:=t) (r:=r) ?_ hend ht
  rw[GZ,h.AL,if_neg (by show ¬((3:Int)==1&&_)=true;simp),h.at.1,if_pos (by rfl),h.at.2.1];rfl
 |part nm k g0 g1=>
  have h:TS l j (A6 [46]::A6 [91]::NC k::A6 [93]::(t::r)):=h
  have:=AH1 h.one g0 g1
  rw[show j+1+3=j+4 by omega]at this
  exact n5 h this hend ht
 |tail nm k g0 g1=>
  have h:TS l j (A6 [46]::A6 [91]::NC k::A6 [58]::A6 [93]::(t::r)):=h
  have:=AH2 h.one g0 g1
  rw[show j+1+4=j+5 by omega]at this
  exact n5 h this hend ht
 |pipe nm a b=>exact absurd U h4
 |map nm a=>
  obtain⟨z1,z2⟩:=sz1 rfl
  have hkk:=hkd [] a [] U
  have hx:AN (.mk ⟨5,0,nm,[],0,AO⟩ [a])=[BQ (C6 5),A6 [40]]++AN a++[A6 [41]]:=rfl
  rw[hx]at h hff hend ⊢
  have hff:8*([BQ (C6 5),A6 [40]]++AN a++[A6 [41]]).length<=f:=hff
  simp only[List.length_append,List.length_cons,List.length_nil]at hff
  have hxn:=R2 a.t.op
  have ha:=hfn a (hk a (by show a∈[a];simp)) (by rw[hkk.c];rfl) z1 l (d+1) (j+2) (A6 [41]) (t::r) f (by have:=TS.add (u:=[BQ (C6 5),A6 [40]]) (by simpa only[List.append_assoc]using h);exact this) TM.1 (by simp only[ln];omega) (by omega) (by omega)
  obtain⟨c1,c2,c3⟩:=cL (d:=d) (f:=f) h (by omega) ha
  refine K4 (t:=t) (r:=r) ?_ hend ht
  rw[P5 (r:=A6 [40]::(AN a++[A6 [41]]++t::r)) (by simpa using h),AI3 c2]
  rw[c1,Tf.K5 (hkk.n (by show ¬(5:Int)=8;decide))];rfl
 |vals nm a=>
  obtain⟨z1,z2⟩:=sz1 rfl
  have hkk:=hkd [] a [] U
  have hx:AN (.mk ⟨6,0,nm,[],0,AO⟩ [a])=[BQ (C6 6),A6 [40]]++AN a++[A6 [41]]:=rfl
  rw[hx]at h hff hend ⊢
  have hff:8*([BQ (C6 6),A6 [40]]++AN a++[A6 [41]]).length<=f:=hff
  simp only[List.length_append,List.length_cons,List.length_nil]at hff
  have hxn:=R2 a.t.op
  have ha:=hfn a (hk a (by show a∈[a];simp)) (by rw[hkk.c];rfl) z1 l (d+1) (j+2) (A6 [41]) (t::r) f (by have:=TS.add (u:=[BQ (C6 6),A6 [40]]) (by simpa only[List.append_assoc]using h);exact this) TM.1 (by simp only[ln];omega) (by omega) (by omega)
  obtain⟨c1,c2,c3⟩:=cL (d:=d) (f:=f) h (by omega) ha
  refine K4 (t:=t) (r:=r) ?_ hend ht
  rw[P5 (r:=A6 [40]::(AN a++[A6 [41]]++t::r)) (by simpa using h),AI4 c2]
  rw[c1,Tf.K5 (hkk.n (by show ¬(6:Int)=8;decide))];rfl
 |wher nm a=>
  obtain⟨z1,z2⟩:=sz1 rfl
  have hkk:=hkd [] a [] U
  have hx:AN (.mk ⟨7,0,nm,[],0,AO⟩ [a])=[BQ (C6 7),A6 [40]]++AN a++[A6 [41]]:=rfl
  rw[hx]at h hff hend ⊢
  have hff:8*([BQ (C6 7),A6 [40]]++AN a++[A6 [41]]).length<=f:=hff
  simp only[List.length_append,List.length_cons,List.length_nil]at hff
  have hxn:=R2 a.t.op
  have ha:=he a (hk a (by show a∈[a];simp)) (by rw[hkk.c];rfl) z1 l (d+1) (j+2) (A6 [41]) (t::r) f (by have:=TS.add (u:=[BQ (C6 7),A6 [40]]) (by simpa only[List.append_assoc]using h);exact this) TM.2 (by simp only[ln];omega) (by omega) (by omega)
  obtain⟨c1,c2,c3⟩:=cL (d:=d) (f:=f) h (by omega) ha
  refine K4 (t:=t) (r:=r) ?_ hend ht
  rw[P5 (r:=A6 [40]::(AN a++[A6 [41]]++t::r)) (by simpa using h),AI5 c2]
  rw[c1,Tf.K5 (hkk.n (by show ¬(7:Int)=8;decide))];rfl
 |obj nm ps=>
  have hx:AN (.mk ⟨8,0,nm,[],0,AO⟩ ps)=[A6 [123]]++C8 true [A6 [44]] true ps++[A6 [125]]:=rfl
  rw[hx]at h hff hend ⊢
  have hff:8*([A6 [123]]++C8 true [A6 [44]] true ps++[A6 [125]]).length<=f:=hff
  simp only[List.length_append,List.length_cons,List.length_nil]at hff
  have h2:TS l j (A6 [123]::(C8 true [A6 [44]] ([]:List Tf).isEmpty ps++A6 [125]::(t::r))):=by simpa using h
  have hb:=mY hp ps l (d+1) (j+1) [] (t::r) (f+1) (λ y hy=>⟨hk y hy,?_,?_⟩) (λ a y b e=>?_) h2.one (by show 8*ln (C8 true [A6 [44]] true ps)+5<=f+1;simp only[ln];omega) (by omega) (λ y hy=>by have:=MB hy;omega)
  ·refine K4 (t:=t) (r:=r) ?_ hend ht
   rw[cM h2 (.inl U),if_pos U,h2.open (by omega)]
   show IZ A9 (f+1) l (d+1) [] (j+1)=_
   rw[hb]
   simp only[A5]
   rw[show len [A6 [123]]=1 from rfl,show len [A6 [125]]=1 from rfl]
   show PR.ok (Tf.mk (AH 8) ps) (j+1+len (C8 true [A6 [44]] true ps)+1)=PR.ok (Tf.mk (AH 8) ps) _
   congr 1;omega
  ·obtain⟨a,b,e⟩:=List.append_of_mem hy
   have:=(hkd a y b e).c
   rw[this];rfl
  ·have:=MB hy;omega
  ·rw[List.nil_append];exact(hkd a y b e).d U
 |tup nm ps=>
  have hx:AN (.mk ⟨9,0,nm,[],0,AO⟩ ps)=[A6 [91]]++C8 false [A6 [44]] true ps++[A6 [93]]:=rfl
  rw[hx]at h hff hend ⊢
  have hff:8*([A6 [91]]++C8 false [A6 [44]] true ps++[A6 [93]]).length<=f:=hff
  simp only[List.length_append,List.length_cons,List.length_nil]at hff
  have h2:TS l j (A6 [91]::(C8 false [A6 [44]] ([]:List Tf).isEmpty ps++A6 [93]::(t::r))):=by simpa using h
  have hb:=mX hp ps l (d+1) (j+1) [] (t::r) (f+1) (λ y hy=>?_) h2.one (by show 8*ln (C8 false [A6 [44]] true ps)+5<=f+1;simp only[ln];omega) (by omega) (λ y hy=>by have:=MB hy;omega)
  ·refine K4 (t:=t) (r:=r) ?_ hend ht
   rw[cM h2 (.inr (.inl U)),if_neg (by decide),if_pos U,h2.open (by omega)]
   show J0 A9 (f+1) l (d+1) [] (j+1)=_
   rw[hb]
   simp only[A5]
   rw[show len [A6 [91]]=1 from rfl,show len [A6 [93]]=1 from rfl]
   show PR.ok (Tf.mk (AH 9) ps) (j+1+len (C8 false [A6 [44]] true ps)+1)=PR.ok (Tf.mk (AH 9) ps) _
   congr 1;omega
  ·obtain⟨a,b,e⟩:=List.append_of_mem hy
   have hkk:=hkd a y b e
   have:=MB hy
   exact⟨hk y hy,by rw[hkk.c];rfl,by omega,hkk.n (by show ¬(9:Int)=8;decide)⟩
 |OY nm=>
  have h:TS l j (BQ I8::(t::r)):=h
  refine K4 (t:=t) (r:=r) ?_ hend ht
  obtain⟨f,rfl,_⟩:=fu (f:=f) (n:=0) (by omega)
  rw[P5 h,cN (.inl ⟨rfl,rfl⟩) h.at.2.1];rfl
 |fromE nm=>
  have h:TS l j (BQ IY::(t::r)):=h
  refine K4 (t:=t) (r:=r) ?_ hend ht
  obtain⟨f,rfl,_⟩:=fu (f:=f) (n:=0) (by omega)
  rw[P5 h,cN (.inr (.inl ⟨rfl,rfl⟩)) h.at.2.1];rfl
 |rev nm=>
  have h:TS l j (BQ JK::(t::r)):=h
  refine K4 (t:=t) (r:=r) ?_ hend ht
  obtain⟨f,rfl,_⟩:=fu (f:=f) (n:=0) (by omega)
  rw[P5 h,cN (.inr (.inr ⟨rfl,rfl⟩)) h.at.2.1];rfl
 |group nm s hs=>exact cO (nm:=nm) (.inl U) hs h ht (by omega) (by omega)
 |sort nm s hs=>exact cO (nm:=nm) (.inr (.inl U)) hs h ht (by omega) (by omega)
 |del nm s hs=>exact cO (nm:=nm) (.inr (.inr U)) hs h ht (by omega) (by omega)
 |cmp nm s k c hs g0 g5 hcc=>cases hc
 |and nm a b=>cases hc
 |or nm a b=>cases hc
 |not nm a=>cases hc
end Go.Eng
namespace Go.Eng
open Go.RowKit
def cP:Tk:=⟨6,[],AO,0⟩
theorem n7(bt:List Tk)(a b:Tf):C8 false bt true [a,b]=CO a.t.op (AN a)++(bt++CO b.t.op (AN b)):=by simp[C8]
theorem WV{x:Tf}(hc:CN x.t=false)(h4:x.t.op≠4):GR x.t.op=false:=by
 unfold CN at hc
 simp only[Bool.and_eq_false_iff,decide_eq_false_iff_not]at hc
 unfold GR
 simp only[Bool.or_eq_false_iff,beq_eq_false_iff_ne]
 omega
theorem AI9{n:Nat}(hpos: ∀x:Tf,x.BP->CN x.t=false->x.size<=n+1->x.t.op≠4-> ∀(l:List Tk) (d j:Int) (t:Tk) (r:List Tk) (f:Nat),TS l j (AN x++t::r)->F7 t->8*ln (AN x)+3<=f->0<=d->d+x.size<=64->EC A9 f l d j= .ok (x.named []) (j+len (AN x)))
  (hp:cI n):cI (n+1)/\WU (n+1):=by
 have key: ∀(nm:A1) (a b:Tf),(Tf.mk ⟨4,0,nm,[],0,AO⟩ [a,b]).BP->(Tf.mk ⟨4,0,nm,[],0,AO⟩ [a,b]).size<=n+1-> ∀(l:List Tk) (d j:Int) (xs:List Tf) (t:Tk) (r:List Tk) (f:Nat),TS l j (AN (.mk ⟨4,0,nm,[],0,AO⟩ [a,b])++t::r)->R1 t->8*ln (AN (.mk ⟨4,0,nm,[],0,AO⟩ [a,b]))+3<=f->0<=d->d+(Tf.mk ⟨4,0,nm,[],0,AO⟩ [a,b]).size<=65->
   (EC A9 f l d j).bind (λ x j=>HM A9 f l d (xs++[x]) j)= .ok (DW (xs++spine (.mk ⟨4,0,nm,[],0,AO⟩ [a,b]))) (j+len (AN (.mk ⟨4,0,nm,[],0,AO⟩ [a,b]))):=by
  intro nm a b hg hn l d j xs t r f h ht hf h0 hd
  have hka:=hg.IK [] a [b] U
  have hkb:=hg.IK [a] b [] U
  have hga:=hg.kids a (by show a∈[a,b];simp)
  have hgb:=hg.kids b (by show b∈[a,b];simp)
  have hca:CN a.t=false:=by rw[hka.c];rfl
  have hcb:CN b.t=false:=by rw[hkb.c];rfl
  have ha4:a.t.op≠4:=hka.p U U
  have hx:AN (.mk ⟨4,0,nm,[],0,AO⟩ [a,b])=AN a++(A6 [124]::AN b):=by
   show CO a.t.op (AN a)++[A6 [124]]++AN b=_
   rw[cK (WV hca ha4)];simp
  rw[hx]at h hf ⊢
  simp only[ln,List.length_append,List.length_cons]at hf
  have hsa:=a.size_pos
  have hsb:=b.size_pos
  rw[Tf.size,AQ,AQ,AQ]at hn hd
  have hbx:=R2 b.t.op
  have hbp:=hgb.start.pos
  have h:TS l j (AN a++(A6 [124]::(AN b++t::r))):=by simpa using h
  have h1:=hpos a hga hca (by omega) ha4 l d j (A6 [124]) (AN b++t::r) f h (by unfold F7;decide) (by simp only[ln];omega) h0 (by omega)
  have h2:=hp b hgb hcb (by omega) l d (j+len (AN a)) (xs++[a]) t r f (TS.add h) ht (by simp only[ln];omega) h0 (by omega)
  rw[h1,Tf.K5 (hka.n (by show ¬(4:Int)=8;decide))]
  show HM A9 f l d (xs++[a]) _=_
  rw[h2,mT,Tf.K5 (hka.n (by show ¬(4:Int)=8;decide)),A5,A7,List.append_assoc]
  show PR.ok (DW (xs++(a::spine b))) _=_
  congr 1;omega
 refine⟨?_,?_⟩
 ·intro x hg hc hn l d j xs t r f h ht hf h0 hd
  obtain⟨f,rfl⟩: ∃g,f=g+1:=⟨f-1,by omega⟩
  by_cases h4:x.t.op=4
  ·obtain⟨nm,a,b,e1,e2⟩:=WT (K3 hg) h4
   obtain⟨tt,ps⟩:=x
   have e1:tt=⟨4,0,nm,[],0,AO⟩:=e1
   have e2:ps=[a,b]:=e2
   subst e1 e2
   rw[HM,h.AL,if_pos (by rfl),key nm a b hg hn l d (j+1) xs t r f h.one ht (by simp only[ln]at hf ⊢;omega) h0 hd]
  ·have hx:=WV hc h4
   have he:extra x.t.op=0:=by unfold extra;rw[hx];rfl
   have h1:=hpos x hg hc hn h4 l d (j+1) t r f h.one ht.1 (by simp only[ln]at hf ⊢;omega) h0 (by omega)
   have h2:=TS.add h.one
   rw[HM,h.AL,if_pos (by rfl),h1]
   show HM A9 f l d (xs++[x.named []]) _=_
   obtain⟨f,rfl⟩: ∃g,f=g+1:=⟨f-1,by simp only[ln]at hf;omega⟩
   rw[HM,h2.AL,ht.2,if_neg (by decide),mS h4]
 ·intro x hg hc hn l d j t r f h ht hf h0 hd
  obtain⟨f,rfl⟩: ∃g,f=g+1:=⟨f-1,by omega⟩
  have hpe:=AH8 x.size x (Nat.le_refl _) hg
  by_cases h4:x.t.op=4
  ·obtain⟨nm,a,b,e1,e2⟩:=WT (K3 hg) h4
   obtain⟨tt,ps⟩:=x
   have e1:tt=⟨4,0,nm,[],0,AO⟩:=e1
   have e2:ps=[a,b]:=e2
   subst e1 e2
   have:=key nm a b hg hn l d j [] t r f h ht (by simp only[ln]at hf ⊢;omega) h0 hd
   rw[List.nil_append,hpe]at this
   rw[EM];exact this
  ·have hx:=WV hc h4
   have he:extra x.t.op=0:=by unfold extra;rw[hx];rfl
   have h1:=hpos x hg hc hn h4 l d j t r f h ht.1 (by simp only[ln]at hf ⊢;omega) h0 (by omega)
   have h2:=TS.add h
   rw[EM,h1]
   show HM A9 f l d [x.named []] _=_
   obtain⟨f,rfl⟩: ∃g,f=g+1:=⟨f-1,by simp only[ln]at hf;omega⟩
   rw[HM,h2.AL,ht.2,if_neg (by decide)];rfl
theorem AJ0{n:Nat}(hpos: ∀x:Tf,x.BP->CN x.t=false->x.size<=n->x.t.op≠4-> ∀(l:List Tk) (d j:Int) (t:Tk) (r:List Tk) (f:Nat),TS l j (AN x++t::r)->F7 t->8*ln (AN x)+3<=f->0<=d->d+x.size<=64->EC A9 f l d j= .ok (x.named []) (j+len (AN x)))
  (hf:WU n):TJ n:=by
 intro x hg hc hn l d j t r f h ht hff h0 hd
 by_cases h4:x.t.op=4
 ·have hi:GR x.t.op=true:=by rw[h4];rfl
  have hxe:extra x.t.op=1:=by unfold extra;rw[hi];rfl
  rw[mZ hi]at h hff ⊢
  simp only[ln,List.length_append,List.length_cons,List.length_nil]at hff
  have hend:=TS.add h
  have h:TS l j (A6 [40]::(AN x++(A6 [41]::(t::r)))):=by simpa using h
  have hsz:=x.size_pos
  obtain⟨f,rfl⟩: ∃g,f=g+2:=⟨f-2,by omega⟩
  have h1:=hf x hg hc hn l (d+1) (j+1) (A6 [41]) (t::r) f h.one TM.1 (by simp only[ln];omega) (by omega) (by omega)
  refine K4 (t:=t) (r:=r) ?_ hend ht
  rw[cM h (.inr (.inr rfl)),if_neg (by decide),if_neg (by decide),h.call (by have:2<=x.size:=(by obtain⟨nm,a,b,e1,e2⟩:=WT (K3 hg) h4;rw[Tf.size_eq,e2,AQ];have:=a.size_pos;omega);omega) h1 (TS.add h.one)]
  simp only[A5]
  rw[show len [A6 [40]]=1 from rfl,show len [A6 [41]]=1 from rfl]
  congr 1;omega
 ·rw[cK (WV hc h4)]at h hff ⊢
  exact hpos x hg hc hn h4 l d j t r f h ht hff h0 hd
theorem AJ1{l:List Tk}{j:Int}{p:List Sp}{r:List Tk}(h:TS l j (ET p++r)):AL l j [40]=false:=by
 unfold ET at h
 split at h
 ·rw[TS.AL (t:=A6 [46]) h];rfl
 ·rename_i hc
  cases p with
  |nil=>exact absurd (.inl U) hc
  |cons x p=>
   have hpt: ¬x.part=true:=λ e=>hc (.inr e)
   rw[List.map_cons,List.flatten_cons]at h
   unfold HV at h
   rw[if_neg hpt]at h
   rw[TS.AL (t:=P4 x.name) h];rfl
theorem cQ{t:Tm}{ps:List Tf}(h:D4 t ps)(e:CN t=true):(∃nm s k c,K0 s=true/\0<=k/\k<=5/\J9 c=true/\t=⟨16,0,nm,s,k,c⟩/\ps=[])\/(∃nm a b,t=⟨17,0,nm,[],0,AO⟩/\ps=[a,b])\/(∃nm a b,t=⟨18,0,nm,[],0,AO⟩/\ps=[a,b])\/(∃nm a,t=⟨19,0,nm,[],0,AO⟩/\ps=[a]):=by
 cases h with
 |cmp nm s k c h1 h2 h3 h4=>exact .inl ⟨_,_,_,_,h1,h2,h3,h4,rfl,rfl⟩
 |and nm a b=>exact .inr (.inl ⟨_,_,_,rfl,rfl⟩)
 |or nm a b=>exact .inr (.inr (.inl ⟨_,_,_,rfl,rfl⟩))
 |not nm a=>exact .inr (.inr (.inr ⟨_,_,rfl,rfl⟩))
 |_=>cases e
theorem AJ2{n:Nat}(he:TL n): ∀x:Tf,x.BP->CN x.t=true->x.size<=n+1->GR x.t.op=false-> ∀(l:List Tk) (d j:Int) (r:List Tk) (f:Nat),TS l j (AN x++r)->8*ln (AN x)+2<=f->0<=d->d+x.size<=64->GM A9 f l d j= .ok (x.named []) (j+len (AN x)):=by
 intro x hg hc hn hi l d j r f h hf h0 hd
 have hk:=hg.kids
 have hkd:=hg.IK
 obtain⟨f,rfl⟩: ∃g,f=g+1:=⟨f-1,by omega⟩
 rcases cQ (K3 hg) hc with⟨nm,s,k,c,g1,g2,g3,g4,e1,e2⟩|⟨nm,a,b,e1,e2⟩|⟨nm,a,b,e1,e2⟩|⟨nm,a,e1,e2⟩
 ·obtain⟨tt,ps⟩:=x
  have e1:tt=_:=e1
  have e2:ps=_:=e2
  subst e1 e2
  have h2:TS l j (ET (EF s).1++([A6 (A2 CH k),MC c]++r)):=by rw[<-List.append_assoc];exact h
  rw[GM,AJ1 h2,if_pos U,AH5 g1 g2 g3 g4 h];rfl
 ·rw[e1]at hi;cases hi
 ·rw[e1]at hi;cases hi
 ·obtain⟨tt,ps⟩:=x
  have e1:tt=_:=e1
  have e2:ps=_:=e2
  subst e1 e2
  have hka:=hkd [] a [] U
  have hga:=hk a (by show a∈[a];simp)
  have hx:AN (.mk ⟨19,0,nm,[],0,AO⟩ [a])=[A6 [40]]++AN a++[A6 [124],BQ HL,A6 [41]]:=rfl
  rw[hx]at h hf ⊢
  rw[Tf.size,AQ,AQ]at hn hd
  simp only[ln,List.length_append,List.length_cons,List.length_nil]at hf
  have h:TS l j (A6 [40]::(AN a++(A6 [124]::BQ HL::A6 [41]::r))):=by simpa using h
  have hxn:=R2 a.t.op
  have h1:=he a hga (by rw[hka.c];rfl) (by omega) l (d+1) (j+1) (A6 [124]) _ f h.one (by unfold WR;decide) (by simp only[ln];omega) (by omega) (by omega)
  have h2:=TS.add h.one
  rw[GM,h.AL,if_neg (by show ¬((1:Int)==1&&([40]:A1)==[40])=false;decide),h.open (by omega)]
  show(G7 A9 f l (d+1) (j+1)).bind _=_
  rw[h1,Tf.K5 (hka.n (by show ¬(19:Int)=8;decide))]
  obtain⟨K,hK⟩: ∃K,K=j+1+len (AN a):=⟨_,rfl⟩
  rw[<-hK]at h2 ⊢
  have q1:AL l K [124]=true:=by rw[h2.AL];rfl
  have q2:DF l (K+1) HL=true:=by rw[h2.one.DF];rfl
  have q3:=h2.one.one.ND
  rw[show K+1+1=K+2 by omega]at q3
  show(PR.bind (if AL l K [124]=true then(if DF l (K+1) HL=true then PR.ok (Tf.mk (AH 19) [a]) (K+2)else CG l (K+1) 1)else PR.ok a K) λ y m=>(BV l m [41]).bind λ x n=>PR.ok y n)=_
  rw[if_pos q1,if_pos q2]
  show((BV l (K+2) [41]).bind λ x n=>PR.ok (Tf.mk (AH 19) [a]) n)=_
  rw[q3]
  simp only[A5]
  rw[show len [A6 [40]]=1 from rfl,show len [A6 [124],BQ HL,A6 [41]]=3 from rfl]
  show PR.ok (Tf.mk (AH 19) [a]) _=PR.ok (Tf.mk (AH 19) [a]) _
  congr 1;omega
theorem cS{l:List Tk}{d j k:Int}{x:Tf}{t:Tk}{r:List Tk}{f:Nat}(hx:GM A9 (f+1) l d j= .ok x k)(h:TS l k (t::r))(ht:(t.kind==2&&t.s==IX)=false):J1 A9 (f+2) l d j= .ok x k:=by
 rw[J1,hx]
 show JN A9 (f+1) l d x k=_
 rw[JN,h.DF,ht,if_neg (by decide)]
theorem n8{l:List Tk}{d j k:Int}{x:Tf}{t:Tk}{r:List Tk}{f:Nat}(hx:J1 A9 (f+1) l d j= .ok x k)(h:TS l k (t::r))(ht:(t.kind==2&&t.s==IW)=false):G7 A9 (f+2) l d j= .ok x k:=by
 rw[G7,hx]
 show JM A9 (f+1) l d x k=_
 rw[JM,h.DF,ht,if_neg (by decide)]
theorem AJ3{n:Nat}(hs1: ∀x:Tf,x.BP->CN x.t=true->x.size<=n+1->GR x.t.op=false-> ∀(l:List Tk) (d j:Int) (r:List Tk) (f:Nat),TS l j (AN x++r)->8*ln (AN x)+2<=f->0<=d->d+x.size<=64->GM A9 f l d j= .ok (x.named []) (j+len (AN x)))
  (hs:cJ n):TL (n+1):=by
 intro x hg hc hn l d j t r f h ht hf h0 hd
 have hend:=TS.add h
 have hpos:=hg.start.pos
 obtain⟨f,rfl⟩: ∃g,f=g+4:=⟨f-4,by omega⟩
 simp only[ln]at hf
 have single:GR x.t.op=false->G7 A9 (f+4) l d j= .ok (x.named []) (j+len (AN x)):=λ hi=>by
  have hxe:extra x.t.op=0:=by unfold extra;rw[hi];rfl
  have h1:=hs1 x hg hc hn hi l d j (t::r) (f+2) h (by simp only[ln];omega) h0 (by omega)
  exact n8 (cS h1 hend ht.2) hend ht.1
 have kids: ∀(o:Int) (nm:A1) (a b:Tf),o=17\/o=18->x= .mk ⟨o,0,nm,[],0,AO⟩ [a,b]->a.BP/\b.BP/\CN a.t=true/\CN b.t=true/\a.named []=a/\b.named []=b/\a.size<=n/\b.size<=n/\d+a.size<=64/\d+b.size<=64:=by
  intro o nm a b ho e
  subst e
  have hka:=hg.IK [] a [b] U
  have hkb:=hg.IK [a] b [] U
  have hi:extra o<=1:=by unfold extra;split<;>decide
  have hd:d+(Tf.mk ⟨o,0,nm,[],0,AO⟩ [a,b]).size<=64+extra o:=hd
  rw[Tf.size,AQ,AQ,AQ]at hn hd
  have hsa:=a.size_pos
  have hsb:=b.size_pos
  have hcc:CN (⟨o,0,nm,[],0,AO⟩:Tm)=true:=hc
  refine⟨hg.kids a (by show a∈[a,b];simp),hg.kids b (by show b∈[a,b];simp),by rw[hka.c];show(CN (⟨o,0,nm,[],0,AO⟩:Tm)||_)=true;rw[hcc];rfl,by rw[hkb.c];show(CN (⟨o,0,nm,[],0,AO⟩:Tm)||_)=true;rw[hcc];rfl,Tf.K5 (hka.n (by show ¬o=8;omega)),Tf.K5 (hkb.n (by show ¬o=8;omega)),by omega,by omega,by omega,by omega⟩
 rcases cQ (K3 hg) hc with⟨nm,s,k,c,g1,g2,g3,g4,e1,e2⟩|⟨nm,a,b,e1,e2⟩|⟨nm,a,b,e1,e2⟩|⟨nm,a,e1,e2⟩
 ·exact single (by rw[e1];rfl)
 ·obtain⟨tt,ps⟩:=x
  have e1:tt=_:=e1
  have e2:ps=_:=e2
  subst e1 e2
  obtain⟨ga,gb,ca,cb,na,nb,sa,sb,da,db⟩:=kids 17 nm a b (.inl rfl) rfl
  have hx:AN (.mk ⟨17,0,nm,[],0,AO⟩ [a,b])=CO a.t.op (AN a)++([BQ IX]++CO b.t.op (AN b)):=n7 _ a b
  rw[hx]at h hf hend ⊢
  simp only[List.length_append,List.length_cons,List.length_nil]at hf
  have h:TS l j (CO a.t.op (AN a)++(BQ IX::(CO b.t.op (AN b)++t::r))):=by simpa using h
  have h1:=hs a ga ca sa l d j _ (f+2) h (by simp only[ln];omega) h0 da
  have h2:=TS.add h
  have h3:=hs b gb cb sb l d _ _ (f+1) h2.one (by simp only[ln];omega) h0 db
  have h4:=TS.add h2.one
  refine n8 (t:=t) (r:=r) ?_ hend ht.1
  rw[J1,h1,na]
  show JN A9 (f+2) l d a _=_
  rw[JN,h2.DF,if_pos (by rfl),h3,nb]
  show JN A9 (f+1) l d (.mk (AH 17) [a,b]) _=_
  rw[JN,h4.DF,ht.2,if_neg (by decide)]
  simp only[A5]
  rw[show len [BQ IX]=1 from rfl]
  show PR.ok (Tf.mk (AH 17) [a,b]) _=PR.ok (Tf.mk (AH 17) [a,b]) _
  congr 1;omega
 ·obtain⟨tt,ps⟩:=x
  have e1:tt=_:=e1
  have e2:ps=_:=e2
  subst e1 e2
  obtain⟨ga,gb,ca,cb,na,nb,sa,sb,da,db⟩:=kids 18 nm a b (.inr rfl) rfl
  have hx:AN (.mk ⟨18,0,nm,[],0,AO⟩ [a,b])=CO a.t.op (AN a)++([BQ IW]++CO b.t.op (AN b)):=n7 _ a b
  rw[hx]at h hf hend ⊢
  simp only[List.length_append,List.length_cons,List.length_nil]at hf
  have h:TS l j (CO a.t.op (AN a)++(BQ IW::(CO b.t.op (AN b)++t::r))):=by simpa using h
  have h1:=hs a ga ca sa l d j _ (f+2) h (by simp only[ln];omega) h0 da
  have h2:=TS.add h
  have h3:=hs b gb cb sb l d _ _ (f+1) h2.one (by simp only[ln];omega) h0 db
  have h4:=TS.add h2.one
  have b1:=cS h1 h2 (by rfl)
  have b2:=cS h3 h4 ht.2
  rw[G7,b1,na]
  show JM A9 (f+3) l d a _=_
  rw[JM,h2.DF,if_pos (by rfl),b2,nb]
  show JM A9 (f+2) l d (.mk (AH 18) [a,b]) _=_
  rw[JM,h4.DF,ht.1,if_neg (by decide)]
  simp only[A5]
  rw[show len [BQ IW]=1 from rfl]
  show PR.ok (Tf.mk (AH 18) [a,b]) _=PR.ok (Tf.mk (AH 18) [a,b]) _
  congr 1;omega
 ·exact single (by rw[e1];rfl)
theorem AJ4{n:Nat}(hs1: ∀x:Tf,x.BP->CN x.t=true->x.size<=n->GR x.t.op=false-> ∀(l:List Tk) (d j:Int) (r:List Tk) (f:Nat),TS l j (AN x++r)->8*ln (AN x)+2<=f->0<=d->d+x.size<=64->GM A9 f l d j= .ok (x.named []) (j+len (AN x)))
  (he:TL n):cJ n:=by
 intro x hg hc hn l d j r f h hf h0 hd
 cases hi:GR x.t.op with
 |false=>
  rw[cK hi]at h hf ⊢
  exact hs1 x hg hc hn hi l d j r f h hf h0 hd
 |true=>
  have hxe:extra x.t.op=1:=by unfold extra;rw[hi];rfl
  rw[mZ hi]at h hf ⊢
  simp only[ln,List.length_append,List.length_cons,List.length_nil]at hf
  have h:TS l j (A6 [40]::(AN x++(A6 [41]::r))):=by simpa using h
  have hsz:2<=x.size:=by
   rcases cQ (K3 hg) hc with⟨nm,s,k,c,g1,g2,g3,g4,e1,e2⟩|⟨nm,a,b,e1,e2⟩|⟨nm,a,b,e1,e2⟩|⟨nm,a,e1,e2⟩
   ·rw[e1]at hi;cases hi
   ·rw[Tf.size_eq,e2,AQ];have:=a.size_pos;omega
   ·rw[Tf.size_eq,e2,AQ];have:=a.size_pos;omega
   ·rw[e1]at hi;cases hi
  obtain⟨f,rfl⟩: ∃g,f=g+1:=⟨f-1,by omega⟩
  have h1:=he x hg hc hn l (d+1) (j+1) (A6 [41]) r f h.one TM.2 (by simp only[ln];omega) (by omega) (by omega)
  have h2:=TS.add h.one
  obtain⟨K,hK⟩: ∃K,K=j+1+len (AN x):=⟨_,rfl⟩
  rw[<-hK]at h1 h2
  have q1:AL l K [124]=false:=by rw[h2.AL];rfl
  rw[GM,h.AL,if_neg (by show ¬((1:Int)==1&&([40]:A1)==[40])=false;decide),h.open (by omega)]
  show(G7 A9 f l (d+1) (j+1)).bind _=_
  rw[h1]
  show(PR.bind (if AL l K [124]=true then(if DF l (K+1) HL=true then PR.ok (Tf.mk (AH 19) [x.named []]) (K+2)else CG l (K+1) 1)else PR.ok (x.named []) K) λ y m=>(BV l m [41]).bind λ x n=>PR.ok y n)=_
  rw[q1,if_neg (by decide)]
  show((BV l K [41]).bind λ _ n=>PR.ok (x.named []) n)=_
  rw[h2.ND]
  simp only[A5]
  rw[show len [A6 [40]]=1 from rfl,show len [A6 [41]]=1 from rfl]
  show PR.ok (x.named []) _=_
  congr 1;omega
theorem AJ5: ∀n:Nat,WU n/\cI n/\TJ n/\TL n/\cJ n:=by
 intro n
 induction n with
 |zero=>
  have no: ∀x:Tf,¬x.size<=0:=λ x=>by have:=x.size_pos;omega
  exact⟨λ x _ _ h=>absurd h (no x),λ x _ _ h=>absurd h (no x),λ x _ _ h=>absurd h (no x),λ x _ _ h=>absurd h (no x),λ x _ _ h=>absurd h (no x)⟩
 |succ n ih=>
  obtain⟨i1,i2,i3,i4,i5⟩:=ih
  have hpos:=AI8 i3 i1 i4
  obtain⟨k2,k1⟩:=AI9 hpos i2
  have hs1:=AJ2 i4
  have k4:=AJ3 hs1 i5
  exact⟨k1,k2,AJ0 hpos k1,k4,AJ4 hs1 k4⟩
theorem AJ6{x:Tf}(hg:x.BP)(hc:CN x.t=false)(hn:x.t.name=[])(hs:x.size<=64):J2 A9 (B4 x)=(x.flat,0,0):=by
 obtain⟨l,h1,h2⟩:=AH0 hg
 have hts:TS (l++[G4 (B4 x)]) 0 (AN x++cP::[]):=⟨Int.le_refl 0,by show(l++[G4 (B4 x)]).map (strip false)=_;rw[List.map_append,h2];rfl⟩
 have hx:=R2 x.t.op
 have hl:(AN x).length=l.length:=by rw[<-h2,List.length_map]
 have h3:=(AJ5 x.size).1 x hg hc (Nat.le_refl _) _ 0 0 cP [] (8*(l++[G4 (B4 x)]).length+8) hts (by unfold R1 F7 cP;decide) (by simp only[ln,List.length_append,List.length_cons,List.length_nil];omega) (Int.le_refl 0) (by omega)
 unfold J2
 rw[h1,if_neg (by simp)]
 show RZ A9 (l++[G4 (B4 x)])=_
 unfold RZ
 rw[h3]
 have h4:=(TS.add hts).at.1
 show(if(A2 (l++[G4 (B4 x)]) (0+len (AN x))).kind=6 then _ else _)=_
 rw[h4,if_pos (by rfl),Tf.K5 hn]
end Go.Eng
namespace Go.Eng
open Go.RowKit
theorem AJ7(t:Tm)(n:A1):EP { t with name:=n}=EP t:=by
 obtain⟨o,m,nm,s,k,c⟩:=t
 unfold EP EJ
 simp only[Tm.mk.injEq,true_and]
theorem AJ8(t:Tm)(n:A1)(dn:List Tf)(y:Tf):KX { t with name:=n} dn y=KX t dn y:=by unfold KX CN;rfl
theorem n9(t:Tm)(n:A1): ∀(l dn:List Tf),FC { t with name:=n} dn l=FC t dn l
 |[],dn=>rfl
 |y::l,dn=>by rw[FC,FC,AJ8,n9 t n l]
theorem Tf.BP.named {x:Tf}(h:x.BP)(n:A1):(x.named n).BP:=by
 obtain⟨t,ps⟩:=x
 obtain⟨h1,h2⟩:=h
 refine⟨?_,?_⟩
 ·rw[Tf.zm]at h1;rw[Tf.named,Tf.zm];exact h1
 ·rw[Tf.IJ]at h2
  rw[Tf.named,Tf.IJ,n9]
  have e:EP ⟨t.op,len ps,n,t.s,t.n,t.c⟩=EP ⟨t.op,len ps,t.name,t.s,t.n,t.c⟩:=AJ7 ⟨t.op,len ps,t.name,t.s,t.n,t.c⟩ n
  show(EP ⟨t.op,len ps,n,t.s,t.n,t.c⟩&&FC t [] ps&&GQ ps)=true
  rw[e];exact h2
theorem AJ9{n:Nd}(h: -1000<=n.e/\n.e<=1000):0<=len (CP n)/\len (CP n)<=2*len n.s+1100:=by
 have h0:=AA n.s
 have h1:=RJ n.e
 have h2:=RJ (1-n.e-len n.s)
 have h3:=LA n.e
 have h4:=GV (BF (1-n.e-len n.s)++n.s) 0 (len (BF (1-n.e-len n.s)++n.s)+n.e)
 have h5:=L9 (BF (1-n.e-len n.s)++n.s) (len (BF (1-n.e-len n.s)++n.s)+n.e)
 have h6:=A5 (BF (1-n.e-len n.s)) n.s
 have hs:len (if n.neg=true then([45]:A1)else [])<=1/\0<=len (if n.neg=true then([45]:A1)else []):=by split<;>decide
 unfold CP
 dsimp only
 split
 ·rw[A7,len_nil];omega
 ·split
  ·rename_i hc
   simp only[Bool.and_eq_true,decide_eq_true_eq]at hc
   rw[A5,A5];omega
  ·split
   ·rename_i hc
    simp only[Bool.and_eq_true,decide_eq_true_eq]at hc
    rw[A5,A5,A5,A7,len_nil];omega
   ·rw[A5,A5,A5,A7,len_nil];omega
theorem AK0{n:Nd}(h:GK n=true): -1000<=n.e/\n.e<=1000:=by
 unfold GK at h
 split at h
 ·cases h
 ·rename_i hc
  simp only[Bool.or_eq_true,decide_eq_true_eq,not_or,Int.not_lt]at hc
  omega
theorem nA{c:Nd}(h:J9 c=true): -1000<=c.e/\c.e<=1000:=by
 rcases cF h with rfl|rfl|rfl|⟨h3,h4⟩|⟨s,rfl,hu⟩
 ·decide
 ·decide
 ·decide
 ·exact AK0 h4
 ·exact⟨by show(-1000:Int)<=0;decide,by show(0:Int)<=1000;decide⟩
theorem nC{c:Nd}(h:J9 c=true)(hl:len c.s<=100):len (H9 c)<=1300:=by
 have he:=nA h
 have hp:=AJ9 he
 have hq:=aA c.s
 unfold H9
 split
 ·decide
 split
 ·decide
 split
 ·decide
 split
 ·omega
 ·omega
def L1(v:Fl):Prop:= ∀t∈v,len t.s<=100/\len t.name<=100/\len t.c.s<=100
theorem L1.root {x:Tf}(h:L1 x.flat):len x.t.s<=100/\len x.t.name<=100/\len x.t.c.s<=100:=by
 have:=h x.node (by rw[Tf.TC];exact List.mem_cons_self)
 exact this
theorem AK1{t:Tm}: ∀ {l:List Tf},t∈B1 l↔ ∃y∈l,t∈y.flat:=by
 intro l
 induction l with
 |nil=>simp[B1]
 |cons y l ih=>rw[B1,List.mem_append,ih];simp
theorem L1.IK {x y:Tf}(h:L1 x.flat)(hy:y∈x.ps):L1 y.flat:=λ t ht=>h t (by rw[Tf.TC];exact List.mem_cons_of_mem _ (AK1.2 ⟨y,hy,ht⟩))
theorem L1.named {x:Tf}(h:L1 x.flat):L1 (x.named []).flat:=by
 have hr:=h.root
 intro t ht
 rw[Tf.TC]at ht
 rcases List.mem_cons.1 ht with rfl|ht
 ·obtain⟨t,ps⟩:=x
  exact⟨hr.1,by show len ([]:A1)<=100;decide,hr.2.2⟩
 ·rw[Tf.AC5]at ht
  exact h t (by rw[Tf.TC];exact List.mem_cons_of_mem _ ht)
theorem WW(o:Int)(s:A1):len (FW o s)<=len s+2:=by
 unfold FW;split
 ·rw[A5,A5,A7,len_nil,A7,len_nil];omega
 ·omega
def IL(x:Tf):Prop:=len (B4 x)+700<=2500*x.size
theorem MD{nm:Bool}{bt:A1}(hb:len bt<=5): ∀(l:List Tf) (fst:Bool),(∀y∈l,IL y/\len y.t.name<=100)->len (D3 nm bt fst l)<=2500*AQ l
 |[],fst,_=>by rw[D3,AQ];decide
 |y::l,fst,h=>by
  obtain⟨h1,h2⟩:=h y List.mem_cons_self
  have h3:=MD (nm:=nm) hb l false λ z hz=>h z (List.mem_cons_of_mem _ hz)
  have h4:=WW y.t.op (B4 y)
  have h5:=aB y.t.name
  have h6:len (if fst=true then []else bt)<=5:=by split;decide;exact hb
  have h7:len (if nm=true then DE y.t.name++[58,32]else [])<=604:=by
   split
   ·rw[A5,A7,A7,len_nil];omega
   ·decide
  unfold IL at h1
  rw[D3,A5,A5,A5,AQ]
  omega
theorem P6(o:Int):len (C6 o)<=10:=by
 unfold C6
 rcases Int.lt_or_le (o-5) 11 with h|h
 ·rcases Int.lt_or_le (o-5) 0 with h2|h2
  ·unfold A2;rw[show(o-5).toNat=0 by omega];decide
  ·obtain⟨k,hk⟩: ∃k,k=o-5:=⟨_,rfl⟩
   rw[<-hk]at h h2 ⊢
   have:k=0\/k=1\/k=2\/k=3\/k=4\/k=5\/k=6\/k=7\/k=8\/k=9\/k=10:=by omega
   rcases this with rfl|rfl|rfl|rfl|rfl|rfl|rfl|rfl|rfl|rfl|rfl<;>decide
 ·unfold A2
  rw[List.getD_eq_getElem?_getD,List.getElem?_eq_none (by simp;omega)];decide
theorem nD: ∀(n:Nat) (x:Tf),x.size<=n->x.BP->L1 x.flat->IL x:=by
 intro n
 induction n with
 |zero=>intro x h;have:=x.size_pos;omega
 |succ n ih=>
  intro x hn hg hs
  have hk:=hg.kids
  have hv:=K3 hg
  have hr:=hs.root
  have hL: ∀y∈x.ps,IL y/\len y.t.name<=100:=λ y hy=>⟨ih y (by have:=MB hy;rw[Tf.size_eq]at hn;omega) (hk y hy) (hs.IK hy),(hs.IK hy).root.2.1⟩
  obtain⟨t,ps⟩:=x
  have hL: ∀y∈ps,IL y/\len y.t.name<=100:=hL
  have hv:D4 t ps:=hv
  unfold IL
  rw[Tf.size]
  have h0:=AQ ps
  have one: ∀a:Tf,a∈ps->len (B4 a)+700<=2500*a.size:=λ a ha=>(hL a ha).1
  cases hv with
  |id nm=>show len ([46]:A1)+700<=_;rw[A7,len_nil];omega
  |field nm s hu=>
   have:=aB s
   have hr:len s<=100:=hr.1
   show len ([46]++DE s)+700<=_
   rw[A5,A7,len_nil];omega
  |part nm k h0 h1=>
   have:=cC h0 h1
   show len ([46,91]++Lib.itoa k++[93])+700<=_
   simp only[A5,A7,len_nil];omega
  |tail nm k h0 h1=>
   have:=cC h0 h1
   show len ([46,91]++Lib.itoa k++[58,93])+700<=_
   simp only[A5,A7,len_nil];omega
  |pipe nm a b=>
   have ha:=one a (by simp)
   have hb:=one b (by simp)
   have hi:=WW a.t.op (B4 a)
   show len (FW a.t.op (B4 a)++[32,124,32]++B4 b)+700<=_
   simp only[A5,A7,len_nil,AQ];omega
  |map nm a=>
   have ha:=one a (by simp)
   have ho:=P6 5
   show len (C6 5++[40]++B4 a++[41])+700<=_
   simp only[A5,A7,len_nil,AQ];omega
  |vals nm a=>
   have ha:=one a (by simp)
   have ho:=P6 6
   show len (C6 6++[40]++B4 a++[41])+700<=_
   simp only[A5,A7,len_nil,AQ];omega
  |wher nm a=>
   have ha:=one a (by simp)
   have ho:=P6 7
   show len (C6 7++[40]++B4 a++[41])+700<=_
   simp only[A5,A7,len_nil,AQ];omega
  |obj nm ps=>
   have:=MD (nm:=true) (bt:=[44,32]) (by decide) ps true hL
   show len ([123]++D3 true [44,32] true ps++[125])+700<=_
   simp only[A5,A7,len_nil];omega
  |tup nm ps=>
   have:=MD (nm:=false) (bt:=[44,32]) (by decide) ps true hL
   show len ([91]++D3 false [44,32] true ps++[93])+700<=_
   simp only[A5,A7,len_nil];omega
  |OY nm=>show len I8+700<=_;rw[show len I8=10 from rfl];omega
  |fromE nm=>show len IY+700<=_;rw[show len IY=12 from rfl];omega
  |rev nm=>show len JK+700<=_;rw[show len JK=7 from rfl];omega
  |group nm s hp=>
   have ho:=P6 12
   have hr:len s<=100:=hr.1
   show len (C6 12++[40]++s++[41])+700<=_
   simp only[A5,A7,len_nil];omega
  |sort nm s hp=>
   have ho:=P6 13
   have hr:len s<=100:=hr.1
   show len (C6 13++[40]++s++[41])+700<=_
   simp only[A5,A7,len_nil];omega
  |del nm s hp=>
   have ho:=P6 15
   have hr:len s<=100:=hr.1
   show len (C6 15++[40]++s++[41])+700<=_
   simp only[A5,A7,len_nil];omega
  |cmp nm s k c hp h0 h5 hc=>
   have hr1:len s<=100:=hr.1
   have hr2:len c.s<=100:=hr.2.2
   have hsc:=nC hc hr2
   have hm:len (A2 CH k)<=2:=by
    have:k=0\/k=1\/k=2\/k=3\/k=4\/k=5:=by omega
    rcases this with rfl|rfl|rfl|rfl|rfl|rfl<;>decide
   show len (s++[32]++A2 CH k++[32]++H9 c)+700<=_
   simp only[A5,A7,len_nil];omega
  |and nm a b=>
   have:=MD (nm:=false) (bt:=[32,97,110,100,32]) (by decide) [a,b] true hL
   show len (D3 false [32,97,110,100,32] true [a,b])+700<=_
   omega
  |or nm a b=>
   have:=MD (nm:=false) (bt:=[32,111,114,32]) (by decide) [a,b] true hL
   show len (D3 false [32,111,114,32] true [a,b])+700<=_
   omega
  |not nm a=>
   have ha:=one a (by simp)
   show len ([40]++B4 a++[32,124,32,110,111,116,41])+700<=_
   simp only[A5,A7,len_nil,AQ];omega
theorem nE(nm:Bool)(bt:A1)(y:Tf): ∀(l:List Tf) (fst:Bool),D3 nm bt fst (l++[y])=D3 nm bt fst l++((if fst&&l.isEmpty then []else bt)++((if nm then DE y.t.name++[58,32]else [])++FW y.t.op (B4 y)))
 |[],fst=>by
  rw[List.nil_append,D3,D3,D3]
  cases fst<;>simp
 |z::l,fst=>by
  rw[List.cons_append,D3,nE nm bt y l false,D3]
  simp
end Go.Eng
namespace Go.Eng
open Go.RowKit
theorem AK2{x:Tf}(h:x.t.op=0):B4 x=[46]:=by obtain⟨t,ps⟩:=x;have h:t.op=0:=h;unfold B4;rw[h];rfl
theorem AK3{x:Tf}(h:x.t.op=1):B4 x=[46]++DE x.t.s:=by obtain⟨t,ps⟩:=x;have h:t.op=1:=h;unfold B4;rw[h];rfl
theorem AK4{x:Tf}(h:x.t.op=2):B4 x=[46,91]++Lib.itoa x.t.n++[93]:=by obtain⟨t,ps⟩:=x;have h:t.op=2:=h;unfold B4;rw[h];rfl
theorem AK5{x:Tf}(h:x.t.op=3):B4 x=[46,91]++Lib.itoa x.t.n++[58,93]:=by obtain⟨t,ps⟩:=x;have h:t.op=3:=h;unfold B4;rw[h];rfl
theorem AK6{x:Tf}(h:x.t.op=4):B4 x=bZ [32,124,32] x.ps:=by obtain⟨t,ps⟩:=x;have h:t.op=4:=h;unfold B4;rw[h];rfl
theorem AK7{x:Tf}(h:x.t.op=8):B4 x=[123]++D3 true [44,32] true x.ps++[125]:=by obtain⟨t,ps⟩:=x;have h:t.op=8:=h;unfold B4;rw[h];rfl
theorem AK8{x:Tf}(h:x.t.op=9):B4 x=[91]++D3 false [44,32] true x.ps++[93]:=by obtain⟨t,ps⟩:=x;have h:t.op=9:=h;unfold B4;rw[h];rfl
theorem AK9{x:Tf}(h:x.t.op=10):B4 x=I8:=by obtain⟨t,ps⟩:=x;have h:t.op=10:=h;unfold B4;rw[h];rfl
theorem AL0{x:Tf}(h:x.t.op=11):B4 x=IY:=by obtain⟨t,ps⟩:=x;have h:t.op=11:=h;unfold B4;rw[h];rfl
theorem AL1{x:Tf}(h:x.t.op=14):B4 x=JK:=by obtain⟨t,ps⟩:=x;have h:t.op=14:=h;unfold B4;rw[h];rfl
theorem nF{x:Tf}(h:x.t.op=16):B4 x=x.t.s++[32]++A2 CH x.t.n++[32]++H9 x.t.c:=by obtain⟨t,ps⟩:=x;have h:t.op=16:=h;unfold B4;rw[h];rfl
theorem AL2{x:Tf}(h:x.t.op=17):B4 x=D3 false [32,97,110,100,32] true x.ps:=by obtain⟨t,ps⟩:=x;have h:t.op=17:=h;unfold B4;rw[h];rfl
theorem AL3{x:Tf}(h:x.t.op=18):B4 x=D3 false [32,111,114,32] true x.ps:=by obtain⟨t,ps⟩:=x;have h:t.op=18:=h;unfold B4;rw[h];rfl
theorem AL4{x:Tf}(h:x.t.op=19):B4 x=[40]++KZ x.ps++[32,124,32,110,111,116,41]:=by obtain⟨t,ps⟩:=x;have h:t.op=19:=h;unfold B4;rw[h];rfl
def R5(o:Int):Prop:=o=5\/o=6\/o=7\/o=12\/o=13\/o=15
theorem AL5{x:Tf}(h:R5 x.t.op):B4 x=C6 x.t.op++[40]++(if len x.ps=1 then KZ x.ps else x.t.s)++[41]:=by
 obtain⟨t,ps⟩:=x
 have h:R5 t.op:=h
 show B4 (.mk t ps)=C6 t.op++[40]++(if len ps=1 then KZ ps else t.s)++[41]
 unfold B4
 rcases h with h|h|h|h|h|h<;>rw[h]<;>rfl
theorem nG{t:Tm}{ps:List Tf}(h:D4 t ps)(e:t.op=2\/t.op=3):0<=t.n/\t.n<=1000000:=by
 cases h<;>first|(exact⟨by assumption,by assumption⟩)|(rcases e with e|e<;>exact absurd e (λ x=>by cases x))
theorem AL6{t:Tm}{ps:List Tf}(h:D4 t ps)(e:t.op=4): ∃a b,ps=[a,b]:=by
 cases h<;>first|(exact⟨_,_,rfl⟩)|(exact absurd e (λ x=>by cases x))
theorem AL7{t:Tm}{ps:List Tf}(h:D4 t ps)(e:t.op=16):0<=t.n/\t.n<=5/\J9 t.c=true:=by
 cases h<;>first|(exact⟨by assumption,by assumption,by assumption⟩)|(exact absurd e (λ x=>by cases x))
theorem AL8{t:Tm}{ps:List Tf}(h:D4 t ps)(e:t.op=19): ∃a,ps=[a]:=by
 cases h<;>first|(exact⟨_,rfl⟩)|(exact absurd e (λ x=>by cases x))
theorem AL9{t:Tm}{ps:List Tf}(h:D4 t ps)(e: ¬(t.op=0\/t.op=1\/t.op=2\/t.op=3\/t.op=4\/t.op=8\/t.op=9\/t.op=10\/t.op=11\/t.op=14\/t.op=16\/t.op=17\/t.op=18\/t.op=19)):R5 t.op:=by
 cases h
 all_goals first
  |exact .inl U
  |exact .inr (.inl U)
  |exact .inr (.inr (.inl U))
  |exact .inr (.inr (.inr (.inl U)))
  |exact .inr (.inr (.inr (.inr (.inl U))))
  |exact .inr (.inr (.inr (.inr (.inr U))))
  |exact absurd (by simp) e
end Go.Eng
