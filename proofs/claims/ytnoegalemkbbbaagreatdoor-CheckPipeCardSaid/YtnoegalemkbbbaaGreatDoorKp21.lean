/- Lemmas for the card. -/
import Derived.Test.YtnoegalemkbbbaaGreatDoorKp20
set_option linter.unusedVariables false
set_option linter.unusedSimpArgs false
set_option maxRecDepth 100000
set_option maxRecDepth 100000
namespace Go.Eng
open Go.RowKit
theorem BA2{α:Type}[Inhabited α](A B:List α){i:Int}(h0:0<=i):at' (A++B) (len A+i)=at' B i:=by
 unfold at'
 rw[show(len A+i).toNat=A.length+i.toNat by unfold len;omega,List.getD_eq_getElem?_getD,List.getD_eq_getElem?_getD,List.getElem?_append_right Aa,Nat.add_sub_cancel_left]
def aG(f:Fl):Option Int->Bool
 |some o=>(at' f o).op==1
 |none=>false
theorem BA3(p:List Sp)(x:Tf):QO p x=aG x.flat (FY p x):=by
 unfold QO aG;rfl
theorem wA: ∀(p:List Sp) (x:Tf),(BK p x).2=aG x.flat (FY p x)
 |[],x=>by
  show decide (x.t.op=1)=((at' x.flat 0).op==1)
  rw[Tf.FK]
  show decide (x.t.op=1)=(x.t.op==1)
  by_cases h:x.t.op=1<;>simp[h]
 |s::p,x=>by
  unfold BK FY
  by_cases hc:x.t.op≠2\/s.part=true
  ·rw[if_pos hc,if_pos hc];rfl
  ·rw[if_neg hc,if_neg hc,Tf.FK]
   have key: ∀(l:List Tf) (A:Fl) (o:Int),len A=o->(GB l o s.name (BK p)).2=aG (A++AO l) (L9 l o s.name (FY p)):=by
    intro l
    induction l with
    |nil=>intro A o ho;rfl
    |cons y l i=>
     intro A o ho
     unfold GB L9
     by_cases hn:y.t.name=s.name
     ·rw[if_pos hn,if_pos hn]
      have b:=wA p y
      cases hl:FY p y with
      |none=>
       rw[hl]at b
       have b:(BK p y).2=false:=b
       rw[b,if_neg Ab];rfl
      |some k=>
       obtain⟨e,j⟩:=gP p y k hl
       rw[hl]at b
       have b:(BK p y).2=((at' y.flat k).op==1):=b
       show _=((at' (A++(y.flat++AO l)) (o+k)).op==1)
       rw[<-ho,BA2 A _ e,nQ _ _ e (by unfold len;rw[Tf.DC];omega),<-b]
       cases (BK p y).2<;>rfl
     ·rw[if_neg hn,if_neg hn,show o+(y.size:Int)=o+len y.flat by unfold len;rw[Tf.DC]]
      have:=i (A++y.flat) (o+len y.flat) (by rw[AQ,ho])
      rw[List.append_assoc]at this
      exact this
   exact key x.ps [x.node] 1 U
theorem wB{l:A0}{c:UInt8}(h: ∀a q,l=a::q->a≠c):Lib.trimLeftB l c=l:=by
 cases l with
 |nil=>rfl
 |cons a q=>unfold Lib.trimLeftB;rw[List.dropWhile_cons];simp[h a q U]
theorem BA4{s:A0}(hs:s≠[])(h0:A3 s 0≠48)(h1:A3 s (len s-1)≠48):Lib.trimB s 48=s:=by
 have h:Lib.trimRightB s 48=s:=by
  show(Lib.trimLeftB s.reverse 48).reverse=s
  rw[wB λ a q e=>?_,List.reverse_reverse]
  have e2:s=q.reverse++[a]:=by rw[<-List.reverse_reverse s,e,List.reverse_cons]
  intro b
  apply h1
  rw[e2,AQ,show len [a]=1 from rfl,show len q.reverse+1-1=len q.reverse by omega]
  have:=YM (u:=q.reverse) (v:=[a]) (k:=0) (Int.le_refl 0)
  rw[Int.add_zero,G8]at this
  rw[this,b];rfl
 unfold Lib.trimB
 rw[h,wB λ a q e=>?_]
 intro b
 apply h0
 rw[e,G8,b];rfl
theorem BA5{n:Nd}(h:JB n=true):OV n=true:=by
 unfold JB at h
 split at h
 ·cases h
 rename_i b
 simp only[Bool.or_eq_true,bne_iff_ne,ne_eq,Bool.not_eq_true',beq_eq_false_iff_ne,decide_eq_true_eq,not_or,Decidable.not_not,Bool.not_eq_false]at b
 obtain⟨⟨⟨⟨⟨⟨⟨e,c2⟩,c3⟩,c4⟩,c5⟩,i⟩,j⟩,k⟩:=b
 unfold OV
 rw[if_neg (by
  rintro(h|h|h|h|h|h|h|h)
  ·exact h e
  ·exact h c2
  ·exact h c3
  ·omega
  ·omega
  ·omega
  ·omega
  ·rw[c4]at h;cases h)]
 by_cases hs:n.s=[]
 ·rw[if_pos (by simp[hs])]at h
  rw[if_pos hs];simpa using h
 ·rw[if_neg (by simp[hs])]at h
  rw[if_neg hs]
  simp only[Bool.and_eq_true,bne_iff_ne]at h
  rw[BA4 hs h.1 h.2];simp
theorem BA6{n:Nd}(h:GA n=true):JW n=true:=by
 unfold GA KI at h
 unfold JW
 by_cases h0:n.kind=0\/n.kind=1\/n.kind=2
 ·rw[if_pos h0]at h ⊢;exact h
 rw[if_neg h0]at h ⊢
 by_cases h3:n.kind=3
 ·rw[if_pos h3]at h ⊢;exact BA5 h
 rw[if_neg h3]at h ⊢
 by_cases h4:n.kind=4
 ·rw[if_pos h4]at h ⊢
  rw[Bool.and_eq_true]at h ⊢
  exact⟨w8 h.1,h.2⟩
 rw[if_neg h4]at h ⊢
 exact h
theorem BA7{n:Int}{c:Nd}(h:ZA n c=true):NK n c=true:=by
 unfold ZA at h
 unfold NK GN
 simp only[Bool.and_eq_true,decide_eq_true_eq]at h ⊢
 exact⟨⟨h.1.1,h.1.2⟩,h.2.1,⟨BA6 h.2.2.2,h.2.2.1.1⟩,by have:=h.2.2.1.2;omega⟩
theorem BA8{t:Tm}(hp:(t.op=7\/t.op=8)->(HH t.s).2=true)(h:H3 t=true):I1 t=true:=by
 unfold H3 JY at h
 unfold I1 IH
 by_cases h0:t.op=0
 ·rw[if_pos h0]at h ⊢;rw[Bool.and_comm];exact h
 rw[if_neg h0]at h ⊢
 by_cases h1:t.op=1
 ·rw[if_pos h1]at h ⊢
  simp only[Bool.and_eq_true,decide_eq_true_eq]at h ⊢
  exact⟨⟨⟨h.2.1.1,Aa⟩,h.2.2⟩,h.1⟩
 rw[if_neg h1]at h ⊢
 by_cases h9:t.op=9
 ·rw[if_pos h9]at h ⊢
  simp only[Bool.and_eq_true,decide_eq_true_eq]at h ⊢
  exact⟨⟨h.2.1,BA7 h.2.2⟩,h.1⟩
 rw[if_neg h9]at h ⊢
 by_cases h2:t.op=2
 ·rw[if_pos h2]at h ⊢
  simp only[Bool.and_eq_true,Bool.or_eq_true,beq_iff_eq,decide_eq_true_eq]at h ⊢
  exact⟨⟨⟨h.2.1,Aa⟩,Aa⟩,h.1⟩
 rw[if_neg h2]at h ⊢
 by_cases h4:t.op=4
 ·rw[if_pos h4]at h ⊢;rw[Bool.and_comm];exact h
 rw[if_neg h4]at h ⊢
 by_cases h3:t.op=3\/t.op=5\/t.op=6
 ·rw[if_pos h3]at h ⊢;rw[Bool.and_comm];exact h
 rw[if_neg h3]at h ⊢
 by_cases h7:t.op=7\/t.op=8
 ·rw[if_pos h7]at h ⊢
  simp only[Bool.and_eq_true,decide_eq_true_eq]at h ⊢
  exact⟨⟨hp h7,h.2.1⟩,h.1⟩
 rw[if_neg h7]at h ⊢
 simp at h
theorem BA9{w u:A0}(hw:w≠[])(h0: ∀j:Int,0<=j->j<len w->CK (A3 w j) (j==0)=true)(hu: ∀c r,u=c::r->CK (c.toNat:Int) false=false):CZ (w++u) 0=len w:=by
 have hl:=HQ hw
 have e:=A9 u
 refine SJ (n:=len w) (by rw[AQ];omega) (λ j h1 b=>by rw[IU h1 b];exact h0 j h1 b) (λ h=>?_) 0 (Int.le_refl _) Aa
 rw[oT (Int.le_refl _),Int.sub_self]
 cases u with
 |nil=>rw[AQ,len_nil]at h;omega
 |cons c r=>rw[G8];rw[show(len w==0)=false from by simpa using(by omega:len w≠0)];exact hu c r U
theorem wC(c:UInt8)(s r:A0):Eng.sub (c::(s++r)) 1 (len s+1)=s:=by
 unfold Eng.sub
 rw[show(len s+1).toNat=s.length+1 by unfold len;omega]
 simp
theorem BB0{s r:A0}(hu:DO s=true)(k: ∀c r',r=c::r'->CK (c.toNat:Int) false=false):G9 ((46::FH s)++r)=(⟨false,s,0⟩,len (46::FH s)):=by
 have e:Lib.hasPrefix ((46::FH s)++r) [46]=true:=by rfl
 have l:A5 ((46::FH s)++r) 1=FH s++r:=rfl
 unfold G9
 rw[e,if_neg Ab,l,AM]
 unfold FH
 by_cases h:FM s=true
 ·obtain⟨h1,b⟩:=ZI h
  have hl:=HQ h1
  rw[if_pos h,BA9 h1 b k,if_pos hl]
  show((⟨false,Eng.sub (46::(s++r)) 1 (len s+1),0⟩:Sp),len s+1)=_
  rw[wC,Int.add_comm]
 ·rw[if_neg h,<-YG hu,fM hu r]
  obtain⟨q,w⟩:=Z0 s
  have hw:CZ (E5 s++r) 0=0:=by
   refine SJ (n:=0) (by have:=A9 (E5 s++r);omega) (λ j h1 b=>by omega) (λ _=>?_) 0 (Int.le_refl _) (Int.le_refl _)
   rw[w,List.cons_append,G8];rfl
  rw[hw,if_neg Ab]
  have i:Eng.sub ((46::E5 s)++r) 1 (1+len (E5 s))=E5 s:=by
   rw[Int.add_comm];exact wC 46 (E5 s) r
  rw[<-AV7,i,if_neg (by rintro(b|b|b);exact b rfl;exact h b;exact b rfl),Int.add_comm]
def J8(p:List Sp):A0:=(p.map Sp.KH).flatten
def NY(x:Sp):Prop:=x.part=false/\x.n=0/\DO x.name=true
theorem NY.KH {x:Sp}(h:NY x):x.KH=46::FH x.name:=by
 unfold Sp.KH;rw[if_neg (by rw[h.1];decide)];rfl
theorem NY.eq {x:Sp}(h:NY x):(⟨false,x.name,0⟩:Sp)=x:=by
 obtain⟨a,b,c⟩:=x
 obtain⟨h1,e,_⟩:=h
 have h1:a=false:=h1
 have e:c=0:=e
 subst h1 e;rfl
theorem BB1{p:List Sp}(h: ∀x∈p,NY x): ∀c r',J8 p=c::r'->CK (c.toNat:Int) false=false:=by
 intro c r' e
 cases p with
 |nil=>cases e
 |cons x p=>
  unfold J8 at e
  rw[List.map_cons,List.flatten_cons,(h x (.head _)).KH]at e
  rw[<-(List.cons.inj e).1];decide
theorem wD: ∀(p2 p1:List Sp) (A:A0) (f:Nat),(∀x∈p2,NY x)->p2.length<=f->IF f (A++J8 p2) p1 (len A)=(p1++p2,len (A++J8 p2))
 |[],p1,A,f,_,_=>by
  rw[show J8 []=[]from rfl,List.append_nil,List.append_nil]
  cases f with
  |zero=>rfl
  |succ f=>rw[IF,if_neg Aa]
 |x::p2,p1,A,f,h,l=>by
  rw[List.length_cons]at l
  obtain⟨f,rfl⟩: ∃g,f=g+1:=⟨f-1,Aa⟩
  have hx:=h x (.head _)
  have j: ∀y∈p2,NY y:=λ y n=>h y (.tail _ n)
  have e:J8 (x::p2)=(46::FH x.name)++J8 p2:=by
   unfold J8;rw[List.map_cons,List.flatten_cons,hx.KH]
  have q:=A9 (FH x.name)
  have w:=A9 (J8 p2)
  have b:=BB0 (s:=x.name) (r:=J8 p2) hx.2.2 (BB1 j)
  have i:FX (A++J8 (x::p2)) (len A)=(x,len (46::FH x.name)):=by
   unfold FX
   rw[VB,e,b,if_pos (by show len (46::FH x.name)≠0;rw[AM];omega),hx.eq]
  have k:=wD p2 (p1++[x]) (A++(46::FH x.name)) f j Aa
  rw[List.append_assoc,<-e,AQ]at k
  rw[IF,if_pos (by rw[e,AQ,AQ,AM];omega),i,if_neg (by show ¬len (46::FH x.name)=0;rw[AM];omega)]
  show IF f (A++J8 (x::p2)) (p1++[x]) (len A+len (46::FH x.name))=_
  rw[k,List.append_assoc];rfl
theorem BB2{s:A0}(hu:DO s=true):FH s≠[]:=by
 unfold FH
 by_cases h:FM s=true
 ·rw[if_pos h];exact(ZI h).1
 ·rw[if_neg h,<-YG hu]
  obtain⟨q,b⟩:=Z0 s
  rw[b];simp
theorem BB3{p:List Sp}(hl:p.length<=20)(h: ∀x∈p,NY x):C8 (JU p)=(p,0,0):=by
 cases p with
 |nil=>rfl
 |cons x p=>
  have hx:=h x (.head _)
  have e:JU (x::p)=J8 (x::p):=by
   unfold JU J8
   rw[if_neg (by rintro(h|h);cases h;have h:x.part=true:=h;rw[hx.1]at h;cases h)];rfl
  have b:JU (x::p)≠[46]:=by
   rw[e];unfold J8
   rw[List.map_cons,List.flatten_cons,hx.KH]
   intro i
   have:=(List.cons.inj i).2
   exact BB2 hx.2.2 (List.append_eq_nil_iff.1 this).1
  have hg:=wD (x::p) [] [] 20 h hl
  rw[List.nil_append,List.nil_append,len_nil,<-e]at hg
  unfold C8
  rw[if_neg b,hg,if_neg (by rintro(h|h);(have h:len (JU (x::p))<len (JU (x::p)):=h;omega);cases h)]
theorem wE{x:Tf}(e:ML x=true)(ho:x.t.op=7\/x.t.op=8):HH x.t.s=((I2 x.t.s).1,true):=by
 obtain⟨p,p1,p2,p3,p4,p5⟩:=Az9 e ho
 have h: ∀y∈p,NY y:=λ y b=>⟨p5 y b,(p2 y b).2 (p5 y b)⟩
 have h1:C8 x.t.s=(p,0,0):=by rw[p3];exact BB3 p1 h
 have i:p.any (λ x=>x.part)=false:=by
  rw[List.any_eq_false];intro y b;rw[p5 y b];decide
 unfold HH I2
 rw[h1,p4]
 show(p,decide ((0:Int)=0)&& !p.any (λ x=>x.part))=_
 rw[i];rfl
theorem wF{o:Int}: ∀ {l:List Tf} {L:Option A0},ES o L l=true->(∀y∈l,CX y=true)->FD o l=true
 |[],L,_,_=>by rw[FD]
 |x::l,L,h,hw=>by
  rw[ES]at h
  simp only[Bool.and_eq_true]at h
  obtain⟨⟨⟨h1,i⟩,e⟩,b⟩:=h
  have j:Lib.validD x.t.name=true:=by
   by_cases ho:o=2
   ·rw[ho]at e
    simp only[decide_true,Bool.not_true,Bool.false_or,Bool.and_eq_true]at e
    exact w8 e.1
   ·have:x.t.name=[]:=by simpa[ho]using i
    rw[this];rfl
  have k:QK o x.t.name l=true:=by
   cases l with
   |nil=>rfl
   |cons y l=>
    unfold QK
    by_cases ho:o=2
    ·rw[ho]at b ⊢
     rw[ES]at b
     simp only[Bool.and_eq_true,decide_true,Bool.not_true,Bool.false_or,Option.all_some,Bool.not_eq_true',decide_eq_false_iff_not]at b
     have:=b.1.2.2
     simp[this]
    ·simp[ho]
  rw[FD,h1,i,j,hw x (.head _),k,wF b λ y n=>hw y (.tail _ n)];rfl
theorem iT: ∀(n:Nat) (x:Tf),x.size<=n->ML x=true->CX x=true
 |0,x,h,_=>by have:=x.size_pos;omega
 |n+1,x,h,e=>by
  obtain⟨j,a2,a3,a4⟩:=w6 e
  have hs:=Tf.size_eq x
  have hw: ∀y∈x.ps,CX y=true:=λ y i=>iT n y (by have:=I0 i;omega) (w4 a4 y i)
  have h1:I1 { x.t with many:=len x.ps}=true:=BA8 (λ ho=>by
   have ho:x.t.op=7\/x.t.op=8:=ho
   show(HH x.t.s).2=true
   rw[wE e ho]) j
  have k:QJ x.t x.ps=true:=by
   have key: ∀q,P0 x.t q=true->QJ x.t q=true:=by
    intro q b
    by_cases ho:x.t.op=7\/x.t.op=8
    ·match q,b with
     |[],b=>
      have b:(if x.t.op=7\/x.t.op=8 then false else true)=true:=b
      rw[if_pos ho]at b;cases b
     |[y],b=>
      have b:(if x.t.op=7\/x.t.op=8 then QO (I2 x.t.s).1 y else true)=true:=b
      show(if x.t.op=7\/x.t.op=8 then(BK (HH x.t.s).1 y).2 else true)=true
      rw[if_pos ho]at b ⊢
      rw[wE e ho,wA,<-BA3];exact b
     |y::z::r,b=>
      have b:(if x.t.op=7\/x.t.op=8 then false else true)=true:=b
      rw[if_pos ho]at b;cases b
    ·unfold QJ
     split
     ·rw[if_neg ho]
     ·rw[if_neg ho]
   exact key _ a3
  rw[gK,h1,wF a2 hw,k];rfl
def aH(u:Tf):Bool:=if u.t.op=1 then(TF u.t.n (u.ps.map Tf.node)).2 else true
mutual
def TH:Tf->Bool
 | .mk t ps=>aH (.mk t ps)&&K6 ps
def K6:List Tf->Bool
 |[]=>true
 |x::l=>TH x&&K6 l
end
theorem BB4(a b:List Tf):K6 (a++b)=(K6 a&&K6 b):=by
 induction a with
 |nil=>simp[K6]
 |cons x a e=>rw[List.cons_append,K6,K6,e,Bool.and_assoc]
theorem BB5(u:Tf)(us:List Tf):K6 (u::us)=(aH u&&K6 (u.ps++us)):=by
 cases u with|mk t ps=>rw[K6,TH,BB4,Bool.and_assoc];rfl
theorem BB6{a:Tm}(h:ZD a):AtR a:=⟨h.num,h.s,h.e⟩
structure Tf.W8 (x:Tf):Prop where
 right:x.gQ
 AR:TH x=true
end Go.Eng
namespace Go.Proofs.YtnoegalemkbbbaaGreatDoor
open Go.Proofs.Tryz
open Go.Eng
theorem wG{w:World}{M:Mem}(v:Value)(f:Fl)(i:Int)(z:Sat w M)(hl:(A7 v f).ok M)(H:len f<=1048576)(h0:0<=i)(h1:i<len f)(ho:(at' f i).op=1)(hm:0<=(at' f i).many)(A:i+1+(at' f i).many<=len f):
    Calls prog 41 [v,i64 i].toArray w (N5 w M (λ u:Value=>u) (λ _=>True) (λ u=>[(0,kn u 7 (Eng.sub f (i+1) (i+1+(at' f i).many)) C5)])):=by
 refine AH (Hr:=[]) AF func41 U ntmps41 [(0,A7 v f)] [] [.sl 0 v,I i] U (Aj z) (AG hl A4) (λ B C=>BF 1 ([]:List Tm) C5 7 113 ZB U U Ah U λ u=>B5 (σ:=Int×Value×Fl) (λ(j,u,y)=>⟨[(0,A7 v f),(1,kn u 7 y C5)],[(1,.ho (.own 113 7 u y.length (y.flatMap C5)))],[Z 0 (.sl 0 v),Z 1 (I i),Z 5 (.sl 1 u),Z 6 (I j)]⟩) (λ(j,u,y)=>i+1<=j/\j<=i+1+(at' f i).many/\y=Eng.sub f (i+1) j) (λ(j,u,y)=>(i+1+(at' f i).many-j).toNat) (i+1,u,[]) U U ⟨Aa,Aa,by unfold Eng.sub;simp⟩ ?_) U
 rintro⟨j,u,y⟩ ⟨e,D,l⟩
 have E:len y=j-(i+1):=by rw[l,FG Aa e Aa]
 refine A1 U (λ b=>?_) (λ b=>?_)<;>simp only[zb]at b
 ·have n:Eng.sub f (i+1) (j+1)=Eng.sub f (i+1) j++[at' f j]:=by
   obtain⟨F,G⟩:=CG f (i:=j) Aa Aa
   unfold Eng.sub
   rw[show(j+1).toNat-(i+1).toNat=(j.toNat-(i+1).toNat)+1 by omega,List.take_add_one,G,List.getElem?_drop,show(i+1).toNat+(j.toNat-(i+1).toNat)=j.toNat by omega,List.getElem?_eq_getElem F]
   rfl
  exact DI [12,13,14] 4 (λ _ _ _ _ _ h=>h) U BM Ac <|AK 12 U U U <|BF 3 [at' f j] C5 7 113 ZB U U Ah U λ v3=>AD U <|AK 13 U U U <|F5 72 U U U underlying79 type113 U U sL (by simp only[AM,len_nil];omega) λ v'=>AD U <|AK 14 U U U <|AD U <|BN U U U <|AX (j+1,v',y++[at' f j]) U U ⟨Aa,Aa,by rw[n,<-l]⟩ Ag
 ·have q:j=i+1+(at' f i).many:=by
   rcases Decidable.em (j<=i+(at' f i).many)with h|h
   · exact absurd ho (by simpa[h]using b)
   · omega
  subst q
  exact A2 C U U U λ w M s=>⟨u,M,rfl,trivial,s.st.done,AG (by rw[<-l];exact s.f.get (k:=1) U) A4⟩
theorem BB7(f:Fl)(v:Value)(M:Mem)(w:World)(hM:Sat w M)(hl:(A7 v f).ok M)(hb:len f<=1048576)(S: ∀t∈f,len t.name<=1000000/\len t.s<=1000000/\len t.c.s<=1000000):
    Calls prog 17 [v].toArray w λ e w'=>(∃b,e= .returned (.bool b)/\(b=true-> ∃x:Tf,f=x.flat/\x.W8))/\Ext w w':=by
 refine AH (Hr:=[]) AF func17 U ntmps17 [(0,A7 v f)] [] [.sl 0 v] U (Aj hM) (AG hl A4) (λ B T=>?_) U
 refine EW (γ:=Bool) (pu:=λ b=>b=true-> ∃x:Tf,f=x.flat/\x.gQ) (Fg:=λ _=>[]) (λ b:Bool=>.v (.bool b)) [] U U call20 U (λ w M j=>(Aj6 f v M w j.st.sat (j.sl 0 U) Aa (λ t ht=>by have:=S t ht;omega)).mono λ e w' he=>by
   obtain⟨⟨b,e1,e2⟩,e3⟩:=he
   exact⟨b,M,e1,e2,Grow.TO j.st.sat e3,A4⟩) λ b hbr=>?_
 refine A1 U (λ h1=>?_) (λ h1=>?_)
 ·exact A2 T rfl rfl rfl λ w M j=>⟨⟨false,rfl,λ h=>by cases h⟩,j.st.low⟩
 obtain⟨x,rfl,hr⟩:=hbr (by simpa using h1)
 have hlp:=x.EE
 have hw:CX x=true:=iT x.size x (Nat.le_refl _) hr.all
 refine B5 (σ:=Int×List Tf) (λ(i,us)=>⟨[(0,A7 v x.flat)],[],[Z 0 (.sl 0 v),Z 3 (I i)]⟩) (λ(i,us)=>D9 x.flat i us []/\TH x=K6 us/\ ∀u∈us,CX u=true) (λ(i,us)=>(len x.flat-i).toNat) (0,[x]) U U ⟨⟨Aa,by show x.flat=(x.flat++AO [])++[];simp[AO]⟩,by show _=(TH x&&true);rw[Bool.and_true],λ u hu=>by rw[List.mem_singleton.1 hu];exact hw⟩ ?_
 rintro⟨i,us⟩ ⟨G,O,V⟩
 have W:=G.1
 refine A1 U (λ P=>?_) (λ P=>?_)<;>simp only[zb]at P
 ·cases us with
  |nil=>
   exfalso
   have h2:=G.2
   have h3:(x.flat.drop i.toNat).length=0:=by rw[h2];rfl
   rw[List.length_drop]at h3
   unfold len at P;omega
  |cons u us=>
  obtain⟨Q,hq,q⟩:=G.step
  have A:(at' x.flat i).many=len u.ps:=by rw[hq]
  have R:(at' x.flat i).op=u.t.op:=by rw[hq]
  have H:(at' x.flat i).n=u.t.n:=by rw[hq]
  have hpn:=A9 u.ps
  have hfl:=q.KY Aa
  rw[JJ,AQ]at hfl
  have hfg:=JS u.ps
  have hfu:=A9 (AO us)
  have hfr:len ([]:Fl)=0:=rfl
  have X:=V u (.head _)
  have J: ∀z∈u.ps++us,CX z=true:=λ z K=>by
   rcases List.mem_append.1 K with K|K
   · exact(VW (VX X).2 z K).1
   · exact V z (.tail _ K)
  have C:=BB5 u us
  refine A1 U (λ L=>?_) (λ L=>?_)<;>simp only[zb]at L<;>rw[R]at L
  ·refine AX (i+1,u.ps++us) U U ⟨q,?_,J⟩ Ag
   rw[O,C];unfold aH;rw[if_neg L,Bool.true_and]
  have N:u.t.op=1:=by omega
  have D:=i6 X N
  have l:Eng.sub x.flat (i+1) (i+1+(at' x.flat i).many)=u.ps.map Tf.node:=by rw[A];exact tM q λ z K=>(D.2 z K).1
  have E: ∀a∈u.ps.map Tf.node,AtR a:=λ a ha=>by
   obtain⟨z,K,rfl⟩:=List.mem_map.1 ha
   refine BB6 (tN (D.2 z K).2 (S z.node ?_).2.2)
   have h2:z.node∈Eng.sub x.flat (i+1) (i+1+(at' x.flat i).many):=by rw[l];exact ha
   unfold Eng.sub at h2
   exact List.mem_of_mem_drop (List.mem_of_mem_take h2)
  have F:(TF (at' x.flat i).n (Eng.sub x.flat (i+1) (i+1+(at' x.flat i).many))).2=true->TH x=K6 (u.ps++us):=λ h=>by
   rw[l,H]at h
   rw[O,C];unfold aH;rw[if_pos N,h,Bool.true_and]
  have hml:len (u.ps.map Tf.node)=len u.ps:=by unfold len;rw[List.length_map]
  refine DI [7,8,12,13] 5 (λ _ _ _ _ _ h=>h) U BM Ac <|G6 7 12 U U U ?_ ?_
  ·refine EW (λ u:Value=>.sl 25 u) [25] (Fg:=λ u=>[(0,kn u 7 (Eng.sub x.flat (i+1) (i+1+(at' x.flat i).many)) C5)]) (pu:=λ _=>True) U U call41 U (λ w M j=>wG v x.flat i j.st.sat (j.f.get (k:=0) U) hb W Q (by rw[R];exact N) (by rw[A];omega) (by rw[A];omega)) λ v25 _=>AD U <|G6 8 12 U U U ?_ ?_
   ·exact AJ U call40 U U (λ _ w M j=>iS (at' x.flat i).n v25 (Eng.sub x.flat (i+1) (i+1+(at' x.flat i).many)) j.st.sat (j.f.get (k:=25) U) (by rw[l];omega) (by rw[l];exact E) (by rw[H];exact D.1)) U <|AD U <|AK 12 U U U <|BA 55 U zeroValue46 U λ b5=>AD U <|AK 13 U U U <|AD U <|BN U U U <|A1 U (λ y=>A2 T rfl rfl rfl λ w M j=>⟨⟨false,rfl,λ h=>by cases h⟩,j.st.low⟩) (λ y=>AX (i+1,u.ps++us) U U ⟨q,F (by simpa using y),J⟩ Ag)
   ·exact BA 55 U zeroValue46 U λ b5=>AD U <|AK 8 U U U <|AJ U call40 U U (λ _ w M j=>iS (at' x.flat i).n v25 (Eng.sub x.flat (i+1) (i+1+(at' x.flat i).many)) j.st.sat (j.f.get (k:=25) U) (by rw[l];omega) (by rw[l];exact E) (by rw[H];exact D.1)) U <|AD U <|AK 13 U U U <|AD U <|BN U U U <|A1 U (λ y=>A2 T rfl rfl rfl λ w M j=>⟨⟨false,rfl,λ h=>by cases h⟩,j.st.low⟩) (λ y=>AX (i+1,u.ps++us) U U ⟨q,F (by simpa using y),J⟩ Ag)
  ·exact BA 55 U zeroValue46 U λ b5=>AD U <|AK 7 U U U <|EW (λ u:Value=>.sl 25 u) [25] (Fg:=λ u=>[(0,kn u 7 (Eng.sub x.flat (i+1) (i+1+(at' x.flat i).many)) C5)]) (pu:=λ _=>True) U U call41 U (λ w M j=>wG v x.flat i j.st.sat (j.f.get (k:=0) U) hb W Q (by rw[R];exact N) (by rw[A];omega) (by rw[A];omega)) λ v25 _=>AD U <|AK 8 U U U <|AJ U call40 U U (λ _ w M j=>iS (at' x.flat i).n v25 (Eng.sub x.flat (i+1) (i+1+(at' x.flat i).many)) j.st.sat (j.f.get (k:=25) U) (by rw[l];omega) (by rw[l];exact E) (by rw[H];exact D.1)) U <|AD U <|AK 13 U U U <|AD U <|BN U U U <|A1 U (λ y=>A2 T rfl rfl rfl λ w M j=>⟨⟨false,rfl,λ h=>by cases h⟩,j.st.low⟩) (λ y=>AX (i+1,u.ps++us) U U ⟨q,F (by simpa using y),J⟩ Ag)
 ·have hun:us=[]:=by
   cases us with
   |nil=>rfl
   |cons u us=>obtain⟨Q,_⟩:=G.step;omega
  subst hun
  exact A2 T U U U λ w M j=>⟨⟨true,rfl,λ _=>⟨x,rfl,hr,by rw[O];rfl⟩⟩,j.st.low⟩
theorem BB8(f:Fl)(v:Value)(m:Int)(M:Mem)(w:World)(q:Sat w M)(hl:(A7 v f).ok M)(hm:0<=m/\m<=1048576):
   Calls prog 32 [v,i64 m].toArray w λ e w'=>(∃b,e= .returned (.bool b)/\(b=true->NL m f=true/\ ∃x:Tf,f=x.flat/\x.W8))/\Ext w w':=by
 refine AH (Hr:=[]) AF func32 U ntmps32 [(0,A7 v f)] [] [.sl 0 v,I m] U (Aj q) (AG hl A4) (λ B n=>AJ U call75 U U (λ _ w M i=>Ai2 f v m M w i.st.sat (i.sl 0 U) hm) U <|EX (.v (.bool false)) U U (λ hs=>?_) (λ hs=>?_)) U
 ·have j:=hs
  unfold NL at j
  simp only[Bool.and_eq_true,decide_eq_true_eq,List.all_eq_true]at j
  refine EW (γ:=Bool) (pu:=λ b=>b=true-> ∃x:Tf,f=x.flat/\x.W8) (Fg:=λ _=>[]) (λ b:Bool=>.v (.bool b)) [] U U call17 U (hE1:=M6 hs U) (λ w M i=>(BB7 f v M w i.st.sat (i.f.get (k:=0) U) Aa (λ t s=>by have:=j.2 t s;omega)).mono λ e w' he=>by
   obtain⟨⟨b,y,e2⟩,e3⟩:=he
   exact⟨b,M,y,e2,Grow.TO i.st.sat e3,A4⟩) λ b l=>?_
  exact A2 n U U U λ w M i=>⟨⟨b,by rw[hs];rfl,λ h=>⟨hs,l h⟩⟩,i.st.low⟩
 ·exact A2 n rfl rfl rfl λ w M i=>⟨⟨false,by rw[hs];rfl,λ h=>by cases h⟩,i.st.low⟩
end Go.Proofs.YtnoegalemkbbbaaGreatDoor
namespace Go.Eng
open Go.RowKit
def LN:Tf:=.mk { AP 16 with s:=[46,97],n:=4,c:=⟨3,0,[],[49],false,0⟩} []
def J9:Tf:=.mk (AP 5) [.mk (AP 4) [.mk (AP 7) [LN],.mk { AP 1 with s:=[98]} []]]
def wH:Tf:=.mk { AP 1 with n:=8,name:=[97]} []
def TI:Tf:=.mk (AP 2) [wH,.mk { AP 1 with n:=16,name:=[98]} []]
def NZ:Tf:=.mk (AP 5) [TI]
def PD:Tf:=.mk (AP 2) [wH]
theorem wI:J9.AR:=⟨by simp[J9,LN,Tf.zm,HI,AP],Ac⟩
theorem BB9:LN.AR:=⟨by simp[LN,Tf.zm,HI,AP],Ac⟩
theorem wJ:AT J9:=by unfold AT J4;decide+kernel
theorem BC0:AT LN:=by unfold AT J4;decide+kernel
theorem BC1:AT NZ:=by unfold AT J4;decide+kernel
theorem BC2:AT TI:=by unfold AT J4;decide+kernel
theorem BC3:AT PD:=by unfold AT J4;decide+kernel
theorem al1:(CY J9 NZ).2.2=0/\len (CY J9 NZ).1=2/\(at' (CY J9 NZ).1 1).n=16:=by decide+kernel
theorem al2:(CY J9 TI).2=(0,1):=by decide+kernel
theorem al3:(NS LN PD).2.2=0/\len (NS LN PD).1=3:=by decide+kernel
theorem BC7{t:Tm}(h:I1 t=true)(ho:t.op=3\/(5<=t.op/\t.op<=8)):t.many=1:=by
 unfold I1 IH at h
 rw[if_neg Aa,if_neg Aa,if_neg Aa,if_neg Aa,if_neg Aa]at h
 by_cases h3:t.op=3\/t.op=5\/t.op=6
 ·rw[if_pos h3]at h
  simp only[Bool.and_eq_true,beq_iff_eq]at h
  exact h.1
 ·rw[if_neg h3,if_pos Aa]at h
  simp only[Bool.and_eq_true,beq_iff_eq]at h
  exact h.1.2
theorem BC8: ∀(n:Nat) (x:Tf),x.size<=n->CX x=true->B6 x=true:=by
 intro n
 induction n with
 |zero=>intro x h;have:=x.size_pos;omega
 |succ n e=>
  intro x j hw
  have hs:=x.size_eq
  obtain⟨h1,i⟩:=VX hw
  rw[VY,Bool.and_eq_true,T4]
  refine⟨?_,λ y b=>e y (by have:=I0 b;omega) (VW i y b).1⟩
  unfold QT
  simp only[Bool.and_eq_true,Bool.or_eq_true,Bool.not_eq_true',decide_eq_true_eq,decide_eq_false_iff_not,Bool.or_eq_false_iff,List.all_eq_true,List.isEmpty_iff]
  refine⟨?_,?_⟩
  ·by_cases h3:x.t.op=1
   ·exact .inr λ y b=>((i6 hw h3).2 y b).1
   ·exact .inl h3
  ·by_cases h3:x.t.op=3\/(5<=x.t.op/\x.t.op<=8)
   ·exact .inr (BC7 h1 h3)
   ·exact .inl ⟨Aa,Aa⟩
structure W9 (f:Fl) (x:Tf):Prop where
 eq:f=x.flat
 AR:x.AR
 name:x.t.name=[]
 cond:EG x.t=false
 size:x.size<=40
 sh:AT x
structure aI (t:Fl) (x:Tf):Prop where
 eq:t=x.flat
 AR:x.W8
 ar:B6 x=true
 size:x.size<=40
 sh:AT x
theorem wK{f:Fl}(h:OU f 40=true): ∃x,W9 f x:=by
 obtain⟨x,h1,b,e,i,l,j⟩:=Aa1 h
 have n:len f=x.size:=by rw[b];unfold len;rw[Tf.DC]
 exact⟨x,b,h1,e,i,Aa,λ t k=>by have:=j t (by rw[b];exact k);exact⟨this.2.1,this.1,this.2.2⟩⟩
theorem BC9{t:Fl}(h:NL 40 t=true)(i: ∃x:Tf,t=x.flat/\x.W8): ∃x,aI t x:=by
 obtain⟨x,b,e⟩:=i
 unfold NL at h
 simp only[Bool.and_eq_true,decide_eq_true_eq,List.all_eq_true]at h
 have j:len t=x.size:=by rw[b];unfold len;rw[Tf.DC]
 exact⟨x,b,e,BC8 x.size x (Nat.le_refl _) (iT x.size x (Nat.le_refl _) e.right.all),Aa,λ u hu=>by have:=h.2 u (by rw[b];exact hu);exact⟨this.1.2,this.1.1,this.2⟩⟩
end Go.Eng
namespace Go.Proofs.YtnoegalemkbbbaaGreatDoor
open Go.Proofs.Tryz
open Go.Eng Go.RowKit
theorem TJ(w:World)(hg:Gl w):
  Calls prog 11 [].toArray w λ e w'=>e= .returned (.bool true)/\Ext w w':=by
 obtain⟨a1,a2,a3⟩:=al1
 obtain⟨c1,c2⟩:=al3
 obtain⟨z1,hz1⟩: ∃z,z=(CY J9 NZ).1:=⟨_,rfl⟩
 obtain⟨y1,hy1⟩: ∃z,z=(CY J9 NZ).2.1:=⟨_,rfl⟩
 obtain⟨z2,hz2⟩: ∃z,z=(CY J9 TI).1:=⟨_,rfl⟩
 obtain⟨z3,hz3⟩: ∃z,z=(NS LN PD).1:=⟨_,rfl⟩
 obtain⟨y3,hy3⟩: ∃z,z=(NS LN PD).2.1:=⟨_,rfl⟩
 have e1:CY J9 NZ=(z1,y1,0):=by rw[hz1,hy1];exact Prod.ext U (Prod.ext U a1)
 have e2:CY J9 TI=(z2,0,1):=by rw[hz2];exact Prod.ext U al2
 have e3:NS LN PD=(z3,y3,0):=by rw[hz3,hy3];exact Prod.ext U (Prod.ext U c1)
 rw[<-hz1]at a2 a3
 rw[<-hz3]at c2
 refine AH AF func11 U ntmps11 [] [] [] U (BD w) A4 (λ B hB=>?_) U
 refine BA 9 U zeroValue46 U λ b1=>?_
 refine BF 1 J9.flat Tm.cells 11 48 Tm.AV U U Ah U λ v1=>?_
 refine BF 2 NZ.flat Tm.cells 11 52 Tm.AV U U Ah U λ v2=>?_
 refine EW (λ h:AI=>.tu [.sl 3 h.v,I y1,I 0]) [3] U U call16 U (hu:=λ _=>rfl) (λ w M hX=>by have:=QY J9 NZ v1 v2 w M hX.st.sat (hg.low hX.st.low) (hX.f.get (k:=1) U) (hX.f.get (k:=2) U) wI wJ Ac BC1 Ab Ab;rw[e1]at this;exact this) λ h3 _=>?_
 refine FO (gd:=none) 4 1 4 U U U ⟨.i64,_,rfl,AE U⟩ U underlying25 sizeOf52 Ab U λ v4=>?_
 refine EW (λ h:AI=>.tu [.sl 5 h.v,I 0,I 1]) [5] U U call16 U (hu:=λ _=>rfl) (λ w M hX=>by have:=QY J9 TI v1 v4 w M hX.st.sat (hg.low hX.st.low) (hX.f.get (k:=1) U) (hX.f.get (k:=4) U) wI wJ Ac BC2 Ab Ab;rw[e2]at this;exact this) λ h5 _=>?_
 refine FO (gd:=none) 6 3 4 U U U ⟨.i64,_,rfl,AE U⟩ ⟨.i64,_,rfl,AE U⟩ underlying23 sizeOf48 Ab U λ v6=>?_
 refine BF 7 PD.flat Tm.cells 11 52 Tm.AV U U Ah U λ v7=>?_
 refine EW (λ h:AI=>.tu [.sl 8 h.v,I y3,I 0]) [8] U U call12 U (hu:=λ _=>rfl) (λ w M hX=>by have:=Aw1 LN PD v6 v7 w M hX.st.sat (hg.low hX.st.low) (hX.f.get (k:=6) U) (hX.f.get (k:=7) U) BB9 Ab BC0 Ac BC3 Ab;rw[e3]at this;exact this) λ h8 _=>?_
 have hall:((((((((0:Int)==0)&&(len z1==2))&&((at' z1 1).n==16))&&((0:Int)==0))&&((1:Int)==1))&&((0:Int)==0))&&(len z3==3))=true:=by rw[a2,a3,c2];rfl
 refine EX (.v (.slice none 0 0)) U U (λ hn=>?_) (λ hn=>absurd (hn.symm.trans hall) Ab)
 refine BF 10 [JO [97]] Tm.cells 11 48 Tm.AV U U (hE1:=MJ hn λ c hc=>by simpa using hc) Ah U λ v10=>?_
 refine EX (.v (.slice none 0 0)) U U (λ hn=>?_) (λ hn=>absurd (hn.symm.trans hall) Ab)
 refine EW (λ u:Value=>.sl 11 u) [11] (pu:=λ _=>True) (Fg:=λ u=>[(0,kn u 3 (D4 [JO [97]]) Sp.cells)]) U U call28 U (λ w M hX=>(sX 1 [JO [97]] (Nat.le_refl _) U (Aj hX.st.sat) (hX.f.get (k:=10) U) Ab).mono λ e w' ⟨u,M',h1,_,h3,h4,h5⟩=>⟨u,M',h1,trivial,h4.done,h5⟩) λ v11 _=>?_
 refine A2 hB U U U λ w M hX=>⟨?_,hX.st.low⟩
 dsimp only
 rw[a2,a3,c2];rfl
theorem BD0(f t:Fl)(v u:Value)(w:World)(M:Mem)(q:Sat w M)(s:(A7 v f).ok M)(hu:(A7 u t).ok M):
    Calls prog 9 [v,u].toArray w λ e w'=>(∃b,e= .returned (.bool b)/\(b=true->(∃x,W9 f x)/\ ∃y,aI t y))/\Ext w w':=by
 refine AH (Hr:=[]) AF func9 U ntmps9 [(0,A7 v f),(1,A7 u t)] [] [.sl 0 v,.sl 1 u] U (Aj q) (AG s (AG hu A4)) (λ B n=>AJ U call22 U U (λ _ w M i=>iP f v 40 M w i.st.sat (i.sl 0 U) Aa) U <|EX (.v (.bool false)) U U (λ j=>?_) (λ j=>?_)) U
 ·refine EW (γ:=Bool) (pu:=λ b=>b=true-> ∃y,aI t y) (Fg:=λ _=>[]) (λ b:Bool=>.v (.bool b)) [] U U call32 U (hE1:=M6 j U) (λ w M i=>(BB8 t u 40 M w i.st.sat (i.f.get (k:=1) U) Aa).mono λ e w' he=>by
   obtain⟨⟨b,z,e2⟩,e3⟩:=he
   exact⟨b,M,z,λ h=>BC9 (e2 h).1 (e2 h).2,Grow.TO i.st.sat e3,A4⟩) λ b l=>?_
  exact A2 n U U U λ w M i=>⟨⟨b,by rw[j];rfl,λ h=>⟨wK j,l h⟩⟩,i.st.low⟩
 ·exact A2 n rfl rfl rfl λ w M i=>⟨⟨false,by rw[j];rfl,λ h=>by cases h⟩,i.st.low⟩
end Go.Proofs.YtnoegalemkbbbaaGreatDoor
namespace Go.Eng
open Go.RowKit
theorem BD1{l:List Tf}(h: ∀x∈l,x.AR):H0 l=true:=by
 induction l with
 |nil=>rfl
 |cons x l b=>rw[H0,(h x (.head _)).ok,b λ y e=>h y (.tail _ e)];rfl
theorem wL{t:Tm}{ps:List Tf}(hm:t.many=0)(hp:CU { t with many:=len ps}=true)(e:EM t [] ps=true)(b: ∀x∈ps,x.AR):(Tf.mk t ps).AR:=by
 refine⟨?_,?_⟩
 ·rw[Tf.zm];exact⟨hm,qR.2 λ x hx=>(b x hx).zm⟩
 ·rw[Tf.IX,hp,e,BD1 b];rfl
theorem iU{t:Tm}{dn:List Tf}{x:Tf}(b:t.op≠8)(e:x.t.name=[])(i:EG x.t=(EG t||t.op==7))(j:t.op=4->dn=[]->x.t.op≠4):JV t dn x=true:=by
 unfold JV
 rw[if_neg,if_neg]
 ·rintro(h|h)
  ·exact h.2 e
  ·exact b h.1
 ·simp only[Bool.or_eq_true,bne_iff_ne,ne_eq,Bool.and_eq_true,beq_iff_eq,not_or,Decidable.not_not,not_and,List.isEmpty_iff]
  exact⟨i,λ h1 k=>j h1.1 h1.2 k⟩
structure G1 (f:Tf):Prop where
 AR:f.AR
 sh:AT f
 name:f.t.name=[]
 cond:EG f.t=false
theorem W9.ok {l:Fl}{f:Tf}(h:W9 l f):G1 f:=⟨h.AR,h.sh,h.name,h.cond⟩
theorem wM{a b:Tf}(e:G1 a)(i:G1 b)(j:a.t.op≠4):G1 (.mk (AP 4) [a,b]):=by
 refine⟨wL U (by show CU ⟨4,2,[],[],0,C0⟩=true;decide+kernel) ?_ (λ x hx=>?_),(H6 _).2 ⟨LD 4,λ x hx=>?_⟩,rfl,(show EG (AP 4)=false by decide)⟩
 ·rw[EM,EM,EM,iU Ab e.name (by rw[e.cond];decide) (λ _ _=>j),iU Ab i.name (by rw[i.cond];decide) (λ _ h=>by cases h)];rfl
 ·simp only[List.mem_cons,List.not_mem_nil,or_false]at hx
  rcases hx with rfl|rfl
  ·exact e.AR
  ·exact i.AR
 ·rcases List.mem_cons.1 hx with rfl|hx
  ·exact e.sh
  ·rw[List.mem_singleton.1 hx];exact i.sh
theorem ok_one{o:Int}{a:Tf}(b:G1 a)(ho:o=5\/o=6):G1 (.mk (AP o) [a]):=by
 refine⟨wL rfl (by rcases ho with rfl|rfl<;>(first|(show CU ⟨5,1,[],[],0,C0⟩=true;decide+kernel)|(show CU ⟨6,1,[],[],0,C0⟩=true;decide+kernel))) ?_ (λ x hx=>by rw[List.mem_singleton.1 hx];exact b.AR),(H6 _).2 ⟨LD o,λ x hx=>by rw[List.mem_singleton.1 hx];exact b.sh⟩,rfl,by rcases ho with rfl|rfl<;>(first|exact(show EG (AP 5)=false by decide)|exact(show EG (AP 6)=false by decide))⟩
 have h1:(AP o).op≠8:=by show o≠8;omega
 have e:(AP o).op=4->([]:List Tf)=[]->a.t.op≠4:=λ h=>by have:o=4:=h;omega
 rw[EM,EM,iU h1 b.name (by rw[b.cond];rcases ho with rfl|rfl<;>decide) e];rfl
theorem BD2{f:Tf}{n:Nat}(h:f.size=n+1)(t:Tf):CO f t=BI (GD (BG n) f 0 t):=by unfold CO;rw[h];rfl
theorem BD3{f t y:Tf}{j:Int}(b:G1 f)(h:CO f t= .ok y j):(B6 t=true->AT t->Im y (t.size*hF f))/\(t.t.name=[]->y.t.name=[]):=by
 unfold CO at h
 cases hr:BG f.size f 0 t with
 |er e p=>rw[hr]at h;cases h
 |ok x i=>
  rw[hr]at h
  have:x=y:=PR.DQ h
  subst this
  exact⟨λ k hs=>T5 _ f (Nat.le_refl _) b.AR b.sh _ _ _ _ hr k hs,Ax5 _ f (Nat.le_refl _) b.AR b.sh _ _ _ _ hr⟩
theorem BD4{f t:Tf}{e p:Int}(b:G1 f)(h:CO f t= .er e p):e=0/\1<=p/\p<=6:=by
 unfold CO at h
 cases hr:BG f.size f 0 t with
 |ok x i=>rw[hr]at h;cases h
 |er j k=>
  rw[hr]at h
  have:=Ax1 _ f (Nat.le_refl _) b.AR b.sh _ _ _ _ hr
  cases h
  exact⟨rfl,this.why⟩
theorem aJ: ∀(n:Nat) (f g:Tf),f.size<=n->G1 f->G1 g->G1 (EJ f g)/\(EJ f g).size=f.size+g.size+1/\ ∀t,CO (EJ f g) t=BI ((CO f t).bind λ y _=>CO g y):=by
 intro n
 induction n with
 |zero=>intro f g h;have:=f.size_pos;omega
 |succ n s=>
  intro f g C j hg
  by_cases h4:f.t.op=4
  ·obtain⟨a,b,e⟩:=j.AR.two (.inl h4)
   have hs:=f.size_eq
   rw[e,A6,A6,A6]at hs
   have l:=j.AR.L4 [] a [b] (by rw[e];rfl)
   have q:=j.AR.L4 [a] b [] (by rw[e];rfl)
   have k:(EG f.t||f.t.op==7)=false:=by rw[j.cond,h4];rfl
   have w:G1 a:=⟨j.AR.kids a (by rw[e];simp),j.sh.kids a (by rw[e];simp),l.n Aa,by rw[l.c,k]⟩
   have z:G1 b:=⟨j.AR.kids b (by rw[e];simp),j.sh.kids b (by rw[e];simp),q.n Aa,by rw[q.c,k]⟩
   obtain⟨h1,D,A⟩:=s b g Aa z hg
   have hp:EJ f g= .mk (AP 4) [a,EJ b g]:=by
    cases f with|mk x ps=>
    cases e
    have B:x.op=4:=h4
    rw[EJ,if_pos B]
   rw[hp]
   have ok:=wM w h1 (l.p h4 U)
   refine⟨ok,by rw[Tf.size,A6,A6,A6];omega,λ t=>?_⟩
   rw[iN ok.AR ok.sh U U,iN j.AR j.sh h4 e]
   cases hr:CO a t with
   |er e p=>rfl
   |ok y i=>
    show BI (CO (EJ b g) y)=BI ((BI (CO b y)).bind λ y _=>CO g y)
    rw[A y,ZY]
    unfold CO
    rw[ZY]
  ·rw[nP h4]
   have ok:=wM j hg h4
   exact⟨ok,by rw[Tf.size,A6,A6,A6];omega,λ t=>iN ok.AR ok.sh U U t⟩
theorem wN(g:Tf->PR Tf)(x:Tf):HN g [x]=(g x).bind λ y _=>.ok [y] 0:=rfl
theorem BD5{g:Tf->PR Tf}{x:Tf}{W:PR Tf}(F:Tf->Tf)(h:BI (g x)=W):BI ((HN g [x]).bind λ l _=>.ok (F (at' l 0)) 0)=BI (W.bind λ y _=>.ok (F y) 0):=by
 rw[wN,PR.assoc,<-h]
 cases g x<;>rfl
theorem BD6{n:Nat}{g:Tf}(hg:G1 g)(h:g.size<=n){o m:Int}(ho:o≠1)(i:Int){t:Tf}(e:t.t.name=[]):BI (F1 (BG n) g i (.mk { AP o with n:=m} [t]))=BI ((CO g t).bind λ y _=>.ok (.mk { AP o with n:=m} [y.named []]) 0):=by
 have j:AN (.mk { AP o with n:=m} [t])=[t]:=by
  rw[MO (show(Tf.mk { AP o with n:=m} [t]).t.op≠1 from ho)];show [t.named []]=_;rw[Tf.ME e]
 have b:B7 (.mk { AP o with n:=m} [t])=[[]]:=by
  unfold B7;rw[if_neg (show ¬(Tf.mk { AP o with n:=m} [t]).t.op=1 from ho)];show [t.t.name]=_;rw[e]
 unfold F1
 rw[j,b]
 have:=BD5 (g:=λ x=>BG n g i x) (x:=t) (λ y=>.mk { AP o with n:=m} [y.named []]) (iM h hg.AR hg.sh i t)
 rw[<-this]
 rw[wN]
 cases BG n g i t<;>rfl
theorem BD7{im:Tf->Int->Tf->PR Tf}{f:Tf}(h:f.t.op=5)(i:Int)(t:Tf):GD im f i t=EU im (at' (AL f) 0) i t:=by
 unfold GD;rw[if_neg Aa,if_neg Aa,if_pos h]
theorem BD8{im:Tf->Int->Tf->PR Tf}{g t:Tf}(h:t.t.op=5)(hs:H5 g=false)(i:Int):EU im g i t=F1 im g (i+1) t:=by
 unfold EU;rw[if_pos h,if_neg (by rw[hs];decide)]
theorem BD9{n:Nat}{f:Tf}(b:G1 f){t:Tf}(e:t.t.name=[])(hs:H5 f=false):CO (.mk (AP 5) [f]) (.mk (AP 5) [t])=BI ((CO f t).bind λ y _=>.ok (.mk (AP 5) [y.named []]) 0):=by
 rw[BD2 (n:=f.size) (by rw[Tf.size,A6,A6];omega)]
 have e0:at' (AL (.mk (AP 5) [f])) 0=f:=by unfold AL;show f.named []=f;exact Tf.ME b.name
 have:GD (BG f.size) (.mk (AP 5) [f]) 0 (.mk (AP 5) [t])=F1 (BG f.size) f (0+1) (.mk { AP 5 with n:=0} [t]):=by
  rw[BD7 U,e0,BD8 U hs];rfl
 rw[this]
 exact BD6 b (Nat.le_refl _) Ab _ e
end Go.Eng
namespace Go.Proofs.YtnoegalemkbbbaaGreatDoor
open Go.Proofs.Tryz
open Go.Eng Go.RowKit
theorem iV{w0 O:World}{M0 M:Mem}{Rs:List HO}(t:Tm)(j:Value)(ns:List A0)(v:Value)(hs:List AI)(xs:List Fl)(hS:St w0 M0 O M Rs)(R:Sl M 1 ns.length j (ns.flatMap D7))(hu:(C6 v hs xs).ok M)(D:ns=[]\/len ns=len hs)(E:ns≠[]-> ∀x∈xs,x≠[])(hb:len xs.flatten<=100000000000)(hr:len hs<=1048576):
  Calls prog 26 [.agg t.cells.toArray,j,v].toArray O (YA w0 M0 M Rs ({ t with many:=len xs}::(FC ns xs).flatten)):=by
 have F:=Y9 hu
 have S:=A9 hs
 have T:=A9 ns
 have G:ns=[]->len ns=0:=λ h=>by rw[h];rfl
 rw[<-F]
 refine AH (Hr:=Rs) AF func26 U ntmps26 [(0,C6 v hs xs),(1,kn j 1 ns D7)] [] [.ag (EO t.cells),.sl 1 j,.sl 0 v] U hS (AG hu (fc 1 R DN A4)) (λ B V=>BP 3 U U U λ b=>IM 7 [{ t with many:=len hs}] Tm.cells 11 48 Tm.AV U U Ah U λ u=>?_) U
 refine B5 (σ:=Int×Value×Fl) (λ(k,u,y)=>⟨[(0,C6 v hs xs),(1,kn j 1 ns D7)],[(7,S8 u y)],[Z 1 (.sl 1 j),Z 2 (.sl 0 v),Z 7 (.sl 7 u),Z 8 (I k)]⟩)
   (λ(k,u,y)=>0<=k/\k<=len hs/\y= { t with many:=len hs}::(FC ns (Eng.sub xs 0 k)).flatten) (λ(k,u,y)=>(len hs-k).toNat) (0,u,[{ t with many:=len hs}]) U U ⟨Aa,Aa,rfl⟩ ?_
 rintro⟨k,u,y⟩ ⟨h0,h1,A⟩
 refine A1 U (λ n=>?_) (λ n=>?_)<;>simp only[zb]at n
 ·have W:len y=1+len (HV xs k):=by
   have:=gI ns (Eng.sub xs 0 k)
   rw[A,AM,this]
   have e:Eng.sub xs 0 k=xs.take k.toNat:=by unfold Eng.sub;simp
   rw[e];unfold HV;omega
  have H:=V5 (xs:=xs) h0 Aa
  have J:=S7 xs (k+1)
  have X:=A9 (HV xs k)
  have hf4:=A9 (at' xs k)
  rw[H,AQ]at J
  refine CH U Ad Aa <|DS 2 (A7 (at' hs k).v (at' xs k)) (λ w M C=>F9 (C.f.get (k:=0) U) h0 n) (KR 28 2 U ?_)
  refine IB 120 U U U underlying23 type48 U U Tm.cells_one Aa λ v'=>CP 1 (λ s=> ∃z:Fl,z=y++HK ns k (at' xs k)/\s=⟨[(0,C6 v hs xs),(1,kn j 1 ns D7)],[(7,S8 v' z)],[Z 1 (.sl 1 j),Z 2 (.sl 0 v),Z 7 (.sl 7 v'),Z 8 (I k)]⟩) U U (λ i=>?_) (λ i=>?_) ?_
  ·simp only[zb]at i
   have q:ns≠[]:=λ h=>by rw[G h]at i;omega
   have K:=E q _ (at_mem (l:=xs) h0 Aa)
   have hxp:=HQ K
   have P:len (y++at' xs k)=len y+len (at' xs k):=AQ _ _
   have Q:len ns=len hs:=D.resolve_left q
   refine BA 10 U zeroValue48 U λ b10=>HU { at' (y++at' xs k) (len y)with name:=at' ns k} rfl U U sizeOf48 U U U Aa λ z L=>AW _ U U ⟨z,?_,rfl⟩
   rw[L,sC,sD];unfold HK;rw[if_pos Aa]
  ·simp only[zb]at i
   exact AW _ U U ⟨_,by unfold HK;rw[if_neg Aa],rfl⟩
  rintro s ⟨z,L,rfl⟩
  refine AX (k+1,v',z) U U ⟨Aa,Aa,?_⟩ Ag
  have N:len (Eng.sub xs 0 k)=k:=by unfold Eng.sub;unfold len at*;rw[List.length_take,List.length_drop];simp only[Int.toNat_zero];omega
  rw[FT h0 Aa,gH,N,L,A]
  simp
 have hke:k=len hs:=by omega
 rw[G7 Aa]at A
 subst A
 exact A2 V U U U λ w M' C=>nN ⟨u,M',rfl,trivial,C.le,C.st,A4⟩
theorem BE0(g:Tf)(v:Value)(w:World)(M:Mem)(l:Sat w M)(n:(A7 v g.flat).ok M)(hg:g.AR):
   Calls prog 24 [v].toArray w λ e w'=>e= .returned (.bool (H5 g))/\Ext w w':=by
 have q:=g.EE
 have h:(at' g.flat 0).op=g.t.op:=by rw[g.DA];rfl
 have i:g.t.op=4->1<len g.flat/\(at' g.flat 1).op=(at' g.ps 0).t.op:=λ j=>by
  obtain⟨a,b,e⟩:=hg.two (.inl j)
  have s:=a.EE
  have y:=b.EE
  refine⟨?_,by rw[e,Tf.FK,e];show(at' (_::(a.flat++(b.flat++[]))) 1).op=a.t.op;rw[Tf.FK a];rfl⟩
  rw[Tf.FK,e]
  show 1<len (_::(a.flat++(b.flat++[])))
  rw[AM,AQ,AQ];have:=A9 ([]:Fl);omega
 have k:((at' g.flat 0).op==4)=false\/1<len g.flat:=by
  cases hq:(at' g.flat 0).op==4 with
  |false=>exact .inl U
  |true=>rw[h]at hq;exact .inr (i (by simpa using hq)).1
 refine AH (Hr:=[]) AF func24 U ntmps24 [(0,A7 v g.flat)] [] [.sl 0 v] U (Aj l) (AG n A4) (λ B z=>A2 z U U U λ w M A=>⟨?_,A.st.low⟩) U
 have e:((at' g.flat 0).op==7||((at' g.flat 0).op==4&&(at' g.flat 1).op==7))=H5 g:=by
  rw[h]
  unfold H5
  by_cases j:g.t.op=4
  ·rw[(i j).2];rfl
  ·have:(g.t.op==4)=false:=by simpa using j
   rw[this,decide_eq_false j];rfl
 rw[<-e];rfl
abbrev FlR(w:World)(M:Mem)(x:Fl):Ending->World->Prop:=N5 w M (λ h:AI=>h.v) (λ _=>True) λ h=>[(0,A7 h.v x)]
theorem wO(t:Tm)(a b:Tf):({ t with many:=len [a.flat,b.flat]}:Tm)::(FC [] [a.flat,b.flat]).flatten=(Tf.mk t [a,b]).flat:=by rw[Z9,Tf.Q7];rfl
theorem BE2: ∀(n:Nat) (f g:Tf) (v u:Value) (w:World) (M:Mem),f.size<=n->G1 f->G1 g->Sat w M->(A7 v f.flat).ok M->(A7 u g.flat).ok M->f.size+g.size<=1000000->
    Calls prog 23 [v,u].toArray w (FlR w M (EJ f g).flat):=by
 intro n
 induction n with
 |zero=>intro f g v u w M h;have:=f.size_pos;omega
 |succ n N=>
 intro f g v u w M hn l hg O F hu P
 have Q:=CN f
 have R:=CN g
 have S:=f.size_pos
 have T:=g.size_pos
 have z:=f.size_eq
 obtain⟨us,rfl⟩:=A7.shape hu
 obtain⟨vs,rfl⟩:=A7.shape F
 have A:(at' f.flat 0).op=f.t.op:=by rw[f.DA];rfl
 obtain⟨V,W,_⟩:=aJ f.size f g (Nat.le_refl _) l hg
 refine AH (Hr:=[]) AF func23 U ntmps23 [(0,A7 vs.v f.flat),(1,A7 us.v g.flat)] [] [.sl 0 vs.v,.sl 1 us.v] U (Aj O) (AG F (AG hu A4)) (λ B G=>?_) U
 refine A1 U (λ i=>?_) (λ i=>?_)<;>simp only[zb]at i<;>rw[A]at i
 ·obtain⟨a,b,e⟩:=l.AR.two (.inl i)
  rw[e,A6,A6,A6]at z
  have H:=l.AR.L4 [] a [b] (by rw[e];rfl)
  have J:=l.AR.L4 [a] b [] (by rw[e];rfl)
  have q:(EG f.t||f.t.op==7)=false:=by rw[l.cond,i];rfl
  have X:G1 a:=⟨l.AR.kids a (by rw[e];simp),l.sh.kids a (by rw[e];simp),H.n Aa,by rw[H.c,q]⟩
  have C:G1 b:=⟨l.AR.kids b (by rw[e];simp),l.sh.kids b (by rw[e];simp),J.n Aa,by rw[J.c,q]⟩
  have hp:EJ f g= .mk (AP 4) [a,EJ b g]:=by
   cases f with|mk x ps=>
   cases e
   have h5:x.op=4:=i
   rw[EJ,if_pos h5]
  have s:DU f=[a.flat,b.flat]:=by rw[P7];unfold AL;rw[e];show [(a.named []).flat,(b.named []).flat]=_;rw[Tf.ME X.name,Tf.ME C.name]
  obtain⟨q1,q2,_⟩:=aJ b.size b g (Nat.le_refl _) C hg
  have hqz:=CN (EJ b g)
  have haz:=CN a
  refine EW (λ g:Value×List AI=>.sl 3 g.1) [3] U U call56 U (λ w M j=>Az6 f vs.v w M j.st.sat (j.sl 0 U) Aa) λ y D=>?_
  have K:len y.2=2:=by rw[D,e];rfl
  refine DI [8,9,10,11] 5 (λ _ _ _ _ _ h=>h) U BM U <|AK 8 U U U <|EW (λ h:AI=>.sl 4 h.v) [4] U U call23 U (λ w M j=>N b g (at' y.2 1).v us.v w M Aa C hg j.st.sat (by have:=F9 (j.f.get (k:=3) U) (k:=1) Aa Aa;rw[s]at this;exact this) (j.f.get (k:=1) U) Aa) λ L _=>AD U <|AK 9 U U U <|BF 5 [at' y.2 0,L] BR 1 23 CR U U Ah U λ v5=>AD U <|AK 10 U U U ?_
  refine AS [] (λ h:AI=>.sl 6 h.v) [] (λ h=>[(6,S8 h.v (EJ f g).flat)]) U U call26 U U (hu:=λ _=>rfl) (hH:=λ _=>rfl) (λ w M hS hF=>by
   have:=iV (AP 4) (.slice none 0 0) [] v5 [at' y.2 0,L] [a.flat,(EJ b g).flat] hS (Sl.nil M 1) ⟨(hF.get (k:=5) U).sl,CR,by have:=F9 (hF.get (k:=3) U) (k:=0) Aa Aa;rw[s]at this;exact this.sl,(hF.get (k:=4) U).sl,trivial⟩ (.inl U) (λ h=>absurd U h) (by simp only[List.flatten_cons,List.flatten_nil,AQ,len_nil];omega) (by simp only[AM,len_nil];omega)
   rw[wO,<-hp]at this
   exact this) λ E _=>?_
  exact C2 6 U <|AD U <|AK 11 U U U <|AD U <|BN U U U <|A2 G U U U λ w M' j=>⟨E,M',rfl,trivial,(j.B9 [] U).done,AG (j.f.get (k:=6) U) A4⟩
 ·refine BF 5 [vs,us] BR 1 23 CR U U Ah U λ v5=>?_
  refine AS [] (λ h:AI=>.sl 6 h.v) [] (λ h=>[(6,S8 h.v (EJ f g).flat)]) U U call26 U U (hu:=λ _=>rfl) (hH:=λ _=>rfl) (λ w M hS hF=>by
   have:=iV (AP 4) (.slice none 0 0) [] v5 [vs,us] [f.flat,g.flat] hS (Sl.nil M 1) ⟨(hF.get (k:=5) U).sl,CR,(hF.get (k:=0) U).sl,(hF.get (k:=1) U).sl,trivial⟩ (.inl U) (λ h=>absurd U h) (by simp only[List.flatten_cons,List.flatten_nil,AQ,len_nil];omega) (by simp only[AM,len_nil];omega)
   rw[wO,<-nP i]at this
   exact this) λ E _=>?_
  exact C2 6 U <|A2 G U U U λ w M' j=>⟨E,M',rfl,trivial,(j.B9 [] U).done,AG (j.f.get (k:=6) U) A4⟩
end Go.Proofs.YtnoegalemkbbbaaGreatDoor
namespace Go.Eng
open Go.RowKit
theorem WA{f t y:Tf}{j:Int}(h:CO f t= .ok y j):CY f t=(y.flat,0,0):=by
 unfold CO at h
 unfold CY
 cases hr:BG f.size f 0 t with
 |er e p=>rw[hr]at h;cases h
 |ok x i=>rw[hr]at h;have:x=y:=PR.DQ h;subst this;rfl
theorem aK{f t:Tf}{e p:Int}(h:CO f t= .er e p):(CY f t).1=[]/\(CY f t).2.2=p:=by
 unfold CO at h
 unfold CY
 cases hr:BG f.size f 0 t with
 |ok x i=>rw[hr]at h;cases h
 |er b j=>rw[hr]at h;cases h;exact⟨rfl,rfl⟩
theorem BE3{f t g u:Tf}(h:CO f t=CO g u):(CY f t).1=(CY g u).1/\(CY f t).2.2=(CY g u).2.2:=by
 cases hr:CO f t with
 |ok y j=>rw[WA hr,WA (h▸hr)];exact⟨rfl,rfl⟩
 |er e p=>
  obtain⟨b,a2⟩:=aK hr
  obtain⟨i,k⟩:=aK (h▸hr:CO g u=_)
  exact⟨b.trans i.symm,a2.trans k.symm⟩
theorem wP{n:Nat}(h:n<=43):gB n<=196608:=Ao6 ⟨n,Aa⟩
theorem aL{f:Tf}(h:f.size<=43)(hg:f.AR):hF f<=196608:=Nat.le_trans (iA _ f (Nat.le_refl _) h hg) (wP h)
theorem TL{a b:Nat}(e:a<=41)(h:b<=196608):a*b<=16777216:=by
 have:=Nat.mul_le_mul e h;omega
theorem BE4{f g:Tf}(h:f.size+g.size+1<=43)(b:f.AR)(hg:g.AR):hF f*hF g<=196608:=by
 have h1:=iA _ f (Nat.le_refl _) Aa b
 have e:=iA _ g (Nat.le_refl _) Aa hg
 have i:=tP ⟨f.size,Aa⟩ ⟨g.size,Aa⟩ h
 exact Nat.le_trans (Nat.mul_le_mul h1 e) (Nat.le_trans i (wP h))
theorem AT.one {a:Tf}(o:Int)(b:AT a):AT (.mk (AP o) [a]):=(H6 _).2 ⟨LD o,λ x hx=>by rw[List.mem_singleton.1 hx];exact b⟩
theorem BE5{f g t:Tf}(b:G1 f)(hg:G1 g)(k:B6 t=true)(hs:AT t)(i:t.t.name=[]):
  (CY f t).2.2≠0/\(CY (EJ f g) t).2.2=(CY f t).2.2/\(CY (EJ f g) t).1=[]\/
  ∃y:Tf,(CY f t).1=y.flat/\(CY f t).2.2=0/\Im y (t.size*hF f)/\(CY g y).1=(CY (EJ f g) t).1/\(CY g y).2.2=(CY (EJ f g) t).2.2/\(H5 f=false->CY (.mk (AP 5) [f]) (.mk (AP 5) [t])=((Tf.mk (AP 5) [y]).flat,0,0)):=by
 have hp:=(aJ f.size f g (Nat.le_refl _) b hg).2.2 t
 cases hr:CO f t with
 |er e p=>
  obtain⟨_,h1,_⟩:=BD4 b hr
  obtain⟨z,a2⟩:=aK hr
  rw[hr]at hp
  obtain⟨l,q⟩:=aK (hp:_=PR.er 0 p)
  exact .inl ⟨by rw[a2];omega,by rw[a2,q],l⟩
 |ok y j=>
  obtain⟨h1,s⟩:=BD3 b hr
  rw[hr]at hp
  have h:CO (EJ f g) t=CO g y:=by rw[hp];show BI (CO g y)=_;unfold CO;rw[ZY]
  obtain⟨w,c2⟩:=BE3 h
  refine .inr ⟨y,by rw[WA hr],by rw[WA hr],h1 k hs,w.symm,c2.symm,λ hs=>?_⟩
  have:=BD9 (n:=0) b i hs
  rw[hr]at this
  have e:CO (.mk (AP 5) [f]) (.mk (AP 5) [t])= .ok (.mk (AP 5) [y]) 0:=by rw[this];show PR.ok (Tf.mk (AP 5) [y.named []]) 0=_;rw[Tf.ME (s i)]
  exact WA e
theorem BE6(t:Tf):CY K2 t=(t.flat,0,0):=rfl
end Go.Eng
namespace Go.Proofs.YtnoegalemkbbbaaGreatDoor
open Go.Proofs.Tryz
open Go.Eng Go.RowKit
theorem wQ(t:Tm)(a:Tf):({ t with many:=len [a.flat]}:Tm)::(FC [] [a.flat]).flatten=(Tf.mk t [a]).flat:=by rw[Z9,Tf.Q7];rfl
theorem wR{w0 b:World}{M0 M:Mem}{Rs:List HO}(o:Int)(v:Value)(h:AI)(a:Tf)(hS:St w0 M0 b M Rs)(e:(kn v 1 [h] BR).ok M)(i:(A7 h.v a.flat).ok M)(k:a.size<=1000000000):
  Calls prog 25 [.agg (AP o).cells.toArray,.slice none 0 0,v].toArray b (MK w0 M0 M Rs (Tf.mk (AP o) [a]).flat):=by
 have j:=CN a
 have:=Ah8 (AP o) (.slice none 0 0) [] v [h] [a.flat] hS (Sl.nil M 1) ⟨e.sl,CR,i.sl,trivial⟩ (λ x hx=>by rw[List.mem_singleton.1 hx];exact a.OO) (by simp only[List.flatten_cons,List.flatten_nil,AQ,len_nil];omega) (by simp only[AM,len_nil];omega)
 rw[wQ]at this
 exact this
theorem BE7{w0 b:World}{M0 M:Mem}{Rs:List HO}(o:Int)(v:Value)(h:AI)(a:Tf)(hS:St w0 M0 b M Rs)(e:(kn v 1 [h] BR).ok M)(i:(A7 h.v a.flat).ok M)(k:a.size<=1000000000):
  Calls prog 26 [.agg (AP o).cells.toArray,.slice none 0 0,v].toArray b (YA w0 M0 M Rs (Tf.mk (AP o) [a]).flat):=by
 have j:=CN a
 have:=iV (AP o) (.slice none 0 0) [] v [h] [a.flat] hS (Sl.nil M 1) ⟨e.sl,CR,i.sl,trivial⟩ (.inl U) (λ h=>absurd U h) (by simp only[List.flatten_cons,List.flatten_nil,AQ,len_nil];omega) (by simp only[AM,len_nil];omega)
 rw[wQ]at this
 exact this
theorem BE8(f g t:Fl)(v u s:Value)(w:World)(M:Mem)(hM:Sat w M)(hgl:Gl w)(hv:(A7 v f).ok M)(hu:(A7 u g).ok M)(hs:(A7 s t).ok M):
    Calls prog 6 [v,u,s].toArray w λ e w'=>e= .returned (.bool true)/\Ext w w':=by
 obtain⟨vs,rfl⟩:=A7.shape hv
 obtain⟨us,rfl⟩:=A7.shape hu
 obtain⟨ss,rfl⟩:=A7.shape hs
 refine AH (Hr:=[]) AF func6 U ntmps6 [(0,A7 vs.v f),(1,A7 us.v g),(2,A7 ss.v t)] [] [.sl 0 vs.v,.sl 1 us.v,.sl 2 ss.v] U (Aj hM) (AG hv (AG hu (AG hs A4))) (λ B hB=>?_) U
 have hl1:=A9 f
 have hl2:=A9 g
 refine EW (γ:=Bool) (pu:=λ b=>b=true->(∃x,W9 f x)/\ ∃y,aI t y) (Fg:=λ _=>[]) (λ b:Bool=>.v (.bool b)) [] U U call9 U (λ w M hX=>(BD0 f t vs.v ss.v w M hX.st.sat (hX.f.get (k:=0) U) (hX.f.get (k:=2) U)).mono λ e w' he=>by
   obtain⟨⟨b,e1,e2⟩,e3⟩:=he
   exact⟨b,M,e1,e2,Grow.TO hX.st.sat e3,A4⟩) λ b hbr=>?_
 cases b with
 |false=>
  refine gZ ⟨[(0,A7 vs.v f)],[],[Z 0 (.sl 0 vs.v),Z 1 (.sl 1 us.v),Z 25 (.v (.bool false))]⟩ U ?_
  refine EX (.v (.bool false)) U U (λ hn=>absurd hn Ab) (λ hn=>?_)
  refine EX (I 0) U U (λ hn=>absurd hn Ab) (λ hn=>?_)
  refine A1 U (hO:=by have:len f<=9223372036854775807:=hv.sl.le;omega) (λ hb1=>?_) (λ hb1=>?_)
  ·refine AJ U call11 U U (λ _ w M hX=>TJ w (hgl.low hX.st.low)) U ?_
   exact A2 hB U U U λ w M hX=>⟨rfl,hX.st.low⟩
  ·cases hb1
 |true=>
 obtain⟨⟨f,hf⟩,t,ht⟩:=hbr rfl
 obtain rfl:=hf.eq
 obtain rfl:=ht.eq
 have hfz:=CN f
 have hfs:=hf.size
 refine EX (.v (.bool false)) U U (λ hn=>?_) (λ hn=>absurd hn Ab)
 cases hfew:OU g 40 with
 |false=>
  refine AJ U call22 U U (hE2:=M6 hn U) (λ _ w M hX=>by have:=iP g us.v 40 M w hX.st.sat (hX.sl 1 U) Aa;rw[hfew]at this;exact this) U ?_
  refine gZ ⟨[(0,A7 vs.v f.flat)],[],[Z 0 (.sl 0 vs.v),Z 1 (.sl 1 us.v),Z 27 (.v (.bool false)),Z 29 (.v (.bool false))]⟩ U ?_
  refine EX (I 0) U U (λ hn=>absurd hn Ab) (λ hn=>?_)
  refine A1 U (λ hb1=>?_) (λ hb1=>?_)
  ·refine AJ U call11 U U (λ _ w M hX=>TJ w (hgl.low hX.st.low)) U ?_
   exact A2 hB U U U λ w M hX=>⟨rfl,hX.st.low⟩
  ·cases hb1
 |true=>
 obtain⟨g,hg⟩:=wK hfew
 obtain rfl:=hg.eq
 have hgz:=CN g
 have hgs:=hg.size
 refine AJ U call22 U U (hE2:=M6 hn U) (λ _ w M hX=>by have:=iP g.flat us.v 40 M w hX.st.sat (hX.sl 1 U) Aa;rw[hfew]at this;exact this) U ?_
 refine A1 U (λ hb1=>?_) (λ hb1=>?_)<;>simp only[zb]at hb1
 ·refine AJ U call11 U U (λ _ w M hX=>TJ w (hgl.low hX.st.low)) U ?_
  exact A2 hB U U U λ w M hX=>⟨rfl,hX.st.low⟩
 have hsum:f.size+g.size<=40:=by omega
 have of:=hf.ok
 have og:=hg.ok
 have htz:=CN t
 have hts:=ht.size
 have htn:t.t.name=[]:=ht.AR.right.name
 obtain⟨pz1,pz2,_⟩:=aJ f.size f g (Nat.le_refl _) of og
 have hpz:=CN (EJ f g)
 obtain⟨r1,e1⟩: ∃r,r=CY f t:=⟨_,rfl⟩
 obtain⟨r2,e2⟩: ∃r,r=CY (EJ f g) t:=⟨_,rfl⟩
 have law:=BE5 of og ht.ar ht.sh htn
 rw[<-e1,<-e2]at law
 obtain⟨z1,i1,p1⟩:=r1
 obtain⟨z2,i2,p2⟩:=r2
 refine EW (λ h:AI=>.tu [.sl 3 h.v,I i1,I p1]) [3] U U call16 U (hu:=λ _=>rfl) (λ w M hX=>by have:=QY f t vs.v ss.v w M hX.st.sat (hgl.low hX.st.low) (hX.f.get (k:=0) U) (hX.f.get (k:=2) U) of.AR of.sh ht.ar ht.sh Aa (TL Aa (aL Aa of.AR));rw[<-e1]at this;exact this) λ h3 _=>?_
 refine EW (λ h:AI=>.sl 4 h.v) [4] U U call23 U (λ w M hX=>BE2 f.size f g vs.v us.v w M (Nat.le_refl _) of og hX.st.sat (hX.f.get (k:=0) U) (hX.f.get (k:=1) U) Aa) λ h4 _=>?_
 refine EW (λ h:AI=>.tu [.sl 5 h.v,I i2,I p2]) [5] U U call16 U (hu:=λ _=>rfl) (λ w M hX=>by have:=QY (EJ f g) t h4.v ss.v w M hX.st.sat (hgl.low hX.st.low) (hX.f.get (k:=4) U) (hX.f.get (k:=2) U) pz1.AR pz1.sh ht.ar ht.sh Aa (TL Aa (aL Aa pz1.AR));rw[<-e2]at this;exact this) λ h5 _=>?_
 refine BF 6 K2.flat Tm.cells 11 48 Tm.AV U U Ah U λ v6=>?_
 refine EW (λ h:AI=>.tu [.sl 7 h.v,I 0,I 0]) [7] U U call16 U (hu:=λ _=>rfl) (λ w M hX=>by have:=QY K2 t v6 ss.v w M hX.st.sat (hgl.low hX.st.low) (hX.f.get (k:=6) U) (hX.f.get (k:=2) U) iF (by unfold AT J4;decide+kernel) ht.ar ht.sh Ab (TL Aa Ab);rw[BE6]at this;exact this) λ h7 _=>?_
 refine EX (.v (.bool true)) U U (λ hn=>?_) (λ hn=>absurd hn Ab)
 refine AJ U call14 U U (hE2:=MJ hn λ c hc=>by simpa using hc) (λ _ w M hX=>gN (x:=t.flat) (y:=t.flat) U M h7.v ss.v w hX.st.sat (hX.sl 7 U) (hX.sl 2 U)) U ?_
 refine A1 U (λ hb1=>?_) (λ hb1=>?_)
 ·cases hb1
 refine A1 U (λ hb2=>?_) (λ hb2=>?_)<;>simp only[zb]at hb2
 ·obtain⟨_,l2,l3⟩:=law.resolve_right (λ⟨y,_,h,_⟩=>hb2 h)
  simp only at l2 l3
  subst l2 l3
  refine AJ U call11 U U (λ _ w M hX=>TJ w (hgl.low hX.st.low)) U ?_
  exact A2 hB U U U λ w M hX=>⟨by show Ending.returned (.bool _)=_;congr 2;simp[len],hX.st.low⟩
 obtain⟨y,l1,l2,l3,l4,l5,l6⟩:=law.resolve_left (λ⟨h,_⟩=>h hb2)
 simp only at l1 l2 l4 l5
 subst l1 l2
 obtain⟨r3,e3⟩: ∃r,r=CY g y:=⟨_,rfl⟩
 rw[<-e3]at l4 l5
 obtain⟨z3,i3,p3⟩:=r3
 simp only at l4 l5
 subst l4 l5
 have hy:y.size*hF g<=16777216:=by
  have h1:=Nat.mul_le_mul_right (hF g) l3.size
  have h2:=TL (a:=t.size) (b:=hF f*hF g) Aa (BE4 Aa of.AR og.AR)
  rw[Nat.mul_assoc]at h1
  omega
 have hyz:=CN y
 have hys:y.size<=16777216:=Nat.le_trans l3.size (TL Aa (aL Aa of.AR))
 refine EW (λ h:AI=>.tu [.sl 8 h.v,I i3,I p3]) [8] U U call16 U (hu:=λ _=>rfl) (λ w M hX=>by have:=QY g y us.v h3.v w M hX.st.sat (hgl.low hX.st.low) (hX.f.get (k:=1) U) (hX.f.get (k:=3) U) og.AR og.sh l3.ar l3.sh Aa hy;rw[<-e3]at this;exact this) λ h8 _=>?_
 have hpp:(p3 != p3)=false:=by simp
 refine EX (.v (.bool true)) U U (λ hn=>?_) (λ hn=>absurd hn (by simp))
 refine AJ U call14 U U (hE2:=MJ hn λ c hc=>by simpa using hc) (λ _ w M hX=>gN (x:=z3) (y:=z3) U M h5.v h8.v w hX.st.sat (hX.sl 5 U) (hX.sl 8 U)) U ?_
 refine A1 U (λ hb1=>?_) (λ hb1=>?_)
 ·simp at hb1
 refine AJ U call24 U U (λ _ w M hX=>BE0 f vs.v w M hX.st.sat (hX.f.get (k:=0) U) of.AR) U ?_
 refine A1 U (λ hb3=>?_) (λ hb3=>?_)
 ·refine AJ U call11 U U (λ _ w M hX=>TJ w (hgl.low hX.st.low)) U ?_
  exact A2 hB U U U λ w M hX=>⟨rfl,hX.st.low⟩
 have l7:=l6 (by simpa using hb3)
 have ofm:G1 (.mk (AP 5) [f]):=ok_one of (.inl U)
 have hmz:(Tf.mk (AP 5) [f]).size<=43:=by rw[Tf.size,A6,A6];omega
 have htm:B6 (.mk (AP 5) [t])=true:=by rw[VY,Bool.and_eq_true,T4];exact⟨rfl,λ x hx=>by rw[List.mem_singleton.1 hx];exact ht.ar⟩
 have htz2:(Tf.mk (AP 5) [t]).size<=41:=by rw[Tf.size,A6,A6];omega
 refine BF 9 [ss] BR 1 25 CR U U Ah U λ v9=>?_
 refine AS [] (λ u:AI=>.sl 10 u.v) [] (λ u=>[(10,DV u.v (Tf.mk (AP 5) [t]).flat)]) U U call25 U U (λ w M hS hF=>wR 5 v9 ss t hS (hF.get (k:=9) U) (hF.get (k:=2) U) Aa) λ h10 _=>?_
 refine C2 10 U ?_
 refine BF 11 [vs] BR 1 23 CR U U Ah U λ v11=>?_
 refine AS [] (λ u:AI=>.sl 12 u.v) [] (λ u=>[(12,S8 u.v (Tf.mk (AP 5) [f]).flat)]) U U call26 U U (λ w M hS hF=>BE7 5 v11 vs f hS (hF.get (k:=11) U) (hF.get (k:=0) U) Aa) λ h12 _=>?_
 refine C2 12 U ?_
 refine EW (λ h:AI=>.tu [.sl 13 h.v,I 0,I 0]) [13] U U call16 U (hu:=λ _=>rfl) (λ w M hX=>by have:=QY (.mk (AP 5) [f]) (.mk (AP 5) [t]) h12.v h10.v w M hX.st.sat (hgl.low hX.st.low) (hX.f.get (k:=12) U) (hX.f.get (k:=10) U) ofm.AR ofm.sh htm (ht.sh.one 5) Aa (TL htz2 (aL hmz ofm.AR));rw[l7]at this;exact this) λ h13 _=>?_
 refine AJ U call11 U U (λ _ w M hX=>TJ w (hgl.low hX.st.low)) U ?_
 refine EX (.v (.slice none 0 0)) U U (λ hn=>?_) (λ hn=>absurd hn Ab)
 refine BF 14 [h3] BR 1 25 CR U U Ah U λ v14=>?_
 refine EX (.v (.slice none 0 0)) U U (λ hn=>?_) (λ hn=>absurd hn Ab)
 refine AS [] (λ u:AI=>.sl 15 u.v) [] (λ u=>[(15,DV u.v (Tf.mk (AP 5) [y]).flat)]) U U call25 U U (λ w M hS hF=>wR 5 v14 h3 y hS (hF.get (k:=14) U) (hF.get (k:=3) U) Aa) λ h15 _=>?_
 refine C2 15 U ?_
 refine EX (.v (.bool false)) U U (λ hn=>?_) (λ hn=>absurd hn Ab)
 refine AJ U call14 U U (λ _ w M hX=>gN (x:=(Tf.mk (AP 5) [y]).flat) (y:=(Tf.mk (AP 5) [y]).flat) U M h13.v h15.v w hX.st.sat (hX.sl 13 U) (hX.sl 15 U)) U ?_
 exact A2 hB U U U λ w M hX=>⟨rfl,hX.st.low⟩
end Go.Proofs.YtnoegalemkbbbaaGreatDoor
namespace Go.Proofs.YtnoegalemkbbbaaGreatDoor.checkPipe
open Go.Proofs.Tryz
open Go.ChangeShapes Go.WideShapes Go.ChangeAt Go.RowKit Go.Eng
noncomputable abbrev jP:=prog
noncomputable abbrev jf:FuncId:=6
noncomputable abbrev I7:=Tryz.f6
noncomputable abbrev js:=Rows.checkPipeSpec
noncomputable abbrev jc:=Rows.checkPipeRow
theorem jk0:jc.wf (OpenSpec.ofChange js)=true:=by kernel_rfl
theorem jk1:laidOutB jP=true:=by kernel_rfl
theorem jk2:mapsRowed jP=true:=by kernel_rfl
theorem jk3:I7.params.all (jP.readableRec ·)=true:=by kernel_rfl
theorem jk4:namedTie jP jc.named js.vars=true:=by kernel_rfl
theorem jk5:(jc.stops==[])=true:=by kernel_rfl
theorem jk6:(jP.stops==[])=true:=by kernel_rfl
theorem jk7:(jc.knobs==[])=true:=by kernel_rfl
theorem jk8:(jP.stopKnobs==[])=true:=by kernel_rfl
theorem jk9:(jc.inPlace==jP.inPlace jf)=true:=by kernel_rfl
theorem BF9:(jc.unfollowed==jP.unfollowed jf)=true:=by kernel_rfl
theorem BG0:(jc.recurses==jP.recurses jf)=true:=by kernel_rfl
theorem BG1:(jc.named==jP.varsNamed jf)=true:=by kernel_rfl
theorem BG2:(jc.maps==(I7.params.toList++js.plain.varTypes jP).any (jP.mapsRec ·))=true:=by kernel_rfl
theorem BG3:(jc.ifaces==(I7.params.toList++js.plain.varTypes jP).any (jP.ifacesRec ·))=true:=by kernel_rfl
theorem BG4:(jc.mapsOut==jP.mapsAmong I7.resultTypes.toList)=true:=by kernel_rfl
theorem BG5:(jc.loops==(I7.params.toList++js.plain.varTypes jP).any (jP.loopsFrom ·))=true:=by kernel_rfl
theorem BG6:(jc.wideKeys==(I7.params.toList++js.plain.varTypes jP++I7.resultTypes.toList).any (jP.wideKeysFrom ·))=true:=by kernel_rfl
theorem BG7:js.vars.all (jP.varReadable ·)=true:=by kernel_rfl
theorem BG8:I7.resultTypes.all (λ t=>jP.readableRec t&&decide (t<jP.types.size))=true:=by kernel_rfl
theorem BG9:(jc.ifacesOut==I7.resultTypes.toList.any (jP.ifacesRec ·))=true:=by kernel_rfl
theorem BH0:(jc.loopsOut==I7.resultTypes.toList.any (jP.loopsFrom ·))=true:=by kernel_rfl
theorem BH1:(jc.plainKeys==jP.plainKeys)=true:=by kernel_rfl
theorem BH2:jc.shortTexts.isNone=true:=by kernel_rfl
theorem BH3:jP.stopsHeard=true:=by kernel_rfl
theorem BH4:jP.mayEnter=true:=by kernel_rfl
theorem BH5:(jc.lifted==jP.liftsFinal)=true:=by kernel_rfl
theorem BH6:(jP.make==some jc.make)=true:=by kernel_rfl
theorem BH7:(jc.kinds==(if jc.domain.isEmpty then []else I7.params.toList.map λ t=>match jP.underlying t with|some (.int k)=>some k|_=>none))=true:=by kernel_rfl
theorem BH8:(jc.pinned==jc.pinnedBy)=true:=by kernel_rfl
theorem BH9:(jc.veiled==(I7.params.toList++js.plain.varTypes jP++I7.resultTypes.toList).any (jP.veiledRec ·))=true:=by kernel_rfl
theorem BI0:jc.veiledFits jP I7.params.toList (I7.params.toList++js.plain.varTypes jP++I7.resultTypes.toList)=true:=by kernel_rfl
theorem DX{a b:Bool}(h:a=true)(e:b=true):(a&&b)=true:=by rw[h,e];rfl
theorem iW:joinedFacts jP jf I7 js jc=true:=(DX (DX (DX (DX (DX (DX (DX (DX (DX (DX (DX (DX (DX (DX (DX (DX (DX (DX (DX (DX (DX (DX (DX (DX (DX (DX (DX (DX (DX (DX (DX jk0 jk1) jk2) jk3) jk4) jk5) jk6) jk7) jk8) jk9) BF9) BG0) BG1) BG2) BG3) BG4) BG5) BG6) BG7) BG8) BG9) BH0) BH1) BH2) BH3) BH4) BH5) BH6) BH7) BH8) BH9) BI0)
end Go.Proofs.YtnoegalemkbbbaaGreatDoor.checkPipe
