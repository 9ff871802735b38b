/- Lemmas for the card. -/
import Derived.Test.YtnoegalemkbbbaaGreatDoorKv20
set_option linter.unusedVariables false
set_option linter.unusedSimpArgs false
set_option maxRecDepth 100000
set_option maxRecDepth 100000
namespace Go.Eng
open Go.RowKit
theorem BB3{α:Type}[Inhabited α](A B:List α){i:Int}(h0:0<=i):at' (A++B) (len A+i)=at' B i:=by
 unfold at'
 rw[show(len A+i).toNat=A.length+i.toNat by unfold len;omega,List.getD_eq_getElem?_getD,List.getD_eq_getElem?_getD,List.getElem?_append_right Aa,Nat.add_sub_cancel_left]
def aG(f:Fl):Option Int->Bool
 |some o=>(at' f o).op==1
 |none=>false
theorem BB4(p:List Sp)(x:Tf):QU p x=aG x.flat (FY p x):=by
 unfold QU aG;rfl
theorem wF: ∀(p:List Sp) (x:Tf),(BK p x).2=aG x.flat (FY p x)
 |[],x=>by
  show decide (x.t.op=1)=((at' x.flat 0).op==1)
  rw[Tf.GO]
  show decide (x.t.op=1)=(x.t.op==1)
  by_cases h:x.t.op=1<;>simp[h]
 |s::p,x=>by
  unfold BK FY
  by_cases hc:x.t.op≠2\/s.part=true
  ·rw[if_pos hc,if_pos hc];rfl
  ·rw[if_neg hc,if_neg hc,Tf.GO]
   have key: ∀(l:List Tf) (A:Fl) (o:Int),len A=o->(GA l o s.name (BK p)).2=aG (A++AP l) (LF l o s.name (FY p)):=by
    intro l
    induction l with
    |nil=>intro A o ho;rfl
    |cons y l i=>
     intro A o ho
     unfold GA LF
     by_cases hn:y.t.name=s.name
     ·rw[if_pos hn,if_pos hn]
      have b:=wF p y
      cases hl:FY p y with
      |none=>
       rw[hl]at b
       have b:(BK p y).2=false:=b
       rw[b,if_neg Ab];rfl
      |some k=>
       obtain⟨e,j⟩:=gP p y k hl
       rw[hl]at b
       have b:(BK p y).2=((at' y.flat k).op==1):=b
       show _=((at' (A++(y.flat++AP l)) (o+k)).op==1)
       rw[<-ho,BB3 A _ e,nT _ _ e (by unfold len;rw[Tf.DI];omega),<-b]
       cases (BK p y).2<;>rfl
     ·rw[if_neg hn,if_neg hn,show o+(y.size:Int)=o+len y.flat by unfold len;rw[Tf.DI]]
      have:=i (A++y.flat) (o+len y.flat) (by rw[AQ,ho])
      rw[List.append_assoc]at this
      exact this
   exact key x.ps [x.node] 1 U
theorem wG{l:A0}{c:UInt8}(h: ∀a q,l=a::q->a≠c):Lib.trimLeftB l c=l:=by
 cases l with
 |nil=>rfl
 |cons a q=>unfold Lib.trimLeftB;rw[List.dropWhile_cons];simp[h a q U]
theorem BB5{s:A0}(hs:s≠[])(h0:A3 s 0≠48)(h1:A3 s (len s-1)≠48):Lib.trimB s 48=s:=by
 have h:Lib.trimRightB s 48=s:=by
  show(Lib.trimLeftB s.reverse 48).reverse=s
  rw[wG λ a q e=>?_,List.reverse_reverse]
  have e2:s=q.reverse++[a]:=by rw[<-List.reverse_reverse s,e,List.reverse_cons]
  intro b
  apply h1
  rw[e2,AQ,show len [a]=1 from rfl,show len q.reverse+1-1=len q.reverse by omega]
  have:=YO (u:=q.reverse) (v:=[a]) (k:=0) (Int.le_refl 0)
  rw[Int.add_zero,G7]at this
  rw[this,b];rfl
 unfold Lib.trimB
 rw[h,wG λ a q e=>?_]
 intro b
 apply h0
 rw[e,G7,b];rfl
theorem BB6{n:Nd}(h:JB n=true):OY n=true:=by
 unfold JB at h
 split at h
 ·cases h
 rename_i b
 simp only[Bool.or_eq_true,bne_iff_ne,ne_eq,Bool.not_eq_true',beq_eq_false_iff_ne,decide_eq_true_eq,not_or,Decidable.not_not,Bool.not_eq_false]at b
 obtain⟨⟨⟨⟨⟨⟨⟨e,c2⟩,c3⟩,c4⟩,c5⟩,i⟩,j⟩,k⟩:=b
 unfold OY
 rw[if_neg (by
  rintro(h|h|h|h|h|h|h|h)
  ·exact h e
  ·exact h c2
  ·exact h c3
  ·omega
  ·omega
  ·omega
  ·omega
  ·rw[c4]at h;cases h)]
 by_cases hs:n.s=[]
 ·rw[if_pos (by simp[hs])]at h
  rw[if_pos hs];simpa using h
 ·rw[if_neg (by simp[hs])]at h
  rw[if_neg hs]
  simp only[Bool.and_eq_true,bne_iff_ne]at h
  rw[BB5 hs h.1 h.2];simp
theorem BB7{n:Nd}(h:G9 n=true):JX n=true:=by
 unfold G9 KL at h
 unfold JX
 by_cases h0:n.kind=0\/n.kind=1\/n.kind=2
 ·rw[if_pos h0]at h ⊢;exact h
 rw[if_neg h0]at h ⊢
 by_cases h3:n.kind=3
 ·rw[if_pos h3]at h ⊢;exact BB6 h
 rw[if_neg h3]at h ⊢
 by_cases h4:n.kind=4
 ·rw[if_pos h4]at h ⊢
  rw[Bool.and_eq_true]at h ⊢
  exact⟨wE h.1,h.2⟩
 rw[if_neg h4]at h ⊢
 exact h
theorem BB8{n:Int}{c:Nd}(h:ZC n c=true):NN n c=true:=by
 unfold ZC at h
 unfold NN GP
 simp only[Bool.and_eq_true,decide_eq_true_eq]at h ⊢
 exact⟨⟨h.1.1,h.1.2⟩,h.2.1,⟨BB7 h.2.2.2,h.2.2.1.1⟩,by have:=h.2.2.1.2;omega⟩
theorem BB9{t:Tm}(hp:(t.op=7\/t.op=8)->(HH t.s).2=true)(h:H4 t=true):I2 t=true:=by
 unfold H4 JZ at h
 unfold I2 II
 by_cases h0:t.op=0
 ·rw[if_pos h0]at h ⊢;rw[Bool.and_comm];exact h
 rw[if_neg h0]at h ⊢
 by_cases h1:t.op=1
 ·rw[if_pos h1]at h ⊢
  simp only[Bool.and_eq_true,decide_eq_true_eq]at h ⊢
  exact⟨⟨⟨h.2.1.1,Aa⟩,h.2.2⟩,h.1⟩
 rw[if_neg h1]at h ⊢
 by_cases h9:t.op=9
 ·rw[if_pos h9]at h ⊢
  simp only[Bool.and_eq_true,decide_eq_true_eq]at h ⊢
  exact⟨⟨h.2.1,BB8 h.2.2⟩,h.1⟩
 rw[if_neg h9]at h ⊢
 by_cases h2:t.op=2
 ·rw[if_pos h2]at h ⊢
  simp only[Bool.and_eq_true,Bool.or_eq_true,beq_iff_eq,decide_eq_true_eq]at h ⊢
  exact⟨⟨⟨h.2.1,Aa⟩,Aa⟩,h.1⟩
 rw[if_neg h2]at h ⊢
 by_cases h4:t.op=4
 ·rw[if_pos h4]at h ⊢;rw[Bool.and_comm];exact h
 rw[if_neg h4]at h ⊢
 by_cases h3:t.op=3\/t.op=5\/t.op=6
 ·rw[if_pos h3]at h ⊢;rw[Bool.and_comm];exact h
 rw[if_neg h3]at h ⊢
 by_cases h7:t.op=7\/t.op=8
 ·rw[if_pos h7]at h ⊢
  simp only[Bool.and_eq_true,decide_eq_true_eq]at h ⊢
  exact⟨⟨hp h7,h.2.1⟩,h.1⟩
 rw[if_neg h7]at h ⊢
 simp at h
theorem BC0{w u:A0}(hw:w≠[])(h0: ∀j:Int,0<=j->j<len w->CP (A3 w j) (j==0)=true)(hu: ∀c r,u=c::r->CP (c.toNat:Int) false=false):D4 (w++u) 0=len w:=by
 have hl:=HS hw
 have e:=A9 u
 refine SO (n:=len w) (by rw[AQ];omega) (λ j h1 b=>by rw[IV h1 b];exact h0 j h1 b) (λ h=>?_) 0 (Int.le_refl _) Aa
 rw[oX (Int.le_refl _),Int.sub_self]
 cases u with
 |nil=>rw[AQ,len_nil]at h;omega
 |cons c r=>rw[G7];rw[show(len w==0)=false from by simpa using(by omega:len w≠0)];exact hu c r U
theorem wH(c:UInt8)(s r:A0):Eng.sub (c::(s++r)) 1 (len s+1)=s:=by
 unfold Eng.sub
 rw[show(len s+1).toNat=s.length+1 by unfold len;omega]
 simp
theorem BC1{s r:A0}(hu:CV s=true)(k: ∀c r',r=c::r'->CP (c.toNat:Int) false=false):G8 ((46::FH s)++r)=(⟨false,s,0⟩,len (46::FH s)):=by
 have e:Lib.hasPrefix ((46::FH s)++r) [46]=true:=by rfl
 have l:A5 ((46::FH s)++r) 1=FH s++r:=rfl
 unfold G8
 rw[e,if_neg Ab,l,AM]
 unfold FH
 by_cases h:FM s=true
 ·obtain⟨h1,b⟩:=ZI h
  have hl:=HS h1
  rw[if_pos h,BC0 h1 b k,if_pos hl]
  show((⟨false,Eng.sub (46::(s++r)) 1 (len s+1),0⟩:Sp),len s+1)=_
  rw[wH,Int.add_comm]
 ·rw[if_neg h,<-YI hu,fN hu r]
  obtain⟨q,w⟩:=Z2 s
  have hw:D4 (E8 s++r) 0=0:=by
   refine SO (n:=0) (by have:=A9 (E8 s++r);omega) (λ j h1 b=>by omega) (λ _=>?_) 0 (Int.le_refl _) (Int.le_refl _)
   rw[w,List.cons_append,G7];rfl
  rw[hw,if_neg Ab]
  have i:Eng.sub ((46::E8 s)++r) 1 (1+len (E8 s))=E8 s:=by
   rw[Int.add_comm];exact wH 46 (E8 s) r
  rw[<-AX1,i,if_neg (by rintro(b|b|b);exact b rfl;exact h b;exact b rfl),Int.add_comm]
def J8(p:List Sp):A0:=(p.map Sp.KK).flatten
def O1(x:Sp):Prop:=x.part=false/\x.n=0/\CV x.name=true
theorem O1.KK {x:Sp}(h:O1 x):x.KK=46::FH x.name:=by
 unfold Sp.KK;rw[if_neg (by rw[h.1];decide)];rfl
theorem O1.eq {x:Sp}(h:O1 x):(⟨false,x.name,0⟩:Sp)=x:=by
 obtain⟨a,b,c⟩:=x
 obtain⟨h1,e,_⟩:=h
 have h1:a=false:=h1
 have e:c=0:=e
 subst h1 e;rfl
theorem BC2{p:List Sp}(h: ∀x∈p,O1 x): ∀c r',J8 p=c::r'->CP (c.toNat:Int) false=false:=by
 intro c r' e
 cases p with
 |nil=>cases e
 |cons x p=>
  unfold J8 at e
  rw[List.map_cons,List.flatten_cons,(h x (.head _)).KK]at e
  rw[<-(List.cons.inj e).1];decide
theorem wI: ∀(p2 p1:List Sp) (A:A0) (f:Nat),(∀x∈p2,O1 x)->p2.length<=f->IG f (A++J8 p2) p1 (len A)=(p1++p2,len (A++J8 p2))
 |[],p1,A,f,_,_=>by
  rw[show J8 []=[]from rfl,List.append_nil,List.append_nil]
  cases f with
  |zero=>rfl
  |succ f=>rw[IG,if_neg Aa]
 |x::p2,p1,A,f,h,l=>by
  rw[List.length_cons]at l
  obtain⟨f,rfl⟩: ∃g,f=g+1:=⟨f-1,Aa⟩
  have hx:=h x (.head _)
  have j: ∀y∈p2,O1 y:=λ y n=>h y (.tail _ n)
  have e:J8 (x::p2)=(46::FH x.name)++J8 p2:=by
   unfold J8;rw[List.map_cons,List.flatten_cons,hx.KK]
  have q:=A9 (FH x.name)
  have w:=A9 (J8 p2)
  have b:=BC1 (s:=x.name) (r:=J8 p2) hx.2.2 (BC2 j)
  have i:FX (A++J8 (x::p2)) (len A)=(x,len (46::FH x.name)):=by
   unfold FX
   rw[VD,e,b,if_pos (by show len (46::FH x.name)≠0;rw[AM];omega),hx.eq]
  have k:=wI p2 (p1++[x]) (A++(46::FH x.name)) f j Aa
  rw[List.append_assoc,<-e,AQ]at k
  rw[IG,if_pos (by rw[e,AQ,AQ,AM];omega),i,if_neg (by show ¬len (46::FH x.name)=0;rw[AM];omega)]
  show IG f (A++J8 (x::p2)) (p1++[x]) (len A+len (46::FH x.name))=_
  rw[k,List.append_assoc];rfl
theorem BC3{s:A0}(hu:CV s=true):FH s≠[]:=by
 unfold FH
 by_cases h:FM s=true
 ·rw[if_pos h];exact(ZI h).1
 ·rw[if_neg h,<-YI hu]
  obtain⟨q,b⟩:=Z2 s
  rw[b];simp
theorem BC4{p:List Sp}(hl:p.length<=20)(h: ∀x∈p,O1 x):CB (JW p)=(p,0,0):=by
 cases p with
 |nil=>rfl
 |cons x p=>
  have hx:=h x (.head _)
  have e:JW (x::p)=J8 (x::p):=by
   unfold JW J8
   rw[if_neg (by rintro(h|h);cases h;have h:x.part=true:=h;rw[hx.1]at h;cases h)];rfl
  have b:JW (x::p)≠[46]:=by
   rw[e];unfold J8
   rw[List.map_cons,List.flatten_cons,hx.KK]
   intro i
   have:=(List.cons.inj i).2
   exact BC3 hx.2.2 (List.append_eq_nil_iff.1 this).1
  have hg:=wI (x::p) [] [] 20 h hl
  rw[List.nil_append,List.nil_append,len_nil,<-e]at hg
  unfold CB
  rw[if_neg b,hg,if_neg (by rintro(h|h);(have h:len (JW (x::p))<len (JW (x::p)):=h;omega);cases h)]
theorem wJ{x:Tf}(e:MO x=true)(ho:x.t.op=7\/x.t.op=8):HH x.t.s=((I3 x.t.s).1,true):=by
 obtain⟨p,p1,p2,p3,p4,p5⟩:=BB0 e ho
 have h: ∀y∈p,O1 y:=λ y b=>⟨p5 y b,(p2 y b).2 (p5 y b)⟩
 have h1:CB x.t.s=(p,0,0):=by rw[p3];exact BC4 p1 h
 have i:p.any (λ x=>x.part)=false:=by
  rw[List.any_eq_false];intro y b;rw[p5 y b];decide
 unfold HH I3
 rw[h1,p4]
 show(p,decide ((0:Int)=0)&& !p.any (λ x=>x.part))=_
 rw[i];rfl
theorem wK{o:Int}: ∀ {l:List Tf} {L:Option A0},ET o L l=true->(∀y∈l,D2 y=true)->FC o l=true
 |[],L,_,_=>by rw[FC]
 |x::l,L,h,hw=>by
  rw[ET]at h
  simp only[Bool.and_eq_true]at h
  obtain⟨⟨⟨h1,i⟩,e⟩,b⟩:=h
  have j:Lib.validD x.t.name=true:=by
   by_cases ho:o=2
   ·rw[ho]at e
    simp only[decide_true,Bool.not_true,Bool.false_or,Bool.and_eq_true]at e
    exact wE e.1
   ·have:x.t.name=[]:=by simpa[ho]using i
    rw[this];rfl
  have k:QP o x.t.name l=true:=by
   cases l with
   |nil=>rfl
   |cons y l=>
    unfold QP
    by_cases ho:o=2
    ·rw[ho]at b ⊢
     rw[ET]at b
     simp only[Bool.and_eq_true,decide_true,Bool.not_true,Bool.false_or,Option.all_some,Bool.not_eq_true',decide_eq_false_iff_not]at b
     have:=b.1.2.2
     simp[this]
    ·simp[ho]
  rw[FC,h1,i,j,hw x (.head _),k,wK b λ y n=>hw y (.tail _ n)];rfl
theorem iT: ∀(n:Nat) (x:Tf),x.size<=n->MO x=true->D2 x=true
 |0,x,h,_=>by have:=x.size_pos;omega
 |n+1,x,h,e=>by
  obtain⟨j,a2,a3,a4⟩:=wD e
  have hs:=Tf.size_eq x
  have hw: ∀y∈x.ps,D2 y=true:=λ y i=>iT n y (by have:=I1 i;omega) (wC a4 y i)
  have h1:I2 { x.t with many:=len x.ps}=true:=BB9 (λ ho=>by
   have ho:x.t.op=7\/x.t.op=8:=ho
   show(HH x.t.s).2=true
   rw[wJ e ho]) j
  have k:QO x.t x.ps=true:=by
   have key: ∀q,P3 x.t q=true->QO x.t q=true:=by
    intro q b
    by_cases ho:x.t.op=7\/x.t.op=8
    ·match q,b with
     |[],b=>
      have b:(if x.t.op=7\/x.t.op=8 then false else true)=true:=b
      rw[if_pos ho]at b;cases b
     |[y],b=>
      have b:(if x.t.op=7\/x.t.op=8 then QU (I3 x.t.s).1 y else true)=true:=b
      show(if x.t.op=7\/x.t.op=8 then(BK (HH x.t.s).1 y).2 else true)=true
      rw[if_pos ho]at b ⊢
      rw[wJ e ho,wF,<-BB4];exact b
     |y::z::r,b=>
      have b:(if x.t.op=7\/x.t.op=8 then false else true)=true:=b
      rw[if_pos ho]at b;cases b
    ·unfold QO
     split
     ·rw[if_neg ho]
     ·rw[if_neg ho]
   exact key _ a3
  rw[gL,h1,wK a2 hw,k];rfl
def aH(u:Tf):Bool:=if u.t.op=1 then(TJ u.t.n (u.ps.map Tf.node)).2 else true
mutual
def TM:Tf->Bool
 | .mk t ps=>aH (.mk t ps)&&K8 ps
def K8:List Tf->Bool
 |[]=>true
 |x::l=>TM x&&K8 l
end
theorem BC5(a b:List Tf):K8 (a++b)=(K8 a&&K8 b):=by
 induction a with
 |nil=>simp[K8]
 |cons x a e=>rw[List.cons_append,K8,K8,e,Bool.and_assoc]
theorem BC6(u:Tf)(us:List Tf):K8 (u::us)=(aH u&&K8 (u.ps++us)):=by
 cases u with|mk t ps=>rw[K8,TM,BC5,Bool.and_assoc];rfl
theorem BC7{a:Tm}(h:ZF a):AtR a:=⟨h.num,h.s,h.e⟩
structure Tf.WB (x:Tf):Prop where
 right:x.gQ
 AS:TM x=true
end Go.Eng
namespace Go.Proofs.YtnoegalemkbbbaaGreatDoor
open Go.Proofs.Tryz
open Go.Eng
theorem wL{w:World}{M:Mem}(v:Value)(f:Fl)(i:Int)(z:Sat w M)(hl:(A7 v f).ok M)(H:len f<=1048576)(h0:0<=i)(h1:i<len f)(ho:(at' f i).op=1)(hm:0<=(at' f i).many)(A:i+1+(at' f i).many<=len f):
    Calls prog 41 [v,i64 i].toArray w (N7 w M (λ u:Value=>u) (λ _=>True) (λ u=>[(0,kn u 7 (Eng.sub f (i+1) (i+1+(at' f i).many)) C6)])):=by
 refine AJ (Hr:=[]) AG func41 U ntmps41 [(0,A7 v f)] [] [.sl 0 v,I i] U (Aj z) (AH hl A4) (λ B C=>BA 1 ([]:List Tm) C6 7 113 ZD U U Ah U λ u=>B5 (σ:=Int×Value×Fl) (λ(j,u,y)=>⟨[(0,A7 v f),(1,kn u 7 y C6)],[(1,.ho (.own 113 7 u y.length (y.flatMap C6)))],[Z 0 (.sl 0 v),Z 1 (I i),Z 5 (.sl 1 u),Z 6 (I j)]⟩) (λ(j,u,y)=>i+1<=j/\j<=i+1+(at' f i).many/\y=Eng.sub f (i+1) j) (λ(j,u,y)=>(i+1+(at' f i).many-j).toNat) (i+1,u,[]) U U ⟨Aa,Aa,by unfold Eng.sub;simp⟩ ?_) U
 rintro⟨j,u,y⟩ ⟨e,D,l⟩
 have E:len y=j-(i+1):=by rw[l,FG Aa e Aa]
 refine A1 U (λ b=>?_) (λ b=>?_)<;>simp only[zb]at b
 ·have n:Eng.sub f (i+1) (j+1)=Eng.sub f (i+1) j++[at' f j]:=by
   obtain⟨F,G⟩:=CJ f (i:=j) Aa Aa
   unfold Eng.sub
   rw[show(j+1).toNat-(i+1).toNat=(j.toNat-(i+1).toNat)+1 by omega,List.take_add_one,G,List.getElem?_drop,show(i+1).toNat+(j.toNat-(i+1).toNat)=j.toNat by omega,List.getElem?_eq_getElem F]
   rfl
  exact DN [12,13,14] 4 (λ _ _ _ _ _ h=>h) U BM Ac <|AL 12 U U U <|BA 3 [at' f j] C6 7 113 ZD U U Ah U λ v3=>AE U <|AL 13 U U U <|F5 72 U U U underlying79 type113 U U sP (by simp only[AM,len_nil];omega) λ v'=>AE U <|AL 14 U U U <|AE U <|BO U U U <|AX (j+1,v',y++[at' f j]) U U ⟨Aa,Aa,by rw[n,<-l]⟩ Ag
 ·have q:j=i+1+(at' f i).many:=by
   rcases Decidable.em (j<=i+(at' f i).many)with h|h
   · exact absurd ho (by simpa[h]using b)
   · omega
  subst q
  exact A2 C U U U λ w M s=>⟨u,M,rfl,trivial,s.st.done,AH (by rw[<-l];exact s.f.get (k:=1) U) A4⟩
theorem BC8(f:Fl)(v:Value)(M:Mem)(w:World)(hM:Sat w M)(hl:(A7 v f).ok M)(hb:len f<=1048576)(S: ∀t∈f,len t.name<=1000000/\len t.s<=1000000/\len t.c.s<=1000000):
    Calls prog 17 [v].toArray w λ e w'=>(∃b,e= .returned (.bool b)/\(b=true-> ∃x:Tf,f=x.flat/\x.WB))/\Ext w w':=by
 refine AJ (Hr:=[]) AG func17 U ntmps17 [(0,A7 v f)] [] [.sl 0 v] U (Aj hM) (AH hl A4) (λ B T=>?_) U
 refine EV (γ:=Bool) (pu:=λ b=>b=true-> ∃x:Tf,f=x.flat/\x.gQ) (Fg:=λ _=>[]) (λ b:Bool=>.v (.bool b)) [] U U call20 U (λ w M j=>(Al1 f v M w j.st.sat (j.sl 0 U) Aa (λ t ht=>by have:=S t ht;omega)).mono λ e w' he=>by
   obtain⟨⟨b,e1,e2⟩,e3⟩:=he
   exact⟨b,M,e1,e2,Grow.TQ j.st.sat e3,A4⟩) λ b hbr=>?_
 refine A1 U (λ h1=>?_) (λ h1=>?_)
 ·exact A2 T rfl rfl rfl λ w M j=>⟨⟨false,rfl,λ h=>by cases h⟩,j.st.low⟩
 obtain⟨x,rfl,hr⟩:=hbr (by simpa using h1)
 have hlp:=x.ER
 have hw:D2 x=true:=iT x.size x (Nat.le_refl _) hr.all
 refine B5 (σ:=Int×List Tf) (λ(i,us)=>⟨[(0,A7 v x.flat)],[],[Z 0 (.sl 0 v),Z 3 (I i)]⟩) (λ(i,us)=>DE x.flat i us []/\TM x=K8 us/\ ∀u∈us,D2 u=true) (λ(i,us)=>(len x.flat-i).toNat) (0,[x]) U U ⟨⟨Aa,by show x.flat=(x.flat++AP [])++[];simp[AP]⟩,by show _=(TM x&&true);rw[Bool.and_true],λ u hu=>by rw[List.mem_singleton.1 hu];exact hw⟩ ?_
 rintro⟨i,us⟩ ⟨G,O,V⟩
 have W:=G.1
 refine A1 U (λ P=>?_) (λ P=>?_)<;>simp only[zb]at P
 ·cases us with
  |nil=>
   exfalso
   have h2:=G.2
   have h3:(x.flat.drop i.toNat).length=0:=by rw[h2];rfl
   rw[List.length_drop]at h3
   unfold len at P;omega
  |cons u us=>
  obtain⟨Q,hq,q⟩:=G.step
  have A:(at' x.flat i).many=len u.ps:=by rw[hq]
  have R:(at' x.flat i).op=u.t.op:=by rw[hq]
  have H:(at' x.flat i).n=u.t.n:=by rw[hq]
  have hpn:=A9 u.ps
  have hfl:=q.L4 Aa
  rw[JJ,AQ]at hfl
  have hfg:=JT u.ps
  have hfu:=A9 (AP us)
  have hfr:len ([]:Fl)=0:=rfl
  have X:=V u (.head _)
  have J: ∀z∈u.ps++us,D2 z=true:=λ z K=>by
   rcases List.mem_append.1 K with K|K
   · exact(VY (VZ X).2 z K).1
   · exact V z (.tail _ K)
  have C:=BC6 u us
  refine A1 U (λ L=>?_) (λ L=>?_)<;>simp only[zb]at L<;>rw[R]at L
  ·refine AX (i+1,u.ps++us) U U ⟨q,?_,J⟩ Ag
   rw[O,C];unfold aH;rw[if_neg L,Bool.true_and]
  have N:u.t.op=1:=by omega
  have D:=hZ X N
  have l:Eng.sub x.flat (i+1) (i+1+(at' x.flat i).many)=u.ps.map Tf.node:=by rw[A];exact tT q λ z K=>(D.2 z K).1
  have E: ∀a∈u.ps.map Tf.node,AtR a:=λ a ha=>by
   obtain⟨z,K,rfl⟩:=List.mem_map.1 ha
   refine BC7 (tU (D.2 z K).2 (S z.node ?_).2.2)
   have h2:z.node∈Eng.sub x.flat (i+1) (i+1+(at' x.flat i).many):=by rw[l];exact ha
   unfold Eng.sub at h2
   exact List.mem_of_mem_drop (List.mem_of_mem_take h2)
  have F:(TJ (at' x.flat i).n (Eng.sub x.flat (i+1) (i+1+(at' x.flat i).many))).2=true->TM x=K8 (u.ps++us):=λ h=>by
   rw[l,H]at h
   rw[O,C];unfold aH;rw[if_pos N,h,Bool.true_and]
  have hml:len (u.ps.map Tf.node)=len u.ps:=by unfold len;rw[List.length_map]
  refine DN [7,8,12,13] 5 (λ _ _ _ _ _ h=>h) U BM Ac <|G5 7 12 U U U ?_ ?_
  ·refine EV (λ u:Value=>.sl 25 u) [25] (Fg:=λ u=>[(0,kn u 7 (Eng.sub x.flat (i+1) (i+1+(at' x.flat i).many)) C6)]) (pu:=λ _=>True) U U call41 U (λ w M j=>wL v x.flat i j.st.sat (j.f.get (k:=0) U) hb W Q (by rw[R];exact N) (by rw[A];omega) (by rw[A];omega)) λ v25 _=>AE U <|G5 8 12 U U U ?_ ?_
   ·exact AK U call40 U U (λ _ w M j=>iS (at' x.flat i).n v25 (Eng.sub x.flat (i+1) (i+1+(at' x.flat i).many)) j.st.sat (j.f.get (k:=25) U) (by rw[l];omega) (by rw[l];exact E) (by rw[H];exact D.1)) U <|AE U <|AL 12 U U U <|BB 55 U zeroValue46 U λ b5=>AE U <|AL 13 U U U <|AE U <|BO U U U <|A1 U (λ y=>A2 T rfl rfl rfl λ w M j=>⟨⟨false,rfl,λ h=>by cases h⟩,j.st.low⟩) (λ y=>AX (i+1,u.ps++us) U U ⟨q,F (by simpa using y),J⟩ Ag)
   ·exact BB 55 U zeroValue46 U λ b5=>AE U <|AL 8 U U U <|AK U call40 U U (λ _ w M j=>iS (at' x.flat i).n v25 (Eng.sub x.flat (i+1) (i+1+(at' x.flat i).many)) j.st.sat (j.f.get (k:=25) U) (by rw[l];omega) (by rw[l];exact E) (by rw[H];exact D.1)) U <|AE U <|AL 13 U U U <|AE U <|BO U U U <|A1 U (λ y=>A2 T rfl rfl rfl λ w M j=>⟨⟨false,rfl,λ h=>by cases h⟩,j.st.low⟩) (λ y=>AX (i+1,u.ps++us) U U ⟨q,F (by simpa using y),J⟩ Ag)
  ·exact BB 55 U zeroValue46 U λ b5=>AE U <|AL 7 U U U <|EV (λ u:Value=>.sl 25 u) [25] (Fg:=λ u=>[(0,kn u 7 (Eng.sub x.flat (i+1) (i+1+(at' x.flat i).many)) C6)]) (pu:=λ _=>True) U U call41 U (λ w M j=>wL v x.flat i j.st.sat (j.f.get (k:=0) U) hb W Q (by rw[R];exact N) (by rw[A];omega) (by rw[A];omega)) λ v25 _=>AE U <|AL 8 U U U <|AK U call40 U U (λ _ w M j=>iS (at' x.flat i).n v25 (Eng.sub x.flat (i+1) (i+1+(at' x.flat i).many)) j.st.sat (j.f.get (k:=25) U) (by rw[l];omega) (by rw[l];exact E) (by rw[H];exact D.1)) U <|AE U <|AL 13 U U U <|AE U <|BO U U U <|A1 U (λ y=>A2 T rfl rfl rfl λ w M j=>⟨⟨false,rfl,λ h=>by cases h⟩,j.st.low⟩) (λ y=>AX (i+1,u.ps++us) U U ⟨q,F (by simpa using y),J⟩ Ag)
 ·have hun:us=[]:=by
   cases us with
   |nil=>rfl
   |cons u us=>obtain⟨Q,_⟩:=G.step;omega
  subst hun
  exact A2 T U U U λ w M j=>⟨⟨true,rfl,λ _=>⟨x,rfl,hr,by rw[O];rfl⟩⟩,j.st.low⟩
theorem BC9(f:Fl)(v:Value)(m:Int)(M:Mem)(w:World)(q:Sat w M)(hl:(A7 v f).ok M)(hm:0<=m/\m<=1048576):
   Calls prog 32 [v,i64 m].toArray w λ e w'=>(∃b,e= .returned (.bool b)/\(b=true->NP m f=true/\ ∃x:Tf,f=x.flat/\x.WB))/\Ext w w':=by
 refine AJ (Hr:=[]) AG func32 U ntmps32 [(0,A7 v f)] [] [.sl 0 v,I m] U (Aj q) (AH hl A4) (λ B n=>AK U call75 U U (λ _ w M i=>Aj7 f v m M w i.st.sat (i.sl 0 U) hm) U <|GJ (.v (.bool false)) U U (λ hs=>?_) (λ hs=>?_)) U
 ·have j:=hs
  unfold NP at j
  simp only[Bool.and_eq_true,decide_eq_true_eq,List.all_eq_true]at j
  refine EV (γ:=Bool) (pu:=λ b=>b=true-> ∃x:Tf,f=x.flat/\x.WB) (Fg:=λ _=>[]) (λ b:Bool=>.v (.bool b)) [] U U call17 U (hE1:=OD hs U) (λ w M i=>(BC8 f v M w i.st.sat (i.f.get (k:=0) U) Aa (λ t s=>by have:=j.2 t s;omega)).mono λ e w' he=>by
   obtain⟨⟨b,y,e2⟩,e3⟩:=he
   exact⟨b,M,y,e2,Grow.TQ i.st.sat e3,A4⟩) λ b l=>?_
  exact A2 n U U U λ w M i=>⟨⟨b,by rw[hs];rfl,λ h=>⟨hs,l h⟩⟩,i.st.low⟩
 ·exact A2 n rfl rfl rfl λ w M i=>⟨⟨false,by rw[hs];rfl,λ h=>by cases h⟩,i.st.low⟩
end Go.Proofs.YtnoegalemkbbbaaGreatDoor
namespace Go.Eng
open Go.RowKit
def LU:Tf:=.mk { AD 16 with s:=[46,97],n:=4,c:=⟨3,0,[],[49],false,0⟩} []
def J9:Tf:=.mk (AD 5) [.mk (AD 4) [.mk (AD 7) [LU],.mk { AD 1 with s:=[98]} []]]
def wM:Tf:=.mk { AD 1 with n:=8,name:=[97]} []
def TN:Tf:=.mk (AD 2) [wM,.mk { AD 1 with n:=16,name:=[98]} []]
def O2:Tf:=.mk (AD 5) [TN]
def PI:Tf:=.mk (AD 2) [wM]
theorem wN:J9.AS:=⟨by simp[J9,LU,Tf.zm,HI,AD],Ac⟩
theorem BD0:LU.AS:=⟨by simp[LU,Tf.zm,HI,AD],Ac⟩
theorem wO:AV J9:=by unfold AV JN;decide+kernel
theorem BD1:AV LU:=by unfold AV JN;decide+kernel
theorem BD2:AV O2:=by unfold AV JN;decide+kernel
theorem BD3:AV TN:=by unfold AV JN;decide+kernel
theorem BD4:AV PI:=by unfold AV JN;decide+kernel
theorem al1:(EC J9 O2).2.2=0/\len (EC J9 O2).1=2/\(at' (EC J9 O2).1 1).n=16:=by decide+kernel
theorem al2:(EC J9 TN).2=(0,1):=by decide+kernel
theorem al3:(NV LU PI).2.2=0/\len (NV LU PI).1=3:=by decide+kernel
theorem BD8{t:Tm}(h:I2 t=true)(ho:t.op=3\/(5<=t.op/\t.op<=8)):t.many=1:=by
 unfold I2 II at h
 rw[if_neg Aa,if_neg Aa,if_neg Aa,if_neg Aa,if_neg Aa]at h
 by_cases h3:t.op=3\/t.op=5\/t.op=6
 ·rw[if_pos h3]at h
  simp only[Bool.and_eq_true,beq_iff_eq]at h
  exact h.1
 ·rw[if_neg h3,if_pos Aa]at h
  simp only[Bool.and_eq_true,beq_iff_eq]at h
  exact h.1.2
theorem BD9: ∀(n:Nat) (x:Tf),x.size<=n->D2 x=true->B7 x=true:=by
 intro n
 induction n with
 |zero=>intro x h;have:=x.size_pos;omega
 |succ n e=>
  intro x j hw
  have hs:=x.size_eq
  obtain⟨h1,i⟩:=VZ hw
  rw[W0,Bool.and_eq_true,T9]
  refine⟨?_,λ y b=>e y (by have:=I1 b;omega) (VY i y b).1⟩
  unfold QY
  simp only[Bool.and_eq_true,Bool.or_eq_true,Bool.not_eq_true',decide_eq_true_eq,decide_eq_false_iff_not,Bool.or_eq_false_iff,List.all_eq_true,List.isEmpty_iff]
  refine⟨?_,?_⟩
  ·by_cases h3:x.t.op=1
   ·exact .inr λ y b=>((hZ hw h3).2 y b).1
   ·exact .inl h3
  ·by_cases h3:x.t.op=3\/(5<=x.t.op/\x.t.op<=8)
   ·exact .inr (BD8 h1 h3)
   ·exact .inl ⟨Aa,Aa⟩
structure WC (f:Fl) (x:Tf):Prop where
 eq:f=x.flat
 AS:x.AS
 name:x.t.name=[]
 cond:DF x.t=false
 size:x.size<=40
 sh:AV x
structure aI (t:Fl) (x:Tf):Prop where
 eq:t=x.flat
 AS:x.WB
 ar:B7 x=true
 size:x.size<=40
 sh:AV x
theorem BE0{f:Fl}(h:QJ f 40=true): ∃x,WC f x:=by
 obtain⟨x,h1,b,e,i,l,j⟩:=Ab5 h
 have n:len f=x.size:=by rw[b];unfold len;rw[Tf.DI]
 exact⟨x,b,h1,e,i,Aa,λ t k=>by have:=j t (by rw[b];exact k);exact⟨this.2.1,this.1,this.2.2⟩⟩
theorem BE1{t:Fl}(h:NP 40 t=true)(i: ∃x:Tf,t=x.flat/\x.WB): ∃x,aI t x:=by
 obtain⟨x,b,e⟩:=i
 unfold NP at h
 simp only[Bool.and_eq_true,decide_eq_true_eq,List.all_eq_true]at h
 have j:len t=x.size:=by rw[b];unfold len;rw[Tf.DI]
 exact⟨x,b,e,BD9 x.size x (Nat.le_refl _) (iT x.size x (Nat.le_refl _) e.right.all),Aa,λ u hu=>by have:=h.2 u (by rw[b];exact hu);exact⟨this.1.2,this.1.1,this.2⟩⟩
end Go.Eng
namespace Go.Proofs.YtnoegalemkbbbaaGreatDoor
open Go.Proofs.Tryz
open Go.Eng Go.RowKit
theorem iU(w:World)(hg:Gl w):
  Calls prog 11 [].toArray w λ e w'=>e= .returned (.bool true)/\Ext w w':=by
 obtain⟨a1,a2,a3⟩:=al1
 obtain⟨c1,c2⟩:=al3
 obtain⟨z1,hz1⟩: ∃z,z=(EC J9 O2).1:=⟨_,rfl⟩
 obtain⟨y1,hy1⟩: ∃z,z=(EC J9 O2).2.1:=⟨_,rfl⟩
 obtain⟨z2,hz2⟩: ∃z,z=(EC J9 TN).1:=⟨_,rfl⟩
 obtain⟨z3,hz3⟩: ∃z,z=(NV LU PI).1:=⟨_,rfl⟩
 obtain⟨y3,hy3⟩: ∃z,z=(NV LU PI).2.1:=⟨_,rfl⟩
 have e1:EC J9 O2=(z1,y1,0):=by rw[hz1,hy1];exact Prod.ext U (Prod.ext U a1)
 have e2:EC J9 TN=(z2,0,1):=by rw[hz2];exact Prod.ext U al2
 have e3:NV LU PI=(z3,y3,0):=by rw[hz3,hy3];exact Prod.ext U (Prod.ext U c1)
 rw[<-hz1]at a2 a3
 rw[<-hz3]at c2
 refine AJ AG func11 U ntmps11 [] [] [] U (BF w) A4 (λ B hB=>?_) U
 refine BB 9 U zeroValue46 U λ b1=>?_
 refine BA 1 J9.flat Tm.cells 11 48 Tm.AT U U Ah U λ v1=>?_
 refine BA 2 O2.flat Tm.cells 11 52 Tm.AT U U Ah U λ v2=>?_
 refine EV (λ h:AI=>.tu [.sl 3 h.v,I y1,I 0]) [3] U U call16 U (hu:=λ _=>rfl) (λ w M hX=>by have:=ZV J9 O2 v1 v2 w M hX.st.sat (hg.low hX.st.low) (hX.f.get (k:=1) U) (hX.f.get (k:=2) U) wN wO Ac BD2 Ab Ab;rw[e1]at this;exact this) λ h3 _=>?_
 refine FO (gd:=none) 4 1 4 U U U ⟨.i64,_,rfl,AF U⟩ U underlying25 sizeOf52 Ab U λ v4=>?_
 refine EV (λ h:AI=>.tu [.sl 5 h.v,I 0,I 1]) [5] U U call16 U (hu:=λ _=>rfl) (λ w M hX=>by have:=ZV J9 TN v1 v4 w M hX.st.sat (hg.low hX.st.low) (hX.f.get (k:=1) U) (hX.f.get (k:=4) U) wN wO Ac BD3 Ab Ab;rw[e2]at this;exact this) λ h5 _=>?_
 refine FO (gd:=none) 6 3 4 U U U ⟨.i64,_,rfl,AF U⟩ ⟨.i64,_,rfl,AF U⟩ underlying23 sizeOf48 Ab U λ v6=>?_
 refine BA 7 PI.flat Tm.cells 11 52 Tm.AT U U Ah U λ v7=>?_
 refine EV (λ h:AI=>.tu [.sl 8 h.v,I y3,I 0]) [8] U U call12 U (hu:=λ _=>rfl) (λ w M hX=>by have:=Ax5 LU PI v6 v7 w M hX.st.sat (hg.low hX.st.low) (hX.f.get (k:=6) U) (hX.f.get (k:=7) U) BD0 Ab BD1 Ac BD4 Ab;rw[e3]at this;exact this) λ h8 _=>?_
 have hall:((((((((0:Int)==0)&&(len z1==2))&&((at' z1 1).n==16))&&((0:Int)==0))&&((1:Int)==1))&&((0:Int)==0))&&(len z3==3))=true:=by rw[a2,a3,c2];rfl
 refine GJ (.v (.slice none 0 0)) U U (λ hn=>?_) (λ hn=>absurd (hn.symm.trans hall) Ab)
 refine BA 10 [JO [97]] Tm.cells 11 48 Tm.AT U U (hE1:=NO hn λ c hc=>by simpa using hc) Ah U λ v10=>?_
 refine GJ (.v (.slice none 0 0)) U U (λ hn=>?_) (λ hn=>absurd (hn.symm.trans hall) Ab)
 refine EV (λ u:Value=>.sl 11 u) [11] (pu:=λ _=>True) (Fg:=λ u=>[(0,kn u 3 (D9 [JO [97]]) Sp.cells)]) U U call28 U (λ w M hX=>(tC 1 [JO [97]] (Nat.le_refl _) U (Aj hX.st.sat) (hX.f.get (k:=10) U) Ab).mono λ e w' ⟨u,M',h1,_,h3,h4,h5⟩=>⟨u,M',h1,trivial,h4.done,h5⟩) λ v11 _=>?_
 refine A2 hB U U U λ w M hX=>⟨?_,hX.st.low⟩
 dsimp only
 rw[a2,a3,c2];rfl
theorem BE2(f t:Fl)(v u:Value)(w:World)(M:Mem)(q:Sat w M)(s:(A7 v f).ok M)(hu:(A7 u t).ok M):
    Calls prog 9 [v,u].toArray w λ e w'=>(∃b,e= .returned (.bool b)/\(b=true->(∃x,WC f x)/\ ∃y,aI t y))/\Ext w w':=by
 refine AJ (Hr:=[]) AG func9 U ntmps9 [(0,A7 v f),(1,A7 u t)] [] [.sl 0 v,.sl 1 u] U (Aj q) (AH s (AH hu A4)) (λ B n=>AK U call22 U U (λ _ w M i=>Az1 f v 40 M w i.st.sat (i.sl 0 U) Aa) U <|GJ (.v (.bool false)) U U (λ j=>?_) (λ j=>?_)) U
 ·refine EV (γ:=Bool) (pu:=λ b=>b=true-> ∃y,aI t y) (Fg:=λ _=>[]) (λ b:Bool=>.v (.bool b)) [] U U call32 U (hE1:=OD j U) (λ w M i=>(BC9 t u 40 M w i.st.sat (i.f.get (k:=1) U) Aa).mono λ e w' he=>by
   obtain⟨⟨b,z,e2⟩,e3⟩:=he
   exact⟨b,M,z,λ h=>BE1 (e2 h).1 (e2 h).2,Grow.TQ i.st.sat e3,A4⟩) λ b l=>?_
  exact A2 n U U U λ w M i=>⟨⟨b,by rw[j];rfl,λ h=>⟨BE0 j,l h⟩⟩,i.st.low⟩
 ·exact A2 n rfl rfl rfl λ w M i=>⟨⟨false,by rw[j];rfl,λ h=>by cases h⟩,i.st.low⟩
end Go.Proofs.YtnoegalemkbbbaaGreatDoor
namespace Go.Eng
open Go.RowKit
theorem BE3{l:List Tf}(h: ∀x∈l,x.AS):H3 l=true:=by
 induction l with
 |nil=>rfl
 |cons x l b=>rw[H3,(h x (.head _)).ok,b λ y e=>h y (.tail _ e)];rfl
theorem aJ{t:Tm}{ps:List Tf}(hm:t.many=0)(hp:CQ { t with many:=len ps}=true)(e:DY t [] ps=true)(b: ∀x∈ps,x.AS):(Tf.mk t ps).AS:=by
 refine⟨?_,?_⟩
 ·rw[Tf.zm];exact⟨hm,qV.2 λ x hx=>(b x hx).zm⟩
 ·rw[Tf.IY,hp,e,BE3 b];rfl
theorem iV{t:Tm}{dn:List Tf}{x:Tf}(b:t.op≠8)(e:x.t.name=[])(i:DF x.t=(DF t||t.op==7))(j:t.op=4->dn=[]->x.t.op≠4):HJ t dn x=true:=by
 unfold HJ
 rw[if_neg,if_neg]
 ·rintro(h|h)
  ·exact h.2 e
  ·exact b h.1
 ·simp only[Bool.or_eq_true,bne_iff_ne,ne_eq,Bool.and_eq_true,beq_iff_eq,not_or,Decidable.not_not,not_and,List.isEmpty_iff]
  exact⟨i,λ h1 k=>j h1.1 h1.2 k⟩
structure CI (f:Tf):Prop where
 AS:f.AS
 sh:AV f
 name:f.t.name=[]
 cond:DF f.t=false
theorem WC.ok {l:Fl}{f:Tf}(h:WC l f):CI f:=⟨h.AS,h.sh,h.name,h.cond⟩
theorem iW{a b:Tf}(e:CI a)(i:CI b)(j:a.t.op≠4):CI (.mk (AD 4) [a,b]):=by
 refine⟨aJ U (by show CQ ⟨4,2,[],[],0,BY⟩=true;decide+kernel) ?_ (λ x hx=>?_),(GD _).2 ⟨KR 4,λ x hx=>?_⟩,rfl,(show DF (AD 4)=false by decide)⟩
 ·rw[DY,DY,DY,iV Ab e.name (by rw[e.cond];decide) (λ _ _=>j),iV Ab i.name (by rw[i.cond];decide) (λ _ h=>by cases h)];rfl
 ·simp only[List.mem_cons,List.not_mem_nil,or_false]at hx
  rcases hx with rfl|rfl
  ·exact e.AS
  ·exact i.AS
 ·rcases List.mem_cons.1 hx with rfl|hx
  ·exact e.sh
  ·rw[List.mem_singleton.1 hx];exact i.sh
theorem ok_one{o:Int}{a:Tf}(b:CI a)(ho:o=5\/o=6):CI (.mk (AD o) [a]):=by
 refine⟨aJ rfl (by rcases ho with rfl|rfl<;>(first|(show CQ ⟨5,1,[],[],0,BY⟩=true;decide+kernel)|(show CQ ⟨6,1,[],[],0,BY⟩=true;decide+kernel))) ?_ (λ x hx=>by rw[List.mem_singleton.1 hx];exact b.AS),(GD _).2 ⟨KR o,λ x hx=>by rw[List.mem_singleton.1 hx];exact b.sh⟩,rfl,by rcases ho with rfl|rfl<;>(first|exact(show DF (AD 5)=false by decide)|exact(show DF (AD 6)=false by decide))⟩
 have h1:(AD o).op≠8:=by show o≠8;omega
 have e:(AD o).op=4->([]:List Tf)=[]->a.t.op≠4:=λ h=>by have:o=4:=h;omega
 rw[DY,DY,iV h1 b.name (by rw[b.cond];rcases ho with rfl|rfl<;>decide) e];rfl
theorem aK{t:Tm}(hp:CQ t=true)(hm:t.many=0)(b:t.name=[])(hs:len t.s<=100/\len t.c.s<=100)(e:DF t=false):CI (.mk t []):=
 ⟨aJ hm (by
  have:({ t with many:=len ([]:List Tf)}:Tm)=t:=by cases t;cases hm;rfl
  rw[this];exact hp) rfl (λ x hx=>by cases hx),(GD _).2 ⟨⟨by show len t.name<=100;rw[b];decide,hs⟩,λ x hx=>by cases hx⟩,b,e⟩
theorem wP{f:Tf}{n:Nat}(h:f.size=n+1)(t:Tf):C9 f t=BC (GR (BH n) f 0 t):=by unfold C9;rw[h];rfl
theorem BE4{f t:Tf}{e p:Int}(b:CI f)(h:C9 f t= .er e p):e=0/\1<=p/\p<=6:=by
 unfold C9 at h
 cases hr:BH f.size f 0 t with
 |ok x i=>rw[hr]at h;cases h
 |er j k=>
  rw[hr]at h
  have:=Ay5 _ f (Nat.le_refl _) b.AS b.sh _ _ _ _ hr
  cases h
  exact⟨rfl,this.why⟩
theorem WD: ∀(n:Nat) (f g:Tf),f.size<=n->CI f->CI g->CI (FI f g)/\(FI f g).size=f.size+g.size+1/\ ∀t,C9 (FI f g) t=BC ((C9 f t).bind λ y _=>C9 g y):=by
 intro n
 induction n with
 |zero=>intro f g h;have:=f.size_pos;omega
 |succ n s=>
  intro f g C j hg
  by_cases h4:f.t.op=4
  ·obtain⟨a,b,e⟩:=j.AS.two (.inl h4)
   have hs:=f.size_eq
   rw[e,A6,A6,A6]at hs
   have l:=j.AS.L9 [] a [b] (by rw[e];rfl)
   have q:=j.AS.L9 [a] b [] (by rw[e];rfl)
   have k:(DF f.t||f.t.op==7)=false:=by rw[j.cond,h4];rfl
   have w:CI a:=⟨j.AS.kids a (by rw[e];simp),j.sh.kids a (by rw[e];simp),l.n Aa,by rw[l.c,k]⟩
   have z:CI b:=⟨j.AS.kids b (by rw[e];simp),j.sh.kids b (by rw[e];simp),q.n Aa,by rw[q.c,k]⟩
   obtain⟨h1,D,A⟩:=s b g Aa z hg
   have hp:FI f g= .mk (AD 4) [a,FI b g]:=by
    cases f with|mk x ps=>
    cases e
    have B:x.op=4:=h4
    rw[FI,if_pos B]
   rw[hp]
   have ok:=iW w h1 (l.p h4 U)
   refine⟨ok,by rw[Tf.size,A6,A6,A6];omega,λ t=>?_⟩
   rw[iO ok.AS ok.sh U U,iO j.AS j.sh h4 e]
   cases hr:C9 a t with
   |er e p=>rfl
   |ok y i=>
    show BC (C9 (FI b g) y)=BC ((BC (C9 b y)).bind λ y _=>C9 g y)
    rw[A y,ZZ]
    unfold C9
    rw[ZZ]
  ·rw[eC h4]
   have ok:=iW j hg h4
   exact⟨ok,by rw[Tf.size,A6,A6,A6];omega,λ t=>iO ok.AS ok.sh U U t⟩
theorem wQ(g:Tf->PR Tf)(x:Tf):HP g [x]=(g x).bind λ y _=>.ok [y] 0:=rfl
theorem BE5{g:Tf->PR Tf}{x:Tf}{W:PR Tf}(F:Tf->Tf)(h:BC (g x)=W):BC ((HP g [x]).bind λ l _=>.ok (F (at' l 0)) 0)=BC (W.bind λ y _=>.ok (F y) 0):=by
 rw[wQ,PR.assoc,<-h]
 cases g x<;>rfl
theorem wR{n:Nat}{g:Tf}(hg:CI g)(h:g.size<=n){o m:Int}(ho:o≠1)(i:Int){t:Tf}(e:t.t.name=[]):BC (F0 (BH n) g i (.mk { AD o with n:=m} [t]))=BC ((C9 g t).bind λ y _=>.ok (.mk { AD o with n:=m} [y.named []]) 0):=by
 have j:AN (.mk { AD o with n:=m} [t])=[t]:=by
  rw[KN (show(Tf.mk { AD o with n:=m} [t]).t.op≠1 from ho)];show [t.named []]=_;rw[Tf.JU e]
 have b:B6 (.mk { AD o with n:=m} [t])=[[]]:=by
  unfold B6;rw[if_neg (show ¬(Tf.mk { AD o with n:=m} [t]).t.op=1 from ho)];show [t.t.name]=_;rw[e]
 unfold F0
 rw[j,b]
 have:=BE5 (g:=λ x=>BH n g i x) (x:=t) (λ y=>.mk { AD o with n:=m} [y.named []]) (iN h hg.AS hg.sh i t)
 rw[<-this]
 rw[wQ]
 cases BH n g i t<;>rfl
theorem BE6{im:Tf->Int->Tf->PR Tf}{f:Tf}(h:f.t.op=5)(i:Int)(t:Tf):GR im f i t=F1 im (at' (AO f) 0) i t:=by
 unfold GR;rw[if_neg Aa,if_neg Aa,if_pos h]
theorem BE7{im:Tf->Int->Tf->PR Tf}{g t:Tf}(h:t.t.op=6)(b:0<=(CO g).2)(i:Int):F1 im g i t=F0 im (CO g).1 (i+1+(CO g).2) t:=by
 unfold F1;rw[if_neg Aa,if_neg Aa,if_pos h,if_pos b]
theorem iX{g:Tf}(hg:CI g){t:Tf}(b:t.t.name=[]):C9 (.mk (AD 6) [g]) (.mk (AD 3) [t])=BC ((C9 g t).bind λ y _=>.ok (.mk (AD 3) [y.named []]) 0):=by
 rw[wP (n:=g.size) (by rw[Tf.size,A6,A6];omega)]
 have e0:at' (AO (.mk (AD 6) [g])) 0=g:=by unfold AO;show g.named []=g;exact Tf.JU hg.name
 have:GR (BH g.size) (.mk (AD 6) [g]) 0 (.mk (AD 3) [t])=F0 (BH g.size) g (0+1) (.mk { AD 3 with n:=0} [t]):=by
  show F0 (BH g.size) (at' (AO (.mk (AD 6) [g])) 0) (0+1) _=_
  rw[e0]
  rfl
 rw[this]
 exact wR hg (Nat.le_refl _) Ab _ b
theorem BE8{K g:Tf}{b:Int}(j:CI K)(hg:CI g)(e:g.size<=K.size)(i:CO K=(g,b))(h:0<=b){t:Tf}(k:t.t.name=[]):C9 (.mk (AD 5) [K]) (.mk (AD 6) [t])=BC ((C9 g t).bind λ y _=>.ok (.mk (AD 6) [y.named []]) 0):=by
 rw[wP (n:=K.size) (by rw[Tf.size,A6,A6];omega)]
 have e0:at' (AO (.mk (AD 5) [K])) 0=K:=by unfold AO;show K.named []=K;exact Tf.JU j.name
 have:GR (BH K.size) (.mk (AD 5) [K]) 0 (.mk (AD 6) [t])=F0 (BH K.size) g (0+1+b) (.mk { AD 6 with n:=0} [t]):=by
  rw[BE6 U,e0,BE7 U (by rw[i];exact h),i];rfl
 rw[this]
 exact wR hg e Ab _ k
theorem BE9{t:Tf}(b:t.t.name=[]):C9 (.mk (AD 10) []) (.mk (AD 3) [t])= .ok (.mk (AD 6) [t]) 0:=by
 have:AN (.mk (AD 3) [t])=[t]:=by rw[KN (t:=.mk (AD 3) [t]) (show ¬(3:Int)=1 by decide)];show [t.named []]=_;rw[Tf.JU b]
 show PR.ok (Tf.mk (AD 6) (AN (.mk (AD 3) [t]))) 0=_
 rw[this]
theorem BF0{t:Tf}(b:t.t.name=[]):C9 (.mk (AD 11) []) (.mk (AD 6) [t])= .ok (.mk (AD 3) [t]) 0:=by
 have:AN (.mk (AD 6) [t])=[t]:=by rw[KN (t:=.mk (AD 6) [t]) (show ¬(6:Int)=1 by decide)];show [t.named []]=_;rw[Tf.JU b]
 show PR.ok (Tf.mk (AD 3) (AN (.mk (AD 6) [t]))) 0=_
 rw[this]
end Go.Eng
namespace Go.Proofs.YtnoegalemkbbbaaGreatDoor
open Go.Proofs.Tryz
open Go.Eng Go.RowKit
theorem aL{w0 O:World}{M0 M:Mem}{Rs:List HO}(t:Tm)(j:Value)(ns:List A0)(v:Value)(hs:List AI)(xs:List Fl)(hS:St w0 M0 O M Rs)(R:Sl M 1 ns.length j (ns.flatMap CX))(hu:(C7 v hs xs).ok M)(D:ns=[]\/len ns=len hs)(E:ns≠[]-> ∀x∈xs,x≠[])(hb:len xs.flatten<=100000000000)(hr:len hs<=1048576):
  Calls prog 26 [.agg t.cells.toArray,j,v].toArray O (V7 w0 M0 M Rs ({ t with many:=len xs}::(EZ ns xs).flatten)):=by
 have F:=YC hu
 have S:=A9 hs
 have T:=A9 ns
 have G:ns=[]->len ns=0:=λ h=>by rw[h];rfl
 rw[<-F]
 refine AJ (Hr:=Rs) AG func26 U ntmps26 [(0,C7 v hs xs),(1,kn j 1 ns CX)] [] [.ag (EO t.cells),.sl 1 j,.sl 0 v] U hS (AH hu (fc 1 R DC A4)) (λ B V=>BQ 3 U U U λ b=>IN 7 [{ t with many:=len hs}] Tm.cells 11 48 Tm.AT U U Ah U λ u=>?_) U
 refine B5 (σ:=Int×Value×Fl) (λ(k,u,y)=>⟨[(0,C7 v hs xs),(1,kn j 1 ns CX)],[(7,NI u y)],[Z 1 (.sl 1 j),Z 2 (.sl 0 v),Z 7 (.sl 7 u),Z 8 (I k)]⟩)
   (λ(k,u,y)=>0<=k/\k<=len hs/\y= { t with many:=len hs}::(EZ ns (Eng.sub xs 0 k)).flatten) (λ(k,u,y)=>(len hs-k).toNat) (0,u,[{ t with many:=len hs}]) U U ⟨Aa,Aa,rfl⟩ ?_
 rintro⟨k,u,y⟩ ⟨h0,h1,A⟩
 refine A1 U (λ n=>?_) (λ n=>?_)<;>simp only[zb]at n
 ·have W:len y=1+len (HY xs k):=by
   have:=gJ ns (Eng.sub xs 0 k)
   rw[A,AM,this]
   have e:Eng.sub xs 0 k=xs.take k.toNat:=by unfold Eng.sub;simp
   rw[e];unfold HY;omega
  have H:=V6 (xs:=xs) h0 Aa
  have J:=SD xs (k+1)
  have X:=A9 (HY xs k)
  have hf4:=A9 (at' xs k)
  rw[H,AQ]at J
  refine CK U Ad Aa <|DU 2 (A7 (at' hs k).v (at' xs k)) (λ w M C=>F9 (C.f.get (k:=0) U) h0 n) (KX 28 2 U ?_)
  refine IC 120 U U U underlying23 type48 U U Tm.cells_one Aa λ v'=>CY 1 (λ s=> ∃z:Fl,z=y++HL ns k (at' xs k)/\s=⟨[(0,C7 v hs xs),(1,kn j 1 ns CX)],[(7,NI v' z)],[Z 1 (.sl 1 j),Z 2 (.sl 0 v),Z 7 (.sl 7 v'),Z 8 (I k)]⟩) U U (λ i=>?_) (λ i=>?_) ?_
  ·simp only[zb]at i
   have q:ns≠[]:=λ h=>by rw[G h]at i;omega
   have K:=E q _ (at_mem (l:=xs) h0 Aa)
   have hxp:=HS K
   have P:len (y++at' xs k)=len y+len (at' xs k):=AQ _ _
   have Q:len ns=len hs:=D.resolve_left q
   refine BB 10 U zeroValue48 U λ b10=>HW { at' (y++at' xs k) (len y)with name:=at' ns k} rfl U U sizeOf48 U U U Aa λ z L=>AW _ U U ⟨z,?_,rfl⟩
   rw[L,sG,sH];unfold HL;rw[if_pos Aa]
  ·simp only[zb]at i
   exact AW _ U U ⟨_,by unfold HL;rw[if_neg Aa],rfl⟩
  rintro s ⟨z,L,rfl⟩
  refine AX (k+1,v',z) U U ⟨Aa,Aa,?_⟩ Ag
  have N:len (Eng.sub xs 0 k)=k:=by unfold Eng.sub;unfold len at*;rw[List.length_take,List.length_drop];simp only[Int.toNat_zero];omega
  rw[FT h0 Aa,gI,N,L,A]
  simp
 have hke:k=len hs:=by omega
 rw[G6 Aa]at A
 subst A
 exact A2 V U U U λ w M' C=>nR ⟨u,M',rfl,trivial,C.le,C.st,A4⟩
abbrev wS(w:World)(M:Mem)(x:Fl):Ending->World->Prop:=N7 w M (λ h:AI=>h.v) (λ _=>True) λ h=>[(0,A7 h.v x)]
theorem wT(t:Tm)(a b:Tf):({ t with many:=len [a.flat,b.flat]}:Tm)::(EZ [] [a.flat,b.flat]).flatten=(Tf.mk t [a,b]).flat:=by rw[ZB,Tf.OS];rfl
theorem iY: ∀(n:Nat) (f g:Tf) (v u:Value) (w:World) (M:Mem),f.size<=n->CI f->CI g->Sat w M->(A7 v f.flat).ok M->(A7 u g.flat).ok M->f.size+g.size<=1000000->
    Calls prog 23 [v,u].toArray w (wS w M (FI f g).flat):=by
 intro n
 induction n with
 |zero=>intro f g v u w M h;have:=f.size_pos;omega
 |succ n N=>
 intro f g v u w M hn l hg O F hu P
 have Q:=D3 f
 have R:=D3 g
 have S:=f.size_pos
 have T:=g.size_pos
 have z:=f.size_eq
 obtain⟨us,rfl⟩:=A7.shape hu
 obtain⟨vs,rfl⟩:=A7.shape F
 have A:(at' f.flat 0).op=f.t.op:=by rw[f.DR];rfl
 obtain⟨V,W,_⟩:=WD f.size f g (Nat.le_refl _) l hg
 refine AJ (Hr:=[]) AG func23 U ntmps23 [(0,A7 vs.v f.flat),(1,A7 us.v g.flat)] [] [.sl 0 vs.v,.sl 1 us.v] U (Aj O) (AH F (AH hu A4)) (λ B G=>?_) U
 refine A1 U (λ i=>?_) (λ i=>?_)<;>simp only[zb]at i<;>rw[A]at i
 ·obtain⟨a,b,e⟩:=l.AS.two (.inl i)
  rw[e,A6,A6,A6]at z
  have H:=l.AS.L9 [] a [b] (by rw[e];rfl)
  have J:=l.AS.L9 [a] b [] (by rw[e];rfl)
  have q:(DF f.t||f.t.op==7)=false:=by rw[l.cond,i];rfl
  have X:CI a:=⟨l.AS.kids a (by rw[e];simp),l.sh.kids a (by rw[e];simp),H.n Aa,by rw[H.c,q]⟩
  have C:CI b:=⟨l.AS.kids b (by rw[e];simp),l.sh.kids b (by rw[e];simp),J.n Aa,by rw[J.c,q]⟩
  have hp:FI f g= .mk (AD 4) [a,FI b g]:=by
   cases f with|mk x ps=>
   cases e
   have h5:x.op=4:=i
   rw[FI,if_pos h5]
  have s:DW f=[a.flat,b.flat]:=by rw[PC];unfold AO;rw[e];show [(a.named []).flat,(b.named []).flat]=_;rw[Tf.JU X.name,Tf.JU C.name]
  obtain⟨q1,q2,_⟩:=WD b.size b g (Nat.le_refl _) C hg
  have hqz:=D3 (FI b g)
  have haz:=D3 a
  refine EV (λ g:Value×List AI=>.sl 3 g.1) [3] U U call56 U (λ w M j=>BA7 f vs.v w M j.st.sat (j.sl 0 U) Aa) λ y D=>?_
  have K:len y.2=2:=by rw[D,e];rfl
  refine DN [8,9,10,11] 5 (λ _ _ _ _ _ h=>h) U BM U <|AL 8 U U U <|EV (λ h:AI=>.sl 4 h.v) [4] U U call23 U (λ w M j=>N b g (at' y.2 1).v us.v w M Aa C hg j.st.sat (by have:=F9 (j.f.get (k:=3) U) (k:=1) Aa Aa;rw[s]at this;exact this) (j.f.get (k:=1) U) Aa) λ L _=>AE U <|AL 9 U U U <|BA 5 [at' y.2 0,L] BN 1 23 CN U U Ah U λ v5=>AE U <|AL 10 U U U ?_
  refine AR [] (λ h:AI=>.sl 6 h.v) [] (λ h=>[(6,NI h.v (FI f g).flat)]) U U call26 U U (hu:=λ _=>rfl) (hH:=λ _=>rfl) (λ w M hS hF=>by
   have:=aL (AD 4) (.slice none 0 0) [] v5 [at' y.2 0,L] [a.flat,(FI b g).flat] hS (Sl.nil M 1) ⟨(hF.get (k:=5) U).sl,CN,by have:=F9 (hF.get (k:=3) U) (k:=0) Aa Aa;rw[s]at this;exact this.sl,(hF.get (k:=4) U).sl,trivial⟩ (.inl U) (λ h=>absurd U h) (by simp only[List.flatten_cons,List.flatten_nil,AQ,len_nil];omega) (by simp only[AM,len_nil];omega)
   rw[wT,<-hp]at this
   exact this) λ E _=>?_
  exact C1 6 U <|AE U <|AL 11 U U U <|AE U <|BO U U U <|A2 G U U U λ w M' j=>⟨E,M',rfl,trivial,(j.B9 [] U).done,AH (j.f.get (k:=6) U) A4⟩
 ·refine BA 5 [vs,us] BN 1 23 CN U U Ah U λ v5=>?_
  refine AR [] (λ h:AI=>.sl 6 h.v) [] (λ h=>[(6,NI h.v (FI f g).flat)]) U U call26 U U (hu:=λ _=>rfl) (hH:=λ _=>rfl) (λ w M hS hF=>by
   have:=aL (AD 4) (.slice none 0 0) [] v5 [vs,us] [f.flat,g.flat] hS (Sl.nil M 1) ⟨(hF.get (k:=5) U).sl,CN,(hF.get (k:=0) U).sl,(hF.get (k:=1) U).sl,trivial⟩ (.inl U) (λ h=>absurd U h) (by simp only[List.flatten_cons,List.flatten_nil,AQ,len_nil];omega) (by simp only[AM,len_nil];omega)
   rw[wT,<-eC i]at this
   exact this) λ E _=>?_
  exact C1 6 U <|A2 G U U U λ w M' j=>⟨E,M',rfl,trivial,(j.B9 [] U).done,AH (j.f.get (k:=6) U) A4⟩
end Go.Proofs.YtnoegalemkbbbaaGreatDoor
namespace Go.Eng
open Go.RowKit
theorem iZ{f t y:Tf}{j:Int}(h:C9 f t= .ok y j):EC f t=(y.flat,0,0):=by
 unfold C9 at h
 unfold EC
 cases hr:BH f.size f 0 t with
 |er e p=>rw[hr]at h;cases h
 |ok x i=>rw[hr]at h;have:x=y:=PR.H6 h;subst this;rfl
theorem j3{f t:Tf}{e p:Int}(h:C9 f t= .er e p):(EC f t).1=[]/\(EC f t).2.2=p:=by
 unfold C9 at h
 unfold EC
 cases hr:BH f.size f 0 t with
 |ok x i=>rw[hr]at h;cases h
 |er b j=>rw[hr]at h;cases h;exact⟨rfl,rfl⟩
theorem BF1{f t g u:Tf}(h:C9 f t=C9 g u):(EC f t).1=(EC g u).1/\(EC f t).2.2=(EC g u).2.2:=by
 cases hr:C9 f t with
 |ok y j=>rw[iZ hr,iZ (h▸hr)];exact⟨rfl,rfl⟩
 |er e p=>
  obtain⟨b,a2⟩:=j3 hr
  obtain⟨i,k⟩:=j3 (h▸hr:C9 g u=_)
  exact⟨b.trans i.symm,a2.trans k.symm⟩
theorem BF2{n:Nat}(h:n<=43):gB n<=196608:=Aq1 ⟨n,Aa⟩
theorem wU{f:Tf}(h:f.size<=43)(hg:f.AS):hF f<=196608:=Nat.le_trans (Aq4 _ f (Nat.le_refl _) h hg) (BF2 h)
theorem wV{a b:Nat}(e:a<=41)(h:b<=196608):a*b<=16777216:=by
 have:=Nat.mul_le_mul e h;omega
theorem AV.one {a:Tf}(o:Int)(b:AV a):AV (.mk (AD o) [a]):=(GD _).2 ⟨KR o,λ x hx=>by rw[List.mem_singleton.1 hx];exact b⟩
end Go.Eng
namespace Go.Proofs.YtnoegalemkbbbaaGreatDoor
open Go.Proofs.Tryz
open Go.Eng Go.RowKit
theorem wW(t:Tm)(a:Tf):({ t with many:=len [a.flat]}:Tm)::(EZ [] [a.flat]).flatten=(Tf.mk t [a]).flat:=by rw[ZB,Tf.OS];rfl
theorem BF3{w0 b:World}{M0 M:Mem}{Rs:List HO}(o:Int)(v:Value)(h:AI)(a:Tf)(hS:St w0 M0 b M Rs)(e:(kn v 1 [h] BN).ok M)(i:(A7 h.v a.flat).ok M)(k:a.size<=1000000000):
  Calls prog 25 [.agg (AD o).cells.toArray,.slice none 0 0,v].toArray b (MN w0 M0 M Rs (Tf.mk (AD o) [a]).flat):=by
 have j:=D3 a
 have:=Aj3 (AD o) (.slice none 0 0) [] v [h] [a.flat] hS (Sl.nil M 1) ⟨e.sl,CN,i.sl,trivial⟩ (λ x hx=>by rw[List.mem_singleton.1 hx];exact a.MI) (by simp only[List.flatten_cons,List.flatten_nil,AQ,len_nil];omega) (by simp only[AM,len_nil];omega)
 rw[wW]at this
 exact this
theorem wX{w0 b:World}{M0 M:Mem}{Rs:List HO}(o:Int)(v:Value)(h:AI)(a:Tf)(hS:St w0 M0 b M Rs)(e:(kn v 1 [h] BN).ok M)(i:(A7 h.v a.flat).ok M)(k:a.size<=1000000000):
  Calls prog 26 [.agg (AD o).cells.toArray,.slice none 0 0,v].toArray b (V7 w0 M0 M Rs (Tf.mk (AD o) [a]).flat):=by
 have j:=D3 a
 have:=aL (AD o) (.slice none 0 0) [] v [h] [a.flat] hS (Sl.nil M 1) ⟨e.sl,CN,i.sl,trivial⟩ (.inl U) (λ h=>absurd U h) (by simp only[List.flatten_cons,List.flatten_nil,AQ,len_nil];omega) (by simp only[AM,len_nil];omega)
 rw[wW]at this
 exact this
end Go.Proofs.YtnoegalemkbbbaaGreatDoor
namespace Go.Eng
open Go.RowKit
def JP(f:Tf):Tf:=.mk (AD 4) [FD C2,f]
def I7(b:Bool)(f:Tf):Tf:=if b=true then .mk (AD 8) [(JP f).named C2,(FD C8).named C8]else .mk (AD 8) [(FD C8).named C8,(JP f).named C2]
theorem wY:CI (FD C8):=aK Ac U U ⟨Ab,Ab⟩ Ab
theorem wZ:CI (FD C2):=aK Ac U U ⟨Ab,Ab⟩ Ab
theorem x6{f:Tf}(h:CI f):CI (JP f):=iW wZ h Ab
theorem BF4{a b:Tf}{n m:A0}(j:DF a.t=false)(k:DF b.t=false)(i:CV n=true)(hm:CV m=true)(e:m≠n):DY { AD 8 with many:=0} [] [a.named n,b.named m]=true:=by
 have h1:HJ { AD 8 with many:=0} [] (a.named n)=true:=by
  unfold HJ
  rw[if_neg,if_neg]
  ·rintro(h|h)
   ·exact h.1 U
   ·rcases h.2 with h|h
    ·rw[Tf.R1]at h;rw[show CV n=_ from h]at i;cases i
    ·cases h
  ·rw[Tf.R1,show DF ({ a.t with name:=n}:Tm)=false from j];show ¬((false != false)||(false&&true&&_))=true;exact Bool.false_ne_true
 have l:HJ { AD 8 with many:=0} [a.named n] (b.named m)=true:=by
  unfold HJ
  rw[if_neg,if_neg]
  ·rintro(h|h)
   ·exact h.1 U
   ·rcases h.2 with h|h
    ·rw[Tf.R1]at h;rw[show CV m=_ from h]at hm;cases hm
    ·rw[List.map_cons,List.map_nil,List.mem_singleton,Tf.R1,Tf.R1]at h;exact e h
  ·rw[Tf.R1,show DF ({ b.t with name:=m}:Tm)=false from k];show ¬((false != false)||(false&&_&&_))=true;exact Bool.false_ne_true
 rw[DY,DY,DY,h1]
 show(true&&(HJ _ [a.named n] (b.named m)&&true))=true
 rw[l];rfl
theorem x7{a b:Tf}{n m:A0}(e:CI a)(h:CI b)(j:CV n=true)(hm:CV m=true)(i:m≠n)(ln:len n<=100)(lm:len m<=100):CI (.mk (AD 8) [a.named n,b.named m]):=by
 refine⟨aJ U (by show CQ ⟨8,2,[],[],0,BY⟩=true;decide+kernel) (BF4 e.cond h.cond j hm i) (λ x hx=>?_),(GD _).2 ⟨KR 8,λ x hx=>?_⟩,rfl,(show DF (AD 8)=false by decide)⟩
 ·rcases List.mem_cons.1 hx with rfl|hx
  ·exact e.AS.named n
  ·rw[List.mem_singleton.1 hx];exact h.AS.named m
 ·rcases List.mem_cons.1 hx with rfl|hx
  ·exact e.sh.named ln
  ·rw[List.mem_singleton.1 hx];exact h.sh.named lm
theorem j4(b:Bool){f:Tf}(h:CI f):CI (I7 b f):=by
 cases b
 ·exact x7 wY (x6 h) Ac Ac Ab Ab Ab
 ·exact x7 (x6 h) wY Ac Ac Ab Ab Ab
theorem j5(b:Bool)(f:Tf):(I7 b f).size=f.size+4:=by
 have h1:((JP f).named C2).size=f.size+2:=by rw[Tf.DX];show 1+A6 [FD C2,f]=_;rw[A6,A6,A6];show 1+(1+(f.size+0))=_;omega
 have e:((FD C8).named C8).size=1:=rfl
 cases b
 ·show 1+A6 [(FD C8).named C8,(JP f).named C2]=_
  rw[A6,A6,A6,h1,e];omega
 ·show 1+A6 [(JP f).named C2,(FD C8).named C8]=_
  rw[A6,A6,A6,h1,e];omega
theorem BF5(b:Bool){f:Tf}(h:CI f): ∃i:Int,0<=i/\CO (I7 b f)=(f,i):=by
 have e: ∀i,GC ((JP f).named C2) i=(f,i+2):=λ i=>by
  rw[uV (a:=FD C2) (b:=f) (by
   cases hq:FE ((JP f).named C2) C2 with
   |false=>rfl
   |true=>have:=(iI _ _).1 hq;have:=congrArg Tm.op this;exact absurd this (by show ¬(4:Int)=1;decide)) U U Ac,Tf.JU h.name]
 have j:FE ((FD C8).named C8) C8=true:=by decide+kernel
 cases b
 ·refine⟨1+((FD C8).named C8).size+2,Aa,?_⟩
  show CO (.mk (AD 8) [(FD C8).named C8,(JP f).named C2])=_
  rw[iJ U U,if_pos ⟨rfl,rfl⟩,if_pos j,e]
 ·refine⟨1+2,Aa,?_⟩
  show CO (.mk (AD 8) [(JP f).named C2,(FD C8).named C8])=_
  rw[iJ U U,if_neg (λ h=>absurd h.1 (by show ¬C2=C8;decide)),if_pos ⟨rfl,rfl⟩,if_pos j,e]
def KS(b:Bool)(f:Tf):Tf:=FI (.mk (AD 10) []) (FI (.mk (AD 5) [I7 b f]) (.mk (AD 11) []))
theorem x8:CI (.mk (AD 10) []):=aK Ac U U ⟨Ab,Ab⟩ Ab
theorem j6:CI (.mk (AD 11) []):=aK Ac U U ⟨Ab,Ab⟩ Ab
theorem x9(b:Bool){f:Tf}(h:CI f):CI (KS b f)/\(KS b f).size=f.size+9/\ ∀t,C9 (KS b f) t=BC ((C9 (.mk (AD 10) []) t).bind λ y _=>BC ((C9 (.mk (AD 5) [I7 b f]) y).bind λ z _=>C9 (.mk (AD 11) []) z)):=by
 have i:CI (.mk (AD 5) [I7 b f]):=ok_one (j4 b h) (.inl U)
 obtain⟨k,a2,a3⟩:=WD _ _ _ (Nat.le_refl _) i j6
 obtain⟨l,n,q⟩:=WD _ _ _ (Nat.le_refl _) x8 k
 have s:=j5 b f
 have w:(Tf.mk (AD 5) [I7 b f]).size=f.size+5:=by rw[Tf.size,A6,A6,s];omega
 have A:(Tf.mk (AD 10) []).size=1:=rfl
 have B:(Tf.mk (AD 11) []).size=1:=rfl
 refine⟨l,by unfold KS;rw[n,a2];omega,λ t=>?_⟩
 unfold KS
 rw[q]
 cases C9 (.mk (AD 10) []) t with
 |er e p=>rfl
 |ok y j=>show BC (C9 _ y)=BC (BC _);rw[a3,ZZ]
theorem BF6(b:Bool){f t:Tf}(h:CI f)(k:t.t.name=[]):C9 (KS b f) (.mk (AD 3) [t])=C9 (.mk (AD 6) [f]) (.mk (AD 3) [t]):=by
 obtain⟨i,hi,l⟩:=BF5 b h
 rw[(x9 b h).2.2,BE9 k,iX h k]
 show BC (BC ((C9 (.mk (AD 5) [I7 b f]) (.mk (AD 6) [t])).bind _))=_
 rw[BE8 (j4 b h) h (by rw[j5];omega) l hi k]
 cases hr:C9 f t with
 |er e p=>rfl
 |ok y j=>
  have n:(y.named []).t.name=[]:=by rw[Tf.R1]
  show BC (BC (C9 (.mk (AD 11) []) (.mk (AD 6) [y.named []])))=_
  rw[BF0 n];rfl
theorem BF7(b:Bool){f t:Tf}(h:CI f)(k:t.t.name=[]):(EC (KS b f) (.mk (AD 3) [t])).1=(EC (.mk (AD 6) [f]) (.mk (AD 3) [t])).1/\(EC (KS b f) (.mk (AD 3) [t])).2.2=(EC (.mk (AD 6) [f]) (.mk (AD 3) [t])).2.2/\
  ((EC (KS b f) (.mk (AD 3) [t])).2.2≠0\/ ∃y:Tf,(EC (KS b f) (.mk (AD 3) [t])).1=(Tf.mk (AD 3) [y]).flat):=by
 have hl:=BF6 b h k
 obtain⟨h1,l⟩:=BF1 hl
 refine⟨h1,l,?_⟩
 rw[h1,l]
 cases hr:C9 f t with
 |er e p=>
  have i:=iX h k
  rw[hr]at i
  have:=j3 (i:_=PR.er 0 p)
  obtain⟨_,q,_⟩:=BE4 h hr
  exact .inl (by rw[this.2];omega)
 |ok y j=>
  have i:=iX h k
  rw[hr]at i
  have:=iZ (i:_=PR.ok (Tf.mk (AD 3) [y.named []]) 0)
  exact .inr ⟨y.named [],by rw[this]⟩
end Go.Eng
namespace Go.Proofs.YtnoegalemkbbbaaGreatDoor
open Go.Proofs.Tryz
open Go.Eng Go.RowKit
theorem BF8(n m:A0)(x y:Tf):({ AD 8 with many:=len [x.flat,y.flat]}::(EZ [n,m] [x.flat,y.flat]).flatten:Fl)=(Tf.mk (AD 8) [x.named n,y.named m]).flat:=by
 rw[Tf.OS];cases x;cases y;rfl
theorem BF9(f:Tf):FI (FD C2) f=JP f:=eC Ab
theorem xA{w0 i:World}{M0 M:Mem}{Rs:List HO}(n m:A0)(e v:Value)(h k:AI)(a b:Tf)(hS:St w0 M0 i M Rs)(j:(kn e 1 [n,m] CX).ok M)(l:(kn v 1 [h,k] BN).ok M)(q:(A7 h.v a.flat).ok M)(s:(A7 k.v b.flat).ok M)(w:a.size+b.size<=1000000000):
  Calls prog 26 [.agg (AD 8).cells.toArray,e,v].toArray i (V7 w0 M0 M Rs (Tf.mk (AD 8) [a.named n,b.named m]).flat):=by
 have h1:=D3 a
 have y:=D3 b
 have:=aL (AD 8) e [n,m] v [h,k] [a.flat,b.flat] hS j.sl ⟨l.sl,CN,q.sl,s.sl,trivial⟩ (.inr rfl) (λ _ x hx=>by rcases List.mem_cons.1 hx with rfl|hx;exact a.MI;rw[List.mem_singleton.1 hx];exact b.MI) (by simp only[List.flatten_cons,List.flatten_nil,AQ,len_nil];omega) (by simp only[AM,len_nil];omega)
 rw[BF8]at this
 exact this
theorem BG0(f:Tf)(b:Bool)(v:Value)(w:World)(M:Mem)(s:CI f)(y:Sat w M)(n:(A7 v f.flat).ok M)(z:f.size<=1000):
   Calls prog 31 [v,.bool b].toArray w (wS w M (I7 b f).flat):=by
 obtain⟨vs,rfl⟩:=A7.shape n
 have A:(JP f).size=f.size+2:=by show 1+A6 [FD C2,f]=_;rw[A6,A6,A6];show 1+(1+(f.size+0))=_;omega
 have C:(FD C8).size=1:=rfl
 refine AJ (Hr:=[]) AG func31 U ntmps31 [(0,A7 vs.v f.flat)] [] [.sl 0 vs.v,.v (.bool b)] U (Aj y) (AH n A4) (λ B q=>BA 1 (FD C8).flat Tm.cells 11 48 Tm.AT U U Ah U λ v1=>RY 1 U λ D E F=>?_) U
 obtain⟨h1,rfl⟩: ∃h:AI,v1=h.v:=⟨⟨D,(FD C8).flat.length,E⟩,F⟩
 refine BA 2 (FD C2).flat Tm.cells 11 48 Tm.AT U U Ah U λ v2=>EV (λ h:AI=>.sl 3 h.v) [3] U U call23 U (hu:=λ _=>rfl) (λ w M e=>by have:=iY 1 (FD C2) f v2 vs.v w M (Nat.le_refl _) wZ s e.st.sat (e.f.get (k:=2) U) (e.f.get (k:=0) U) (by show 1+f.size<=_;omega);rw[BF9]at this;exact this) λ j _=>A1 U (λ i=>?_) (λ i=>?_)
 ·refine BA 4 [C2,C8] CX 1 9 DC U U Ah U λ v4=>BA 5 [j,h1] BN 1 23 CN U U Ah U λ v5=>AR [] (λ u:AI=>.sl 6 u.v) [] (λ u=>[(6,NI u.v (I7 true f).flat)]) U U call26 U U (λ w M hS hF=>xA C2 C8 v4 v5 j h1 (JP f) (FD C8) hS (hF.get (k:=4) U) (hF.get (k:=5) U) (hF.get (k:=3) U) (hF.get (k:=1) U) Aa) λ l _=>C1 6 U ?_
  subst i
  exact A2 q U U U λ w M' e=>⟨l,M',rfl,trivial,(e.B9 [] U).done,AH (e.f.get (k:=6) U) A4⟩
 ·refine BA 4 [C8,C2] CX 1 9 DC U U Ah U λ v4=>BA 5 [h1,j] BN 1 23 CN U U Ah U λ v5=>AR [] (λ u:AI=>.sl 6 u.v) [] (λ u=>[(6,NI u.v (I7 false f).flat)]) U U call26 U U (λ w M hS hF=>xA C8 C2 v4 v5 h1 j (FD C8) (JP f) hS (hF.get (k:=4) U) (hF.get (k:=5) U) (hF.get (k:=1) U) (hF.get (k:=3) U) Aa) λ l _=>C1 6 U ?_
  subst i
  exact A2 q U U U λ w M' e=>⟨l,M',rfl,trivial,(e.B9 [] U).done,AH (e.f.get (k:=6) U) A4⟩
theorem BG1(f t:Fl)(b:Bool)(v s:Value)(w:World)(M:Mem)(hM:Sat w M)(hgl:Gl w)(hv:(A7 v f).ok M)(hs:(A7 s t).ok M):
    Calls prog 8 [v,s,.bool b].toArray w λ e w'=>e= .returned (.bool true)/\Ext w w':=by
 obtain⟨vs,rfl⟩:=A7.shape hv
 obtain⟨ss,rfl⟩:=A7.shape hs
 have hl1:=A9 f
 refine AJ (Hr:=[]) AG func8 U ntmps8 [(0,A7 vs.v f),(1,A7 ss.v t)] [] [.sl 0 vs.v,.sl 1 ss.v,.v (.bool b)] U (Aj hM) (AH hv (AH hs A4)) (λ B hB=>?_) U
 refine EV (γ:=Bool) (pu:=λ b=>b=true->(∃x,WC f x)/\ ∃y,aI t y) (Fg:=λ _=>[]) (λ b:Bool=>.v (.bool b)) [] U U call9 U (λ w M hX=>(BE2 f t vs.v ss.v w M hX.st.sat (hX.f.get (k:=0) U) (hX.f.get (k:=1) U)).mono λ e w' he=>by
   obtain⟨⟨b,e1,e2⟩,e3⟩:=he
   exact⟨b,M,e1,e2,Grow.TQ hX.st.sat e3,A4⟩) λ gb hbr=>?_
 cases gb with
 |false=>
  refine A1 U (λ hb1=>?_) (λ hb1=>?_)
  ·refine AK U call11 U U (λ _ w M hX=>iU w (hgl.low hX.st.low)) U ?_
   exact A2 hB U U U λ w M hX=>⟨rfl,hX.st.low⟩
  ·cases hb1
 |true=>
 obtain⟨⟨f,hf⟩,t,ht⟩:=hbr rfl
 obtain rfl:=hf.eq
 obtain rfl:=ht.eq
 have hfz:=D3 f
 refine A1 U (λ hb1=>?_) (λ hb1=>?_)<;>simp only[zb]at hb1
 ·refine AK U call11 U U (λ _ w M hX=>iU w (hgl.low hX.st.low)) U ?_
  exact A2 hB U U U λ w M hX=>⟨rfl,hX.st.low⟩
 have hfs:f.size<=30:=by omega
 have of:=hf.ok
 have htz:=D3 t
 have hts:=ht.size
 have htn:t.t.name=[]:=ht.AS.right.name
 have ht3:B7 (.mk (AD 3) [t])=true:=by rw[W0,Bool.and_eq_true,T9];exact⟨rfl,λ x hx=>by rw[List.mem_singleton.1 hx];exact ht.ar⟩
 have ht3z:(Tf.mk (AD 3) [t]).size<=41:=by rw[Tf.size,A6,A6];omega
 have of6:CI (.mk (AD 6) [f]):=ok_one of (.inr U)
 have of6z:(Tf.mk (AD 6) [f]).size<=43:=by rw[Tf.size,A6,A6];omega
 have oK:=j4 b of
 have hKz:=j5 b f
 have oK5:CI (.mk (AD 5) [I7 b f]):=ok_one oK (.inl U)
 have oK5z:(Tf.mk (AD 5) [I7 b f]).size=f.size+5:=by rw[Tf.size,A6,A6];omega
 obtain⟨q1,q2,_⟩:=WD _ _ _ (Nat.le_refl _) oK5 j6
 obtain⟨rr1,rr2,_⟩:=x9 b of
 have z10:(Tf.mk (AD 10) []).size=1:=rfl
 have z11:(Tf.mk (AD 11) []).size=1:=rfl
 have law:=BF7 b of htn
 obtain⟨r1,e1⟩: ∃r,r=EC (KS b f) (.mk (AD 3) [t]):=⟨_,rfl⟩
 obtain⟨r2,e2⟩: ∃r,r=EC (.mk (AD 6) [f]) (.mk (AD 3) [t]):=⟨_,rfl⟩
 rw[<-e1,<-e2]at law
 obtain⟨z1,i1,p1⟩:=r1
 obtain⟨z2,i2,p2⟩:=r2
 obtain⟨l1,l2,l3⟩:=law
 simp only at l1 l2 l3
 subst l1 l2
 refine BA 3 [ss] BN 1 25 CN U U Ah U λ v3=>?_
 refine AR [] (λ u:AI=>.sl 4 u.v) [] (λ u=>[(4,EA u.v (Tf.mk (AD 3) [t]).flat)]) U U call25 U U (λ w M hS hF=>BF3 3 v3 ss t hS (hF.get (k:=3) U) (hF.get (k:=1) U) Aa) λ h4 _=>?_
 refine C1 4 U ?_
 refine EV (λ h:AI=>.sl 5 h.v) [5] U U call31 U (λ w M hX=>BG0 f b vs.v w M of hX.st.sat (hX.f.get (k:=0) U) Aa) λ h5 _=>?_
 refine BA 6 [h5] BN 1 23 CN U U Ah U λ v6=>?_
 refine AR [] (λ u:AI=>.sl 7 u.v) [] (λ u=>[(7,NI u.v (Tf.mk (AD 5) [I7 b f]).flat)]) U U call26 U U (λ w M hS hF=>wX 5 v6 h5 (I7 b f) hS (hF.get (k:=6) U) (hF.get (k:=5) U) Aa) λ h7 _=>?_
 refine C1 7 U ?_
 refine BA 8 (Tf.mk (AD 10) []).flat Tm.cells 11 48 Tm.AT U U Ah U λ v8=>?_
 refine BA 9 (Tf.mk (AD 11) []).flat Tm.cells 11 48 Tm.AT U U Ah U λ v9=>?_
 refine EV (λ h:AI=>.sl 10 h.v) [10] U U call23 U (λ w M hX=>iY _ (.mk (AD 5) [I7 b f]) (.mk (AD 11) []) h7.v v9 w M (Nat.le_refl _) oK5 j6 hX.st.sat (hX.f.get (k:=7) U) (hX.f.get (k:=9) U) Aa) λ h10 _=>?_
 refine EV (λ h:AI=>.sl 11 h.v) [11] U U call23 U (λ w M hX=>iY _ (.mk (AD 10) []) (FI (.mk (AD 5) [I7 b f]) (.mk (AD 11) [])) v8 h10.v w M (Nat.le_refl _) x8 q1 hX.st.sat (hX.f.get (k:=8) U) (hX.f.get (k:=10) U) Aa) λ h11 _=>?_
 refine BA 12 [vs] BN 1 23 CN U U Ah U λ v12=>?_
 refine AR [] (λ u:AI=>.sl 13 u.v) [] (λ u=>[(13,NI u.v (Tf.mk (AD 6) [f]).flat)]) U U call26 U U (λ w M hS hF=>wX 6 v12 vs f hS (hF.get (k:=12) U) (hF.get (k:=0) U) Aa) λ h13 _=>?_
 refine C1 13 U ?_
 refine EV (λ h:AI=>.tu [.sl 14 h.v,I i1,I p1]) [14] U U call16 U (hu:=λ _=>rfl) (λ w M hX=>by have:=ZV (KS b f) (.mk (AD 3) [t]) h11.v h4.v w M hX.st.sat (hgl.low hX.st.low) (hX.f.get (k:=11) U) (hX.f.get (k:=4) U) rr1.AS rr1.sh ht3 (ht.sh.one 3) Aa (wV ht3z (wU Aa rr1.AS));rw[<-e1]at this;exact this) λ h14 _=>?_
 refine EV (λ h:AI=>.tu [.sl 15 h.v,I i2,I p1]) [15] U U call16 U (hu:=λ _=>rfl) (λ w M hX=>by have:=ZV (.mk (AD 6) [f]) (.mk (AD 3) [t]) h13.v h4.v w M hX.st.sat (hgl.low hX.st.low) (hX.f.get (k:=13) U) (hX.f.get (k:=4) U) of6.AS of6.sh ht3 (ht.sh.one 3) Aa (wV ht3z (wU of6z of6.AS));rw[<-e2]at this;exact this) λ h15 _=>?_
 refine AK U call11 U U (λ _ w M hX=>iU w (hgl.low hX.st.low)) U ?_
 refine GJ (.v (.bool true)) U U (λ hn=>?_) (λ hn=>absurd hn (by simp))
 refine AK U call14 U U (hE2:=NO hn λ c hc=>by simpa using hc) (λ _ w M hX=>Aj2 (x:=z1) (y:=z1) U M h14.v h15.v w hX.st.sat (hX.sl 14 U) (hX.sl 15 U)) U ?_
 by_cases hp:p1=0
 ·obtain⟨y,hy⟩:=l3.resolve_left (λ h=>h hp)
  subst hp hy
  have hyp:=(Tf.mk (AD 3) [y]).ER
  exact A2 hB U U (hO:=by dsimp only;omega) U λ w M hX=>⟨rfl,hX.st.low⟩
 have hno:(true&&p1==p1&&true&& !(p1 != 0))=true->False:=λ h=>hp (by simpa using h)
 refine tL ⟨[],[],[Z 11 (.sl 14 h14.v),Z 13 (I p1),Z 68 (.v (.bool (true&&p1==p1))),Z 71 (.v (.bool true))]⟩ U ?_
 refine GJ (I 0) U U (λ hn=>absurd hn hno) (λ hn=>?_)
 refine GJ (I 0) U U (λ hn=>absurd hn hno) (λ hn=>?_)
 refine GJ (I 0) U U (λ hn=>absurd hn hno) (λ hn=>?_)
 refine A2 hB U U U λ w M hX=>⟨?_,hX.st.low⟩
 show Ending.returned (.bool _)=_
 congr 2
 simp[hp]
end Go.Proofs.YtnoegalemkbbbaaGreatDoor
namespace Go.Proofs.YtnoegalemkbbbaaGreatDoor.checkValues
open Go.Proofs.Tryz
open Go.ChangeShapes Go.WideShapes Go.ChangeAt Go.RowKit Go.Eng
noncomputable abbrev jP:=prog
noncomputable abbrev jf:FuncId:=8
noncomputable abbrev I8:=Tryz.f8
noncomputable abbrev js:=Rows.checkValuesSpec
noncomputable abbrev jc:=Rows.checkValuesRow
theorem jk0:jc.wf (OpenSpec.ofChange js)=true:=by kernel_rfl
theorem jk1:laidOutB jP=true:=by kernel_rfl
theorem jk2:mapsRowed jP=true:=by kernel_rfl
theorem jk3:I8.params.all (jP.readableRec ·)=true:=by kernel_rfl
theorem jk4:namedTie jP jc.named js.vars=true:=by kernel_rfl
theorem jk5:(jc.stops==[])=true:=by kernel_rfl
theorem jk6:(jP.stops==[])=true:=by kernel_rfl
theorem jk7:(jc.knobs==[])=true:=by kernel_rfl
theorem jk8:(jP.stopKnobs==[])=true:=by kernel_rfl
theorem jk9:(jc.inPlace==jP.inPlace jf)=true:=by kernel_rfl
theorem BH2:(jc.unfollowed==jP.unfollowed jf)=true:=by kernel_rfl
theorem BH3:(jc.recurses==jP.recurses jf)=true:=by kernel_rfl
theorem BH4:(jc.named==jP.varsNamed jf)=true:=by kernel_rfl
theorem BH5:(jc.maps==(I8.params.toList++js.plain.varTypes jP).any (jP.mapsRec ·))=true:=by kernel_rfl
theorem BH6:(jc.ifaces==(I8.params.toList++js.plain.varTypes jP).any (jP.ifacesRec ·))=true:=by kernel_rfl
theorem BH7:(jc.mapsOut==jP.mapsAmong I8.resultTypes.toList)=true:=by kernel_rfl
theorem BH8:(jc.loops==(I8.params.toList++js.plain.varTypes jP).any (jP.loopsFrom ·))=true:=by kernel_rfl
theorem BH9:(jc.wideKeys==(I8.params.toList++js.plain.varTypes jP++I8.resultTypes.toList).any (jP.wideKeysFrom ·))=true:=by kernel_rfl
theorem BI0:js.vars.all (jP.varReadable ·)=true:=by kernel_rfl
theorem BI1:I8.resultTypes.all (λ t=>jP.readableRec t&&decide (t<jP.types.size))=true:=by kernel_rfl
theorem BI2:(jc.ifacesOut==I8.resultTypes.toList.any (jP.ifacesRec ·))=true:=by kernel_rfl
theorem BI3:(jc.loopsOut==I8.resultTypes.toList.any (jP.loopsFrom ·))=true:=by kernel_rfl
theorem BI4:(jc.plainKeys==jP.plainKeys)=true:=by kernel_rfl
theorem BI5:jc.shortTexts.isNone=true:=by kernel_rfl
theorem BI6:jP.stopsHeard=true:=by kernel_rfl
theorem BI7:jP.mayEnter=true:=by kernel_rfl
theorem BI8:(jc.lifted==jP.liftsFinal)=true:=by kernel_rfl
theorem BI9:(jP.make==some jc.make)=true:=by kernel_rfl
theorem BJ0:(jc.kinds==(if jc.domain.isEmpty then []else I8.params.toList.map λ t=>match jP.underlying t with|some (.int k)=>some k|_=>none))=true:=by kernel_rfl
theorem BJ1:(jc.pinned==jc.pinnedBy)=true:=by kernel_rfl
theorem BJ2:(jc.veiled==(I8.params.toList++js.plain.varTypes jP++I8.resultTypes.toList).any (jP.veiledRec ·))=true:=by kernel_rfl
theorem BJ3:jc.veiledFits jP I8.params.toList (I8.params.toList++js.plain.varTypes jP++I8.resultTypes.toList)=true:=by kernel_rfl
theorem E4{a b:Bool}(h:a=true)(e:b=true):(a&&b)=true:=by rw[h,e];rfl
theorem j7:joinedFacts jP jf I8 js jc=true:=(E4 (E4 (E4 (E4 (E4 (E4 (E4 (E4 (E4 (E4 (E4 (E4 (E4 (E4 (E4 (E4 (E4 (E4 (E4 (E4 (E4 (E4 (E4 (E4 (E4 (E4 (E4 (E4 (E4 (E4 (E4 jk0 jk1) jk2) jk3) jk4) jk5) jk6) jk7) jk8) jk9) BH2) BH3) BH4) BH5) BH6) BH7) BH8) BH9) BI0) BI1) BI2) BI3) BI4) BI5) BI6) BI7) BI8) BI9) BJ0) BJ1) BJ2) BJ3)
end Go.Proofs.YtnoegalemkbbbaaGreatDoor.checkValues
