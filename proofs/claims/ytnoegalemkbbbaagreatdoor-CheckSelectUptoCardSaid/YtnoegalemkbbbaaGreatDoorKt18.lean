/- Lemmas for the card. -/
import Derived.Test.YtnoegalemkbbbaaGreatDoorKt17
import Derived.Lib.Overlaps
set_option linter.unusedVariables false
set_option linter.unusedSimpArgs false
set_option maxRecDepth 100000
set_option maxRecDepth 100000
namespace Go.Eng
open Go.RowKit
theorem Au0{w u:A0}(hw:w≠[])(h0: ∀j:Int,0<=j->j<len w->CJ (A4 w j) (j==0)=true)(hu: ∀c r,u=c::r->CJ (c.toNat:Int) false=false):CX (w++u) 0=len w:=by
 have hl:=GM hw
 have e:=A6 u
 refine QE (n:=len w) (by rw[AN];omega) (λ j h1 b=>by rw[IE h1 b];exact h0 j h1 b) (λ h=>?_) 0 (Int.le_refl _) Aa
 rw[oO (Int.le_refl _),Int.sub_self]
 cases u with
 |nil=>rw[AN,len_nil]at h;omega
 |cons c r=>rw[G4];rw[show(len w==0)=false from by simpa using(by omega:len w≠0)];exact hu c r U
theorem iS(c:UInt8)(s r:A0):Eng.sub (c::(s++r)) 1 (len s+1)=s:=by
 unfold Eng.sub
 rw[show(len s+1).toNat=s.length+1 by unfold len;omega]
 simp
theorem vJ{s r:A0}(hu:CY s=true)(k: ∀c r',r=c::r'->CJ (c.toNat:Int) false=false):F3 ((46::F0 s)++r)=(⟨false,s,0⟩,len (46::F0 s)):=by
 have e:Lib.hasPrefix ((46::F0 s)++r) [46]=true:=by rfl
 have l:A5 ((46::F0 s)++r) 1=F0 s++r:=rfl
 unfold F3
 rw[e,if_neg Ab,l,AH]
 unfold F0
 by_cases h:FZ s=true
 ·obtain⟨h1,b⟩:=ZK h
  have hl:=GM h1
  rw[if_pos h,Au0 h1 b k,if_pos hl]
  show((⟨false,Eng.sub (46::(s++r)) 1 (len s+1),0⟩:Sp),len s+1)=_
  rw[iS,Int.add_comm]
 ·rw[if_neg h,<-Y6 hu,fI hu r]
  obtain⟨q,w⟩:=YN s
  have hw:CX (E5 s++r) 0=0:=by
   refine QE (n:=0) (by have:=A6 (E5 s++r);omega) (λ j h1 b=>by omega) (λ _=>?_) 0 (Int.le_refl _) (Int.le_refl _)
   rw[w,List.cons_append,G4];rfl
  rw[hw,if_neg Ab]
  have i:Eng.sub ((46::E5 s)++r) 1 (1+len (E5 s))=E5 s:=by
   rw[Int.add_comm];exact iS 46 (E5 s) r
  rw[<-AR9,i,if_neg (by rintro(b|b|b);exact b rfl;exact h b;exact b rfl),Int.add_comm]
def BQ(p:List Sp):A0:=(p.map Sp.CR).flatten
def MY(x:Sp):Prop:=x.part=false/\x.n=0/\CY x.name=true
theorem MY.CR {x:Sp}(h:MY x):x.CR=46::F0 x.name:=by
 unfold Sp.CR;rw[if_neg (by rw[h.1];decide)];rfl
theorem MY.eq {x:Sp}(h:MY x):(⟨false,x.name,0⟩:Sp)=x:=by
 obtain⟨a,b,c⟩:=x
 obtain⟨h1,e,_⟩:=h
 have h1:a=false:=h1
 have e:c=0:=e
 subst h1 e;rfl
theorem Au1{p:List Sp}(h: ∀x∈p,MY x): ∀c r',BQ p=c::r'->CJ (c.toNat:Int) false=false:=by
 intro c r' e
 cases p with
 |nil=>cases e
 |cons x p=>
  unfold BQ at e
  rw[List.map_cons,List.flatten_cons,(h x (.head _)).CR]at e
  rw[<-(List.cons.inj e).1];decide
theorem vK: ∀(p2 p1:List Sp) (A:A0) (f:Nat),(∀x∈p2,MY x)->p2.length<=f->FO f (A++BQ p2) p1 (len A)=(p1++p2,len (A++BQ p2))
 |[],p1,A,f,_,_=>by
  rw[show BQ []=[]from rfl,List.append_nil,List.append_nil]
  cases f with
  |zero=>rfl
  |succ f=>rw[FO,if_neg Aa]
 |x::p2,p1,A,f,h,l=>by
  rw[List.length_cons]at l
  obtain⟨f,rfl⟩: ∃g,f=g+1:=⟨f-1,Aa⟩
  have hx:=h x (.head _)
  have j: ∀y∈p2,MY y:=λ y n=>h y (.tail _ n)
  have e:BQ (x::p2)=(46::F0 x.name)++BQ p2:=by
   unfold BQ;rw[List.map_cons,List.flatten_cons,hx.CR]
  have q:=A6 (F0 x.name)
  have w:=A6 (BQ p2)
  have b:=vJ (s:=x.name) (r:=BQ p2) hx.2.2 (Au1 j)
  have i:EP (A++BQ (x::p2)) (len A)=(x,len (46::F0 x.name)):=by
   unfold EP
   rw[QD,e,b,if_pos (by show len (46::F0 x.name)≠0;rw[AH];omega),hx.eq]
  have k:=vK p2 (p1++[x]) (A++(46::F0 x.name)) f j Aa
  rw[List.append_assoc,<-e,AN]at k
  rw[FO,if_pos (by rw[e,AN,AN,AH];omega),i,if_neg (by show ¬len (46::F0 x.name)=0;rw[AH];omega)]
  show FO f (A++BQ (x::p2)) (p1++[x]) (len A+len (46::F0 x.name))=_
  rw[k,List.append_assoc];rfl
theorem vL{s:A0}(hu:CY s=true):F0 s≠[]:=by
 unfold F0
 by_cases h:FZ s=true
 ·rw[if_pos h];exact(ZK h).1
 ·rw[if_neg h,<-Y6 hu]
  obtain⟨q,b⟩:=YN s
  rw[b];simp
theorem Au2{p:List Sp}(hl:p.length<=20)(h: ∀x∈p,MY x):CI (DM p)=(p,0,0):=by
 cases p with
 |nil=>rfl
 |cons x p=>
  have hx:=h x (.head _)
  have e:DM (x::p)=BQ (x::p):=by
   unfold DM BQ
   rw[if_neg (by rintro(h|h);cases h;have h:x.part=true:=h;rw[hx.1]at h;cases h)];rfl
  have b:DM (x::p)≠[46]:=by
   rw[e];unfold BQ
   rw[List.map_cons,List.flatten_cons,hx.CR]
   intro i
   have:=(List.cons.inj i).2
   exact vL hx.2.2 (List.append_eq_nil_iff.1 this).1
  have hg:=vK (x::p) [] [] 20 h hl
  rw[List.nil_append,List.nil_append,len_nil,<-e]at hg
  unfold CI
  rw[if_neg b,hg,if_neg (by rintro(h|h);(have h:len (DM (x::p))<len (DM (x::p)):=h;omega);cases h)]
theorem vM{x:Tf}(e:DV x=true)(ho:x.t.op=7\/x.t.op=8):HA x.t.s=((DA x.t.s).1,true):=by
 obtain⟨p,p1,p2,p3,p4,p5⟩:=At0 e ho
 have h: ∀y∈p,MY y:=λ y b=>⟨p5 y b,(p2 y b).2 (p5 y b)⟩
 have h1:CI x.t.s=(p,0,0):=by rw[p3];exact Au2 p1 h
 have i:p.any (λ x=>x.part)=false:=by
  rw[List.any_eq_false];intro y b;rw[p5 y b];decide
 unfold HA DA
 rw[h1,p4]
 show(p,decide ((0:Int)=0)&& !p.any (λ x=>x.part))=_
 rw[i];rfl
theorem vN{o:Int}: ∀ {l:List Tf} {L:Option A0},C7 o L l=true->(∀y∈l,D2 y=true)->FF o l=true
 |[],L,_,_=>by rw[FF]
 |x::l,L,h,hw=>by
  rw[C7]at h
  simp only[Bool.and_eq_true]at h
  obtain⟨⟨⟨h1,i⟩,e⟩,b⟩:=h
  have j:Lib.validD x.t.name=true:=by
   by_cases ho:o=2
   ·rw[ho]at e
    simp only[decide_true,Bool.not_true,Bool.false_or,Bool.and_eq_true]at e
    exact vG e.1
   ·have:x.t.name=[]:=by simpa[ho]using i
    rw[this];rfl
  have k:QU o x.t.name l=true:=by
   cases l with
   |nil=>rfl
   |cons y l=>
    unfold QU
    by_cases ho:o=2
    ·rw[ho]at b ⊢
     rw[C7]at b
     simp only[Bool.and_eq_true,decide_true,Bool.not_true,Bool.false_or,Option.all_some,Bool.not_eq_true',decide_eq_false_iff_not]at b
     have:=b.1.2.2
     simp[this]
    ·simp[ho]
  rw[FF,h1,i,j,hw x (.head _),k,vN b λ y n=>hw y (.tail _ n)];rfl
theorem iT: ∀(n:Nat) (x:Tf),x.size<=n->DV x=true->D2 x=true
 |0,x,h,_=>by have:=x.size_pos;omega
 |n+1,x,h,e=>by
  obtain⟨j,a2,a3,a4⟩:=vE e
  have l:=Tf.size_eq x
  have hw: ∀y∈x.ps,D2 y=true:=λ y i=>iT n y (by have:=MN i;omega) (vD a4 y i)
  have h1:HY { x.t with many:=len x.ps}=true:=At9 (λ ho=>by
   have ho:x.t.op=7\/x.t.op=8:=ho
   show(HA x.t.s).2=true
   rw[vM e ho]) j
  have k:QT x.t x.ps=true:=by
   have key: ∀q,HZ x.t q=true->QT x.t q=true:=by
    intro q b
    by_cases ho:x.t.op=7\/x.t.op=8
    ·match q,b with
     |[],b=>
      have b:(if x.t.op=7\/x.t.op=8 then false else true)=true:=b
      rw[if_pos ho]at b;cases b
     |[y],b=>
      have b:(if x.t.op=7\/x.t.op=8 then JQ (DA x.t.s).1 y else true)=true:=b
      show(if x.t.op=7\/x.t.op=8 then(BF (HA x.t.s).1 y).2 else true)=true
      rw[if_pos ho]at b ⊢
      rw[vM e ho,vH,<-At4];exact b
     |y::z::r,b=>
      have b:(if x.t.op=7\/x.t.op=8 then false else true)=true:=b
      rw[if_pos ho]at b;cases b
    ·unfold QT
     split
     ·rw[if_neg ho]
     ·rw[if_neg ho]
   exact key _ a3
  rw[gT,h1,vN a2 hw,k];rfl
def ZO(u:Tf):Bool:=if u.t.op=1 then(T7 u.t.n (u.ps.map Tf.node)).2 else true
mutual
def TB:Tf->Bool
 | .mk t ps=>ZO (.mk t ps)&&KE ps
def KE:List Tf->Bool
 |[]=>true
 |x::l=>TB x&&KE l
end
theorem Au3(a b:List Tf):KE (a++b)=(KE a&&KE b):=by
 induction a with
 |nil=>simp[KE]
 |cons x a e=>rw[List.cons_append,KE,KE,e,Bool.and_assoc]
theorem Au4(u:Tf)(us:List Tf):KE (u::us)=(ZO u&&KE (u.ps++us)):=by
 cases u with|mk t ps=>rw[KE,TB,Au3,Bool.and_assoc];rfl
theorem Au5{a:Tm}(h:ZC a):AtR a:=⟨h.num,h.s,h.e⟩
structure Tf.VY (x:Tf):Prop where
 right:x.VP
 B2:TB x=true
end Go.Eng
namespace Go.Proofs.YtnoegalemkbbbaaGreatDoor
open Go.Proofs.Tryz
open Go.Eng
theorem vO{w:World}{M:Mem}(v:Value)(f:Fl)(i:Int)(z:Sat w M)(hl:(A7 v f).ok M)(H:len f<=1048576)(h0:0<=i)(h1:i<len f)(ho:(at' f i).op=1)(hm:0<=(at' f i).many)(A:i+1+(at' f i).many<=len f):
    Calls prog 41 [v,i64 i].toArray w (ET w M (λ u:Value=>u) (λ _=>True) (λ u=>[(0,kn u 7 (Eng.sub f (i+1) (i+1+(at' f i).many)) BP)])):=by
 refine AE (Hr:=[]) A8 func41 U ntmps41 [(0,A7 v f)] [] [.sl 0 v,I i] U (Aj z) (AA hl A3) (λ B C=>B9 1 ([]:List Tm) BP 7 113 P1 U U Ah U λ u=>AT (σ:=Int×Value×Fl) (λ(j,u,y)=>⟨[(0,A7 v f),(1,kn u 7 y BP)],[(1,.ho (.own 113 7 u y.length (y.flatMap BP)))],[Z 0 (.sl 0 v),Z 1 (I i),Z 5 (.sl 1 u),Z 6 (I j)]⟩) (λ(j,u,y)=>i+1<=j/\j<=i+1+(at' f i).many/\y=Eng.sub f (i+1) j) (λ(j,u,y)=>(i+1+(at' f i).many-j).toNat) (i+1,u,[]) U U ⟨Aa,Aa,by unfold Eng.sub;simp⟩ ?_) U
 rintro⟨j,u,y⟩ ⟨e,D,l⟩
 have E:len y=j-(i+1):=by rw[l,FL Aa e Aa]
 refine A1 U (λ b=>?_) (λ b=>?_)<;>simp only[zb]at b
 ·have n:Eng.sub f (i+1) (j+1)=Eng.sub f (i+1) j++[at' f j]:=by
   obtain⟨F,G⟩:=DB f (i:=j) Aa Aa
   unfold Eng.sub
   rw[show(j+1).toNat-(i+1).toNat=(j.toNat-(i+1).toNat)+1 by omega,List.take_add_one,G,List.getElem?_drop,show(i+1).toNat+(j.toNat-(i+1).toNat)=j.toNat by omega,List.getElem?_eq_getElem F]
   rfl
  exact EJ [12,13,14] 4 (λ _ _ _ _ _ h=>h) U BI Ac <|AL 12 U U U <|B9 3 [at' f j] BP 7 113 P1 U U Ah U λ v3=>AI U <|AL 13 U U U <|EC 72 U U U underlying79 type113 U U gZ (by simp only[AH,len_nil];omega) λ v'=>AI U <|AL 14 U U U <|AI U <|BV U U U <|AR (j+1,v',y++[at' f j]) U U ⟨Aa,Aa,by rw[n,<-l]⟩ Ag
 ·have q:j=i+1+(at' f i).many:=by
   rcases Decidable.em (j<=i+(at' f i).many)with h|h
   · exact absurd ho (by simpa[h]using b)
   · omega
  subst q
  exact A2 C U U U λ w M s=>⟨u,M,rfl,trivial,s.st.done,AA (by rw[<-l];exact s.f.get (k:=1) U) A3⟩
theorem Au6(f:Fl)(v:Value)(M:Mem)(w:World)(hM:Sat w M)(hl:(A7 v f).ok M)(hb:len f<=1048576)(S: ∀t∈f,len t.name<=1000000/\len t.s<=1000000/\len t.c.s<=1000000):
    Calls prog 17 [v].toArray w λ e w'=>(∃b,e= .returned (.bool b)/\(b=true-> ∃x:Tf,f=x.flat/\x.VY))/\Ext w w':=by
 refine AE (Hr:=[]) A8 func17 U ntmps17 [(0,A7 v f)] [] [.sl 0 v] U (Aj hM) (AA hl A3) (λ B T=>?_) U
 refine B3 (γ:=Bool) (pu:=λ b=>b=true-> ∃x:Tf,f=x.flat/\x.VP) (Fg:=λ _=>[]) (λ b:Bool=>.v (.bool b)) [] U U call20 U (λ w M j=>(Ak1 f v M w j.st.sat (j.sl 0 U) Aa (λ t ht=>by have:=S t ht;omega)).mono λ e w' he=>by
   obtain⟨⟨b,e1,e2⟩,e3⟩:=he
   exact⟨b,M,e1,e2,Grow.TP j.st.sat e3,A3⟩) λ b hbr=>?_
 refine A1 U (λ h1=>?_) (λ h1=>?_)
 ·exact A2 T rfl rfl rfl λ w M j=>⟨⟨false,rfl,λ h=>by cases h⟩,j.st.low⟩
 obtain⟨x,rfl,hr⟩:=hbr (by simpa using h1)
 have hlp:=x.D7
 have hw:D2 x=true:=iT x.size x (Nat.le_refl _) hr.all
 refine AT (σ:=Int×List Tf) (λ(i,us)=>⟨[(0,A7 v x.flat)],[],[Z 0 (.sl 0 v),Z 3 (I i)]⟩) (λ(i,us)=>DD x.flat i us []/\TB x=KE us/\ ∀u∈us,D2 u=true) (λ(i,us)=>(len x.flat-i).toNat) (0,[x]) U U ⟨⟨Aa,by show x.flat=(x.flat++AM [])++[];simp[AM]⟩,by show _=(TB x&&true);rw[Bool.and_true],λ u hu=>by rw[List.mem_singleton.1 hu];exact hw⟩ ?_
 rintro⟨i,us⟩ ⟨G,O,V⟩
 have W:=G.1
 refine A1 U (λ P=>?_) (λ P=>?_)<;>simp only[zb]at P
 ·cases us with
  |nil=>
   exfalso
   have h2:=G.2
   have h3:(x.flat.drop i.toNat).length=0:=by rw[h2];rfl
   rw[List.length_drop]at h3
   unfold len at P;omega
  |cons u us=>
  obtain⟨Q,hq,q⟩:=G.step
  have A:(at' x.flat i).many=len u.ps:=by rw[hq]
  have R:(at' x.flat i).op=u.t.op:=by rw[hq]
  have H:(at' x.flat i).n=u.t.n:=by rw[hq]
  have hpn:=A6 u.ps
  have hfl:=q.LC Aa
  rw[JK,AN]at hfl
  have hfg:=KP u.ps
  have hfu:=A6 (AM us)
  have hfr:len ([]:Fl)=0:=rfl
  have X:=V u (.head _)
  have J: ∀z∈u.ps++us,D2 z=true:=λ z K=>by
   rcases List.mem_append.1 K with K|K
   · exact(VU (VV X).2 z K).1
   · exact V z (.tail _ K)
  have C:=Au4 u us
  refine A1 U (λ L=>?_) (λ L=>?_)<;>simp only[zb]at L<;>rw[R]at L
  ·refine AR (i+1,u.ps++us) U U ⟨q,?_,J⟩ Ag
   rw[O,C];unfold ZO;rw[if_neg L,Bool.true_and]
  have N:u.t.op=1:=by omega
  have D:=iC X N
  have l:Eng.sub x.flat (i+1) (i+1+(at' x.flat i).many)=u.ps.map Tf.node:=by rw[A];exact u5 q λ z K=>(D.2 z K).1
  have E: ∀a∈u.ps.map Tf.node,AtR a:=λ a ha=>by
   obtain⟨z,K,rfl⟩:=List.mem_map.1 ha
   refine Au5 (u7 (D.2 z K).2 (S z.node ?_).2.2)
   have h2:z.node∈Eng.sub x.flat (i+1) (i+1+(at' x.flat i).many):=by rw[l];exact ha
   unfold Eng.sub at h2
   exact List.mem_of_mem_drop (List.mem_of_mem_take h2)
  have F:(T7 (at' x.flat i).n (Eng.sub x.flat (i+1) (i+1+(at' x.flat i).many))).2=true->TB x=KE (u.ps++us):=λ h=>by
   rw[l,H]at h
   rw[O,C];unfold ZO;rw[if_pos N,h,Bool.true_and]
  have hml:len (u.ps.map Tf.node)=len u.ps:=by unfold len;rw[List.length_map]
  refine EJ [7,8,12,13] 5 (λ _ _ _ _ _ h=>h) U BI Ac <|H3 7 12 U U U ?_ ?_
  ·refine B3 (λ u:Value=>.sl 25 u) [25] (Fg:=λ u=>[(0,kn u 7 (Eng.sub x.flat (i+1) (i+1+(at' x.flat i).many)) BP)]) (pu:=λ _=>True) U U call41 U (λ w M j=>vO v x.flat i j.st.sat (j.f.get (k:=0) U) hb W Q (by rw[R];exact N) (by rw[A];omega) (by rw[A];omega)) λ v25 _=>AI U <|H3 8 12 U U U ?_ ?_
   ·exact AB U call40 U U (λ _ w M j=>iP (at' x.flat i).n v25 (Eng.sub x.flat (i+1) (i+1+(at' x.flat i).many)) j.st.sat (j.f.get (k:=25) U) (by rw[l];omega) (by rw[l];exact E) (by rw[H];exact D.1)) U <|AI U <|AL 12 U U U <|AZ 55 U zeroValue46 U λ b5=>AI U <|AL 13 U U U <|AI U <|BV U U U <|A1 U (λ y=>A2 T rfl rfl rfl λ w M j=>⟨⟨false,rfl,λ h=>by cases h⟩,j.st.low⟩) (λ y=>AR (i+1,u.ps++us) U U ⟨q,F (by simpa using y),J⟩ Ag)
   ·exact AZ 55 U zeroValue46 U λ b5=>AI U <|AL 8 U U U <|AB U call40 U U (λ _ w M j=>iP (at' x.flat i).n v25 (Eng.sub x.flat (i+1) (i+1+(at' x.flat i).many)) j.st.sat (j.f.get (k:=25) U) (by rw[l];omega) (by rw[l];exact E) (by rw[H];exact D.1)) U <|AI U <|AL 13 U U U <|AI U <|BV U U U <|A1 U (λ y=>A2 T rfl rfl rfl λ w M j=>⟨⟨false,rfl,λ h=>by cases h⟩,j.st.low⟩) (λ y=>AR (i+1,u.ps++us) U U ⟨q,F (by simpa using y),J⟩ Ag)
  ·exact AZ 55 U zeroValue46 U λ b5=>AI U <|AL 7 U U U <|B3 (λ u:Value=>.sl 25 u) [25] (Fg:=λ u=>[(0,kn u 7 (Eng.sub x.flat (i+1) (i+1+(at' x.flat i).many)) BP)]) (pu:=λ _=>True) U U call41 U (λ w M j=>vO v x.flat i j.st.sat (j.f.get (k:=0) U) hb W Q (by rw[R];exact N) (by rw[A];omega) (by rw[A];omega)) λ v25 _=>AI U <|AL 8 U U U <|AB U call40 U U (λ _ w M j=>iP (at' x.flat i).n v25 (Eng.sub x.flat (i+1) (i+1+(at' x.flat i).many)) j.st.sat (j.f.get (k:=25) U) (by rw[l];omega) (by rw[l];exact E) (by rw[H];exact D.1)) U <|AI U <|AL 13 U U U <|AI U <|BV U U U <|A1 U (λ y=>A2 T rfl rfl rfl λ w M j=>⟨⟨false,rfl,λ h=>by cases h⟩,j.st.low⟩) (λ y=>AR (i+1,u.ps++us) U U ⟨q,F (by simpa using y),J⟩ Ag)
 ·have hun:us=[]:=by
   cases us with
   |nil=>rfl
   |cons u us=>obtain⟨Q,_⟩:=G.step;omega
  subst hun
  exact A2 T U U U λ w M j=>⟨⟨true,rfl,λ _=>⟨x,rfl,hr,by rw[O];rfl⟩⟩,j.st.low⟩
theorem Au7(f:Fl)(v:Value)(m:Int)(M:Mem)(w:World)(s:Sat w M)(hl:(A7 v f).ok M)(hm:0<=m/\m<=1048576):
   Calls prog 32 [v,i64 m].toArray w λ e w'=>(∃b,e= .returned (.bool b)/\(b=true->NQ m f=true/\ ∃x:Tf,f=x.flat/\x.VY))/\Ext w w':=by
 refine AE (Hr:=[]) A8 func32 U ntmps32 [(0,A7 v f)] [] [.sl 0 v,I m] U (Aj s) (AA hl A3) (λ B q=>AB U call75 U U (λ _ w M i=>Aj3 f v m M w i.st.sat (i.sl 0 U) hm) U <|F9 (.v (.bool false)) U U (λ l=>?_) (λ l=>?_)) U
 ·have j:=l
  unfold NQ at j
  simp only[Bool.and_eq_true,decide_eq_true_eq,List.all_eq_true]at j
  refine B3 (γ:=Bool) (pu:=λ b=>b=true-> ∃x:Tf,f=x.flat/\x.VY) (Fg:=λ _=>[]) (λ b:Bool=>.v (.bool b)) [] U U call17 U (hE1:=L7 l U) (λ w M i=>(Au6 f v M w i.st.sat (i.f.get (k:=0) U) Aa (λ t y=>by have:=j.2 t y;omega)).mono λ e w' he=>by
   obtain⟨⟨b,z,e2⟩,e3⟩:=he
   exact⟨b,M,z,e2,Grow.TP i.st.sat e3,A3⟩) λ b n=>?_
  exact A2 q U U U λ w M i=>⟨⟨b,by rw[l];rfl,λ h=>⟨l,n h⟩⟩,i.st.low⟩
 ·exact A2 q rfl rfl rfl λ w M i=>⟨⟨false,by rw[l];rfl,λ h=>by cases h⟩,i.st.low⟩
end Go.Proofs.YtnoegalemkbbbaaGreatDoor
namespace Go.Eng
def PE:A0:=[107,101,121]
def PF:A0:=[118,97,108,117,101]
def J8(F:Tr->Bool):Option A0->List Tr->Bool
 |_,[]=>true
 |L,y::l=>match BX PE y,BX PF y with
  |some k,some v=>decide (y.node.many=2)&&(decide (k.node.kind=4)&&(F v&&((match L with|some s=> !Op.bytesLess k.node.s s&& !decide (k.node.s=s)|none=>true)&&J8 F (some k.node.s) l)))
  |_,_=>false
def HH(F:Tr->Bool)(s:A0):Option Tr->List Tr->Bool
 |_,[]=>true
 |P,y::l=>decide (y.node.kind=5)&&(!decide (y.node.many=0)&&((AP y.parts).all F&&((EB s (AP y.parts)).all (λ k=>decide (k=at' (EB s (AP y.parts)) 0))&&((match P with|none=>true|some q=>match I4 s q,I4 s (at' (AP y.parts) 0)with|some a,some b=>decide (F5 a b<0)|_,_=>false)&&HH F s (some (at' (AP y.parts) 0)) l))))
def iU(s:A0)(l:List Tr):Bool:=R1 (l.filterMap (I4 s))
mutual
def BG:Tf->Tr->Bool
 | .mk t ps,x=>
  if t.op=0 then true
  else if t.op=1 then decide (len x.flat=1)&&MV t.n (ps.map Tf.node) x.node
  else if t.op=2 then decide (x.node.kind=6)&&(HI ps x&&(decide (t.n=1)||decide (x.node.many=len ps)))
  else if t.op=3 then decide (x.node.kind=6)&&(AP x.parts).all (λ y=>FU ps y)
  else if x.node.kind≠5 then false
  else if t.op=4 then NY ps (AP x.parts)
  else if t.op=6 then J8 (λ y=>FU ps y) none (AP x.parts)
  else if t.op=8 then HH (λ y=>FU ps y) t.s none (AP x.parts)
  else if t.op=7 then(AP x.parts).all (λ y=>FU ps y)&&iU t.s (AP x.parts)
  else(AP x.parts).all (λ y=>FU ps y)
def FU:List Tf->Tr->Bool
 |[],_=>false
 |p::_,x=>BG p x
def HI:List Tf->Tr->Bool
 |[],_=>true
 |p::ps,x=>(match BX p.t.name x with|some y=>BG p y|none=>false)&&HI ps x
def NY:List Tf->List Tr->Bool
 |[],l=>l.isEmpty
 |_::_,[]=>false
 |p::ps,y::l=>BG p y&&NY ps l
end
theorem Au8(n:A0)(p:Tf)(x:Tr):BG (p.named n) x=BG p x:=by
 obtain⟨t,ps⟩:=p
 show BG (.mk { t with name:=n} ps) x=_
 rw[BG,BG]
end Go.Eng
namespace Go.Proofs.YtnoegalemkbbbaaGreatDoor
open Go.Proofs.Tryz
open Go.Eng
abbrev FI(tf:Fl)(F:Tr->Bool):Prop:= ∀(x:Tr),CD x-> ∀(u v:Value) (w:World) (M:Mem),Sat w M->(A7 u tf).ok M->(kn v 6 x.flat Nd.cells).ok M->Calls prog 18 [u,v].toArray w λ e w'=>e= .returned (.bool (F x))/\Ext w w'
theorem ZP(j:Fl)(F:Tr->Bool)(s:FI j F)(l:List Tr)(hx: ∀x∈l,CD x)(u v:Value)(n:List AJ)(w:World)(M:Mem)(C:Sat w M)(hu:(A7 u j).ok M)(y:(CN v n (l.map Tr.flat)).ok M)(hl:len l<=1048576):
    Calls prog 47 [u,v].toArray w λ e w'=>e= .returned (.bool (l.all F))/\Ext w w':=by
 have D:=A6 l
 have E:len n=len l:=by have:=CB.len (f:=Nd.cells) y.more;unfold len;rw[List.length_map]at this;omega
 refine AE (Hr:=[]) A8 func47 U ntmps47 [(0,A7 u j),(1,CN v n (l.map Tr.flat))] [] [.sl 0 u,.sl 1 v] U (Aj C) (AA hu (AA y A3)) (λ B z=>AT (σ:=Int) (λ k=>⟨[(0,A7 u j),(1,CN v n (l.map Tr.flat))],[],[Z 0 (.sl 0 u),Z 1 (.sl 1 v),Z 5 (I k)]⟩) (λ k=>0<=k/\k<=len l/\(l.drop k.toNat).all F=l.all F) (λ k=>(len l-k).toNat) 0 U U ⟨Aa,Aa,rfl⟩ ?_) U
 rintro k ⟨b,G,i⟩
 refine A1 U (λ h1=>?_) (λ h1=>?_)<;>simp only[zb]at h1
 ·rw[IN b Aa,List.all_cons]at i
  refine AB U call18 U U (λ _ w M h=>by
    have A:=I1 (h.f.get (k:=1) U) b Aa
    rw[J6 b Aa]at A
    exact s (at' l k) (hx _ (at_mem b Aa)) _ _ w M h.st.sat (h.f.get (k:=0) U) A) U ?_
  refine A1 U (λ q=>?_) (λ q=>?_)<;>simp only[zb]at q
  ·exact A2 z U U U λ w M h=>⟨by rw[<-i,q];rfl,h.st.low⟩
  ·rw[q,Bool.true_and]at i
   exact AR (k+1) U U ⟨Aa,Aa,i⟩ Ag
 ·refine A2 z U U U λ w M h=>⟨?_,h.st.low⟩
  rw[<-i,KB Aa];rfl
end Go.Proofs.YtnoegalemkbbbaaGreatDoor
namespace Go.Eng
structure I5 (t:Tf):Prop where
 l:len t.flat<=1048576
 a:DV t=true
 o:t.t.op≠9
 r: ∀m∈t.flat,IM m.c
 s: ∀m∈t.flat,len m.s<=1048576
def vP(F:Tr->Bool):Option Tr->Bool
 |some y=>F y
 |none=>false
theorem TC(p:Tf)(ps:List Tf)(x:Tr):HI (p::ps) x=(vP (BG p) (BX p.t.name x)&&HI ps x):=by
 rw[HI];cases BX p.t.name x<;>rfl
theorem ZQ{n:A0}{x y:Tr}(hx:CD x)(h:BX n x=some y):CD y:=by
 obtain⟨u,hu,rfl⟩:=uJ h
 exact hx.HV hu
end Go.Eng
namespace Go.Proofs.YtnoegalemkbbbaaGreatDoor
open Go.Proofs.Tryz
open Go.Eng
theorem Au9(t:Tf)(Q:I5 t)(R:t.t.op=2)(C: ∀p∈t.ps,FI (p.named []).flat (BG p))(x:Tr)(hx:CD x)(u v:Value)(w:World)(M:Mem)(S:Sat w M)(hu:(A7 u t.flat).ok M)(T:(kn v 6 x.flat Nd.cells).ok M):
    Calls prog 46 [u,v].toArray w λ e w'=>e= .returned (.bool (HI t.ps x&&(decide (t.t.n=1)||decide (x.node.many=len t.ps))))/\Ext w w':=by
 have K:=Q.l
 have D:=hx.l
 have E:at' x.flat 0=x.node:=x.BA
 have V:=FQ x
 have W:=x.size_pos
 have A:K7 t=KY t:=by unfold K7;rw[if_pos R]
 have F:len (K7 t)=len t.ps:=by rw[A];unfold len;rw[List.length_map]
 have X:=A6 t.ps
 have G:(at' t.flat 0).n=t.t.n:=by rw[t.BA];rfl
 have L:=Tf.D7 t
 have hpl:=MM t.ps
 have hfl:len t.flat=1+AK t.ps:=by unfold len;rw[Tf.BR,Tf.size_eq];omega
 refine AE (Hr:=[]) A8 func46 U ntmps46 [(0,A7 u t.flat),(1,kn v 6 x.flat Nd.cells)] [] [.sl 0 u,.sl 1 v] U (Aj S) (AA hu (AA T A3)) (λ B N=>B3 (λ u:Value=>.sl 2 u) [2] U U call103 U (λ w M i=>Ak5 t u w M i.st.sat (i.sl 0 U) K) λ un _=>B3 (λ g:Value×List AJ=>.sl 3 g.1) [3] U U call45 U (λ w M i=>OY t Aa u w M i.st.sat (i.sl 0 U) K) λ g hg=>?_) U
 obtain⟨pv,gs⟩:=g
 have hg:len gs=len t.ps:=hg
 refine AT (σ:=Int) (λ k=>⟨[(0,A7 u t.flat),(1,kn v 6 x.flat Nd.cells),(2,kn un 1 (K7 t) CO),(3,CS pv gs (D3 t))],[],[Z 0 (.sl 0 u),Z 1 (.sl 1 v),Z 5 (.sl 2 un),Z 6 (.sl 3 pv),Z 7 (I k)]⟩) (λ k=>0<=k/\k<=len t.ps/\HI (t.ps.drop k.toNat) x=HI t.ps x) (λ k=>(len t.ps-k).toNat) 0 U U ⟨Aa,Aa,rfl⟩ ?_
 rintro k ⟨j,hk1,z⟩
 refine A1 U (λ h1=>?_) (λ h1=>?_)<;>simp only[zb]at h1
 ·obtain⟨p,hp⟩: ∃p,p=at' t.ps k:=⟨_,rfl⟩
  have H:p∈t.ps:=by rw[hp];exact at_mem j Aa
  have J:at' (K7 t) k=p.t.name:=by rw[A,hp];unfold KY;rw[J6 j Aa]
  rw[IN j Aa,TC,<-hp,<-J]at z
  refine B3 (λ h:AJ=>.tu [.sl 4 h.v,.v (.bool (BX (at' (K7 t) k) x).isSome)]) [4] U U call104 U (λ w M i=>SZ x hx.w (at' (K7 t) k) v w M i.st.sat (i.sl 1 U) D) λ h _=>?_
  obtain⟨b,s⟩: ∃b:Bool,b=vP (BG p) (BX (at' (K7 t) k) x):=⟨_,rfl⟩
  rw[<-s]at z
  refine AB (u:=.bool b) U call18 U U (λ hW w M i=>by
    cases hf:BX (at' (K7 t) k) x with
    |none=>exact absurd hW (by rw[hf];decide)
    |some y=>
     have O:=i.f.get (k:=4) U
     rw[hf]at O s
     have P:=EF (i.f.get (k:=3) U) j Aa
     rw[J6 j Aa,<-hp]at P
     rw[s]
     exact C p H y (ZQ hx hf) _ _ w M i.st.sat P O) U ?_
  refine A1 U (λ q=>?_) (λ q=>?_)<;>simp only[zb]at q
  ·have q:b=false:=by
    rcases q with q|q
    · rw[s];cases hf:BX (at' (K7 t) k) x with
      |none=>rfl
      |some y=>rw[hf]at q;cases q
    · exact q
   exact A2 N U U U λ w M i=>⟨by rw[<-z,q];rfl,i.st.low⟩
  ·rw[q.2,Bool.true_and]at z
   exact AR (k+1) U U ⟨Aa,Aa,z⟩ Ag
 ·rw[KB Aa,HI]at z
  refine A2 N U U U λ w M i=>⟨?_,i.st.low⟩
  rw[<-z,<-G,<-E,<-F,Bool.true_and]
  rfl
end Go.Proofs.YtnoegalemkbbbaaGreatDoor
namespace Go.Eng
theorem iV{x:Tr}: ∀ {ps:List Tf},HI ps x=true-> ∀p∈ps,∃z,BX p.t.name x=some z/\BG p z=true
 |p::ps,h,q,b=>by
  rw[TC,Bool.and_eq_true]at h
  rcases List.mem_cons.1 b with rfl|b
  ·cases hf:BX q.t.name x with
   |none=>rw[hf]at h;cases h.1
   |some z=>rw[hf]at h;exact⟨z,rfl,h.1⟩
  ·exact iV h.2 q b
theorem vQ{F:Tf->Option Int}{n:A0}: ∀ {l:List Tf} {o k:Int},K6 l o n F=some k-> ∃y∈l,y.t.name=n/\ ∃j,F y=some j
 |x::l,o,k,h=>by
  unfold K6 at h
  split at h
  ·rename_i b
   cases hx:F x with
   |none=>rw[hx]at h;cases h
   |some j=>exact⟨x,.head _,b,j,hx⟩
  ·obtain⟨y,e,a⟩:=vQ h
   exact⟨y,.tail _ e,a⟩
theorem vR{t:Tf}{x:Tr}(b:t.t.op=2)(h:BG t x=true):x.node.kind=6/\HI t.ps x=true:=by
 obtain⟨t,ps⟩:=t
 have b:t.op=2:=b
 rw[BG,if_neg Aa,if_neg Aa,if_pos b]at h
 simp only[Bool.and_eq_true,decide_eq_true_eq]at h
 exact⟨h.1,h.2.1⟩
theorem vS: ∀(p:List Sp) (t:Tf) (x:Tr) (o:Int),EX p t=some o->BG t x=true-> ∃k,HF p x=some k
 |[],t,x,o,_,_=>⟨x,by rw[HF]⟩
 |s::p,t,x,o,h,hi=>by
  unfold EX at h
  split at h
  ·cases h
  ·rename_i l
   have n:t.t.op=2:=Classical.byContradiction λ e=>l (.inl e)
   have q: ¬s.part=true:=λ e=>l (.inr e)
   obtain⟨y,w,b,j,A⟩:=vQ h
   obtain⟨z,B,i⟩:=iV (vR n hi).2 y w
   obtain⟨k,C⟩:=vS p y z j A i
   refine⟨k,?_⟩
   have e:FH s x=some z:=by unfold FH;rw[if_neg q,<-b];exact B
   rw[HF,e];exact C
theorem vU{t:Tm}{p:Tf}{s:A0}{z:Tr}(h:JQ (DA s).1 p=true)(hi:BG p z=true): ∃k,I4 s z=some k:=by
 unfold JQ at h
 split at h
 ·rename_i o ho
  exact vS _ p z o ho hi
 ·cases h
def R2(L:Option A0)(s:A0):Bool:=match L with|some t=> !Op.bytesLess s t&& !decide (s=t)|none=>true
def iW(F:Tr->Bool)(L:Option A0)(y:Tr):Bool:=match BX PE y,BX PF y with
 |some k,some v=>decide (y.node.many=2)&&(decide (k.node.kind=4)&&(F v&&R2 L k.node.s))
 |_,_=>false
def iX(y:Tr):A0:=match BX PE y with|some k=>k.node.s|none=>[]
theorem Av0(F:Tr->Bool)(L:Option A0)(y:Tr)(l:List Tr):J8 F L (y::l)=(iW F L y&&J8 F (some (iX y)) l):=by
 rw[J8]
 unfold iW iX R2
 cases BX PE y with
 |none=>rfl
 |some k=>
  cases BX PF y with
  |none=>rfl
  |some v=>cases L<;>(first|rfl|(simp only[Bool.and_assoc];done)|(simp only[Bool.and_assoc];rfl))
end Go.Eng
namespace Go.Proofs.YtnoegalemkbbbaaGreatDoor
open Go.Proofs.Tryz
open Go.Eng
theorem Av1(O:Fl)(F:Tr->Bool)(Q:FI O F)(l:List Tr)(hx: ∀x∈l,CD x)(u v:Value)(q:List AJ)(w:World)(M:Mem)(hM:Sat w M)(hu:(A7 u O).ok M)(J:(CN v q (l.map Tr.flat)).ok M)(hl:len l<=1048576):
    Calls prog 48 [u,v].toArray w λ e w'=>e= .returned (.bool (J8 F none l))/\Ext w w':=by
 have hl0:=A6 l
 have hsl:len q=len l:=by have:=CB.len (f:=Nd.cells) J.more;unfold len;rw[List.length_map]at this;omega
 refine AE (Hr:=[]) A8 func48 U ntmps48 [(0,A7 u O),(1,CN v q (l.map Tr.flat))] [] [.sl 0 u,.sl 1 v] U (Aj hM) (AA hu (AA J A3)) (λ B P=>AT (σ:=Int×Option A0) (λ(k,L)=>⟨[(0,A7 u O),(1,CN v q (l.map Tr.flat))],[],[Z 0 (.sl 0 u),Z 1 (.sl 1 v),Z 5 (.v (str (L.getD []))),Z 6 (I k)]⟩) (λ(k,L)=>0<=k/\k<=len l/\J8 F L (l.drop k.toNat)=J8 F none l/\(L=none↔k=0)) (λ(k,L)=>(len l-k).toNat) (0,none) U U ⟨Aa,Aa,rfl,by simp⟩ ?_) U
 rintro⟨k,L⟩ ⟨E,hk1,n,V⟩
 refine A1 U (λ h1=>?_) (λ h1=>?_)<;>simp only[zb]at h1
 ·obtain⟨y,R⟩: ∃y,y=at' l k:=⟨_,rfl⟩
  have j:CD y:=by rw[R];exact hx _ (at_mem E Aa)
  rw[IN E Aa,<-R,Av0]at n
  have z: ∀ {M:Mem},(CN v q (l.map Tr.flat)).ok M->(kn (at' q k).v 6 y.flat Nd.cells).ok M:=λ h=>by
   have:=I1 h E Aa
   rw[J6 E Aa,<-R]at this
   exact this
  have hyl:=FQ y
  have hyp:=y.size_pos
  have K:at' y.flat 0=y.node:=y.BA
  obtain⟨ok,A⟩: ∃o,o=BX PE y:=⟨_,rfl⟩
  obtain⟨ov,G⟩: ∃o,o=BX PF y:=⟨_,rfl⟩
  unfold iW iX at n
  rw[<-A,<-G]at n
  have N: ∀(nm:A0),BX nm y=none-> ∀(w:World) (M:Mem),Sat w M->(CN v q (l.map Tr.flat)).ok M->Calls prog 104 [(at' q k).v,str nm].toArray w (ET w M (λ h:AJ=>.tuple #[h.v,.bool false]) (λ _=>True) (λ _=>[])):=λ nm S w M hS J=>by
   have:=SZ y j.w nm (at' q k).v w M hS (z J).sl j.l
   rw[S]at this
   exact this.mono λ e w' ⟨h,M',he,hp,hg,hf⟩=>⟨h,M',he,hp,hg,A3⟩
  cases ok with
  |none=>
   refine B3 (λ h:AJ=>.tu [.v h.v,.v (.bool false)]) [] U U call104 U (Fg:=λ h=>[]) (λ w M b=>N PE A.symm w M b.st.sat (b.f.get (k:=1) U)) λ W _=>?_
   refine B3 (λ h:AJ=>.tu [.sl 4 h.v,.v (.bool (BX PF y).isSome)]) [4] U U call104 U (λ w M b=>SZ y j.w PF (at' q k).v w M b.st.sat (z (b.f.get (k:=1) U)).sl j.l) λ X _=>?_
   repeat (refine F9 (.v (.bool false)) U U (λ h=>nomatch h) (λ _=>?_))
   refine A1 U (λ i=>?_) (λ i=>nomatch i)
   exact A2 P U U U λ w M b=>⟨by rw[<-n];rfl,b.st.low⟩
  |some kT=>
  have C: ∀(nm:A0) (t:Tr),BX nm y=some t-> ∀(w:World) (M:Mem),Sat w M->(CN v q (l.map Tr.flat)).ok M->Calls prog 104 [(at' q k).v,str nm].toArray w (ET w M (λ h:AJ=>.tuple #[h.v,.bool true]) (λ _=>True) (λ h=>[(0,kn h.v 6 t.flat Nd.cells)])):=λ nm t S w M hS J=>by
   have:=SZ y j.w nm (at' q k).v w M hS (z J).sl j.l
   rw[S]at this
   exact this
  have hkw:=ZQ j A.symm
  cases ov with
  |none=>
   refine B3 (λ h:AJ=>.tu [.v h.v,.v (.bool true)]) [] U U call104 U (Fg:=λ h=>[]) (λ w M b=>(C PE kT A.symm w M b.st.sat (b.f.get (k:=1) U)).mono λ e w' ⟨h,M',he,hp,hg,hf⟩=>⟨h,M',he,hp,hg,A3⟩) λ W _=>?_
   refine B3 (λ h:AJ=>.tu [.v h.v,.v (.bool false)]) [] U U call104 U (Fg:=λ h=>[]) (λ w M b=>N PF G.symm w M b.st.sat (b.f.get (k:=1) U)) λ X _=>?_
   repeat (refine F9 (.v (.bool false)) U U (λ h=>nomatch h) (λ _=>?_))
   refine A1 U (λ i=>?_) (λ i=>nomatch i)
   exact A2 P U U U λ w M b=>⟨by rw[<-n];rfl,b.st.low⟩
  |some vT=>
   have T:=ZQ j G.symm
   have hks:=FQ kT
   have hkp:=kT.size_pos
   have D:at' kT.flat 0=kT.node:=kT.BA
   refine B3 (λ h:AJ=>.tu [.sl 3 h.v,.v (.bool true)]) [3] U U call104 U (λ w M b=>C PE kT A.symm w M b.st.sat (b.f.get (k:=1) U)) λ W _=>?_
   refine B3 (λ h:AJ=>.tu [.sl 4 h.v,.v (.bool true)]) [4] U U call104 U (λ w M b=>C PF vT G.symm w M b.st.sat (b.f.get (k:=1) U)) λ X _=>?_
   refine C5 U Ad Aa ?_
   refine ES 7 (kn (at' q k).v 6 y.flat Nd.cells) (λ w M b=>z (b.f.get (k:=1) U)) (ME 43 7 U ?_)
   refine AB (u:=.bool (F vT)) U call18 U U (λ hW w M b=>Q vT T _ _ w M b.st.sat (b.f.get (k:=0) U) (b.f.get (k:=4) U)) U ?_
   refine A1 U (λ i=>?_) (λ i=>?_)<;>simp only[zb]at i
   ·have e:(decide (y.node.many=2)&&(decide (kT.node.kind=4)&&(F vT&&R2 L kT.node.s)))=false:=by
     rw[K,D]at i
     rcases i with(((i|i)|i)|i)|⟨i,H⟩
     · rcases i with h|h<;>cases h
     · rw[decide_eq_false i];rfl
     · rw[decide_eq_false i];simp
     · rw[i];simp
     · cases L with
       |none=>have:=V.1 U;omega
       |some t=>
        have:R2 (some t) kT.node.s=false:=by
         show(!Op.bytesLess kT.node.s t&& !decide (kT.node.s=t))=false
         rcases H with H|H
         · rw[show Op.bytesLess kT.node.s t=true from H];rfl
         · rw[decide_eq_true (show kT.node.s=t from H)];simp
        rw[this];simp
    have n:((decide (y.node.many=2)&&(decide (kT.node.kind=4)&&(F vT&&R2 L kT.node.s)))&&J8 F (some kT.node.s) (l.drop (k+1).toNat))=J8 F none l:=n
    rw[e,Bool.false_and]at n
    exact A2 P U U U λ w M b=>⟨by rw[<-n];rfl,b.st.low⟩
   ·rw[K,D]at i
    have n:((decide (y.node.many=2)&&(decide (kT.node.kind=4)&&(F vT&&R2 L kT.node.s)))&&J8 F (some kT.node.s) (l.drop (k+1).toNat))=J8 F none l:=n
    have e:R2 L kT.node.s=true:=by
     cases L with
     |none=>rfl
     |some t=>
      have hk:0<k:=Classical.byContradiction λ h=>by have:=V.2 Aa;cases this
      have H:=i.2.resolve_left (λ h=>h hk)
      show(!Op.bytesLess kT.node.s t&& !decide (kT.node.s=t))=true
      rw[show Op.bytesLess kT.node.s t=false from H.1,decide_eq_false (show ¬kT.node.s=t from H.2)];rfl
    rw[e,decide_eq_true i.1.1.1.2,decide_eq_true i.1.1.2,i.1.2,<-D]at n
    exact AR (k+1,some (at' kT.flat 0).s) rfl rfl ⟨Aa,Aa,n,⟨λ h=>(by cases h),λ h=>absurd h Aa⟩⟩ Ag
 ·rw[KB Aa,J8]at n
  exact A2 P U U U λ w M b=>⟨by rw[<-n];rfl,b.st.low⟩
end Go.Proofs.YtnoegalemkbbbaaGreatDoor
namespace Go.Eng
def ZR:Nd:=⟨0,0,[],[],false,0⟩
def JR:Tr:=.mk ZR []
def JS(n:A0)(x:Tr):Option Tr:=if x.node.kind=0 then some JR else if x.node.kind=6 then some ((BX n x).getD JR)else none
def JT(n:Int)(x:Tr):Option Tr:=if x.node.kind=0 then some JR else if x.node.kind=5 then some (if n<len x.parts then(at' x.parts n).named []else JR)else none
def JU(s:Sp)(x:Tr):Option Tr:=if s.part=true then JT s.n x else JS s.name x
def R3(o:Option Tr):Int:=if o.isSome=true then 0 else 5
def FV:List Sp->Tr->Option Tr
 |[],x=>some x
 |s::p,x=>match JU s x with
  |some y=>FV p y
  |none=>none
end Go.Eng
namespace Go.Proofs.YtnoegalemkbbbaaGreatDoor
open Go.Proofs.Tryz
open Go.Eng
theorem Av2(a b:Vl)(q s:Value)(w:World)(M:Mem)(G:Sat w M)(F:(kn q 6 a Nd.cells).ok M)(H:(kn s 6 b Nd.cells).ok M):
    Calls prog 30 [q,s].toArray w λ e w'=>e= .returned (.bool (decide (a=b)))/\Ext w w':=by
 have J:len a<=9223372036854775807:=F.sl.le
 refine AE (Hr:=[]) A8 func30 U ntmps30 [(0,kn q 6 a Nd.cells),(1,kn s 6 b Nd.cells)] [] [.sl 0 q,.sl 1 s] U (Aj G) (AA F (AA H A3)) (λ B A=>?_) U
 refine A1 U (λ i=>?_) (λ i=>?_)<;>simp only[zb]at i
 ·exact A2 A U U U λ w M y=>⟨by rw[decide_eq_false (λ e=>i (by rw[e]))];rfl,y.st.low⟩
 refine AT (λ k:Int=>⟨[(0,kn q 6 a Nd.cells),(1,kn s 6 b Nd.cells)],[],[Z 0 (.sl 0 q),Z 1 (.sl 1 s),Z 5 (I k)]⟩) (λ k=>0<=k/\k<=len a/\Eng.sub a 0 k=Eng.sub b 0 k) (λ k=>(len a-k).toNat) 0 U U ⟨Aa,by have:=A6 a;omega,rfl⟩ ?_
 rintro k ⟨z,K,j⟩
 refine A1 U (λ l=>?_) (λ l=>?_)<;>simp only[zb]at l
 ·have C:k<len b:=by omega
  refine EJ [8] 2 (λ _ _ _ _ _ h=>h) U BI Ac <|AL 8 U U U <|AU (.v (.bool (!decide (at' a k=at' b k)))) U U (λ w M y=>PV.bin (AF (v:=CU (at' a k)) U) (AF (v:=CU (at' b k)) U) (λ _ w _=>AG1 _ _ _ _ w)) <|AI U <|BV U U U <|A1 U (λ n=>?_) (λ n=>?_)
  ·have D: ¬at' a k=at' b k:=by simpa[zb]using n
   exact A2 A U U U λ w M y=>⟨by rw[decide_eq_false (λ e=>D (by rw[e]))];rfl,y.st.low⟩
  ·have heq:at' a k=at' b k:=by simpa[zb]using n
   exact AR (k+1) U U ⟨Aa,Aa,by rw[sW a z l,sW b z C,j,heq]⟩ Ag
 ·have E:a=b:=by rw[O5 a k Aa,O5 b k Aa]at j;exact j
  exact A2 A U U U λ w M y=>⟨by rw[decide_eq_true E];rfl,y.st.low⟩
theorem Av3{e:World}{M:Mem}(s:A0)(hS:Sat e M)(h:len s<=1048576):
  Calls prog 63 [str s].toArray e (ET e M (λ v:Value=>v) (λ _=>True) (λ v=>[(0,kn v 3 (CQ s).1 Sp.cells)])):=by
 have hl:=VN s
 exact AE A8 func63 U ntmps63 [] [] [.v (str s)] U (Aj hS) A3 (λ B i=>B3 (λ v:Value=>.tu [.sl 1 v,I (CQ s).2.1,I (CQ s).2.2]) [1] U U call82 U (λ w M b=>gI s b.st.sat h) λ v _=>A2 i U U U λ w M b=>⟨v,M,rfl,trivial,b.st.done,fc 0 (b.sl 1 U) Sp.AO A3⟩) U
abbrev iY(w:World)(M:Mem)(o:Option Tr):Ending->World->Prop:=ET w M (λ v:Value=>.tuple #[v,i64 (R3 o)]) (λ _=>True) (λ v=>[(0,kn v 6 (P0 o) Nd.cells)])
theorem ZS(w:World)(M:Mem)(e:Sat w M):Calls prog 106 [].toArray w (ET w M (λ v:Value=>v) (λ _=>True) (λ v=>[(0,kn v 6 JR.flat Nd.cells)])):=AE (Hr:=[]) A8 func106 U ntmps106 [] [] [] U (Aj e) A3 (λ B h=>B9 1 [ZR] Nd.cells 6 46 Nd.AO U U Ah U λ v=>A2 h U U U λ w M b=>⟨v,M,rfl,trivial,b.st.done,fc 0 (b.sl 1 U) Nd.AO A3⟩) U
theorem Av4(n:A0)(x:Tr)(hx:CD x)(v:Value)(w:World)(M:Mem)(z:Sat w M)(A:(kn v 6 x.flat Nd.cells).ok M):
    Calls prog 52 [str n,v].toArray w (iY w M (JS n x)):=by
 have C:=FQ x
 have D:=x.size_pos
 have q:at' x.flat 0=x.node:=x.BA
 have E:=hx.l
 refine AE (Hr:=[]) A8 func52 U ntmps52 [(0,kn v 6 x.flat Nd.cells)] [] [.v (str n),.sl 0 v] U (Aj z) (AA A A3) (λ B s=>?_) U
 refine A1 U (λ h1=>?_) (λ h1=>?_)<;>simp only[zb]at h1<;>rw[q]at h1
 ·have e:JS n x=some JR:=by unfold JS;rw[if_pos h1]
  refine B3 (λ u:Value=>.sl 5 u) [5] U U call106 U (λ w M b=>ZS w M b.st.sat) λ u _=>A2 s U U U λ w M b=>⟨u,M,by rw[e];rfl,trivial,b.st.done,?_⟩
  rw[e];exact AA (b.f.get (k:=5) U) A3
 refine A1 U (λ j=>?_) (λ j=>?_)<;>simp only[zb]at j<;>rw[q]at j
 ·have e:JS n x=none:=by unfold JS;rw[if_neg h1,if_neg j]
  refine A2 s U U U λ w M b=>⟨.slice none 0 0,M,by rw[e];rfl,trivial,b.st.done,?_⟩
  rw[e];exact fc 0 (Sl.nil M 6) Nd.AO A3
 have j:x.node.kind=6:=by omega
 have e:JS n x=some ((BX n x).getD JR):=by unfold JS;rw[if_neg h1,if_pos j]
 refine B3 (λ h:AJ=>.tu [.sl 6 h.v,.v (.bool (BX n x).isSome)]) [6] U U call104 U (λ w M b=>SZ x hx.w n v w M b.st.sat (b.sl 0 U) E) λ h _=>A1 U (λ i=>?_) (λ i=>?_)
 ·have F:BX n x=none:=by
   have i:(BX n x).isSome=false:=by simpa using i
   cases hf:BX n x with
   |none=>rfl
   |some y=>rw[hf]at i;cases i
  rw[F]at e
  refine B3 (λ u:Value=>.sl 5 u) [5] U U call106 U (λ w M b=>ZS w M b.st.sat) λ u _=>A2 s U U U λ w M b=>⟨u,M,by rw[e];rfl,trivial,b.st.done,?_⟩
  rw[e];exact AA (b.f.get (k:=5) U) A3
 ·have i:(BX n x).isSome=true:=by simpa using i
  obtain⟨y,G⟩:=Option.isSome_iff_exists.1 i
  have e2:JS n x=BX n x:=by rw[e,G];rfl
  refine A2 s U U U λ w M b=>⟨h.v,M,by rw[e];rfl,trivial,b.st.done,?_⟩
  rw[e2];exact AA (b.f.get (k:=6) U) A3
theorem Av5(n:Int)(q:0<=n)(x:Tr)(hx:CD x)(v:Value)(w:World)(M:Mem)(y:Sat w M)(z:(kn v 6 x.flat Nd.cells).ok M):
   Calls prog 53 [i64 n,v].toArray w (iY w M (JT n x)):=by
 have A:=FQ x
 have C:=x.size_pos
 have i:at' x.flat 0=x.node:=x.BA
 have D:=hx.l
 refine AE (Hr:=[]) A8 func53 U ntmps53 [(0,kn v 6 x.flat Nd.cells)] [] [I n,.sl 0 v] U (Aj y) (AA z A3) (λ B j=>?_) U
 refine A1 U (λ h1=>?_) (λ h1=>?_)<;>simp only[zb]at h1<;>rw[i]at h1
 ·have e:JT n x=some JR:=by unfold JT;rw[if_pos h1]
  refine B3 (λ u:Value=>.sl 5 u) [5] U U call106 U (λ w M b=>ZS w M b.st.sat) λ u _=>A2 j U U U λ w M b=>⟨u,M,by rw[e];rfl,trivial,b.st.done,?_⟩
  rw[e];exact AA (b.f.get (k:=5) U) A3
 refine A1 U (λ h=>?_) (λ h=>?_)<;>simp only[zb]at h<;>rw[i]at h
 ·have e:JT n x=none:=by unfold JT;rw[if_neg h1,if_neg h]
  refine A2 j U U U λ w M b=>⟨.slice none 0 0,M,by rw[e];rfl,trivial,b.st.done,?_⟩
  rw[e];exact fc 0 (Sl.nil M 6) Nd.AO A3
 have h:x.node.kind=5:=by omega
 refine B3 (λ g:Value×List AJ=>.sl 6 g.1) [6] U U call44 U (λ w M b=>I0 x hx.w v w M b.st.sat (b.sl 0 U) D) λ g hg=>?_
 obtain⟨pv,gs⟩:=g
 have hg:len gs=len x.parts:=hg
 refine A1 U (λ s=>?_) (λ s=>?_)<;>simp only[zb]at s
 ·have e:JT n x=some JR:=by unfold JT;rw[if_neg h1,if_pos h,if_neg Aa]
  refine B3 (λ u:Value=>.sl 5 u) [5] U U call106 U (λ w M b=>ZS w M b.st.sat) λ u _=>A2 j U U U λ w M b=>⟨u,M,by rw[e];rfl,trivial,b.st.done,?_⟩
  rw[e];exact AA (b.f.get (k:=5) U) A3
 ·have e:JT n x=some ((at' x.parts n).named []):=by unfold JT;rw[if_neg h1,if_pos h,if_pos Aa]
  refine A2 j U U U λ w M b=>⟨(at' gs n).v,M,by rw[e];rfl,trivial,b.st.done,AA ?_ A3⟩
  have:=I1 (b.f.get (k:=6) U) q Aa
  rw[JO,J6 q Aa]at this
  rw[e];exact this
end Go.Proofs.YtnoegalemkbbbaaGreatDoor
namespace Go.Eng
theorem ZT:CD JR:=⟨by unfold JR;rw[Tr.wf];exact⟨rfl,trivial⟩,λ m hm=>by
 have:m=ZR:=by unfold JR at hm;rw[Tr.flat,F1]at hm;simpa using hm
 subst this
 exact⟨by unfold ZR P7 len;simp,λ h=>by cases h⟩,by show(1:Int)<=_;omega⟩
theorem Av6{n:A0}{x y:Tr}(hx:CD x)(h:JS n x=some y):CD y:=by
 unfold JS at h
 split at h
 ·exact Option.some.inj h▸ZT
 split at h
 ·cases hf:BX n x with
  |none=>rw[hf]at h;exact Option.some.inj h▸ZT
  |some z=>rw[hf]at h;exact Option.some.inj h▸ZQ hx hf
 ·cases h
theorem Av7{n:Int}{x y:Tr}(b:0<=n)(hx:CD x)(h:JT n x=some y):CD y:=by
 unfold JT at h
 split at h
 ·exact Option.some.inj h▸ZT
 split at h
 ·split at h
  ·rename_i e
   exact Option.some.inj h▸hx.HV (at_mem b e)
  ·exact Option.some.inj h▸ZT
 ·cases h
theorem vV{s:Sp}{x y:Tr}(b:0<=s.n)(hx:CD x)(h:JU s x=some y):CD y:=by
 unfold JU at h
 split at h
 ·exact Av7 b hx h
 ·exact Av6 hx h
end Go.Eng
namespace Go.Proofs.YtnoegalemkbbbaaGreatDoor
open Go.Proofs.Tryz
open Go.Eng
theorem Av8: ∀(p:List Sp),(∀s∈p,0<=s.n)->len p<=1048576-> ∀(x:Tr),CD x-> ∀(u v:Value) (w:World) (M:Mem),Sat w M->(kn u 3 p Sp.cells).ok M->(kn v 6 x.flat Nd.cells).ok M->
    Calls prog 69 [u,v].toArray w (iY w M (FV p x)):=by
 intro p
 induction p with
 |nil=>
  intro _ _ x hx u v w M j hu l
  have hl:len ([]:List Sp)=0:=rfl
  refine AE (Hr:=[]) A8 func69 U ntmps69 [(0,kn u 3 [] Sp.cells),(1,kn v 6 x.flat Nd.cells)] [] [.sl 0 u,.sl 1 v] U (Aj j) (AA hu (AA l A3)) (λ B i=>?_) U
  refine A1 U (λ h1=>?_) (λ h1=>?_)<;>simp only[zb]at h1
  ·exact A2 i U U U λ w M b=>⟨v,M,rfl,trivial,b.st.done,AA (b.f.get (k:=1) U) A3⟩
  ·exact absurd hl h1
 |cons s p E=>
  intro hp F x hx u v w M j hu l
  have hl:len (s::p)=len p+1:=AH s p
  have G:=A6 p
  have A:=hp s (.head _)
  have H:at' (s::p) 0=s:=rfl
  refine AE (Hr:=[]) A8 func69 U ntmps69 [(0,kn u 3 (s::p) Sp.cells),(1,kn v 6 x.flat Nd.cells)] [] [.sl 0 u,.sl 1 v] U (Aj j) (AA hu (AA l A3)) (λ B i=>?_) U
  refine A1 U (λ h1=>?_) (λ h1=>?_)<;>simp only[zb]at h1
  ·omega
  refine B3 (λ g:Value=>.tu [.sl 5 g,I (R3 (JS s.name x))]) [5] U U call52 U (λ w M b=>Av4 s.name x hx v w M b.st.sat (b.f.get (k:=1) U)) λ g _=>?_
  refine CZ 0 (λ st=> ∃g,st=⟨[(0,kn u 3 (s::p) Sp.cells),(5,kn g 6 (P0 (JU s x)) Nd.cells)],[],[Z 0 (.sl 0 u),Z 6 (.sl 5 g),Z 7 (I (R3 (JU s x)))]⟩) U U (λ q=>?_) (λ q=>?_) ?_
  ·have e:JU s x=JT s.n x:=if_pos q
   refine B3 (λ g:Value=>.tu [.sl 5 g,I (R3 (JT s.n x))]) [5] U U call53 U (λ w M b=>Av5 s.n A x hx v w M b.st.sat (b.f.get (k:=1) U)) λ g2 _=>?_
   exact AQ _ U U ⟨g2,by rw[e]⟩
  ·have e:JU s x=JS s.name x:=if_neg (by rw[show s.part=false from q];decide)
   exact AQ _ U U ⟨g,by rw[e]⟩
  rintro _ ⟨g,rfl⟩
  refine A1 U (λ h=>?_) (λ h=>?_)<;>simp only[zb]at h
  ·have e:JU s x=none:=by
    cases hf:JU s x with
    |none=>rfl
    |some y=>rw[hf]at h;exact absurd U h
   have e2:FV (s::p) x=none:=by rw[FV,e]
   refine A2 i U U U λ w M b=>⟨.slice none 0 0,M,by rw[e,e2];rfl,trivial,b.st.done,?_⟩
   rw[e2];exact fc 0 (Sl.nil M 6) Nd.AO A3
  obtain⟨y,z⟩: ∃y,JU s x=some y:=by
   cases hf:JU s x with
   |some y=>exact⟨y,rfl⟩
   |none=>rw[hf]at h;exact absurd (show(5:Int)=0 from h) Aa
  have e2:FV (s::p) x=FV p y:=by rw[FV,z]
  refine HP (gd:=none) 9 1 (len (s::p)) U U U ⟨.i64,_,rfl,AG U⟩ U underlying61 sizeOf105 Aa U λ v9=>?_
  refine B3 (λ g:Value=>.tu [.sl 4 g,I (R3 (FV p y))]) [4] U U call69 U (λ w M b=>by
    have C:=b.f.get (k:=9) U
    have D:=b.f.get (k:=5) U
    rw[z]at D
    rw[Z9]at C
    exact E (λ t J=>hp t (.tail _ J)) Aa y (vV A hx z) v9 g w M b.st.sat C D) λ g4 _=>?_
  refine A2 i U U U λ w M b=>⟨g4,M,by rw[e2];rfl,trivial,b.st.done,?_⟩
  rw[e2];exact AA (b.f.get (k:=4) U) A3
end Go.Proofs.YtnoegalemkbbbaaGreatDoor
namespace Go.Eng
open Go.RowKit Go.Lib
theorem vW{P:Program}{w w':World}{q sT ty e:TypeId}{sz b i h k:Nat}{d a:Addr}{cs:List Value}(hu:P.underlying q=some (.slice e))(s: ∀w,(sizeOf e).run P w= .ok sz w)(hl:cs.length=Nat.min h b*sz)
  (y: ∀j u,cs[j]? =some u->w.cell? (a.add j)=some u) (n:(storeCells d cs 0).run P w= .ok () w'):
  (Builtin.copy_ #[q,sT] ty #[.slice (some d) b i,.slice (some a) h k]).run P w= .ok (goInt (Nat.min h b)) w':=by
 have l:=run_loadCells_list (P:=P) w a cs y
 rw[hl]at l
 simp[Builtin.copy_,run_underlying hu,Builtin.lenOf,Builtin.firstCells,s,l,n]
section st
variable {w0 w:World} {M0 M:Mem} {Hs:List HO} {k:Nat} {e:TypeId} {sz n c g:Nat} {xs:List Value}
theorem St.Av9 (h:St w0 M0 w M Hs)(b:Hs[k]? =some (.priv e sz (.slice (some ⟨g,0,none⟩) n c) n xs)){o j:Nat}{u:Value}(hu:(xs.drop o)[j]? =some u):w.cell? ((⟨g,o,none⟩:Addr).add j)=some u:=by
 rw[List.getElem?_drop]at hu
 have:=(h.obj b).1.cells (g:=g) U (o+j) u hu
 rw[F6]at this ⊢
 rwa [Nat.zero_add]at this
theorem St.Aw0 {P:Program}(h:St w0 M0 w M Hs)(s:Hs[k]? =some (.priv e sz (.slice (some ⟨g,0,none⟩) n c) n xs)){y sT ty:TypeId}(hu:P.underlying y=some (.slice e))(z: ∀w,(sizeOf e).run P w= .ok sz w){o b l i q:Nat}{a:Addr}{cs:List Value}
  (hl:cs.length=Nat.min i b*sz) (A: ∀j u,cs[j]? =some u->w.cell? (a.add j)=some u) (ho:o+cs.length<=xs.length) (h1: ∀u∈cs,u.oneCell'=true):
  ∃w',(Builtin.copy_ #[y,sT] ty #[.slice (some ⟨g,o,none⟩) b l,.slice (some a) i q]).run P w= .ok (goInt (Nat.min i b)) w'/\St w0 M0 w' M (Hs.set k (.priv e sz (.slice (some ⟨g,0,none⟩) n c) n (DF xs o cs))):=by
 rcases Nat.eq_zero_or_pos cs.length with h0|h0
 ·obtain rfl:cs=[]:=List.eq_nil_of_length_eq_zero h0
  refine⟨w,vW hu z hl A U,?_⟩
  have:DF xs o []=xs:=by simp[DF]
  rw[this]
  have B:Hs.set k (.priv e sz (.slice (some ⟨g,0,none⟩) n c) n xs)=Hs:=by
   obtain⟨h1,C⟩:=List.getElem?_eq_some_iff.1 s
   rw[<-C];exact List.set_getElem_self h1
  rw[B];exact h
 ·obtain⟨w',hw,hS⟩:=h.lE (P:=P) (us:=cs) (o:=o) s ho h0 h1
  exact⟨w',vW hu z hl A (by simpa[sb,so]using hw),hS⟩
theorem St.wide (h:St w0 M0 w M Hs)(B:Hs[k]? =some (.priv e sz (.slice (some ⟨g,0,none⟩) n c) n xs)){m:Nat}(hm:n+m<=c):
  ∃ys,ys.length=m*sz/\St w0 M0 w M (Hs.set k (.priv e sz (.slice (some ⟨g,0,none⟩) (n+m) c) (n+m) (xs++ys))):=by
 obtain⟨⟨hl,i⟩,j⟩:=h.obj B
 rcases i with⟨i,_⟩|⟨E,cap,cur,i,hg,C,D,s,l,y⟩
 ·cases i
 ·cases i
  have hle:(n+m)*sz<=cur.toList.length:=by rw[Array.length_toList,l];exact Nat.mul_le_mul_right _ hm
  have z:(n+m)*sz=n*sz+m*sz:=Nat.add_mul _ _ _
  have q:xs++(cur.toList.drop (n*sz)).take (m*sz)=cur.toList.take ((n+m)*sz):=by
   rw[<-y,z,List.take_add]
  refine⟨(cur.toList.drop (n*sz)).take (m*sz),by rw[List.length_take,List.length_drop];omega,?_⟩
  refine h.write B (Below.refl _ _) h.sat (λ _ _ _=>rfl) (λ _ _ _=>rfl) (λ _ _ _ _=>rfl) ⟨⟨?_,.inr ⟨g,c,cur,rfl,hg,C,hm,s,l,q.symm⟩⟩,λ b A o=>j b A o⟩ (λ _ A=>.inl A)
  rw[q,List.length_take];omega
theorem St.Aw1 {P:Program}(h:St w0 M0 w M Hs)(T:Hs[k]? =some (.priv e sz (.slice (some ⟨g,0,none⟩) n c) n xs)){t G ty:TypeId}{i:TypeInfo}{z:Value}{kn:IntKind}(V:P.underlying t=some (.slice e))(H:P.underlying G=some (.int kn))(hi:P.info? e=some i)(W:i.zero=some z)(A:i.size=sz)(B:z.cells.size=sz)(J:0<sz)
  {s q:Nat} (X:s<=n) (h0:0<q) (hg:c<s+q) (D:s+q<=maxLen) (C:(s+q)*i.bytes<=140737488355328):
  ∃K S zs w',(Builtin.append_ #[t,G] ty #[.slice (some ⟨g,0,none⟩) s c,.int .i64 q]).run P w= .ok (.slice (some ⟨K,0,none⟩) (s+q) S) w'/\zs.length=q*sz/\K≠g/\
   St w0 M0 w' M (.priv e sz (.slice (some ⟨K,0,none⟩) (s+q) S) (s+q) (xs.take (s*sz)++zs)::Hs):=by
 subst A
 have l:=(h.obj T).1
 have hlt:=(l.lt g U).2
 have L:s*i.size<=xs.length:=by rw[l.1];exact Nat.mul_le_mul_right _ X
 have hold:(Builtin.firstCells i.size s (.slice (some ⟨g,0,none⟩) s c)).run P w.drew= .ok (xs.take (s*i.size)).toArray w.drew:=
  run_firstCells_some w.drew i.size s ⟨g,0,none⟩ s c (xs.take (s*i.size)) (by rw[List.length_take];omega) (λ j u F=>by
   rw[List.getElem?_take]at F
   split at F
   ·exact l.cells (g:=g) U j u F
   ·cases F)
 have N:((s+q:Nat):Int)<=9223372036854775807:=by simp only[maxLen]at D;omega
 have hqb:q*i.bytes<=(s+q)*i.bytes:=Nat.mul_le_mul_right _ (Nat.le_add_left _ _)
 have hr:=Lib.run_append_grow_zeros w t G ty e i z .i64 kn V H hi W (some ⟨g,0,none⟩) s c (xs.take (s*i.size)) hold q h0 J hg N Aa (growslice_fits hg C)
 refine⟨_,_,(Builtin.zeroCells z.cells q).toList,_,hr,by rw[Array.length_toList,size_zeroCells,B],Aa,?_⟩
 have O:=grownCap_ge w (s+q) c e
 have Q:grownCap w (s+q) c e<=maxLen:=grownCap_le_maxLen w (s+q) c e D
 have h1:=h.ext (((Ext.drew w)).trans (Ext.alloc w.drew (.cells ((xs.take (s*i.size)).toArray++Builtin.zeroCells z.cells q++Builtin.zeroCells z.cells (grownCap w (s+q) c e-(s+q))) e)))
 have E:(xs.take (s*i.size)++(Builtin.zeroCells z.cells q).toList).length=(s+q)*i.size:=by
  simp only[List.length_append,Array.length_toList,size_zeroCells,B,List.length_take,Nat.add_mul];omega
 refine⟨h1.low,h1.sat,h1.old,λ x hx=>?_,List.pairwise_cons.2 ⟨λ y hy b C=>?_,h.apart⟩⟩
 ·rcases List.mem_cons.1 hx with rfl|hx
  ·refine⟨⟨E,.inr ⟨w.heap.size,_,_,rfl,h.size,heap_alloc_new w.drew _,O,Q,?_,?_⟩⟩,λ b C o=>?_⟩
   ·simp only[Array.size_append,List.size_toArray,size_zeroCells,B,List.length_take,Nat.min_eq_left L,<-Nat.add_mul]
    congr 1
    omega
   ·simp only[Array.toList_append]
    rw[<-E]
    exact List.take_left
   ·simp only[Value.ownBlock,Option.some.injEq]at C;subst C
    exact h.PJ (Nat.le_refl _) o
  ·exact h1.ok x hx
 ·simp only[HO.FJ,Value.ownBlock,Option.some.injEq]at C;subst C
  intro R
  have:=(HO.ok.lt (h.ok y hy) R).2
  omega
end st
section
variable {P:Program} {C:World->Prop} {L:Env} {W:Bool} {d:Option Tmp} {ty:TypeId} {ps:String} {af:Array Edge} {gd:Option (Nat×Bool)}
theorem PV.Aw2 {t e:TypeId}{x:Operand}{p:Option Addr}{n c:Nat}(hx:AD L W x (.slice p n c))(b:P.underlying t=some (.slice e)):PV P C L W ⟨d,.call ⟨.builtin .cap,#[x],#[t]⟩,ty,ps,af,gd⟩ (i64 c):=by
 intro ac N h i w' _
 have key:(Builtin.cap_ #[t] ty #[.slice p n c]).run P w'= .ok (i64 c) w':=by
  simp[Builtin.cap_,run_underlying b,goInt]
 simp only[execOp,resolve,invoke,builtin,List.map_toArray,List.map_cons,List.map_nil,hx ac N h i,Sem.run_bind,Sem.run_pure,Result.andThen_ok,key]
theorem PV.Aw3 {t e:TypeId}{x y:Operand}{g n c sz:Nat}{k:IntKind}{a:Int}(v:Value)(hx:AD L W x (.slice (some ⟨g,0,none⟩) n c))(q:AD L W y (.int k a))(i:P.underlying t=some (.slice e))(s: ∀w,(sizeOf e).run P w= .ok sz w)
  (l:0<=a/\a<=(n:Int)) (j:(if c=a.toNat then v= .slice (some ⟨g,0,none⟩) (n-a.toNat) (c-a.toNat)else v= .slice (some ⟨g,a.toNat*sz,none⟩) (n-a.toNat) (c-a.toNat))):
  PV P C L W ⟨d,.slice t x (some y) none none,ty,ps,af,gd⟩ v:=by
 refine .mF hx q λ k w=>?_
 have b:P.underlying t=some (.slice (P.elem t)):=by rw[MD i];exact i
 rw[run_sliceAt_slice w t _ _ _ _ b,run_slice_l w t _ n c b k a l.1 l.2,MD i,s]
 simp only[Result.andThen_ok,sliced]
 split at j
 ·rename_i h;rw[j,if_pos h]
 ·rename_i h;rw[j,if_neg h];simp[F6]
theorem PV.Aw4 {t e:TypeId}{x z:Operand}{g n c sz:Nat}{k:IntKind}{b:Int}(hx:AD L W x (.slice (some ⟨g,0,none⟩) n c))(l:AD L W z (.int k b))(i:P.underlying t=some (.slice e))(q: ∀w,(sizeOf e).run P w= .ok sz w)
  (j:0<=b/\b<=(c:Int)):PV P C L W ⟨d,.slice t x none (some z) none,ty,ps,af,gd⟩ (.slice (some ⟨g,0,none⟩) b.toNat c):=by
 refine .mE hx l λ k w=>?_
 have h:P.underlying t=some (.slice (P.elem t)):=by rw[MD i];exact i
 rw[run_sliceAt_slice w t _ _ _ _ h,run_slice_h w t _ n c h k b j.1 j.2,MD i,q]
 simp[Result.andThen_ok,sliced,F6]
theorem PV.ext {f:FuncId}{xs:List Operand}{vs:List Value}{tys:Array TypeId}{u:Value}(hx:EG L W xs vs)(e:W=true-> ∀w,C w->(callFunc f vs.toArray).run P w= .ok (.value u) w):PV P C L W ⟨d,.call ⟨.value (.func f),xs.toArray,tys⟩,ty,ps,af,gd⟩ u:=by
 intro ac N h b w' hw
 have i:xs.toArray.map ac.eval=vs.toArray:=by rw[List.map_toArray,EG.map h b xs vs hx]
 have e2:ac.eval (.func f)= .func (.func f) #[] #[]:=rfl
 simp only[execOp,resolve,i,e2,Deferred.ofValue,invoke,Sem.run_bind,Sem.run_pure,Result.andThen_ok]
 simpa using e b w' hw
end
section
variable {P:Program} {ops:Array Oper} {Q:Exit->Act->World->Prop} {N:Nat} {rest:List Oper} {L:Env} {w0 w:World} {M0 M:Mem} {Hs:List HO} {d:Nat} {ty:TypeId} {ps:String} {af:Array Edge}
theorem RL.Aw5 {x y:Operand}{v1 v2 v':Value}{tys:Array TypeId}{w':World}(hx:AD L true x v1)(e:AD L true y v2)(i:(Builtin.copy_ tys ty #[v1,v2]).run P w= .ok v' w')(hd:Nat.blt d N=true)
  (h:RL P ops Q N rest ((d,true,v')::L) w'):RL P ops Q N (⟨some d,.call ⟨.builtin .copy,#[x,y],tys⟩,ty,ps,af,none⟩::rest) L w:=by
 intro a b
 refine wpList_plain U λ K j=>?_
 have key:(execOp a.eval ⟨some d,.call ⟨.builtin .copy,#[x,y],tys⟩,ty,ps,af,none⟩).run P w= .ok (.value v') w':=by
  simp only[execOp,resolve,invoke,builtin,Sem.run_bind,Sem.run_pure,Result.andThen_ok,List.map_toArray,List.map_cons,List.map_nil,hx a N b U,e a N b U,i]
 simp only[Oper.wp,key,Oper.upon_value]
 exact j _ _ (h _ (b.put hd true _))
theorem RL.vX {x y:Operand}{v1 v2 v':Value}{tys:Array TypeId}{w':World}(hx:AD L true x v1)(e:AD L true y v2)(i:(Builtin.append_ tys ty #[v1,v2]).run P w= .ok v' w')(hd:Nat.blt d N=true)
  (h:RL P ops Q N rest ((d,true,v')::L) w'):RL P ops Q N (⟨some d,.call ⟨.builtin .append,#[x,y],tys⟩,ty,ps,af,none⟩::rest) L w:=by
 intro a b
 refine wpList_plain U λ K j=>?_
 have key:(execOp a.eval ⟨some d,.call ⟨.builtin .append,#[x,y],tys⟩,ty,ps,af,none⟩).run P w= .ok (.value v') w':=by
  simp only[execOp,resolve,invoke,builtin,Sem.run_bind,Sem.run_pure,Result.andThen_ok,List.map_toArray,List.map_cons,List.map_nil,hx a N b U,e a N b U,i]
 simp only[Oper.wp,key,Oper.upon_value]
 exact j _ _ (h _ (b.put hd true _))
end
theorem Aw6{P:Program}{w:World}{t t2 e e2 ty:TypeId}{p:Option Addr}{n c sz:Nat}{x:Value}(h:P.underlying t=some (.slice e))(b:P.underlying t2=some (.slice e2))(i: ∀w,(sizeOf e).run P w= .ok sz w):(Builtin.append_ #[t,t2] ty #[.slice p n c,x]).run P w=(Builtin.append_ #[t,t] ty #[.slice p n c,x]).run P w:=by
 simp[Builtin.append_,run_underlying h,run_underlying b,i]
theorem St.rowAt {w0 w:World}{M0 M:Mem}{Hs:List HO}(h:St w0 M0 w M Hs){i:Nat}{e:TypeId}{sz g n c:Nat}{xs:List Value}(y:Hs[i]? =some (.priv e sz (.slice (some ⟨g,0,none⟩) n c) n xs)):
  w.shape? g=some (e,c*sz)/\(∀o,w.frozen? ⟨g,o,none⟩=false)/\xs.length=n*sz/\n<=c/\c<=maxLen:=by
 obtain⟨⟨hl,b⟩,q⟩:=h.obj y
 rcases b with⟨b,_⟩|⟨A,cap,cur,b,hg,s,j,k,l,z⟩
 ·cases b
 ·cases b
  refine⟨by unfold World.shape?;rw[s];simp only[l],λ o=>?_,hl,j,k⟩
  unfold World.frozen?
  simp only[s]
  simp
theorem St.Aw7 {P:Program}{w0 w:World}{M0 M:Mem}{Hs:List HO}(h:St w0 M0 w M Hs){i j:Nat}{e e2 k tR l:TypeId}{sz q g g2 n c z c2 o o2 la ca lb cb b:Nat}{xs ys:List Value}(h1:Hs[i]? =some (.priv e sz (.slice (some ⟨g,0,none⟩) n c) n xs))(A:Hs[j]? =some (.priv e2 q (.slice (some ⟨g2,0,none⟩) z c2) z ys))(s:i≠j)
  (G:0<c*sz) (C:P.underlying k=some (.slice l)) (D: ∀w,(Go.sizeOf l).run P w= .ok b w):
  (Extern.SlicesOverlaps.overlaps #[k,k] #[tR] #[.slice (some ⟨g2,o2,none⟩) la ca,.slice (some ⟨g,o,none⟩) lb cb]).run P w= .ok (.bool false) w:=by
 obtain⟨E,a2,_⟩:=h.rowAt h1
 obtain⟨F,B,_⟩:=h.rowAt A
 have y:g2≠g:=λ e=>TQ h.apart h1 A s g U (by simp[HO.FJ,Value.ownBlock,e])
 exact run_overlaps_apart w k tR l C b D ⟨g2,o2,none⟩ ⟨g,o,none⟩ la ca lb cb y _ _ _ _ F E Aa (B _) (B _)
section
variable {c:Cx} {B:Exit->Act->World->Prop} {k k':List Fr} {m:Md} {s s':XS} {O:Prop} {E:List Ck} {all:Array Oper} {rest:List Oper} {d:Nat} {ty:TypeId} {ps:String} {af:Array Edge}
variable {e:TypeId} {sz g n cp:Nat} {xs:List Value}
theorem ZU{F:List (Nat×Kn)}{H:List (Nat×HX)}{w:World}{M:Mem}(b:D5 c F H w M){kk o j:Nat}{u:Value}(h:DO H kk=some (.ho (.priv e sz (.slice (some ⟨g,0,none⟩) n cp) n xs)))(hu:(xs.drop o)[j]? =some u):w.cell? ((⟨g,o,none⟩:Addr).add j)=some u:=by
 obtain⟨q,i,_⟩:=EI (Hr:=c.Hr) h
 exact b.st.Av9 i hu
def ZV(g n cp sz a:Nat):Value:=if cp=a then .slice (some ⟨g,0,none⟩) (n-a) (cp-a)else .slice (some ⟨g,a*sz,none⟩) (n-a) (cp-a)
theorem R4{g n cp sz a:Nat}(h:cp≠a):ZV g n cp sz a= .slice (some ⟨g,a*sz,none⟩) (n-a) (cp-a):=if_neg h
theorem IP{C:World->Prop}{L:XE}{W:Gd}{h:Option Tmp}{gd:Option (Nat×Bool)}(a:Nat){b:Int}{v:Value}{t:TypeId}{x y:Operand}{i:IntKind}{E1 E2:List Ck}(hx:B5 L W x=some (.v (.slice (some ⟨g,0,none⟩) n cp),E1))(j:B5 L W y=some (.v (.int i b),E2))
  (k:c.P.underlying t=some (.slice e)) (l: ∀w,(sizeOf e).run c.P w= .ok sz w) (z:a<=n) (q:b=(a:Int)) (s:v=ZV g n cp sz a) (hE1:A9 E1:=by exact Ad) (hE2:A9 E2:=by exact Ad):PV c.P C L.d W.d ⟨h,.slice t x (some y) none none,ty,ps,af,gd⟩ (XV.v v).d:=by
 subst q
 refine PV.Aw3 v (AF hx (hE:=hE1)) (AF j (hE:=hE2)) k l Aa ?_
 rw[Int.toNat_natCast,s]
 unfold ZV
 split<;>rfl
theorem vY{C:World->Prop}{L:XE}{W:Gd}{h:Option Tmp}{gd:Option (Nat×Bool)}(b:Nat){bi:Int}{t:TypeId}{x z:Operand}{i:IntKind}{E1 E2:List Ck}(hx:B5 L W x=some (.v (.slice (some ⟨g,0,none⟩) n cp),E1))(j:B5 L W z=some (.v (.int i bi),E2))
  (k:c.P.underlying t=some (.slice e)) (l: ∀w,(sizeOf e).run c.P w= .ok sz w) (s:b<=cp) (q:bi=(b:Int)) (hE1:A9 E1:=by exact Ad) (hE2:A9 E2:=by exact Ad):PV c.P C L.d W.d ⟨h,.slice t x none (some z) none,ty,ps,af,gd⟩ (XV.v (.slice (some ⟨g,0,none⟩) b cp)).d:=by
 subst q
 have:=PV.Aw4 (C:=C) (W:=W.d) (L:=L.d) (d:=h) (ty:=ty) (ps:=ps) (af:=af) (gd:=gd) (AF hx (hE:=hE1)) (AF j (hE:=hE2)) k l Aa
 rwa [Int.toNat_natCast]at this
theorem vZ{C:World->Prop}{L:XE}{W:Gd}{b:Option Tmp}{gd:Option (Nat×Bool)}{p:Option Addr}{t:TypeId}{x:Operand}{E1:List Ck}(hx:B5 L W x=some (.v (.slice p n cp),E1))(h:c.P.underlying t=some (.slice e))(hE1:A9 E1:=by exact Ad):PV c.P C L.d W.d ⟨b,.call ⟨.builtin .len,#[x],#[t]⟩,ty,ps,af,gd⟩ (I (n:Int)).d:=PV.iL (AF hx (hE:=hE1)) h
theorem Aw8{C:World->Prop}{L:XE}{W:Gd}{b:Option Tmp}{gd:Option (Nat×Bool)}{p:Option Addr}{t:TypeId}{x:Operand}{E1:List Ck}(hx:B5 L W x=some (.v (.slice p n cp),E1))(h:c.P.underlying t=some (.slice e))(hE1:A9 E1:=by exact Ad):PV c.P C L.d W.d ⟨b,.call ⟨.builtin .cap,#[x],#[t]⟩,ty,ps,af,gd⟩ (I (cp:Int)).d:=PV.Aw2 (AF hx (hE:=hE1)) h
theorem ZW(kk o:Nat){cs:List Value}{t t2:TypeId}{x y:Operand}{dl A sl C:Nat}{a:Addr}{E1:List Ck}(h:run c.T c.N k m s=⟨k',.ops all (⟨some d,.call ⟨.builtin .copy,#[x,y],#[t,t2]⟩,ty,ps,af,none⟩::rest),s',O,E⟩)
  (hx:IA s'.L .t x y=some (.v (.slice (some ⟨g,o,none⟩) dl A),.v (.slice (some a) sl C),E1)) (D:DO s'.H kk=some (.ho (.priv e sz (.slice (some ⟨g,0,none⟩) n cp) n xs)))
  (G:c.P.underlying t=some (.slice e)) (J: ∀w,(sizeOf e).run c.P w= .ok sz w) (hl:cs.length=Nat.min sl dl*sz) (K: ∀w M,D5 c s'.F s'.H w M-> ∀j u,cs[j]? =some u->w.cell? (a.add j)=some u) (ho:o+cs.length<=xs.length) (h1: ∀u∈cs,u.oneCell'=true)
  (Q:XG c B k' (.ops all rest) ⟨s'.F,D4 s'.H kk (.ho (.priv e sz (.slice (some ⟨g,0,none⟩) n cp) n (DF xs o cs))),(d,.t,.v (goInt (Nat.min sl dl)))::s'.L⟩) (hE:A9 E:=by exact Ad) (hO:O:=by exact Af) (hE1:A9 E1:=by exact Ad) (hd:Nat.blt d c.N=true:=by exact rfl):XG c B k m s:=by
 refine E7 h (hE:=hE) (hO:=hO) λ w M i=>?_
 obtain⟨q,R,b⟩:=EI (Hr:=c.Hr) D
 obtain⟨l,z⟩:=GA hx hE1
 obtain⟨w',S,hS⟩:=i.st.Aw0 (P:=c.P) (ty:=ty) R (sT:=t2) G J hl (K w M i) ho h1
 exact RL.Aw5 l z S hd (E8 Q ⟨by rw[b];exact hS,i.f,i.le⟩ U)
theorem Aw9(kk q:Nat)(i:DO s.H kk=some (.ho (.priv e sz (.slice (some ⟨g,0,none⟩) n cp) n xs)))(hm:n+q<=cp)
  (l: ∀ys,ys.length=q*sz->XG c B k m ⟨s.F,D4 s.H kk (.ho (.priv e sz (.slice (some ⟨g,0,none⟩) (n+q) cp) (n+q) (xs++ys))),s.L⟩):XG c B k m s:=by
 intro a w ⟨h1,M,h⟩
 obtain⟨j,y,b⟩:=EI (Hr:=c.Hr) i
 obtain⟨ys,z,hS⟩:=h.st.wide y hm
 exact l ys z a w ⟨h1,M,by rw[b];exact hS,h.f,h.le⟩
theorem Ax0(kk k2:Nat){t V:TypeId}{x y:Operand}{i:TypeInfo}{z:Value}{C:IntKind}{r q:Nat}{W:Int}{E1:List Ck}(h:run c.T c.N k m s=⟨k',.ops all (⟨some d,.call ⟨.builtin .append,#[x,y],#[t,V]⟩,ty,ps,af,none⟩::rest),s',O,E⟩)
  (hx:IA s'.L .t x y=some (.v (.slice (some ⟨g,0,none⟩) r cp),.v (.int .i64 W),E1)) (D:W=(q:Int)) (hk:DO s'.H kk=some (.ho (.priv e sz (.slice (some ⟨g,0,none⟩) n cp) n xs)))
  (ht:c.P.underlying t=some (.slice e)) (G:c.P.underlying V=some (.int C)) (hi:c.P.info? e=some i) (hz:i.zero=some z) (X:(i.size,z.cells.size,Nat.blt 0 sz,Nat.blt d c.N)=(sz,sz,true,true)) (hr:r<=n) (h0:0<q) (hg:cp<r+q) (J:r+q<=maxLen) (hb:(r+q)*i.bytes<=140737488355328)
  (hn: ∀A b zs,zs.length=q*sz->r+q<=b->XG c B k' (.ops all rest) ⟨s'.F,(k2,.ho (.priv e sz (.slice (some ⟨A,0,none⟩) (r+q) b) (r+q) (xs.take (r*sz)++zs)))::s'.H,(d,.t,.v (.slice (some ⟨A,0,none⟩) (r+q) b))::s'.L⟩) (hE:A9 E:=by exact Ad) (hO:O:=by exact Af) (hE1:A9 E1:=by exact Ad):XG c B k m s:=by
 simp only[Prod.mk.injEq,Nat.blt_eq]at X
 obtain⟨s1,s2,s3,s4⟩:=X
 subst D
 refine E7 h (hE:=hE) (hO:=hO) λ w M K=>?_
 obtain⟨j,hj,_⟩:=EI (Hr:=c.Hr) hk
 obtain⟨Q,R⟩:=GA hx hE1
 obtain⟨A,b,zs,w',l,S,_,hS⟩:=K.st.Aw1 (P:=c.P) (ty:=ty) (s:=r) (q:=q) hj ht G hi hz s1 s2 s3 hr h0 hg J hb
 exact RL.vX Q R l (by rw[Nat.blt_eq];exact s4) (E8 (hn A b zs S (hS.rowAt (i:=0) U).2.2.2.1) ⟨hS,K.f,K.le⟩ U)
theorem Ax1(kk G:Nat){t t2 e2 e3:TypeId}{x y:Operand}{i:TypeInfo}{z vx:Value}{p:Option Addr}{q:Nat}{cs:List Value}{E1:List Ck}(h:run c.T c.N k m s=⟨k',.ops all (⟨some d,.call ⟨.builtin .append,#[x,y],#[t,t2]⟩,ty,ps,af,none⟩::rest),s',O,E⟩)
  (hx:IA s'.L .t x y=some (.v (.slice p n cp),.v vx,E1)) (J:DO s'.H G=some (.ho (.priv e3 sz vx q cs))) (hk:DO (D4 s'.H G (.ho (.own e3 sz vx q cs))) kk=some (.ho (.priv e sz (.slice p n cp) n xs)))
  (ht:c.P.underlying t=some (.slice e)) (K: ∀w,(sizeOf e).run c.P w= .ok sz w) (Q:c.P.underlying t2=some (.slice e2)) (hi:c.P.info? e=some i) (hz:i.zero=some z) (hs:(i.size,z.cells.size,Nat.blt d c.N)=(sz,sz,true)) (h1: ∀u∈cs,u.oneCell'=true) (R:n+q<=maxLen) (hb:(n+q)*i.bytes<=140737488355328)
  (hn: ∀v',XG c B k' (.ops all rest) ⟨s'.F,D4 (D4 s'.H G (.ho (.own e3 sz vx q cs))) kk (.ho (.priv e sz v' (n+q) (xs++cs))),(d,.t,.v v')::s'.L⟩) (hE:A9 E:=by exact Ad) (hO:O:=by exact Af) (hE1:A9 E1:=by exact Ad):XG c B k m s:=by
 simp only[Prod.mk.injEq]at hs
 obtain⟨s1,s2,s3⟩:=hs
 refine E7 h (hE:=hE) (hO:=hO) λ w M S=>?_
 obtain⟨j2,C,b⟩:=EI (Hr:=c.Hr) J
 obtain⟨M',V,hle⟩:=S.st.show C
 have D:St c.w0 c.M0 w M' (HD (D4 s'.H G (.ho (.own e3 sz vx q cs)))++c.Hr):=by rw[b];exact V
 have W:Sl M' sz q vx cs:=D.sl (i:=j2) (by rw[b,List.getElem?_set_self (List.getElem?_eq_some_iff.1 C).1];rfl)
 obtain⟨j,hj,A⟩:=EI (Hr:=c.Hr) hk
 obtain⟨X,hx2⟩:=GA hx hE1
 obtain⟨v',w',l,hS⟩:=D.lD (P:=c.P) (ty:=ty) hj W ht hi hz s1 s2 h1 R hb
 rw[<-Aw6 ht Q K]at l
 exact RL.vX X hx2 l s3 (E8 (hn v') ⟨by rw[A];exact hS,λ x hx=>(S.f x hx).mono hle,S.le.trans hle⟩ U)
end
section
variable {c:Cx} {B:Exit->Act->World->Prop} {k k':List Fr} {m:Md} {s s':XS} {O:Prop} {E:List Ck} {all:Array Oper} {rest tail:List Oper} {d:Nat} {ty:TypeId} {ps:String} {af:Array Edge}
def XT(c:Cx)(B:Exit->Act->World->Prop)(k:List Fr)(all:Array Oper)(tail l:List Oper)(s:XS):Prop:= ∀w1 M,D5 c s.F s.H w1 M->RS c.P all w1 c.N (λ a'=>wpList c.P all (post c B k) tail a' w1) l s.L.d
theorem w4(n:Nat){id:Nat}{l:List Oper}(h:run c.T c.N k m s=⟨k',.code (.region id ⟨l⟩ true),s',O,E⟩)(hm:c.P.follows .mixedOrders=true)(i:Region.lexTailB .any l.toArray n=true)
  (j:XT c B k' l.toArray (l.drop n) (l.take n) s') (b:c.W.plain:=by exact True.intro) (hE:A9 E:=by exact AG rfl) (hO:O:=by exact Af):XG c B k m s:=
 C5 h hE hO λ a w ⟨h1,M,e⟩=>c.W.draw b (CW.zO n e.st hm i (λ w1 hS=>j w1 M ⟨hS,e.f,e.le⟩) a h1)
theorem ZX{op:Op}{l:List Oper}{F:List (Nat×Kn)}{H:List (Nat×HX)}{L L':XE}{gd:Option (Nat×Bool)}{W:Gd}(v:XV)(h:JG c.T c.N F H all l L ((0:Int)=0) []=⟨⟨some d,op,ty,ps,af,gd⟩::rest,L',O,E⟩)(hg:(HN all L' gd,Nat.blt d c.N)=(some W,true))
  (hp: ∀w M,D5 c F H w M->PV c.P (· =w) L'.d W.d ⟨some d,op,ty,ps,af,gd⟩ v.d) (e:XT c B k all tail rest ⟨F,H,(d,W,v)::L'⟩) (hE:A9 E:=by exact Ad) (hO:O:=by exact Af):XT c B k all tail l ⟨F,H,L⟩:=by
 simp only[Prod.mk.injEq]at hg
 intro w M b
 have:=dH (all:=all) b (post:=λ a'=>wpList c.P all (post c B k) tail a' w) (l:=l) (L:=L) (O:=(0:Int)=0) (E:=[])
 rw[h]at this
 exact(this hO hE (RS.v (M9 hg.1) (hp w M b) hg.2 (e w M b))).2.2
theorem w6(hl: ∀ops Q l a w,c.W.list ops Q l a w->wpList c.P ops Q l a w){l:List Oper}{F:List (Nat×Kn)}{H:List (Nat×HX)}{L L':XE}(h:JG c.T c.N F H all l L ((0:Int)=0) []=⟨[],L',O,E⟩)(e:XG c B k (.ops all tail) ⟨F,H,L'⟩)(hE:A9 E:=by exact Ad)(hO:O:=by exact Af):XT c B k all tail l ⟨F,H,L⟩:=by
 intro w M b
 have:=dH (all:=all) b (post:=λ a'=>wpList c.P all (post c B k) tail a' w) (l:=l) (L:=L) (O:=(0:Int)=0) (E:=[])
 rw[h]at this
 exact(this hO hE (RS.nil λ a i=>hl _ _ _ _ _ (e a w ⟨i,M,b⟩))).2.2
end
section
variable {P:Program} {C:World->Prop} {L:Env} {W:Bool} {d:Option Tmp} {ty:TypeId} {ps:String} {af:Array Edge} {gd:Option (Nat×Bool)}
end
section
variable {P:Program} {ops:Array Oper} {Q:Exit->Act->World->Prop} {N:Nat} {rest:List Oper} {L:Env} {w0 w:World} {M0 M:Mem} {Hs:List HO} {ty:TypeId} {ps:String} {af:Array Edge}
end
section st
variable {w0 w:World} {M0 M:Mem} {Hs:List HO} {k:Nat} {e:TypeId} {sz n c g:Nat} {xs:List Value}
end st
section
variable {c:Cx} {B:Exit->Act->World->Prop} {k k':List Fr} {m:Md} {s s':XS} {O:Prop} {E:List Ck} {all:Array Oper} {rest:List Oper} {d:Nat} {ty:TypeId} {ps:String} {af:Array Edge}
variable {e:TypeId} {sz g n cp:Nat} {xs:List Value}
end
end Go.Eng
