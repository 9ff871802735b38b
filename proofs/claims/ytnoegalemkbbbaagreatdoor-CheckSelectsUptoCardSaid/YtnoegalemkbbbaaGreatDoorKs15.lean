/- Lemmas for the card. -/
import Derived.Test.YtnoegalemkbbbaaGreatDoorKs14
set_option linter.unusedVariables false
set_option linter.unusedSimpArgs false
set_option maxRecDepth 100000
set_option maxRecDepth 100000
namespace Go.Eng
def EO(o:Int):Option A0->List Tf->Bool
 |_,[]=>true
 |L,x::l=>(decide (x.t.op=9)==decide (o=1))&&(decide (o=2)||decide (x.t.name=[]))&&(!decide (o=2)||(DJ x.t.name&&(L.all λ n=> !decide (x.t.name<=n))))&&EO o (some x.t.name) l
def JO:List Tf->Int->A0->(Tf->Option Int)->Option Int
 |[],_,_,_=>none
 |x::l,o,n,F=>if x.t.name=n then(F x).map (o+ ·)else JO l (o+x.size) n F
def EP:List Sp->Tf->Option Int
 |[],_=>some 0
 |s::p,x=>if x.t.op≠2\/s.part=true then none else JO x.ps 1 s.name (EP p)
def M4(a:Int):Option Int->Int
 |some o=>a+o
 |none=> -1
theorem Af3(a o:Int)(r:Option Int):M4 a (r.map (o+ ·))=M4 (a+o) r:=by
 cases r with
 |none=>rfl
 |some k=>show a+(o+k)=a+o+k;omega
theorem rL{F:Tf->Option Int}{n:A0}: ∀ {l:List Tf} {o k:Int},(∀x∈l,∀j,F x=some j->0<=j/\j<x.size)->JO l o n F=some k->o<=k/\k<o+AB l
 |[],o,k,_,h=>by cases h
 |x::l,o,k,hF,h=>by
  unfold JO at h
  rw[AB]
  split at h
  ·cases hx:F x with
   |none=>rw[hx]at h;cases h
   |some j=>
    rw[hx]at h
    have:=hF x (.head _) j hx
    have h:o+j=k:=Option.some.inj h
    omega
  ·have:=rL (λ y b=>hF y (.tail _ b)) h
   omega
theorem YW: ∀(p:List Sp) (x:Tf) (k:Int),EP p x=some k->0<=k/\k<x.size
 |[],x,k,h=>by cases h;have:=x.size_pos;omega
 |s::p,x,k,h=>by
  unfold EP at h
  split at h
  ·cases h
  ·have:=rL (λ y _ j b=>YW p y j b) h
   rw[Tf.size_eq];omega
def QE(p:List Sp)(x:Tf):Bool:=match EP p x with
 |some o=>(at' x.flat o).op==1
 |none=>false
def OK(t:Tm):List Tf->Bool
 |[x]=>if t.op=7\/t.op=8 then QE (HR t.s).1 x else true
 |_=>if t.op=7\/t.op=8 then false else true
mutual
def M5:Tf->Bool
 | .mk t ps=>GW { t with many:=len ps}&&EO t.op none ps&&OK t ps&&HS ps
def HS:List Tf->Bool
 |[]=>true
 |x::l=>M5 x&&HS l
end
theorem Af4(a b:List Tf):HS (a++b)=(HS a&&HS b):=by
 induction a with
 |nil=>simp[HS]
 |cons x a e=>rw[List.cons_append,HS,HS,e,Bool.and_assoc]
theorem rM(x:Tf):M5 x=(GW x.node&&EO x.t.op none x.ps&&OK x.t x.ps&&HS x.ps):=by cases x;rw[M5];rfl
theorem Af5{o:Int}{L:Option A0}{x:Tf}{l:List Tf}(h1:(x.t.op==9)=(o==1))(b:o=2\/x.t.name=[])(e:o=2->DJ x.t.name=true/\ ∀n,L=some n-> ¬x.t.name<=n):EO o L (x::l)=EO o (some x.t.name) l:=by
 conv=>lhs;rw[EO]
 have h:(decide (x.t.op=9)==decide (o=1))=true:=by rw[beq_iff_eq];exact h1
 have e2:(decide (o=2)||decide (x.t.name=[]))=true:=by simpa using b
 have e3:(!decide (o=2)||(DJ x.t.name&&(L.all λ n=> !decide (x.t.name<=n))))=true:=by
  by_cases ho:o=2
  ·obtain⟨i,j⟩:=e ho
   rw[i]
   cases L with
   |none=>simp
   |some n=>have:=j n U;simp[this]
  ·simp[ho]
 rw[h,e2,e3];simp
theorem Af6{o:Int}{L:Option A0}{x:Tf}{l:List Tf}(h: ¬(x.t.op==9)=(o==1)):EO o L (x::l)=false:=by
 rw[EO]
 have e:(decide (x.t.op=9)==decide (o=1))=false:=by
  rw[beq_eq_false_iff_ne];intro q;exact h q
 rw[e];rfl
theorem Af7{o:Int}{L:Option A0}{x:Tf}{l:List Tf}(h1: ¬o=2)(b: ¬x.t.name=[]):EO o L (x::l)=false:=by rw[EO];simp[h1,b]
theorem Af8{o:Int}{L:Option A0}{x:Tf}{l:List Tf}(h1:o=2)(b:DJ x.t.name=false):EO o L (x::l)=false:=by rw[EO];simp[h1,b]
theorem Af9{o:Int}{n:A0}{x:Tf}{l:List Tf}(h1:o=2)(b:x.t.name<=n):EO o (some n) (x::l)=false:=by rw[EO];simp[h1,b]
end Go.Eng
namespace Go.Proofs.YtnoegalemkbbbaaGreatDoor
open Go.Proofs.Tryz
open Go.Eng
theorem Ag0(f:Fl)(v:Value)(a:Int)(x:Tf)(z:List Tf)(M:Mem)(w:World)(hM:Sat w M)(hv:Sl M 11 f.length v (f.flatMap Tm.cells))(hb:len f<=1048576)(hs:BS f a (x::z))(N: ∀t∈f,len t.name<=1048576):
    Calls prog 66 [v,i64 a].toArray w λ e w'=>e= .returned (.bool (EO x.t.op none x.ps))/\Ext w w':=by
 have hx:=hs.node
 have hk:=hs.SD
 have hle:=hs.le
 rw[AB,Tf.size_eq]at hle
 have F:(at' f a).op=x.t.op:=by rw[hx.2.2];rfl
 have hxm:(at' f a).many=len x.ps:=by rw[hx.2.2];rfl
 have hlp:=A8 x.ps
 have hls:=LZ x.ps
 refine AH (Hr:=[]) AF func66 U ntmps66 [(0,A6 v f)] [] [.sl 0 v,I a] U (Aj hM) (fc 0 hv Tm.AS A3) (λ B O=>B7 (σ:=List Tf×List Tf×Int×Option A0×Int) (λ(p,q,i,L,k)=>⟨[(0,A6 v f)],[],[Z 0 (.sl 0 v),Z 1 (I a),Z 5 (I i),Z 6 (.v (str (L.getD []))),Z 7 (I k)]⟩) (λ(p,q,i,L,k)=>k=len p/\x.ps=p++q/\i=a+1+AB p/\EO x.t.op none x.ps=EO x.t.op L q/\(L=none↔len p=0)) (λ(p,q,i,L,k)=>q.length) ([],x.ps,a+1,none,0) U U ⟨rfl,rfl,by simp[AB],rfl,⟨λ _=>rfl,λ _=>rfl⟩⟩ ?_) U
 rintro⟨p,q,i,L,k⟩ ⟨P,b,hi,j,W⟩
 have G:=congrArg AB b
 rw[I7]at G
 have C:=congrArg len b
 rw[AO]at C
 have hl0:=A8 p
 have hq0:=A8 q
 have l:BS f i (q++z):=by
  have:=hk
  rw[b,List.append_assoc]at this
  rw[hi];exact this.skip
 refine A1 U (λ X=>?_) (λ X=>?_)<;>simp only[zb]at X
 ·cases q with
  |nil=>rw[len_nil]at C;omega
  |cons y q=>
   have l:BS f i (y::(q++z)):=l
   have J:=l.node
   have D:(at' f i).name=y.t.name:=by rw[J.2.2];rfl
   have Q:(at' f i).op=y.t.op:=by rw[J.2.2];rfl
   have hnl:=N _ (at_mem J.1 J.2.1)
   have R:=SE l
   have hys:=y.size_pos
   rw[AB]at G
   refine B9 8 U zeroValue52 U λ b8=>?_
   refine FX U BK Ac (FY U ?_)
   refine A1 U (λ E=>?_) (λ E=>?_)<;>simp only[zb]at E<;>rw[Q,F,D]at E
   ·refine A2 O U U U λ w M s=>⟨?_,s.st.low⟩
    have e:EO x.t.op none x.ps=false:=by
     rw[j]
     rcases E with h|h
     · exact Af6 h
     · exact Af7 h.1 h.2
    rw[e];rfl
   ·refine AJ U call125 U U (λ _ w M s=>X1 (at' f i).name w Aa) U ?_
    refine A1 U (λ A=>?_) (λ A=>?_)<;>simp only[zb]at A<;>rw[F,D]at A
    ·refine A2 O U U U λ w M s=>⟨?_,s.st.low⟩
     have e:EO x.t.op none x.ps=false:=by
      rw[j]
      obtain⟨q1,K⟩:=A
      rcases K with K|⟨K,q3⟩
      · exact Af8 q1 K
      · cases L with
        |none=>have:=W.1 U;omega
        |some n=>exact Af9 q1 (rB q3)
     rw[e];rfl
    ·refine AJ U call64 U U (λ _ w M s=>fR f v i M w s.st.sat (s.sl 0 U) hb Aa Aa) U ?_
     have H:EO x.t.op none x.ps=EO x.t.op (some y.t.name) q:=by
      rw[j]
      refine Af5 E.1 (by rcases Decidable.em (x.t.op=2)with h|h;exact .inl h;exact .inr (E.2.resolve_left h)) λ ho=>?_
      rcases A with A|⟨A,h5⟩
      · exact absurd ho A
      · refine⟨A,λ n hn=>?_⟩
        subst hn
        have hp1: ¬len p=0:=λ e=>by have:=W.2 e;cases this
        have h6:=h5.resolve_left Aa
        exact rC h6.1 h6.2
     have S:(some y.t.name=none↔len (p++[y])=0):=by
      refine⟨(λ e=>nomatch e),λ e=>?_⟩
      rw[AO]at e
      have e2:len p+1=0:=e
      omega
     have T:GV f i=a+1+AB (p++[y]):=by rw[R,hi,I7,AB,AB];omega
     have V:k+1=len (p++[y]):=by rw[AO,P];rfl
     refine AX (p++[y],q,GV f i,some y.t.name,k+1) U (by rw[D];rfl) ⟨V,by rw[b];simp,T,H,S⟩ (by show q.length<(y::q).length;simp)
 ·have hq:q=[]:=by
   cases q with
   |nil=>rfl
   |cons y q=>rw[AL]at C;have:=A8 q;omega
  subst hq
  refine A2 O U U U λ w M s=>⟨?_,s.st.low⟩
  rw[j];cases L<;>rfl
theorem fT: ∀(p:List Sp) (f:Fl) (v u:Value) (a:Int) (x:Tf) (z:List Tf) (M:Mem) (w:World),Sat w M->Sl M 11 f.length v (f.flatMap Tm.cells)->Sl M 3 p.length u (p.flatMap Sp.cells)->len f<=1048576->len p<=1048576->BS f a (x::z)->
    Calls prog 68 [v,i64 a,u].toArray w λ e w'=>e= .returned (i64 (M4 a (EP p x)))/\Ext w w':=by
 intro p
 induction p with
 |nil=>
  intro f v u a x z M w J K hu L N hs
  refine AH (Hr:=[]) AF func68 U ntmps68 [(0,A6 v f),(1,kn u 3 [] Sp.cells)] [] [.sl 0 v,I a,.sl 1 u] U (Aj J) (fc 0 K Tm.AS (fc 1 hu Sp.AS A3)) (λ B D=>?_) U
  refine A1 U (λ h=>?_) (λ h=>?_)<;>simp only[zb]at h
  ·exact A2 D U U U λ w M b=>⟨by show Ending.returned (i64 a)= .returned (i64 (a+0));rw[Int.add_zero],b.st.low⟩
  ·exfalso;exact h U
 |cons s p W=>
  intro f v u a x z M w J K hu L N hs
  have hx:=hs.node
  have X:=hs.SD
  have hle:=hs.le
  rw[AB,Tf.size_eq]at hle
  have O:(at' f a).op=x.t.op:=by rw[hx.2.2];rfl
  have hxm:(at' f a).many=len x.ps:=by rw[hx.2.2];rfl
  have hlp:=A8 x.ps
  have hls:=LZ x.ps
  have hp0:=A8 p
  have hlc:len (s::p)=len p+1:=AL s p
  have E:at' (s::p) 0=s:=rfl
  refine AH (Hr:=[]) AF func68 U ntmps68 [(0,A6 v f),(1,kn u 3 (s::p) Sp.cells)] [] [.sl 0 v,I a,.sl 1 u] U (Aj J) (fc 0 K Tm.AS (fc 1 hu Sp.AS A3)) (λ B D=>?_) U
  refine A1 U (λ h=>?_) (λ h=>?_)<;>simp only[zb]at h
  ·exfalso;omega
  refine A1 U (λ j=>?_) (λ j=>?_)<;>simp only[zb]at j<;>rw[O,E]at j
  ·have e:EP (s::p) x=none:=by unfold EP;rw[if_pos j]
   exact A2 D U U U λ w M b=>⟨by rw[e];rfl,b.st.low⟩
  have eL:EP (s::p) x=JO x.ps 1 s.name (EP p):=by rw[EP,if_neg (by rintro(q|q);exact q j.1;rw[j.2]at q;cases q)]
  refine B7 (σ:=List Tf×List Tf×Int×Int) (λ(d,q,i,k)=>⟨[(0,A6 v f),(1,kn u 3 (s::p) Sp.cells)],[],[Z 0 (.sl 0 v),Z 1 (I a),Z 2 (.sl 1 u),Z 7 (I i),Z 8 (I k)]⟩) (λ(d,q,i,k)=>k=len d/\x.ps=d++q/\i=a+(1+AB d)/\EP (s::p) x=JO q (1+AB d) s.name (EP p)) (λ(d,q,i,k)=>q.length) ([],x.ps,a+1,0) U U ⟨rfl,rfl,by simp[AB],by rw[eL];simp[AB]⟩ ?_
  rintro⟨d,q,i,k⟩ ⟨P,n,hi,A⟩
  have F:=congrArg AB n
  rw[I7]at F
  have C:=congrArg len n
  rw[AO]at C
  have hl0:=A8 d
  have hq0:=A8 q
  have l:BS f i (q++z):=by
   have:=X
   rw[n,List.append_assoc]at this
   rw[hi,<-Int.add_assoc];exact this.skip
  refine A1 U (λ V=>?_) (λ V=>?_)<;>simp only[zb]at V
  ·cases q with
   |nil=>rw[len_nil]at C;omega
   |cons y q=>
    have l:BS f i (y::(q++z)):=l
    have hy:=l.node
    have Q:(at' f i).name=y.t.name:=by rw[hy.2.2];rfl
    have R:=SE l
    have hys:=y.size_pos
    rw[AB]at F
    refine FX U BK Ac (FY U ?_)
    refine A1 U (λ G=>?_) (λ G=>?_)<;>simp only[zb]at G<;>rw[Q,E]at G
    ·refine ET (gd:=none) 9 1 (len (s::p)) U U U ⟨.i64,_,rfl,AG U⟩ U underlying61 sizeOf105 Aa U λ v9=>?_
     rw[fJ]
     refine AJ U call68 U U (λ _ w M b=>W f v v9 i y (q++z) M w b.st.sat (b.sl 0 U) (b.sl 9 U) L Aa l) U ?_
     refine A2 D U U U λ w M b=>⟨?_,b.st.low⟩
     have e:M4 a (EP (s::p) x)=M4 i (EP p y):=by rw[A,JO,if_pos G,Af3,hi]
     rw[e];rfl
    ·refine AJ U call64 U U (λ _ w M b=>fR f v i M w b.st.sat (b.sl 0 U) L Aa Aa) U ?_
     have S:GV f i=a+(1+AB (d++[y])):=by rw[R,hi,I7,AB,AB];omega
     have T:k+1=len (d++[y]):=by rw[AO,P];rfl
     have H:EP (s::p) x=JO q (1+AB (d++[y])) s.name (EP p):=by
      rw[A,JO,if_neg G,I7,AB,AB];congr 1;omega
     exact AX (d++[y],q,GV f i,k+1) U U ⟨T,by rw[n];simp,S,H⟩ (by show q.length<(y::q).length;simp)
  ·have hq:q=[]:=by
    cases q with
    |nil=>rfl
    |cons y q=>rw[AL]at C;have:=A8 q;omega
   subst hq
   refine A2 D U U U λ w M b=>⟨?_,b.st.low⟩
   rw[A];rfl
end Go.Proofs.YtnoegalemkbbbaaGreatDoor
namespace Go.Eng
theorem Ag1{f:Fl}{i o:Int}{y:Tf}{z:List Tf}(h:BS f i (y::z))(h0:0<=o)(h1:o<y.size):at' f (i+o)=at' y.flat o:=by
 obtain⟨hi,pre,post,rfl,rfl⟩:=h
 have hl:len y.flat=y.size:=by unfold len;rw[Tf.D5]
 rw[show len pre+o=o+len pre by omega,rG _ _ h0,AN,List.append_assoc,mQ _ _ h0 Aa]
theorem Ag2{t:Tm}(h:GW t=true)(ho:t.op=7\/t.op=8):t.many=1:=by
 unfold GW JN at h
 rw[if_neg Aa,if_neg Aa,if_neg Aa,if_neg Aa,if_neg Aa,if_neg Aa,if_pos ho]at h
 simp only[Bool.and_eq_true,beq_iff_eq]at h
 exact h.2.1
theorem Ag3(s:A0):len (HR s).1<=20:=Go.Proofs.YtnoegalemkbbbaaGreatDoor.fS s
theorem Ag4{u:Tf}{us:List Tf}(h1:GW u.node=true)(b:EO u.t.op none u.ps=true)(e:OK u.t u.ps=true):HS (u::us)=HS (u.ps++us):=by
 rw[HS,rM,h1,b,e,Af4];simp
structure Tf.fU (x:Tf):Prop where
 zm:x.zm
 name:x.t.name=[]
 op:x.t.op≠9
 all:M5 x=true
end Go.Eng
namespace Go.Proofs.YtnoegalemkbbbaaGreatDoor
open Go.Proofs.Tryz
open Go.Eng
theorem Ag5(f:Fl)(v:Value)(M:Mem)(w:World)(hM:Sat w M)(hv:Sl M 11 f.length v (f.flatMap Tm.cells))(V:len f<=1048576)(D: ∀t∈f,len t.name<=1048576/\len t.s<=1048576/\len t.c.s<=1048576):
    Calls prog 20 [v].toArray w λ e w'=>(∃b:Bool,e= .returned (.bool b)/\(b=true-> ∃x:Tf,f=x.flat/\x.fU))/\Ext w w':=by
 have hl0:=A8 f
 refine AH (Hr:=[]) AF func20 U ntmps20 [(0,A6 v f)] [] [.sl 0 v] U (Aj hM) (fc 0 hv Tm.AS A3) (λ B T=>AJ U call64 U U (λ _ w M k=>fR f v 0 M w k.st.sat (k.sl 0 U) V Aa Aa) U ?_) U
 refine A1 U (λ n=>?_) (λ n=>?_)<;>simp only[zb]at n
 ·exact A2 T rfl rfl rfl λ w M k=>⟨⟨false,rfl,λ h=>by cases h⟩,k.st.low⟩
 have W:f≠[]:=λ e=>by subst e;exact n.1.1.1 rfl
 obtain⟨x,hz,A⟩:=pQ n.2 W
 have X:x.t.name=[]:=by have:=n.1.1.2;rw[A,Tf.CU]at this;exact this
 have hop:x.t.op≠9:=by have:=n.1.2;rw[A,Tf.CU]at this;exact this
 have hsx:BS f 0 [x]:=by rw[A];exact BS.top x
 have hlx:len f=x.size:=by rw[A];unfold len;rw[Tf.D5]
 refine B7 (σ:=Int×List Tf) (λ(i,ts)=>⟨[(0,A6 v f)],[],[Z 0 (.sl 0 v),Z 3 (I i)]⟩) (λ(i,ts)=>BS f i ts/\i+AB ts=len f/\M5 x=HS ts) (λ(i,ts)=>AB ts) (0,[x]) U U ⟨hsx,by rw[hlx];simp[AB],by simp[HS]⟩ ?_
 rintro⟨i,ts⟩ ⟨E,K,L⟩
 have hi0:=E.1
 refine A1 U (λ N=>?_) (λ N=>?_)<;>simp only[zb]at N
 ·cases ts with
  |nil=>rw[show AB []=0 from rfl]at K;omega
  |cons u us=>
   have hu:=E.node
   have C:=at_mem hu.1 hu.2.1
   have O:(at' f i).op=u.t.op:=by rw[hu.2.2];rfl
   have hus:(at' f i).s=u.t.s:=by rw[hu.2.2];rfl
   have hum:(at' f i).many=len u.ps:=by rw[hu.2.2];rfl
   have j:=E.SD
   have hsz:=u.size_pos
   have J:=I7 u.ps us
   have hse:=u.size_eq
   rw[AB]at K
   refine AJ U call65 U U (λ _ w M k=>Af1 (at' f i) w M k.st.sat (D _ C).2.1 (D _ C).2.2) U ?_
   refine AJ U call66 U U (λ _ w M k=>Ag0 f v i u us M w k.st.sat (k.sl 0 U) V E λ t ht=>(D t ht).1) U ?_
   refine A1 U (λ F=>?_) (λ F=>?_)<;>simp only[zb]at F
   ·exact A2 T rfl rfl rfl λ w M k=>⟨⟨false,rfl,λ h=>by cases h⟩,k.st.low⟩
   have P:=F.1
   refine CQ 1 (λ s=>OK u.t u.ps=true/\s=⟨[(0,A6 v f)],[],[Z 0 (.sl 0 v),Z 3 (I i)]⟩) U U (λ z=>?_) (λ z=>?_) ?_
   ·simp only[zb]at z
    have G:=Ag2 P z
    obtain⟨y,hy⟩: ∃y,u.ps=[y]:=by
     match hps:u.ps,hum with
     |[],h=>rw[h]at G;cases G
     |[y],_=>exact⟨y,rfl⟩
     |_::_::l,h=>rw[h]at G;simp only[AL]at G;have:=A8 l;omega
    rw[hy]at j
    have j:BS f (i+1) (y::us):=j
    have hky:=j.le
    rw[AB]at hky
    have hus1:=A8 (HR (at' f i).s).1
    have hpl2:=Ag3 (at' f i).s
    have Q:OK u.t u.ps=QE (HR u.t.s).1 y:=by
     rw[hy]
     show(if u.t.op=7\/u.t.op=8 then QE (HR u.t.s).1 y else true)=_
     rw[if_pos (by rw[<-O];exact z)]
    obtain⟨r,hr⟩: ∃r,r=EP (HR (at' f i).s).1 y:=⟨_,rfl⟩
    have R: ∀o,r=some o->0<=o/\o<y.size:=λ o h=>YW _ y o (by rw[<-hr];exact h)
    have hlv:M4 (i+1) r<len f:=by
     cases r with
     |none=>show(-1:Int)<_;omega
     |some o=>have:=R o U;show i+1+o<_;omega
    refine FM (λ v:Value=>.tu [.sl 6 v,.v (.bool (HR (at' f i).s).2)]) [6] (Fg:=λ v=>[(0,kn v 3 (HR (at' f i).s).1 Sp.cells)]) (pu:=λ _=>True) U U call67 U (λ w M k=>rJ (at' f i).s k.st.sat (D _ C).2.1) λ v6 _=>?_
    refine AJ U call68 U U (λ _ w M k=>(by have q:=fT (HR (at' f i).s).1 f v v6 (i+1) y us M w k.st.sat (k.sl 0 U) (k.sl 6 U) V Aa j;rw[<-hr]at q;exact q:Calls prog 68 [v,i64 (i+1),v6].toArray w λ e w'=>e= .returned (i64 (M4 (i+1) r))/\Ext w w')) U ?_
    refine A1 U (λ H=>?_) (λ H=>?_)<;>simp only[zb]at H
    ·exact A2 T rfl rfl rfl λ w M k=>⟨⟨false,rfl,λ h=>by cases h⟩,k.st.low⟩
    ·refine AT _ U U ⟨?_,rfl⟩
     rw[Q]
     unfold QE
     rw[<-hus,<-hr]
     cases r with
     |none=>exact absurd H.1 (by show ¬ ¬((-1:Int)<0);omega)
     |some o=>
      have S:=R o U
      have h5:=H.2
      rw[show M4 (i+1) (some o)=i+1+o from rfl,Ag1 j S.1 S.2]at h5
      show((at' y.flat o).op==1)=true
      rw[beq_iff_eq];exact h5
   ·simp only[zb]at z
    refine AT _ U U ⟨?_,rfl⟩
    rw[O]at z
    unfold OK
    split
    · rw[if_neg Aa]
    · rw[if_neg Aa]
   rintro s ⟨hld,rfl⟩
   refine AX (i+1,u.ps++us) U U ⟨j,by rw[J];omega,?_⟩ (by show AB (u.ps++us)<AB (u::us);rw[J,AB];omega)
   rw[L]
   exact Ag4 (by rw[<-hu.2.2];exact P) F.2 hld
 ·have hts:ts=[]:=by
   cases ts with
   |nil=>rfl
   |cons u us=>rw[AB]at K;have:=u.size_pos;omega
  subst hts
  exact A2 T U U U λ w M k=>⟨⟨true,rfl,λ _=>⟨x,A,hz,X,hop,by rw[L];rfl⟩⟩,k.st.low⟩
end Go.Proofs.YtnoegalemkbbbaaGreatDoor
namespace Go.Eng
def IM(n:Int)(k:Nat):Bool:=n.toNat/2^k%2==1
abbrev C2(u:Tm):List Value:=[i64 u.n,i64 u.c.kind,i64 u.c.many,str u.c.name,str u.c.s,.bool u.c.neg,i64 u.c.e]
theorem YX(u:Tm):(C2 u).length=7:=rfl
theorem rN(x:Tm): ∀u∈C2 x,u.oneCell'=true:=by intro u hu;simp[C2]at hu;rcases hu with rfl|rfl|rfl|rfl|rfl|rfl|rfl<;>rfl
end Go.Eng
namespace Go.Proofs.YtnoegalemkbbbaaGreatDoor
open Go.Proofs.Tryz
open Go.Eng
theorem Ag6(n:Int)(k:Nat)(w:World)(h0:0<=n)(h1:n<=1048576)(s:k<=5):Calls prog 100 [i64 n,i64 k].toArray w λ e w'=>e= .returned (.bool (IM n k))/\Ext w w':=by
 refine AH AF func100 U ntmps100 [] [] [I n,I k] U (BE w) A3 (λ B h=>B7 (σ:=Nat×Int) (λ(j,m)=>⟨[],[],[Z 0 (I m),Z 1 (I k),Z 5 (I j)]⟩) (λ(j,m)=>j<=k/\m=((n.toNat/2^j:Nat):Int)/\0<=m/\m<=1048576) (λ(j,m)=>k-j) (0,n) U U ⟨Aa,by simp;omega,h0,h1⟩ ?_) U
 rintro⟨j,m⟩ ⟨y,hm,i,l⟩
 refine A1 U (λ b=>?_) (λ b=>?_)<;>simp only[zb]at b
 ·refine AX (j+1,m/2) U U ⟨Aa,?_,Aa,Aa⟩ (by show k-(j+1)<k-j;omega)
  rw[hm,Nat.pow_succ,<-Nat.div_div_eq_div_mul];simp
 ·have e:j=k:=by omega
  subst e
  refine A2 h U U U λ w M q=>⟨?_,q.st.low⟩
  have e2:IM n j=(m%2==1):=by
   unfold IM;rw[hm,Bool.eq_iff_iff,beq_iff_eq,beq_iff_eq];omega
  rw[e2];rfl
end Go.Proofs.YtnoegalemkbbbaaGreatDoor
namespace Go.Eng
open Go.RowKit
def IN(a b:Int):Int:=if a<b then-1 else if b<a then 1 else 0
def SI(a b:A0):Int:=if Op.bytesLess a b=true then-1 else if Op.bytesLess b a=true then 1 else 0
def SJ(a b:Nd):Int:=if a.s=[]\/b.s=[]then IN (len a.s) (len b.s)else if IN (len a.s+a.e) (len b.s+b.e)≠0 then IN (len a.s+a.e) (len b.s+b.e)else SI a.s b.s
def SK(a b:Nd):Int:=if a.neg=true/\b.neg=false then-1 else if b.neg=true/\a.neg=false then 1 else if a.neg=true then SJ b a else SJ a b
def SL(a b:Nd):Int:=if IN a.kind b.kind≠0 then IN a.kind b.kind else if a.kind=3 then SK a b else if a.kind=4 then SI a.s b.s else 0
def IP(how c:Int):Bool:=
 if how=0 then decide (c=0)else if how=1 then decide (c≠0)else if how=2 then decide (c<0)else if how=3 then decide (c<=0)else if how=4 then decide (0<c)else decide (0<=c)
def HC(a:Tm)(x:Nd):Bool:=IP a.n (SL x a.c)
def N7(mask:Int)(l:List Tm)(x:Nd):Bool:=decide (x.kind<5)&&GI x&&IM mask x.kind.toNat&&l.all λ a=>HC a x
def IA(n:Int):Int:=if n=0 then 1 else if n=1 then 0 else if n=2 then 5 else if n=3 then 4 else if n=4 then 3 else if n=5 then 2 else 0
def HT(s:A0):A0:=Lib.trimRightS s [57]
def OL(n:Int):A0:=List.replicate n.toNat 57
def OM(s:A0):A0:=if len (HT s)=0 then [49]++BC (len s-len (HT s))else Eng.sub s 0 (len (HT s)-1)++[(A4 s (len (HT s)-1)+1).toNat.toUInt8]++BC (len s-len (HT s))
def ON(s:A0):A0:=Eng.sub s 0 (len (BG s)-1)++[(A4 s (len (BG s)-1)-1).toNat.toUInt8]++OL (len s-len (BG s))
def OO(n:Nd)(above:Bool):Int:=max (len n.s+n.e-(if n.neg=above/\n.s=[49]then 1 else 0)-100) (-1000)
def OP(n:Nd)(above:Bool):Nd×Int:=
 if n.s=[]then CH (!above) [49] (-1000)
 else CH n.neg ((if n.neg=above then ON else OM) (n.s++BC (n.e-OO n above))) (OO n above)
def N8(n:Nd)(above:Bool):Nd×Bool:=((OP n above).1,decide ((OP n above).2=0))
def D9(k:Int):Nd:=⟨k,0,[],[],false,0⟩
def M6(n:Nd)(above:Bool):List Nd:=if(N8 n above).2=true then [(N8 n above).1]else []
def N9(a:Tm):List Nd:=if a.c.kind=3 then [a.c]++M6 a.c true++M6 a.c false else []
def HE(a:Tm):List Nd:=if a.c.kind=4 then [a.c,⟨4,0,[],a.c.s++[0],false,0⟩]else []
def DR(l:List Tm):List Nd:=[D9 0,D9 1,D9 2,D9 3]++l.flatMap N9++[D9 4]++l.flatMap HE
def IB(mask:Int)(l:List Tm):Nd×Bool:=match(DR l).find? (N7 mask l)with
 |some x=>(x,true)
 |none=>(D9 0,false)
theorem rO(a b:Int):(a<b/\IN a b= -1)\/(b<a/\IN a b=1)\/(a=b/\IN a b=0):=by
 unfold IN
 rcases Int.lt_trichotomy a b with h|h|h
 ·exact .inl ⟨h,if_pos h⟩
 ·exact .inr (.inr ⟨h,by rw[if_neg Aa,if_neg Aa]⟩)
 ·exact .inr (.inl ⟨h,by rw[if_neg Aa,if_pos h]⟩)
theorem Ag7{a b:A0}(h:(!(Op.bytesLess a b||a==b))=true):Op.bytesLess b a=true:=by
 rw[Go.Proofs.bytesLess_eq]at h ⊢
 simp only[Bool.not_eq_true',Bool.or_eq_false_iff,decide_eq_false_iff_not,beq_eq_false_iff_ne]at h
 rw[decide_eq_true_eq]
 exact Decidable.byContradiction λ q=>h.2 (List.le_antisymm (List.not_lt.1 q) (List.not_lt.1 h.1))
theorem Ag8{a b:A0}(h1: ¬Op.bytesLess a b=true)(h:(!(Op.bytesLess a b||a==b))=false): ¬Op.bytesLess b a=true:=by
 simp only[Bool.not_eq_false',Bool.or_eq_true,beq_iff_eq]at h
 rcases h with h|h
 ·exact absurd h h1
 ·rw[<-h];rw[h];rw[h]at h1;exact h1
theorem rP(x:Int):(x != 0)=decide (x≠0):=by by_cases h:x=0<;>simp[h]
theorem Ag9(a b:Int): -1<=IN a b/\IN a b<=1:=by rcases rO a b with h|h|h<;>omega
end Go.Eng
namespace Go.Proofs.YtnoegalemkbbbaaGreatDoor
open Go.Proofs.Tryz
open Go.Eng
theorem rQ(a:Int)(w:World):Calls prog 338 [i64 a].toArray w λ e w'=>e= .returned (.bool false)/\Ext w w':=AH AF func338 U ntmps338 [] [] [I a] U (BE w) A3 (λ B b=>A2 b U U U λ w M h=>⟨by simp;rfl,h.st.low⟩) U
theorem rR(a:A0)(w:World):Calls prog 247 [str a].toArray w λ e w'=>e= .returned (.bool false)/\Ext w w':=AH AF func247 U ntmps247 [] [] [.v (str a)] U (BE w) A3 (λ B b=>A2 b U U U λ w M h=>⟨by simp;rfl,h.st.low⟩) U
theorem fV(a b:Int)(w:World):Calls prog 312 [i64 a,i64 b].toArray w λ e w'=>e= .returned (i64 (IN a b))/\Ext w w':=by
 refine AH AF func312 U ntmps312 [] [] [I a,I b] U (BE w) A3 (λ B j=>AJ U call338 U U (λ _ w M i=>rQ a w) U <|AJ U call338 U U (λ _ w M i=>rQ b w) U <|A1 rfl (λ h=>by cases h) (λ _=>A1 rfl (λ h=>by cases h) (λ _=>?_))) U
 refine A1 U (λ h1=>?_) (λ h1=>?_)<;>simp only[zb]at h1
 ·exact A2 j U U U λ w M i=>⟨by unfold IN;rw[if_pos h1];rfl,i.st.low⟩
 refine A1 U (λ k=>?_) (λ k=>?_)<;>simp only[zb]at k
 ·exact A2 j U U U λ w M i=>⟨by unfold IN;rw[if_neg Aa,if_pos k];rfl,i.st.low⟩
 exact A2 j U U U λ w M i=>⟨by unfold IN;rw[if_neg Aa,if_neg Aa];rfl,i.st.low⟩
theorem rS(a b:A0)(w:World):Calls prog 314 [str a,str b].toArray w λ e w'=>e= .returned (i64 (SI a b))/\Ext w w':=by
 refine AH AF func314 U ntmps314 [] [] [.v (str a),.v (str b)] U (BE w) A3 (λ B k=>AJ U call247 U U (λ _ w M i=>rR a w) U <|AJ U call247 U U (λ _ w M i=>rR b w) U <|A1 rfl (λ h=>by cases h) (λ _=>A1 rfl (λ h=>by cases h) (λ _=>A1 U (λ h1=>?_) (λ h1=>?_)))) U
 ·exact A2 k U U U λ w M i=>⟨by unfold SI;rw[if_pos h1];rfl,i.st.low⟩
 have j: ¬Op.bytesLess a b=true:=by rw[h1];decide
 refine A1 U (λ l=>?_) (λ l=>?_)
 ·exact A2 k U U U λ w M i=>⟨by unfold SI;rw[if_neg j,if_pos (Ag7 l)];rfl,i.st.low⟩
 exact A2 k U U U λ w M i=>⟨by unfold SI;rw[if_neg j,if_neg (Ag8 j l)];rfl,i.st.low⟩
theorem rT(a b:Nd)(w:World)(q:len a.s<=1048576/\ -1048576<=a.e/\a.e<=1048576)(y:len b.s<=1048576/\ -1048576<=b.e/\b.e<=1048576):
   Calls prog 339 [ES a,ES b].toArray w λ e w'=>e= .returned (i64 (SJ a b))/\Ext w w':=by
 have l:=A8 a.s
 have n:=A8 b.s
 have ho:=Ag9 (len a.s+a.e) (len b.s+b.e)
 refine AH AF func339 U ntmps339 [] [] [D1 a,D1 b] U (BE w) A3 (λ B j=>BM 2 U U U λ z=>BM 3 U U U λ A=>?_) U
 refine A1 U (λ h1=>?_) (λ h1=>?_)<;>simp only[zb]at h1
 ·exact AJ U call312 U U (λ _ w M h=>fV (len a.s) (len b.s) w) U <|A2 j U U U λ w M h=>⟨by unfold SJ;rw[if_pos h1];rfl,h.st.low⟩
 have i: ¬(a.s=[]\/b.s=[]):=by simpa using h1
 refine AJ U call312 U U (λ _ w M h=>fV (len a.s+a.e) (len b.s+b.e) w) U ?_
 refine A1 U (λ k=>?_) (λ k=>?_)<;>simp only[zb]at k
 ·exact A2 j U U U λ w M h=>⟨by unfold SJ;rw[if_neg i,if_pos k];rfl,h.st.low⟩
 exact AJ U call314 U U (λ _ w M h=>rS a.s b.s w) U <|A2 j U U U λ w M h=>⟨by unfold SJ;rw[if_neg i,if_neg Aa];rfl,h.st.low⟩
theorem Ah0(a b:Nd)(w:World)(q:len a.s<=1048576/\ -1048576<=a.e/\a.e<=1048576)(y:len b.s<=1048576/\ -1048576<=b.e/\b.e<=1048576):
   Calls prog 313 [ES a,ES b].toArray w λ e w'=>e= .returned (i64 (SK a b))/\Ext w w':=by
 refine AH AF func313 U ntmps313 [] [] [D1 a,D1 b] U (BE w) A3 (λ B k=>BM 2 U U U λ z=>BM 3 U U U λ A=>A1 U (λ h1=>?_) (λ h1=>?_)) U
 ·exact A2 k U U U λ w M h=>⟨by unfold SK;rw[if_pos (by simpa using h1)];rfl,h.st.low⟩
 have i: ¬(a.neg=true/\b.neg=false):=by simpa using h1
 refine A1 U (λ l=>?_) (λ l=>?_)
 ·exact A2 k U U U λ w M h=>⟨by unfold SK;rw[if_neg i,if_pos (by simpa using l)];rfl,h.st.low⟩
 have j: ¬(b.neg=true/\a.neg=false):=by simpa using l
 refine A1 U (λ n=>?_) (λ n=>?_)
 ·exact AJ U call339 U U (λ _ w M h=>rT b a w y q) U <|A2 k U U U λ w M h=>⟨by unfold SK;rw[if_neg i,if_neg j,if_pos n];rfl,h.st.low⟩
 exact AJ U call339 U U (λ _ w M h=>rT a b w q y) U <|A2 k U U U λ w M h=>⟨by unfold SK;rw[if_neg i,if_neg j,if_neg (by rw[n];decide)];rfl,h.st.low⟩
abbrev IQ(a:Nd):Prop:=len a.s<=1048576/\ -1048576<=a.e/\a.e<=1048576
theorem Ah1(a b:Nd)(v u:Value)(w:World)(M:Mem)(z:Sat w M)(A:(kn v 6 [a] Nd.cells).ok M)(hu:(kn u 6 [b] Nd.cells).ok M)(C:IQ a)(D:IQ b)(J:a.kind<5):
   Calls prog 294 [v,u].toArray w λ e w'=>e= .returned (i64 (SL a b))/\Ext w w':=by
 refine AH (Hr:=[]) AF func294 U ntmps294 [(0,kn v 6 [a] Nd.cells),(1,kn u 6 [b] Nd.cells)] [] [.sl 0 v,.sl 1 u] U (Aj z) (AD A (AD hu A3)) (λ B n=>?_) U
 have E:len [a]=1:=rfl
 have F:len [b]=1:=rfl
 have j:at' [a] 0=a:=rfl
 have G:at' [b] 0=b:=rfl
 refine FX U BK Ac <|H4 U call312 U U (λ _ w M i=>fV a.kind b.kind w) U <|FY U ?_
 refine A1 U (λ h1=>?_) (λ h1=>?_)<;>simp only[zb]at h1
 ·exact A2 n U U U λ w M i=>⟨by unfold SL;rw[if_pos h1];rfl,i.st.low⟩
 have H:a.kind=b.kind:=by rcases rO a.kind b.kind with h|h|h<;>omega
 refine A1 U (λ k=>?_) (λ k=>?_)<;>simp only[zb]at k<;>rw[j]at k
 ·exact FX U BK Ac <|H4 U call313 U U (λ _ w M i=>Ah0 a b w C D) U <|FY U <|A2 n U U U λ w M i=>⟨by unfold SL;rw[if_neg Aa,if_pos k];rfl,i.st.low⟩
 refine A1 U (λ l=>?_) (λ l=>?_)<;>simp only[zb]at l<;>rw[j]at l
 ·exact FX U BK Ac <|H4 U call314 U U (λ _ w M i=>rS a.s b.s w) U <|FY U <|A2 n U U U λ w M i=>⟨by unfold SL;rw[if_neg Aa,if_neg k,if_pos l];rfl,i.st.low⟩
 refine A1 U (λ q=>?_) (λ q=>?_)<;>simp only[zb]at q<;>rw[j]at q
 ·omega
 refine A1 U (λ y=>?_) (λ y=>?_)<;>simp only[zb]at y<;>rw[j]at y
 ·omega
 exact A2 n U U U λ w M i=>⟨by unfold SL;rw[if_neg Aa,if_neg k,if_neg l];rfl,i.st.low⟩
abbrev fW(a:Tm):XV:=.ag [I a.n,I a.c.kind,I a.c.many,.v (str a.c.name),.v (str a.c.s),.v (.bool a.c.neg),I a.c.e]
abbrev QF(a:Tm):Value:=.agg (i64 a.n::a.c.cells).toArray
theorem Ah2(a:Tm)(x:Nd)(w:World)(M:Mem)(q:Sat w M)(s:IQ a.c)(hx:IQ x)(y:x.kind<5):
   Calls prog 270 [QF a,ES x].toArray w λ e w'=>e= .returned (.bool (HC a x))/\Ext w w':=by
 refine AH (Hr:=[]) AF func270 U ntmps270 [] [] [fW a,D1 x] U (Aj q) A3 (λ B i=>BM 2 U U U λ A=>BM 3 U U U λ C=>BH 7 [x] Nd.cells 6 46 Nd.AS U U Ah U λ z=>BH 10 [a.c] Nd.cells 6 46 Nd.AS U U Ah U λ v10=>AJ U call294 U U (λ _ w M b=>Ah1 x a.c z v10 w M b.st.sat (b.f.get (k:=7) U) (b.f.get (k:=10) U) hx s y) U ?_) U
 refine A1 U (λ h1=>?_) (λ h1=>?_)<;>simp only[zb]at h1
 ·exact A2 i U U U λ w M b=>⟨by unfold HC IP;rw[if_pos h1];rfl,b.st.low⟩
 refine A1 U (λ h=>?_) (λ h=>?_)<;>simp only[zb]at h
 ·exact A2 i U U U λ w M b=>⟨by unfold HC IP;rw[if_neg h1,if_pos h];rw[<-rP];rfl,b.st.low⟩
 refine A1 U (λ j=>?_) (λ j=>?_)<;>simp only[zb]at j
 ·exact A2 i U U U λ w M b=>⟨by unfold HC IP;rw[if_neg h1,if_neg h,if_pos j];rfl,b.st.low⟩
 refine A1 U (λ l=>?_) (λ l=>?_)<;>simp only[zb]at l
 ·exact A2 i U U U λ w M b=>⟨by unfold HC IP;rw[if_neg h1,if_neg h,if_neg j,if_pos l];rfl,b.st.low⟩
 refine A1 U (λ n=>?_) (λ n=>?_)<;>simp only[zb]at n
 ·exact A2 i U U U λ w M b=>⟨by unfold HC IP;rw[if_neg h1,if_neg h,if_neg j,if_neg l,if_pos n];rfl,b.st.low⟩
 exact A2 i U U U λ w M b=>⟨by unfold HC IP;rw[if_neg h1,if_neg h,if_neg j,if_neg l,if_neg n];rfl,b.st.low⟩
end Go.Proofs.YtnoegalemkbbbaaGreatDoor
namespace Go.Eng
open Go.RowKit
def IS(l:Fl)(i:Int):Fl:=l.set i.toNat { at' l i with many:=(at' l i).many+1}
def F0(l:Fl)(i:Int)(a:Tm):Fl:=(IS l i).take (i+(at' l i).many+1).toNat++({ AV 9 with n:=a.n,c:=a.c}:Tm)::(IS l i).drop (i+(at' l i).many+1).toNat
end Go.Eng
namespace Go.Proofs.YtnoegalemkbbbaaGreatDoor
open Go.Proofs.Tryz
open Go.Eng Go.RowKit
theorem Ah3{w0 i:World}{M0 M:Mem}{Rs:List HO}{v u:Value}{t:Tf}{p:List Sp}{a:Tm}(hS:St w0 M0 i M Rs)(hl:(A6 v t.flat).ok M)(hu:(kn u 3 p Sp.cells).ok M)(q:len t.flat<=1099511627)(e:len p<=1099511627776)(h:(B1 p t).2=false):
   Calls prog 79 [v,u,QF a].toArray i (BF w0 M0 M Rs (λ _:Unit=>.tuple #[.slice none 0 0,i64 6]) (λ _=>True) (λ _=>[]) λ _=>[]):=by
 refine AH (Hr:=Rs) AF func79 U ntmps79 [(0,A6 v t.flat),(1,kn u 3 p Sp.cells)] [] [.sl 0 v,.sl 1 u,.ag (I a.n::E8 a.c.cells)] U hS (AD hl (AD hu A3)) (λ B l=>BM 5 U U U λ s=>AP [] (λ _:Unit=>.tu [I (B1 p t).1,.v (.bool (B1 p t).2)]) [] (λ _=>[]) (Fg:=λ _=>[]) (pu:=λ _=>True) U U call134 U U (λ w M hS hF=>YT p v u t hS (hF.get (k:=0) U) (hF.get (k:=1) U) Aa e) λ _ _=>?_) U
 rw[h]
 refine A1 U (λ b=>?_) (λ b=>?_)
 ·exact A2 l U U U λ w M' j=>⟨(),M',rfl,trivial,j.le,j.st.drop _ (List.sublist_cons_self _ _),A3⟩
 ·cases b
theorem Ah4{w0 D:World}{M0 M:Mem}{Rs:List HO}{v u:Value}{t:Tf}{p:List Sp}{a:Tm}{i:Int}(hS:St w0 M0 D M Rs)(hl:(A6 v t.flat).ok M)(hu:(kn u 3 p Sp.cells).ok M)(K:len t.flat<=1099511627)(A:len p<=1099511627776)(h:B1 p t=(i,true))(hm:0<=(at' t.flat i).many/\i+(at' t.flat i).many+1<=len t.flat):
    Calls prog 79 [v,u,QF a].toArray D (BF w0 M0 M Rs (λ g:Value=>.tuple #[g,i64 0]) (λ _=>True) (λ _=>[]) λ g=>[HL g (F0 t.flat i a)]):=by
 have hi:=V7 p t
 rw[h]at hi
 refine AH (Hr:=Rs) AF func79 U ntmps79 [(0,A6 v t.flat),(1,kn u 3 p Sp.cells)] [] [.sl 0 v,.sl 1 u,.ag (I a.n::E8 a.c.cells)] U hS (AD hl (AD hu A3)) (λ B y=>BM 5 U U U λ L=>AP [] (λ _:Unit=>.tu [I (B1 p t).1,.v (.bool (B1 p t).2)]) [] (λ _=>[]) (Fg:=λ _=>[]) (pu:=λ _=>True) U U call134 U U (λ w M hS hF=>YT p v u t hS (hF.get (k:=0) U) (hF.get (k:=1) U) Aa A) λ _ _=>?_) U
 rw[h]
 refine A1 U (λ s=>?_) (λ s=>?_)
 ·cases s
 refine AP [] (λ u:AI=>.sl 11 u.v) [] (λ u=>[(11,ED u.v t.flat)]) U U call135 U U (λ w M hS hF=>fN v t.flat hS (hF.get (k:=0) U) (Tf.PU _) Aa) λ E _=>I2 { at' t.flat i with many:=(at' t.flat i).many+1} rfl U U sizeOf3 U U U Aa λ z F=>?_
 have l:z=IS t.flat i:=F
 have C:len z=len t.flat:=by rw[l];unfold IS len;rw[List.length_set]
 have q:at' z i= { at' t.flat i with many:=(at' t.flat i).many+1}:=by
  obtain⟨h1,G⟩:=CE z (i:=i) Aa Aa
  rw[G];simp[l,IS]
 have H:(at' z i).many=(at' t.flat i).many+1:=by rw[q]
 have b: ∀(w:World) (M':Mem) (v v12:Value) (Rs:List HO),St w0 M0 w M' (HL v z::HL v12 [({ AV 9 with n:=a.n,c:=a.c}:Tm)]::Rs)->Calls prog 136 [v,i64 (i+(at' z i).many),v12].toArray w (BF w0 M0 M' Rs (λ v:Value=>v) (λ _=>True) (λ _=>[]) λ g=>[HL g (F0 t.flat i a)]):=λ w M' v v12 Rs hS=>by
  have:=AP2 (i:=i+(at' z i).many) hS (by rw[l];intro e;have:=congrArg List.length e;simp[IS]at this;exact Tf.PU _ this) (by rw[q,C];simp only[];omega) Aa
  have J:z.take (i+(at' z i).many).toNat++({ AV 9 with n:=a.n,c:=a.c}:Tm)::z.drop (i+(at' z i).many).toNat=F0 t.flat i a:=by
   rw[q,l];unfold F0;simp only[<-Int.add_assoc]
  rw[J]at this
  exact this
 refine D7 [4,5,6,13,14,15,16] 8 (λ _ _ _ _ _ h=>h) U BK U <|FZ 4 13 U U U ?_ ?_
 ·refine AE U <|FZ 5 13 U U U ?_ ?_
  ·refine AE U <|FZ 6 13 U U U ?_ ?_
   ·exact AE U <|AK 13 U U U <|IG 12 [({ AV 9 with n:=a.n,c:=a.c}:Tm)] Tm.cells 11 52 Tm.AS U U Ah U λ v12=>AE U <|AK 14 U U U <|AP [11,12] (λ u:Value=>.sl 13 u) [] (λ u=>[(13,ED u (F0 t.flat i a))]) (Fg:=λ _=>[]) (pu:=λ _=>True) (Hg:=λ g=>[HL g (F0 t.flat i a)]) U U call136 U U (λ w M hS hF=>b w M _ _ _ hS) λ g _=>AE U <|AK 15 U U U <|AE U <|AK 16 U U U <|AE U <|BL U U U <|A2 y U U U λ w M' j=>⟨g,M',rfl,trivial,j.le,j.st.drop _ ((List.sublist_cons_self _ _).cons_cons _),A3⟩
   ·exact IG 12 [({ AV 9 with n:=a.n,c:=a.c}:Tm)] Tm.cells 11 52 Tm.AS U U Ah U λ v12=>AE U <|AK 6 U U U <|AE U <|AK 14 U U U <|AP [11,12] (λ u:Value=>.sl 13 u) [] (λ u=>[(13,ED u (F0 t.flat i a))]) (Fg:=λ _=>[]) (pu:=λ _=>True) (Hg:=λ g=>[HL g (F0 t.flat i a)]) U U call136 U U (λ w M hS hF=>b w M _ _ _ hS) λ g _=>AE U <|AK 15 U U U <|AE U <|AK 16 U U U <|AE U <|BL U U U <|A2 y U U U λ w M' j=>⟨g,M',rfl,trivial,j.le,j.st.drop _ ((List.sublist_cons_self _ _).cons_cons _),A3⟩
  ·exact IG 12 [({ AV 9 with n:=a.n,c:=a.c}:Tm)] Tm.cells 11 52 Tm.AS U U Ah U λ v12=>AE U <|AK 5 U U U <|AE U <|AK 6 U U U <|AE U <|AK 14 U U U <|AP [11,12] (λ u:Value=>.sl 13 u) [] (λ u=>[(13,ED u (F0 t.flat i a))]) (Fg:=λ _=>[]) (pu:=λ _=>True) (Hg:=λ g=>[HL g (F0 t.flat i a)]) U U call136 U U (λ w M hS hF=>b w M _ _ _ hS) λ g _=>AE U <|AK 15 U U U <|AE U <|AK 16 U U U <|AE U <|BL U U U <|A2 y U U U λ w M' j=>⟨g,M',rfl,trivial,j.le,j.st.drop _ ((List.sublist_cons_self _ _).cons_cons _),A3⟩
 ·exact IG 12 [({ AV 9 with n:=a.n,c:=a.c}:Tm)] Tm.cells 11 52 Tm.AS U U Ah U λ v12=>AE U <|AK 4 U U U <|AE U <|AK 5 U U U <|AE U <|AK 6 U U U <|AE U <|AK 14 U U U <|AP [11,12] (λ u:Value=>.sl 13 u) [] (λ u=>[(13,ED u (F0 t.flat i a))]) (Fg:=λ _=>[]) (pu:=λ _=>True) (Hg:=λ g=>[HL g (F0 t.flat i a)]) U U call136 U U (λ w M hS hF=>b w M _ _ _ hS) λ g _=>AE U <|AK 15 U U U <|AE U <|AK 16 U U U <|AE U <|BL U U U <|A2 y U U U λ w M' j=>⟨g,M',rfl,trivial,j.le,j.st.drop _ ((List.sublist_cons_self _ _).cons_cons _),A3⟩
end Go.Proofs.YtnoegalemkbbbaaGreatDoor
namespace Go.Eng
open Go.RowKit
section
variable {c:Cx} {B:Exit->Act->World->Prop} {k k':List Fr} {m:Md} {s s':XS} {O:Prop} {E:List Ck} {all:Array Oper} {rest:List Oper} {d:Nat} {ty:TypeId} {ps:String} {af:Array Edge}
theorem Ah5(kk:Nat){t:TypeId}(h:run c.T c.N k m s=⟨k',.ops all (⟨some d,.makeMap t none,ty,ps,af,none⟩::rest),s',O,E⟩)
  (i: ∀b,XG c B k' (.ops all rest) ⟨s'.F,(kk,.ho (.raw b (BO .i64 [] 0)))::s'.H,(d,.t,.v (.map (some b)))::s'.L⟩) (hE:A9 E:=by exact Ad) (hO:O:=by exact Af) (hd:Nat.blt d c.N=true:=by exact rfl):XG c B k m s:=
 DC h (hE:=hE) (hO:=hO) λ w M e=>RL.makeMap .i64 e.st hd λ w' b hS=>DD (i b) ⟨hS,e.f,e.le⟩ U
theorem SM(kk:Nat)(j:Nat)(l':List KV){t kt e:TypeId}{y x z:Operand}{b cl:Nat}{l:List KV}{n:Int}{v:Value}{E1 E2 E3:List Ck}(h:run c.T c.N k m s=⟨k',.ops all (⟨none,.insert t y x z,ty,ps,af,none⟩::rest),s',O,E⟩)
  (D:BB s'.L .t y=some (.v (.map (some b)),E1)) (hx:BB s'.L .t x=some (.v (.int .i64 n),E2)) (G:BB s'.L .t z=some (.v v,E3)) (J:CY s'.H kk=some (.ho (.raw b (BO .i64 l cl)))) (K:c.P.underlying t=some (.map kt e)) (A:c.P.underlying kt=some (.int .i64))
  (hl:LB l cl n v=l') (Q:P4 l cl n v=j) (R:XG c B k' (.ops all rest) ⟨s'.F,C8 s'.H kk (.ho (.raw b (BO .i64 l' j))),s'.L⟩) (hE:A9 E:=by exact Ad) (hO:O:=by exact Af) (h1:A9 E1:=by exact Ad) (S:A9 E2:=by exact Ad) (V:A9 E3:=by exact Ad):XG c B k m s:=by
 refine DC h (hE:=hE) (hO:=hO) λ w M C=>?_
 obtain⟨q,W,i⟩:=DK (Hr:=c.Hr) J
 exact RL.mapUpdate (c:=cl) true C.st W (A7 D (hE:=h1)) (A7 hx (hE:=S)) (A7 G (hE:=V)) K A hl Q (Hs':=HD (C8 s'.H kk (.ho (.raw b (BO .i64 l' j))))++c.Hr) (i (.ho (.raw b (BO .i64 l' j)))).symm λ w' hS=>DD R ⟨hS,C.f,C.le⟩ U
theorem Ah6(kk:Nat)(u:Value){t kt e:TypeId}{x y:Operand}{b cl:Nat}{l:List KV}{n:Int}{z:Value}{E1 E2:List Ck}(h:run c.T c.N k m s=⟨k',.ops all (⟨some d,.lookup t x y false,ty,ps,af,none⟩::rest),s',O,E⟩)
  (hx:BB s'.L .t x=some (.v (.map (some b)),E1)) (j:BB s'.L .t y=some (.v (.int .i64 n),E2)) (A:CY s'.H kk=some (.ho (.raw b (BO .i64 l cl)))) (C:c.P.underlying t=some (.map kt e)) (i:c.P.underlying kt=some (.int .i64)) (D: ∀w,(zeroValue e).run c.P w= .ok z w) (hu:(C4 l n).getD z=u)
  (G:XG c B k' (.ops all rest) ⟨s'.F,s'.H,(d,.t,.v u)::s'.L⟩) (hE:A9 E:=by exact Ad) (hO:O:=by exact Af) (h1:A9 E1:=by exact Ad) (J:A9 E2:=by exact Ad) (hd:Nat.blt d c.N=true:=by exact rfl):XG c B k m s:=by
 refine AR (.v u) h (hE:=hE) (hO:=hO) (W:=.t) (by rw[hd];rfl) (λ w M K=>?_) G
 obtain⟨q,Q,_⟩:=DK (Hr:=c.Hr) A
 exact PV.lookup K.st GZ Q (A7 hx (hE:=h1)) (A7 j (hE:=J)) C i D hu
end
end Go.Eng
namespace Go.Proofs.YtnoegalemkbbbaaGreatDoor
open Go.Proofs.Tryz
open Go.Eng Go.RowKit
theorem Ah7{w0 e:World}{M0 M:Mem}{Rs:List HO}(n:Int)(hS:St w0 M0 e M Rs):
   Calls prog 78 [i64 n].toArray e (BF w0 M0 M Rs (λ _:Unit=>i64 (IA n)) (λ _=>True) (λ _=>[]) λ _=>[]):=by
 refine AH (Hr:=Rs) AF func78 U ntmps78 [] [] [I n] U hS A3 (λ B i=>Ah5 1 U λ b=>SM 1 1 [⟨0,i64 1,0⟩] U U U U U underlying168 underlying3 U U <|SM 1 2 [⟨0,i64 1,0⟩,⟨1,i64 0,1⟩] U U U U U underlying168 underlying3 U U <|SM 1 3 [⟨0,i64 1,0⟩,⟨1,i64 0,1⟩,⟨2,i64 5,2⟩] U U U U U underlying168 underlying3 U U <|SM 1 4 [⟨0,i64 1,0⟩,⟨1,i64 0,1⟩,⟨2,i64 5,2⟩,⟨5,i64 2,3⟩] U U U U U underlying168 underlying3 U U <|SM 1 5 [⟨0,i64 1,0⟩,⟨1,i64 0,1⟩,⟨2,i64 5,2⟩,⟨5,i64 2,3⟩,⟨3,i64 4,4⟩] U U U U U underlying168 underlying3 U U <|SM 1 6 [⟨0,i64 1,0⟩,⟨1,i64 0,1⟩,⟨2,i64 5,2⟩,⟨5,i64 2,3⟩,⟨3,i64 4,4⟩,⟨4,i64 3,5⟩] U U U U U underlying168 underlying3 U U <|Ah6 1 (i64 (IA n)) U U U U underlying168 underlying3 zeroValue3 ?_ ?_) U
 ·unfold IA
  simp only[C4,beq_iff_eq]
  repeat' split
  all_goals first|rfl|omega
 exact A2 i U U U λ w M' h=>⟨(),M',rfl,trivial,h.le,h.st.drop _ (List.sublist_cons_self _ _),A3⟩
theorem Ah8{w0 b:World}{M0 M:Mem}{Rs:List HO}(n:Int)(hS:St w0 M0 b M Rs)(j:0<=n/\n<=5):
   Calls prog 83 [i64 n].toArray b (BF w0 M0 M Rs (λ _:Unit=>i64 (IA n)) (λ _=>True) (λ _=>[]) λ _=>[]):=by
 refine AH (Hr:=Rs) AF func83 U ntmps83 [] [] [I n] U hS A3 (λ B i=>BH 1 [1,0,5,4,3,2] (λ x:Int=>[i64 x]) 1 3 (λ _=>rfl) U U Ah U λ v1=>?_) U
 have e:at' ([1,0,5,4,3,2]:List Int) n=IA n:=by
  unfold IA
  have:n=0\/n=1\/n=2\/n=3\/n=4\/n=5:=by omega
  rcases this with rfl|rfl|rfl|rfl|rfl|rfl<;>rfl
 exact A2 i U U (hO:=by simp[zb,len]<;>omega) U λ w M' h=>⟨(),M',by rw[<-e];rfl,trivial,h.le,h.st.drop _ (List.sublist_cons_self _ _),A3⟩
end Go.Proofs.YtnoegalemkbbbaaGreatDoor
namespace Go.Eng
open Go.RowKit
def AM(t:Tf):List Tf:=if t.t.op=1 then []else t.ps.map (Tf.named [])
theorem NA{t:Tf}(h:t.t.op≠1):AM t=t.ps.map (Tf.named []):=by unfold AM;rw[if_neg h]
theorem Ah9{t:Tf}(h:t.t.op=1):AM t=[]:=by unfold AM;rw[if_pos h]
theorem rU(t:Tf):(AM t).length<=t.ps.length:=by unfold AM;split<;>simp
theorem YY{t:Tf}{k:Nat}(h:k<(AM t).length):t.t.op≠1/\k<t.ps.length:=by
 unfold AM at h
 split at h
 ·simp at h
 ·rename_i ho;exact⟨ho,by simpa using h⟩
theorem fX{t:Tf}{k:Nat}(h:k<(AM t).length):at' (AM t) (k:Int)=(at' t.ps (k:Int)).named []:=by
 obtain⟨ho,j⟩:=YY h
 obtain⟨h1,b⟩:=CE t.ps (i:=(k:Int)) Aa (by unfold len;omega)
 obtain⟨l,e⟩:=CE (AM t) (i:=(k:Int)) Aa (by unfold len;omega)
 rw[b,e]
 simp[AM,ho]
theorem rV(x:Tf)(n:A0):x.flat.set 0 { at' x.flat 0 with name:=n}=(x.named n).flat:=by cases x;rfl
theorem rW{α:Type}[Inhabited α]{l:List α}{k:Nat}(h:k<l.length):l.take (k+1)=l.take k++[at' l (k:Int)]:=by
 obtain⟨h1,b⟩:=CE l (i:=(k:Int)) Aa (by unfold len;omega)
 rw[b,List.take_add_one];simp[h]
end Go.Eng
namespace Go.Proofs.YtnoegalemkbbbaaGreatDoor
open Go.Proofs.Tryz
open Go.Eng
theorem Ai0{w0 w:World}{M0 M:Mem}{s:HO}{Rs:List HO}{b:Nat}{v:Value}{t:Tf}(hl:(A6 v t.flat).ok M)(Q:len t.flat<=1099511627776)(y:t.t.op=1):
    SG prog 190 [.pointer (some ⟨b,0,none⟩)] 0 w0 M0 (s:: .box b [v] 25::Rs)
     (λ k (_:Unit)=>[I (BU t k),I (BU t (k+1))]) (λ _ _=>True) (λ _ _=>[]) w M:=by
 intro γ ub I' J Hy L l g0 ⟨z,A,C,D,E,hx⟩ hS hF R hy
 have H:St w0 M0 w M (.box b [v] 25::z g0::A g0::C g0::D g0::E g0::(s::Rs)):=by
  rw[hx]at hS
  exact hS.perm (List.perm_middle (l₁:=[z g0,A g0,C g0,D g0,E g0,s])).symm
 have N:=t.XX
 have O:=t.EW
 have S:=JJ t.ps
 have T:len t.flat=1+len (AN t.ps):=by rw[Tf.FG,AL];omega
 have V:len t.ps=(t.ps.length:Int):=rfl
 have F:(at' t.flat 0).op=t.t.op:=by rw[Tf.S0]
 refine XR (Hr:=s::Rs) AF func190 rfl ntmps190 rfl (λ w h=>by obtain⟨g,M',h,_⟩:=h;cases h) [(0,A6 v t.flat),(9,I4 (L g0))] [(0,.box b [.sl 0 v] 25),(1,.ho (z g0)),(2,.ho (A g0)),(3,.ho (C g0)),(4,.ho (D g0)),(5,.ho (E g0))] [.v (.func (.yield l) #[] #[]),.bx 0 b 0] rfl H (AD hl (AD ⟨Sl.nil M 1,DO,hF⟩ A3)) (λ B W=>B7 (σ:=Int×Nat) (λ(i,k)=>⟨[(0,A6 v t.flat),(9,I4 (L g0))],[(0,.box b [.sl 0 v] 25),(1,.ho (z g0)),(2,.ho (A g0)),(3,.ho (C g0)),(4,.ho (D g0)),(5,.ho (E g0))],[Z 0 (.v (.func (.yield l) #[] #[])),Z 1 (.bx 0 b 0),Z 3 (I i),Z 8 (I (at' t.flat 0).many),Z 9 (I k)]⟩) (λ(i,k)=>i=BU t k/\k<=t.ps.length) (λ(i,k)=>t.ps.length-k) (1,0) U U ⟨rfl,Nat.zero_le _⟩ ?_) rfl
 rintro⟨i,k⟩ ⟨hi,hk⟩
 have X:=JM t k
 refine A1 U (λ G=>?_) (λ G=>?_)<;>simp only[zb]at G
 ·have e:k<t.ps.length:=by omega
  have P:=JM t (k+1)
  have K:=Q6 e
  subst hi
  refine AJ U call191 U U (λ _ w M q=>qG v t.flat (BU t k) _ _ q.st.sat (q.f.get (k:=0) U) ((SH t k).next e) Aa Q) U ?_
  rw[<-K]
  refine GB (.v (.bool true)) U U (λ j=>?_) (λ j=>?_)
  ·rw[F,y]at j;simp at j
  ·refine A1 U (λ n=>?_) (λ n=>?_)
   ·rw[F,y]at n;simp at n
   ·exact AX (BU t (k+1),k+1) U U ⟨rfl,e⟩ (by show t.ps.length-(k+1)<t.ps.length-k;omega)
 ·refine U8 W U U λ w' M' q=>⟨g0,M',rfl,.inl R,q.le,q.st.perm ?_,(q.f.get (k:=9) U).more⟩
  rw[hx]
  exact List.perm_middle (l₁:=[z g0,A g0,C g0,D g0,E g0,s])
theorem Ai1{w0 w:World}{M0 M:Mem}{h:HO}{Rs:List HO}{b:Nat}{v:Value}{t:Tf}(hl:(A6 v t.flat).ok M)(e:len t.flat<=1099511627776):
   SG prog 190 [.pointer (some ⟨b,0,none⟩)] (AM t).length w0 M0 (h:: .box b [v] 25::Rs)
    (λ k (_:Unit)=>[I (BU t k),I (BU t (k+1))]) (λ _ _=>True) (λ _ _=>[]) w M:=by
 by_cases ho:t.t.op=1
 ·rw[Ah9 ho];exact Ai0 hl e ho
 ·rw[NA ho,List.length_map];exact qH hl e ho
abbrev EA(v:Value)(hs:List AI):HX:=.pv 25 (kn v 1 hs BX) E5
abbrev NB(v:Value)(hs:List AI):HO:=.priv 25 1 v hs.length (hs.flatMap BX)
theorem SN{w0 J:World}{M0 M:Mem}{Rs:List HO}{v:Value}{t:Tf}(hS:St w0 M0 J M Rs)(hl:(A6 v t.flat).ok M)(O:len t.flat<=1099511627776):
    Calls prog 143 [v].toArray J (BF w0 M0 M Rs (λ g:Value×List AI=>g.1) (λ g=>g.2.length=(AM t).length) (λ g=>[(0,FP g.2 ((AM t).map Tf.flat))]) λ g=>[NB g.1 g.2]):=by
 have P:=JJ t.ps
 have Q:len t.flat=1+len (AN t.ps):=by rw[Tf.FG,AL];omega
 have R:len t.ps=(t.ps.length:Int):=rfl
 have S:=rU t
 refine UB (Hr:=Rs) AF func143 U ntmps143 [(0,A6 v t.flat)] [] [.sl 0 v] U hS (AD hl A3) (λ B T=>BM 7 U U U λ n=>B9 1 U zeroValue53 U λ q=>AP [] (λ b:Nat=>.v (.func (.func 190) #[] #[.pointer (some ⟨b,0,none⟩)])) [] (λ b=>[(2,.box b [.sl 0 v] 25)]) U U call167 U U (λ w M hS hF=>qI hS (hF.get (k:=0) U)) λ b2 _=>WW [2] U U <|zL 6 25 1 BX E5 <|WZ 8 25 1 BX E5 <|DW 9 (FP [] []) (λ w M j=>⟨Sl.nil M 1,DO,trivial⟩) <|kV ⟨_,[(8,.ho (.own 25 1 (.slice none 0 0) ([]:List AI).length (([]:List AI).flatMap BX))),(6,EA (.slice none 0 0) []),(1,.box q [.sl 6 (.slice none 0 0)] 53),(7,.box n [.sl 0 v] 25)],_⟩ U U U ?_) U
 refine fH (σ:=Value×List AI×List Fl) (τ:=Unit) (λ g=>⟨[(0,A6 v t.flat),(9,FP g.2.1 g.2.2)],[(7,.box n [.sl 0 v] 25),(1,.box q [.sl 6 g.1] 53),(6,EA g.1 g.2.1),(8,.ho (.own 25 1 (.slice none 0 0) ([]:List AI).length (([]:List AI).flatMap BX)))],[Z 1 (.bx 7 n 0),Z 3 (.bx 1 q 0)]⟩)
  (λ k g=>g.2.2=((AM t).map Tf.flat).take k/\g.2.1.length=k) (λ _=>False) (.slice none 0 0,[],[])
  (λ k g y K=>K=⟨[(0,A6 v t.flat),(9,FP g.2.1 g.2.2)],[(7,.box n [.sl 0 v] 25),(1,.box q [.sl 6 g.1] 53),(6,EA g.1 g.2.1),(8,.ho (.own 25 1 (.slice none 0 0) ([]:List AI).length (([]:List AI).flatMap BX)))],[Z 4 (I (BU t k)),Z 5 (I (BU t (k+1))),Z 1 (.bx 7 n 0),Z 3 (.bx 1 q 0)]⟩)
  (λ _ _ _ _ h=>h) U U call190 U ⟨rfl,rfl⟩ (λ _=>rfl) ⟨_,_,_,_,λ _=>rfl⟩ (λ w M D w' j=>Ai1 (j.f.get (k:=0) U) O) (λ _ _=>rfl)
  (λ k g y l D r M F G hp=>?_) U (λ k g y l D r M F G hp K V=>?_) U (λ D g a w G=>?_) (λ D g a w W=>W.elim)
 ·exact AT _ U U U
 ·subst V
  obtain⟨H,hs,xs⟩:=g
  obtain⟨e,i⟩:=G
  dsimp only at e i
  obtain⟨X,C⟩:=YY F
  have hpk:=JM t k
  have L:=JM t (k+1)
  have hst:=Q6 C
  have hcp:=(at' t.ps (k:Int)).EW
  have E:=qD C
  refine ET (gd:=none) 10 (BU t k) (BU t (k+1)) U U U ⟨.i64,_,rfl,AG U⟩ ⟨.i64,_,rfl,AG U⟩ underlying25 sizeOf52 Aa U λ v10=>?_
  rw[E]
  refine AP [] (λ u:AI=>.sl 11 u.v) [] (λ u=>[(11,ED u.v (at' t.ps (k:Int)).flat)]) U U call135 U U (λ w M hS hF=>fN v10 (at' t.ps (k:Int)).flat hS (hF.get (k:=10) U) (Tf.PU _) Aa) λ A _=>I2 { at' (at' t.ps (k:Int)).flat 0 with name:=[]} rfl U U sizeOf9 U U U Aa λ z N=>?_
  rw[show(0:Int).toNat=0 from rfl,rV,<-fX F]at N
  refine CL U Ad Aa <|C6 11 U <|BH 12 [A] BX 1 25 E5 U U Ah U λ v12=>G9 24 U U U underlying53 type25 U U O7 (by simp only[AL,len_nil];unfold len at*;omega) λ v'=>DW 9 (FP (hs++[A]) (xs++[z])) (λ w M j=>⟨Sl.nil M 1,DO,B5.snoc (j.sl 11 U) (j.f.get (k:=9) U).more⟩) ?_
  exact AT _ U U ⟨(v',hs++[A],xs++[z]),rfl,by
   dsimp only
   rw[e,N,<-List.map_take,<-List.map_take,rW F,List.map_append];rfl,by dsimp only;rw[List.length_append,i];rfl⟩
 ·obtain⟨H,hs,xs⟩:=g
  obtain⟨e,i⟩:=G
  dsimp only at e i
  rw[List.take_of_length_le (by simp)]at e
  subst e
  refine WT 8 (λ _ _ _ _ h=>h) U (s:=⟨[(0,A6 v t.flat),(9,FP hs ((AM t).map Tf.flat))],[(7,.box n [.sl 0 v] 25),(1,.box q [.sl 6 H] 53),(6,EA H hs),(8,.ho (.own 25 1 (.slice none 0 0) ([]:List AI).length (([]:List AI).flatMap BX)))],[Z 1 (.bx 7 n 0),Z 3 (.bx 1 q 0)]⟩) ?_ a w
  refine A2 (T.DX U D) U U U λ w M j=>?_
  obtain⟨h1,h2⟩:=j.shut
  exact⟨by simp,h1,(H,hs),M,rfl,i,j.le,h2.drop _ (((((List.Sublist.refl _).cons _).cons _).cons_cons _).cons _|>.cons _),AD (j.f.get (k:=9) U) A3⟩
open Go.Eng Go.RowKit
theorem fY{w0 e:World}{M0 M:Mem}{Rs:List HO}(s:A0)(hS:St w0 M0 e M Rs)(hg:Gl w0)(h:len s<=200000000000):
  Calls prog 80 [str s].toArray e (BF w0 M0 M Rs (λ u:Value=>u) (λ _=>True) (λ u=>[(1,kn u 3 (BZ s).1 Sp.cells)]) λ _=>[]):=AH (Hr:=Rs) AF func80 U ntmps80 [] [] [.v (str s)] U hS A3 (λ B i=>AP [] (λ u:Value=>.tu [.sl 1 u,I (BZ s).2.1,I (BZ s).2.2]) [1] (λ _=>[]) (Fg:=λ u=>[(1,kn u 3 (BZ s).1 Sp.cells)]) (pu:=λ _=>True) U U call137 U U (λ w M hS hF=>pK s hS hg h) λ u _=>A2 i U U U λ w M' b=>⟨u,M',rfl,trivial,b.le,b.st,AD (b.f.get (k:=1) U) A3⟩) U
abbrev NoC(w0:World)(M0 M:Mem)(Rs:List HO)(i why:Int):Ending->World->Prop:=λ e w'=> ∃M',e= .panicked [PB 110 i why]/\St w0 M0 w' M' Rs/\M.le M'
theorem FJ{w0 e:World}{M0 M:Mem}{Rs:List HO}(i why:Int)(hS:St w0 M0 e M Rs):
  Calls prog 81 [i64 i,i64 why].toArray e (NoC w0 M0 M Rs i why):=AH (Hr:=Rs) AF func81 U ntmps81 [] [] [I i,I why] U hS A3 (λ B h=>AR (.v (.iface 110 (.agg #[i64 i,i64 why]))) U U (λ w M b=>PV.iface (v:=.agg #[i64 i,i64 why]) (A7 (v:=.ag [I i,I why]) (E:=[]) U) underlying110 U) <|zJ U U U λ a w M hs b=>DY [] (h.p ⟨M,rfl,b.st,b.le⟩ a hs)) U
theorem Ai3{w0 b:World}{M0 M:Mem}{Rs:List HO}(h:AI)(x:Tf)(hS:St w0 M0 b M Rs)(hl:(A6 h.v x.flat).ok M)(j:len x.flat<=1099511627):
  Calls prog 141 [h.v].toArray b (OJ w0 M0 M Rs (Tf.mk (AV 5) [x]).flat):=AH (Hr:=Rs) AF func141 U ntmps141 [(0,A6 h.v x.flat)] [] [.sl 0 h.v] U hS (AD hl A3) (λ B i=>BH 1 [h] BX 1 25 E5 U U Ah U λ v1=>AP [] (λ u:AI=>.sl 2 u.v) [] (λ u=>[(2,ED u.v (Tf.mk (AV 5) [x]).flat)]) U U call146 U U (λ w M hS hF=>Ab9 (AV 5) v1 h x hS (hF.get (k:=1) U).sl (hF.get (k:=0) U).sl Aa) λ u _=>A2 i U U U λ w M' e=>⟨u,M',rfl,trivial,e.le,e.st.drop _ ((List.sublist_cons_self _ _).cons_cons _),A3⟩) U
end Go.Proofs.YtnoegalemkbbbaaGreatDoor
namespace Go.Eng
open Go.RowKit
def BA(t:Tf):List A0:=if t.t.op=1 then []else t.ps.map λ x=>x.t.name
theorem Ai4{t:Tf}{k:Nat}(h:k<(AM t).length):len (at' (AM t) (k:Int)).flat=len (at' t.ps (k:Int)).flat:=by
 rw[fX h,<-rV];unfold len;rw[List.length_set]
theorem OQ(t:Tf):(BA t).length=(AM t).length:=by unfold BA AM;split<;>simp
theorem Ai5{t:Tf}{k:Nat}(h:k<(AM t).length):(BA t).take (k+1)=(BA t).take k++[(at' t.ps (k:Int)).t.name]:=by
 obtain⟨ho,b⟩:=YY h
 have e:BA t=t.ps.map λ x=>x.t.name:=by unfold BA;rw[if_neg ho]
 obtain⟨h1,j⟩:=CE t.ps (i:=(k:Int)) Aa (by unfold len;omega)
 rw[e,j,List.take_add_one];simp[b]
end Go.Eng
namespace Go.Proofs.YtnoegalemkbbbaaGreatDoor
open Go.Proofs.Tryz
open Go.Eng Go.RowKit
abbrev SO(u:Value)(l:List A0):HO:=.priv 9 1 u l.length (l.flatMap DV)
abbrev QH(u:Value)(l:List A0):HX:=.pv 9 (kn u 1 l DV) DO
theorem fZ{w0 z:World}{M0 M:Mem}{Rs:List HO}{v:Value}{t:Tf}(hS:St w0 M0 z M Rs)(hl:(A6 v t.flat).ok M)(R:len t.flat<=1099511627):
    Calls prog 147 [v].toArray z (BF w0 M0 M Rs (λ u:Value=>u) (λ _=>True) (λ _=>[]) λ u=>[SO u (BA t)]):=by
 have D:=JJ t.ps
 have E:len t.flat=1+len (AN t.ps):=by rw[Tf.FG,AL];omega
 have F:len t.ps=(t.ps.length:Int):=rfl
 have G:=rU t
 refine AH (Hr:=Rs) AF func147 U ntmps147 [(0,A6 v t.flat)] [] [.sl 0 v] U hS (AD hl A3) (λ B H=>AP [] (λ g:Value×List AI=>.sl 8 g.1) [9] (λ g=>[(8,EA g.1 g.2)]) U U call143 U U (λ w M hS hF=>SN hS (hF.get (k:=0) U) Aa) λ g hg=>?_) U
 obtain⟨u,hs⟩:=g
 dsimp only at hg
 refine C6 8 U <|DW 8 (C9 u hs ((AM t).map Tf.flat)) (λ w M h=>⟨(h.f.get (k:=8) U).sl,E5,(h.f.get (k:=9) U).more⟩) <|bR 3 3 9 1 DV DO U ?_
 refine B7 (σ:=Nat×Value) (λ(k,o)=>⟨[(0,A6 v t.flat),(8,C9 u hs ((AM t).map Tf.flat))],[(3,QH o ((BA t).take k))],[Z 0 (.sl 0 v),Z 3 (.sl 3 o),Z 4 (I (BU t k)),Z 8 (.sl 8 u),Z 9 (I (len hs)),Z 10 (I k)]⟩)
   (λ(k,o)=>k<=(AM t).length) (λ(k,o)=>(AM t).length-k) (0,.slice none 0 0) U U Aa ?_
 rintro⟨k,o⟩ S
 refine A1 U (λ b=>?_) (λ b=>?_)<;>simp only[zb]at b
 ·have j:k<(AM t).length:=by unfold len at b;omega
  obtain⟨J,l⟩:=YY j
  have K:=JM t k
  have A:=JM t (k+1)
  have s:=Q6 l
  have L:=(at' t.ps (k:Int)).EW
  have n:=Ai4 j
  have N:len ((AM t).map Tf.flat)=len hs:=by unfold len;rw[List.length_map,hg]
  have q:at' ((AM t).map Tf.flat) (k:Int)=(at' (AM t) (k:Int)).flat:=by
   obtain⟨T,O⟩:=CE (AM t) (i:=(k:Int)) Aa (by unfold len;omega)
   obtain⟨V,P⟩:=CE ((AM t).map Tf.flat) (i:=(k:Int)) Aa (by unfold len;rw[List.length_map];omega)
   rw[O,P,List.getElem_map]
  have y:(at' t.flat (BU t k)).name=(at' t.ps (k:Int)).t.name:=by rw[((SH t k).next l).step.2.1]
  have C:len (at' ((AM t).map Tf.flat) (k:Int))=len (at' t.ps (k:Int)).flat:=by rw[q,n]
  have Q:len ((BA t).take k)<=1099511627:=by unfold len at*;rw[List.length_take];omega
  refine BH 12 [(at' t.flat (BU t k)).name] DV 1 9 DO U U Ah U λ v12=>G9 16 U U U underlying103 type9 U U aA (by simp only[AL,len_nil];omega) λ v'=>DW 2 (A6 (at' hs (k:Int)).v (at' ((AM t).map Tf.flat) (k:Int))) (λ w M h=>EN (h.f.get (k:=8) U) Aa Aa) (MO 6 2 U ?_)
  exact AX (k+1,v') U (by dsimp only;rw[Ai5 j,s,<-n,<-q,<-y];rfl) Aa (by show(AM t).length-(k+1)<(AM t).length-k;omega)
 ·refine A2 H U U U λ w M' h=>⟨o,M',rfl,trivial,h.le,?_,A3⟩
  have e:(BA t).take k=BA t:=List.take_of_length_le (by rw[OQ];unfold len at b;omega)
  have:=h.st
  rw[e]at this
  exact this
end Go.Proofs.YtnoegalemkbbbaaGreatDoor
namespace Go.Eng
open Go.RowKit
def KB(t:Tm):Sp:=⟨decide (t.op=2),t.s,t.n⟩
end Go.Eng
namespace Go.Proofs.YtnoegalemkbbbaaGreatDoor
open Go.Proofs.Tryz
open Go.Eng Go.RowKit
theorem rX{w0 b:World}{M0 M:Mem}{Rs:List HO}(t:Tm)(hS:St w0 M0 b M Rs):
  Calls prog 73 [.agg t.cells.toArray].toArray b (BF w0 M0 M Rs (λ _:Unit=>.tuple #[.agg (KB t).cells.toArray,.bool (decide (t.op=1)||decide (t.op=2))]) (λ _=>True) (λ _=>[]) λ _=>[]):=AH (Hr:=Rs) AF func73 U ntmps73 [] [] [.ag (E8 t.cells)] U hS A3 (λ B i=>BM 1 U U U λ j=>B9 2 U zeroValue105 U λ k=>D7 [16,17] 3 (λ _ _ _ _ _ h=>h) U BK U <|AK 16 U U U <|AE U <|AK 17 U U U <|AE U <|BL U U U <|A2 i U U U λ w M' e=>⟨(),M',rfl,trivial,e.le,e.st.drop _ ((List.sublist_cons_self _ _).cons _),A3⟩) U
end Go.Proofs.YtnoegalemkbbbaaGreatDoor
namespace Go.Eng
open Go.RowKit
def JP(t:Tm):Bool:=decide (t.op=1)||decide (t.op=2)
def D2:Fl->List Sp
 |[]=>[]
 |[x]=>if JP x then [KB x]else []
 |x::y::r=>if JP x then [KB x]else if x.op=4/\JP y=true then KB y::D2 r else []
theorem gA: ∀f:Fl,len (D2 f)<=len f
 |[]=>by show len ([]:List Sp)<=len ([]:Fl);simp[len]
 |[x]=>by unfold D2;split<;>simp[len]
 |x::y::r=>by
  have h:=gA r
  have h0:=A8 r
  unfold D2
  split
  ·simp only[AL,len_nil];omega
  ·split
   ·simp only[AL];omega
   ·simp only[AL,len_nil];omega
def M7:Fl->Bool
 |[]=>false
 |[x]=>x.op != 4
 |x::y::r=>JP x||x.op != 4|| !JP y||M7 r
end Go.Eng
namespace Go.Proofs.YtnoegalemkbbbaaGreatDoor
open Go.Proofs.Tryz
open Go.Eng Go.RowKit
theorem rY: ∀(n:Nat) (f:Fl) {w0 F:World} {M0 M:Mem} {Rs:List HO} {v:Value},f.length<=n->M7 f=true->St w0 M0 F M Rs->(A6 v f).ok M->len f<=1099511627->
    Calls prog 28 [v].toArray F (BF w0 M0 M Rs (λ u:Value=>u) (λ _=>True) (λ u=>[(0,kn u 3 (D2 f) Sp.cells)]) λ _=>[]):=by
 intro n
 induction n with
 |zero=>intro f _ _ _ _ _ _ D j;cases f with
  |nil=>cases j
  |cons=>simp at D
 |succ n G=>
  intro f w0 F M0 M Rs v D j hS hl O
  obtain⟨x,r,rfl⟩: ∃x r,f=x::r:=by cases f with
   |nil=>cases j
   |cons x r=>exact⟨x,r,rfl⟩
  have hp:0<len (x::r):=GL (by simp)
  have h0:at' (x::r) 0=x:=rfl
  refine AH (Hr:=Rs) AF func28 U ntmps28 [(0,A6 v (x::r))] [] [.sl 0 v] U hS (AD hl A3) (λ B C=>?_) U
  refine AP [] (λ _:Unit=>.tu [.ag (E8 (KB x).cells),.v (.bool (JP x))]) [] (λ _=>[]) (Fg:=λ _=>[]) (pu:=λ _=>True) U U call73 U U (λ w M hS hF=>rX x hS) λ _ _=>?_
  refine B9 3 U zeroValue105 U λ P=>?_
  refine A1 U (λ i=>?_) (λ i=>?_)
  ·refine BH 4 [KB x] Sp.cells 3 105 (λ _=>rfl) U U Ah U λ v4=>?_
   refine A2 C U U U λ w M' b=>⟨v4,M',rfl,trivial,b.le,b.st.drop _ (((List.Sublist.refl _).cons _).cons _),?_⟩
   have e:D2 (x::r)=[KB x]:=by cases r<;>simp[D2,i]
   rw[e]
   exact AD (b.f.get (k:=4) U) A3
  refine A1 U (λ l=>?_) (λ l=>?_)<;>simp only[zb]at l
  ·rw[h0]at l
   refine A2 C U U U λ w M' b=>⟨.slice none 0 0,M',rfl,trivial,b.le,b.st.drop _ ((List.Sublist.refl _).cons _),?_⟩
   have e:D2 (x::r)=[]:=by cases r<;>simp[D2,i,l]
   rw[e]
   exact AD ⟨Sl.nil M' 3,λ _=>rfl,trivial⟩ A3
  rw[h0]at l
  have z:x.op=4:=by omega
  obtain⟨y,r,rfl⟩: ∃y r',r=y::r':=by cases r with
   |nil=>simp[M7,z]at j
   |cons y r=>exact⟨y,r,rfl⟩
  have K:=A8 r
  have H:len (x::y::r)=len r+2:=by simp only[AL];omega
  have h1:at' (x::y::r) 1=y:=rfl
  refine AP [] (λ _:Unit=>.tu [.ag (E8 (KB y).cells),.v (.bool (JP y))]) [] (λ _=>[]) (Fg:=λ _=>[]) (pu:=λ _=>True) U U call73 U U (λ w M hS hF=>rX y hS) λ _ _=>?_
  refine B9 5 U zeroValue105 U λ Q=>?_
  refine A1 U (λ A=>?_) (λ A=>?_)
  ·have E:JP y=false:=by simpa using A
   refine A2 C U U U λ w M' b=>⟨.slice none 0 0,M',rfl,trivial,b.le,b.st.drop _ (((List.Sublist.refl _).cons _).cons _),?_⟩
   have e:D2 (x::y::r)=[]:=by simp[D2,i,E]
   rw[e]
   exact AD ⟨Sl.nil M' 3,λ _=>rfl,trivial⟩ A3
  have E:JP y=true:=by simpa using A
  have q:M7 r=true:=by simpa[M7,i,z,E]using j
  have s:Eng.sub (x::y::r) 2 (len (x::y::r))=r:=by unfold Eng.sub;rw[H];simp only[List.drop_succ_cons,List.drop_zero,show(2:Int).toNat=2 from rfl];exact List.take_of_length_le (by unfold len;omega)
  have e:D2 (x::y::r)=[KB y]++D2 r:=by simp[D2,i,z,E]
  have L:len (D2 r)<=1099511627:=by have:=gA r;omega
  refine D7 [1,3,4,5,6] 6 (λ _ _ _ _ _ h=>h) U BK U ?_
  refine FZ 1 3 U U U ?_ ?_
  ·refine IG 6 [KB y] Sp.cells 3 105 (λ _=>rfl) U U Ah U λ v6=>?_
   refine AE U ?_
   refine AK 3 U U U ?_
   refine ET (gd:=none) 7 2 (len (x::y::r)) U U U ⟨.i64,_,rfl,AG U⟩ U underlying23 sizeOf48 Aa U λ N=>?_
   rw[s]
   refine AE U ?_
   refine AK 4 U U U ?_
   refine AP [] (λ u:Value=>.sl 8 u) [8] (λ _=>[]) (Fg:=λ u=>[(0,kn u 3 (D2 r) Sp.cells)]) (pu:=λ _=>True) U U call28 U U (λ w M hS hF=>G r (by simp at D;omega) q hS (hF.get (k:=7) U) Aa) λ J _=>?_
   refine AE U ?_
   refine AK 5 U U U ?_
   refine G9 32 rfl rfl rfl underlying61 type105 rfl rfl (λ x u hu=>by simp[Sp.cells]at hu;rcases hu with rfl|rfl|rfl<;>rfl) (by simp only[AL,len_nil];omega) λ v'=>?_
   refine AE U ?_
   refine AK 6 U U U ?_
   refine AE U ?_
   refine BL U U U ?_
   refine C6 6 U ?_
   exact A2 C U U U λ w M' b=>⟨v',M',rfl,trivial,b.le,b.st.drop _ ((List.Sublist.refl _).cons _|>.cons _),AD (by rw[e];exact b.f.get (k:=6) U) A3⟩
  ·refine ET (gd:=none) 7 2 (len (x::y::r)) U U U ⟨.i64,_,rfl,AG U⟩ U underlying23 sizeOf48 Aa U λ N=>?_
   rw[s]
   refine AE U ?_
   refine FZ 1 4 U U U ?_ ?_
   ·refine IG 6 [KB y] Sp.cells 3 105 (λ _=>rfl) U U Ah U λ v6=>?_
    refine AE U ?_
    refine AK 4 U U U ?_
    refine AP [] (λ u:Value=>.sl 8 u) [8] (λ _=>[]) (Fg:=λ u=>[(0,kn u 3 (D2 r) Sp.cells)]) (pu:=λ _=>True) U U call28 U U (λ w M hS hF=>G r (by simp at D;omega) q hS (hF.get (k:=7) U) Aa) λ J _=>?_
    refine AE U ?_
    refine AK 5 U U U ?_
    refine G9 32 rfl rfl rfl underlying61 type105 rfl rfl (λ x u hu=>by simp[Sp.cells]at hu;rcases hu with rfl|rfl|rfl<;>rfl) (by simp only[AL,len_nil];omega) λ v'=>?_
    refine AE U ?_
    refine AK 6 U U U ?_
    refine AE U ?_
    refine BL U U U ?_
    refine C6 6 U ?_
    exact A2 C U U U λ w M' b=>⟨v',M',rfl,trivial,b.le,b.st.drop _ ((List.Sublist.refl _).cons _|>.cons _),AD (by rw[e];exact b.f.get (k:=6) U) A3⟩
   ·refine AP [] (λ u:Value=>.sl 8 u) [8] (λ _=>[]) (Fg:=λ u=>[(0,kn u 3 (D2 r) Sp.cells)]) (pu:=λ _=>True) U U call28 U U (λ w M hS hF=>G r (by simp at D;omega) q hS (hF.get (k:=7) U) Aa) λ J _=>?_
    refine AE U ?_
    refine AK 1 U U U ?_
    refine IG 6 [KB y] Sp.cells 3 105 (λ _=>rfl) U U Ah U λ v6=>?_
    refine AE U ?_
    refine AK 5 U U U ?_
    refine G9 32 rfl rfl rfl underlying61 type105 rfl rfl (λ x u hu=>by simp[Sp.cells]at hu;rcases hu with rfl|rfl|rfl<;>rfl) (by simp only[AL,len_nil];omega) λ v'=>?_
    refine AE U ?_
    refine AK 6 U U U ?_
    refine AE U ?_
    refine BL U U U ?_
    refine C6 6 U ?_
    exact A2 C U U U λ w M' b=>⟨v',M',rfl,trivial,b.le,b.st.drop _ ((List.Sublist.refl _).cons _|>.cons _),AD (by rw[e];exact b.f.get (k:=6) U) A3⟩
end Go.Proofs.YtnoegalemkbbbaaGreatDoor
namespace Go.Eng
theorem Ai6{α:Type}(l:List α)(p:α->Bool):(!(l.any λ x=> !p x))=l.all p:=by
 induction l with
 |nil=>rfl
 |cons x l b=>rw[List.any_cons,List.all_cons,<-b];cases p x<;>rfl
theorem Ai7{x:Nd}(h:GI x=true):0<=x.kind/\x.kind<=6:=by
 unfold GI JL at h
 simp only[Bool.and_eq_true]at h
 have h1:=h.1.1
 repeat' split at h1
 all_goals first|omega|(cases h1)
theorem Ai8(mask:Int)(k:Nat)(q:Nat)(b:q=mask.toNat/2^k):IM mask k=decide (¬((q%2:Nat):Int)=0):=by
 unfold IM
 rw[<-b,Bool.eq_iff_iff,beq_iff_eq,decide_eq_true_eq];omega
end Go.Eng
namespace Go.Proofs.YtnoegalemkbbbaaGreatDoor
open Go.Proofs.Tryz
open Go.Eng
abbrev SP(b:Nat)(x:Nd):HO:=.box b x.cells 46
abbrev EK(b:Nat)(x:Nd):HX:=.box b [I x.kind,I x.many,.v (str x.name),.v (str x.s),.v (.bool x.neg),I x.e] 46
abbrev SQ(b:Nat):Value:=.func (.func 269) #[] #[.pointer (some ⟨b,0,none⟩)]
theorem Ai9{w0 h:World}{M0 M:Mem}{Rs:List HO}(b:Nat)(a:Tm)(x:Nd)(hS:St w0 M0 h M (SP b x::Rs))(i:IQ a.c)(hx:IQ x)(j:x.kind<5):
  Calls prog 269 [QF a,.pointer (some ⟨b,0,none⟩)].toArray h (BF w0 M0 M Rs (λ _:Unit=>.bool (!HC a x)) (λ _=>True) (λ _=>[]) λ _=>[SP b x]):=AH (Hr:=Rs) AF func269 U ntmps269 [] [(0,EK b x)] [fW a,.bx 0 b 0] U hS A3 (λ B k=>BM 1 U U U λ l=>AJ U call270 U U (λ _ w M e=>Ah2 a x w M e.st.sat i hx j) U <|A2 k U U U λ w M' e=>⟨(),M',rfl,trivial,e.le,e.st.drop _ (List.sublist_cons_self _ _),A3⟩) U
theorem Aj0{w0 s:World}{M0 M:Mem}{Rs:List HO}(b:Nat)(v:Value)(l:List Tm)(x:Nd)(hS:St w0 M0 s M (SP b x::Rs))(hl:(kn v 7 l C2).ok M)(E:len l<=1099511627776)(z: ∀a∈l,IQ a.c)(hx:IQ x)(A:x.kind<5):
    Calls prog 293 [v,SQ b].toArray s (BF w0 M0 M Rs (λ k:Int=>i64 k) (λ k=>0<=k↔(l.any λ a=> !HC a x)=true) (λ _=>[]) λ _=>[SP b x]):=by
 have C:=A8 l
 refine AH (Hr:=Rs) AF func293 U ntmps293 [(0,kn v 7 l C2)] [(0,EK b x)] [.sl 0 v,.v (SQ b)] U hS (AD hl A3) (λ B y=>B7 (σ:=Int) (λ k=>⟨[(0,kn v 7 l C2)],[(0,EK b x)],[Z 0 (.sl 0 v),Z 1 (.v (SQ b)),Z 7 (I (len l)),Z 8 (I k)]⟩) (λ k=>0<=k/\k<=len l/\ ∀a∈Eng.sub l 0 k,¬(!HC a x)=true) (λ k=>(len l-k).toNat) 0 rfl rfl ⟨Aa,Aa,λ x hx=>by cases hx⟩ ?_) U
 intro k ⟨h0,h1,j⟩
 refine A1 U (λ i=>?_) (λ i=>?_)<;>simp only[zb]at i
 ·refine AP [0] (λ _:Unit=>.v (.bool (!HC (at' l k) x))) [] (λ _=>[(0,EK b x)]) (Fg:=λ _=>[]) (pu:=λ _=>True) U U call269 U U (λ w M hS hF=>Ai9 b (at' l k) x hS (z _ (at_mem h0 i)) hx A) λ _ _=>A1 U (λ n=>?_) (λ n=>?_)
  ·exact A2 y U U U λ w M' q=>⟨k,M',rfl,⟨λ _=>List.any_eq_true.2 ⟨at' l k,at_mem h0 i,n⟩,λ _=>h0⟩,q.le,q.st,A3⟩
  ·exact AX (k+1) U U ⟨Aa,Aa,λ a e=>by
    rw[G0 h0 i]at e
    rcases List.mem_append.1 e with e|e
    ·exact j a e
    ·rw[List.mem_singleton.1 e,n];decide⟩ Ag
 ·rw[GD Aa]at j
  exact A2 y U U U λ w M' q=>⟨-1,M',rfl,⟨λ h=>by omega,λ h=>by
   obtain⟨a,e,D⟩:=List.any_eq_true.1 h
   exact absurd D (j a e)⟩,q.le,q.st,A3⟩
theorem Aj1{w0 j:World}{M0 M:Mem}{Rs:List HO}(b:Nat)(v:Value)(l:List Tm)(x:Nd)(hS:St w0 M0 j M (SP b x::Rs))(hl:(kn v 7 l C2).ok M)(s:len l<=1099511627776)(y: ∀a∈l,IQ a.c)(hx:IQ x)(z:x.kind<5):
    Calls prog 268 [v,SQ b].toArray j (BF w0 M0 M Rs (λ _:Unit=>.bool (l.any λ a=> !HC a x)) (λ _=>True) (λ _=>[]) λ _=>[SP b x]):=by
 refine AH (Hr:=Rs) AF func268 U ntmps268 [(0,kn v 7 l C2)] [(0,EK b x)] [.sl 0 v,.v (SQ b)] U hS (AD hl A3) (λ B A=>AP [0] (λ k:Int=>I k) [] (λ _=>[(0,EK b x)]) (Fg:=λ _=>[]) (pu:=λ k=>0<=k↔(l.any λ a=> !HC a x)=true) U U call293 U U (λ w M hS hF=>Aj0 b v l x hS (hF.get (k:=0) U) s y hx z) λ k i=>?_) U
 exact A2 A U U U λ w M' n=>⟨(),M',by
  have e:decide (0<=k)=(l.any λ a=> !HC a x):=by
   by_cases h:0<=k
   · rw[i.1 h];simpa using h
   · rw[show(l.any λ a=> !HC a x)=false from by rw[<-Bool.not_eq_true];exact λ q=>h (i.2 q)];simpa using h
  rw[<-e];rfl,trivial,n.le,n.st,A3⟩
theorem Aj2(mask:Int)(v:Value)(l:List Tm)(x:Nd)(w:World)(M:Mem)(J:Sat w M)(hg:Gl w)(hl:(kn v 7 l C2).ok M)(K:len l<=1099511627776)(L: ∀a∈l,IQ a.c)(hx:IQ x)(hm:0<=mask/\mask<=31):
    Calls prog 240 [i64 mask,v,ES x].toArray w λ e w'=>e= .returned (.bool (N7 mask l x))/\Ext w w':=by
 refine AH (Hr:=[]) AF func240 U ntmps240 [(1,kn v 7 l C2)] [] [I mask,.sl 1 v,D1 x] U (Aj J) (AD hl A3) (λ B G=>BM 5 U U U λ b=>AJ U call267 U U (λ _ w M i=>r9 x w M i.st.sat (hg.low i.st.low) hx.1) U <|GB (I 0) U U (λ y=>?_) (λ y=>?_)) U
 ·have z:(decide (x.kind<5)&&GI x)=true:=by simpa using y
  have j:x.kind<5/\GI x=true:=by simpa using z
  have N:=Ai7 j.2
  obtain⟨kn,A⟩: ∃kn:Nat,x.kind=kn:=⟨x.kind.toNat,Aa⟩
  obtain⟨n,rfl⟩: ∃n:Nat,mask=n:=⟨mask.toNat,Aa⟩
  obtain⟨q,H⟩: ∃q,q=n/2^kn:=⟨_,rfl⟩
  have C:q<32:=by rw[H];exact Nat.lt_of_le_of_lt (Nat.div_le_self _ _) Aa
  refine AR (I (q:Int)) U U (λ w M i=>PV.nE (A7 (v:=I (n:Int)) (E:=[.b true _]) U (hE:=NT y U)) (A7 (v:=I x.kind) (E:=[.b true _]) U (hE:=NT y U)) (λ _=>by omega) (λ _=>by rw[A,AO8 _ _ Aa,H])) <|AR (I ((q%2:Nat):Int)) U U (λ w M i=>PV.dS (A7 (v:=I (q:Int)) (E:=[]) U) (A7 (v:=I 1) (E:=[]) U) (λ _=>AO7 ⟨q,C⟩)) ?_
  have D:=Ai8 (n:Int) kn q (by rw[H,Int.toNat_natCast])
  have F:N7 n l x=(IM n kn&&l.all λ a=>HC a x):=by unfold N7;rw[z,A,Int.toNat_natCast,Bool.true_and]
  refine A1 U (λ h=>?_) (λ h=>?_)
  ·have s:((q%2:Nat):Int)=0:=by simpa[z,j.1,j.2]using h
   exact A2 G U U U λ w M i=>⟨by rw[F,D,s];rfl,i.st.low⟩
  ·have s: ¬((q%2:Nat):Int)=0:=by intro c;rw[c]at h;simp at h
   refine AR (.v (SQ b)) U U (λ w M i=>PV.makeFunc (xs:=[]) (ys:=[.tmp 5]) (vs:=[]) (us:=[.pointer (some ⟨b,0,none⟩)]) trivial ⟨A7 (v:=.bx 5 b 0) (E:=[]) U,trivial⟩) <|AP [5] (λ _:Unit=>.v (.bool (l.any λ a=> !HC a x))) [] (λ _=>[(5,EK b x)]) (Fg:=λ _=>[]) (pu:=λ _=>True) U U call268 U U (λ w M hS hF=>Aj1 b v l x hS (hF.get (k:=1) U) K L hx j.1) λ _ _=>A2 G U U U λ w M i=>⟨?_,i.st.low⟩
   rw[F,D,decide_eq_true s,Bool.true_and,<-Ai6];rfl
 ·have z:(decide (x.kind<5)&&GI x)=false:=by simpa using y
  refine GB (I 0) U U (λ j=>?_) (λ j=>?_)
  ·rw[y]at j;cases j
  refine A1 U (λ h=>?_) (λ h=>?_)
  ·exact A2 G U U U λ w M i=>⟨by unfold N7;rw[z];rfl,i.st.low⟩
  ·rw[z]at h;simp at h
end Go.Proofs.YtnoegalemkbbbaaGreatDoor
