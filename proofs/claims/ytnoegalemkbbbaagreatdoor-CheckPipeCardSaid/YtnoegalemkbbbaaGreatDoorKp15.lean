/- Lemmas for the card. -/
import Derived.Test.YtnoegalemkbbbaaGreatDoorKp14
set_option linter.unusedVariables false
set_option linter.unusedSimpArgs false
set_option maxRecDepth 100000
set_option maxRecDepth 100000
namespace Go.Eng
def ES(o:Int):Option A0->List Tf->Bool
 |_,[]=>true
 |L,x::l=>(decide (x.t.op=9)==decide (o=1))&&(decide (o=2)||decide (x.t.name=[]))&&(!decide (o=2)||(DO x.t.name&&(L.all λ n=> !decide (x.t.name<=n))))&&ES o (some x.t.name) l
def L9:List Tf->Int->A0->(Tf->Option Int)->Option Int
 |[],_,_,_=>none
 |x::l,o,n,F=>if x.t.name=n then(F x).map (o+ ·)else L9 l (o+x.size) n F
def FY:List Sp->Tf->Option Int
 |[],_=>some 0
 |s::p,x=>if x.t.op≠2\/s.part=true then none else L9 x.ps 1 s.name (FY p)
def OZ(a:Int):Option Int->Int
 |some o=>a+o
 |none=> -1
theorem Ai3(a o:Int)(r:Option Int):OZ a (r.map (o+ ·))=OZ (a+o) r:=by
 cases r with
 |none=>rfl
 |some k=>show a+(o+k)=a+o+k;omega
theorem sJ{F:Tf->Option Int}{n:A0}: ∀ {l:List Tf} {o k:Int},(∀x∈l,∀j,F x=some j->0<=j/\j<x.size)->L9 l o n F=some k->o<=k/\k<o+A6 l
 |[],o,k,_,h=>by cases h
 |x::l,o,k,hF,h=>by
  unfold L9 at h
  rw[A6]
  split at h
  ·cases hx:F x with
   |none=>rw[hx]at h;cases h
   |some j=>
    rw[hx]at h
    have:=hF x (.head _) j hx
    have h:o+j=k:=Option.some.inj h
    omega
  ·have:=sJ (λ y b=>hF y (.tail _ b)) h
   omega
theorem gP: ∀(p:List Sp) (x:Tf) (k:Int),FY p x=some k->0<=k/\k<x.size
 |[],x,k,h=>by cases h;have:=x.size_pos;omega
 |s::p,x,k,h=>by
  unfold FY at h
  split at h
  ·cases h
  ·have:=sJ (λ y _ j b=>gP p y j b) h
   rw[Tf.size_eq];omega
def QO(p:List Sp)(x:Tf):Bool:=match FY p x with
 |some o=>(at' x.flat o).op==1
 |none=>false
def P0(t:Tm):List Tf->Bool
 |[x]=>if t.op=7\/t.op=8 then QO (I2 t.s).1 x else true
 |_=>if t.op=7\/t.op=8 then false else true
mutual
def ML:Tf->Bool
 | .mk t ps=>H3 { t with many:=len ps}&&ES t.op none ps&&P0 t ps&&I3 ps
def I3:List Tf->Bool
 |[]=>true
 |x::l=>ML x&&I3 l
end
theorem Ai4(a b:List Tf):I3 (a++b)=(I3 a&&I3 b):=by
 induction a with
 |nil=>simp[I3]
 |cons x a e=>rw[List.cons_append,I3,I3,e,Bool.and_assoc]
theorem sK(x:Tf):ML x=(H3 x.node&&ES x.t.op none x.ps&&P0 x.t x.ps&&I3 x.ps):=by cases x;rw[ML];rfl
theorem Ai5{o:Int}{L:Option A0}{x:Tf}{l:List Tf}(h1:(x.t.op==9)=(o==1))(b:o=2\/x.t.name=[])(e:o=2->DO x.t.name=true/\ ∀n,L=some n-> ¬x.t.name<=n):ES o L (x::l)=ES o (some x.t.name) l:=by
 conv=>lhs;rw[ES]
 have h:(decide (x.t.op=9)==decide (o=1))=true:=by rw[beq_iff_eq];exact h1
 have e2:(decide (o=2)||decide (x.t.name=[]))=true:=by simpa using b
 have e3:(!decide (o=2)||(DO x.t.name&&(L.all λ n=> !decide (x.t.name<=n))))=true:=by
  by_cases ho:o=2
  ·obtain⟨i,j⟩:=e ho
   rw[i]
   cases L with
   |none=>simp
   |some n=>have:=j n U;simp[this]
  ·simp[ho]
 rw[h,e2,e3];simp
theorem Ai6{o:Int}{L:Option A0}{x:Tf}{l:List Tf}(h: ¬(x.t.op==9)=(o==1)):ES o L (x::l)=false:=by
 rw[ES]
 have e:(decide (x.t.op=9)==decide (o=1))=false:=by
  rw[beq_eq_false_iff_ne];intro q;exact h q
 rw[e];rfl
theorem Ai7{o:Int}{L:Option A0}{x:Tf}{l:List Tf}(h1: ¬o=2)(b: ¬x.t.name=[]):ES o L (x::l)=false:=by rw[ES];simp[h1,b]
theorem Ai8{o:Int}{L:Option A0}{x:Tf}{l:List Tf}(h1:o=2)(b:DO x.t.name=false):ES o L (x::l)=false:=by rw[ES];simp[h1,b]
theorem Ai9{o:Int}{n:A0}{x:Tf}{l:List Tf}(h1:o=2)(b:x.t.name<=n):ES o (some n) (x::l)=false:=by rw[ES];simp[h1,b]
end Go.Eng
namespace Go.Proofs.YtnoegalemkbbbaaGreatDoor
open Go.Proofs.Tryz
open Go.Eng
theorem Aj0(f:Fl)(v:Value)(a:Int)(x:Tf)(z:List Tf)(M:Mem)(w:World)(hM:Sat w M)(hv:Sl M 11 f.length v (f.flatMap Tm.cells))(hb:len f<=1048576)(hs:BW f a (x::z))(N: ∀t∈f,len t.name<=1048576):
    Calls prog 66 [v,i64 a].toArray w λ e w'=>e= .returned (.bool (ES x.t.op none x.ps))/\Ext w w':=by
 have hx:=hs.node
 have hk:=hs.SO
 have hle:=hs.le
 rw[A6,Tf.size_eq]at hle
 have F:(at' f a).op=x.t.op:=by rw[hx.2.2];rfl
 have hxm:(at' f a).many=len x.ps:=by rw[hx.2.2];rfl
 have hlp:=A9 x.ps
 have hls:=MI x.ps
 refine AH (Hr:=[]) AF func66 U ntmps66 [(0,A7 v f)] [] [.sl 0 v,I a] U (Aj hM) (fc 0 hv Tm.AV A4) (λ B O=>B5 (σ:=List Tf×List Tf×Int×Option A0×Int) (λ(p,q,i,L,k)=>⟨[(0,A7 v f)],[],[Z 0 (.sl 0 v),Z 1 (I a),Z 5 (I i),Z 6 (.v (str (L.getD []))),Z 7 (I k)]⟩) (λ(p,q,i,L,k)=>k=len p/\x.ps=p++q/\i=a+1+A6 p/\ES x.t.op none x.ps=ES x.t.op L q/\(L=none↔len p=0)) (λ(p,q,i,L,k)=>q.length) ([],x.ps,a+1,none,0) U U ⟨rfl,rfl,by simp[A6],rfl,⟨λ _=>rfl,λ _=>rfl⟩⟩ ?_) U
 rintro⟨p,q,i,L,k⟩ ⟨P,b,hi,j,W⟩
 have G:=congrArg A6 b
 rw[IG]at G
 have C:=congrArg len b
 rw[AQ]at C
 have hl0:=A9 p
 have hq0:=A9 q
 have l:BW f i (q++z):=by
  have:=hk
  rw[b,List.append_assoc]at this
  rw[hi];exact this.skip
 refine A1 U (λ X=>?_) (λ X=>?_)<;>simp only[zb]at X
 ·cases q with
  |nil=>rw[len_nil]at C;omega
  |cons y q=>
   have l:BW f i (y::(q++z)):=l
   have J:=l.node
   have D:(at' f i).name=y.t.name:=by rw[J.2.2];rfl
   have Q:(at' f i).op=y.t.op:=by rw[J.2.2];rfl
   have hnl:=N _ (at_mem J.1 J.2.1)
   have R:=SP l
   have hys:=y.size_pos
   rw[A6]at G
   refine BA 8 U zeroValue52 U λ b8=>?_
   refine G4 U BM Ac (G5 U ?_)
   refine A1 U (λ E=>?_) (λ E=>?_)<;>simp only[zb]at E<;>rw[Q,F,D]at E
   ·refine A2 O U U U λ w M s=>⟨?_,s.st.low⟩
    have e:ES x.t.op none x.ps=false:=by
     rw[j]
     rcases E with h|h
     · exact Ai6 h
     · exact Ai7 h.1 h.2
    rw[e];rfl
   ·refine AJ U call125 U U (λ _ w M s=>XJ (at' f i).name w Aa) U ?_
    refine A1 U (λ A=>?_) (λ A=>?_)<;>simp only[zb]at A<;>rw[F,D]at A
    ·refine A2 O U U U λ w M s=>⟨?_,s.st.low⟩
     have e:ES x.t.op none x.ps=false:=by
      rw[j]
      obtain⟨q1,K⟩:=A
      rcases K with K|⟨K,q3⟩
      · exact Ai8 q1 K
      · cases L with
        |none=>have:=W.1 U;omega
        |some n=>exact Ai9 q1 (s6 q3)
     rw[e];rfl
    ·refine AJ U call64 U U (λ _ w M s=>gO f v i M w s.st.sat (s.sl 0 U) hb Aa Aa) U ?_
     have H:ES x.t.op none x.ps=ES x.t.op (some y.t.name) q:=by
      rw[j]
      refine Ai5 E.1 (by rcases Decidable.em (x.t.op=2)with h|h;exact .inl h;exact .inr (E.2.resolve_left h)) λ ho=>?_
      rcases A with A|⟨A,h5⟩
      · exact absurd ho A
      · refine⟨A,λ n hn=>?_⟩
        subst hn
        have hp1: ¬len p=0:=λ e=>by have:=W.2 e;cases this
        have h6:=h5.resolve_left Aa
        exact s7 h6.1 h6.2
     have S:(some y.t.name=none↔len (p++[y])=0):=by
      refine⟨(λ e=>nomatch e),λ e=>?_⟩
      rw[AQ]at e
      have e2:len p+1=0:=e
      omega
     have T:GZ f i=a+1+A6 (p++[y]):=by rw[R,hi,IG,A6,A6];omega
     have V:k+1=len (p++[y]):=by rw[AQ,P];rfl
     refine AX (p++[y],q,GZ f i,some y.t.name,k+1) U (by rw[D];rfl) ⟨V,by rw[b];simp,T,H,S⟩ (by show q.length<(y::q).length;simp)
 ·have hq:q=[]:=by
   cases q with
   |nil=>rfl
   |cons y q=>rw[AM]at C;have:=A9 q;omega
  subst hq
  refine A2 O U U U λ w M s=>⟨?_,s.st.low⟩
  rw[j];cases L<;>rfl
theorem Aj1: ∀(p:List Sp) (f:Fl) (v u:Value) (a:Int) (x:Tf) (z:List Tf) (M:Mem) (w:World),Sat w M->Sl M 11 f.length v (f.flatMap Tm.cells)->Sl M 3 p.length u (p.flatMap Sp.cells)->len f<=1048576->len p<=1048576->BW f a (x::z)->
    Calls prog 68 [v,i64 a,u].toArray w λ e w'=>e= .returned (i64 (OZ a (FY p x)))/\Ext w w':=by
 intro p
 induction p with
 |nil=>
  intro f v u a x z M w J K hu L N hs
  refine AH (Hr:=[]) AF func68 U ntmps68 [(0,A7 v f),(1,kn u 3 [] Sp.cells)] [] [.sl 0 v,I a,.sl 1 u] U (Aj J) (fc 0 K Tm.AV (fc 1 hu Sp.AV A4)) (λ B D=>?_) U
  refine A1 U (λ h=>?_) (λ h=>?_)<;>simp only[zb]at h
  ·exact A2 D U U U λ w M b=>⟨by show Ending.returned (i64 a)= .returned (i64 (a+0));rw[Int.add_zero],b.st.low⟩
  ·exfalso;exact h U
 |cons s p W=>
  intro f v u a x z M w J K hu L N hs
  have hx:=hs.node
  have X:=hs.SO
  have hle:=hs.le
  rw[A6,Tf.size_eq]at hle
  have O:(at' f a).op=x.t.op:=by rw[hx.2.2];rfl
  have hxm:(at' f a).many=len x.ps:=by rw[hx.2.2];rfl
  have hlp:=A9 x.ps
  have hls:=MI x.ps
  have hp0:=A9 p
  have hlc:len (s::p)=len p+1:=AM s p
  have E:at' (s::p) 0=s:=rfl
  refine AH (Hr:=[]) AF func68 U ntmps68 [(0,A7 v f),(1,kn u 3 (s::p) Sp.cells)] [] [.sl 0 v,I a,.sl 1 u] U (Aj J) (fc 0 K Tm.AV (fc 1 hu Sp.AV A4)) (λ B D=>?_) U
  refine A1 U (λ h=>?_) (λ h=>?_)<;>simp only[zb]at h
  ·exfalso;omega
  refine A1 U (λ j=>?_) (λ j=>?_)<;>simp only[zb]at j<;>rw[O,E]at j
  ·have e:FY (s::p) x=none:=by unfold FY;rw[if_pos j]
   exact A2 D U U U λ w M b=>⟨by rw[e];rfl,b.st.low⟩
  have eL:FY (s::p) x=L9 x.ps 1 s.name (FY p):=by rw[FY,if_neg (by rintro(q|q);exact q j.1;rw[j.2]at q;cases q)]
  refine B5 (σ:=List Tf×List Tf×Int×Int) (λ(d,q,i,k)=>⟨[(0,A7 v f),(1,kn u 3 (s::p) Sp.cells)],[],[Z 0 (.sl 0 v),Z 1 (I a),Z 2 (.sl 1 u),Z 7 (I i),Z 8 (I k)]⟩) (λ(d,q,i,k)=>k=len d/\x.ps=d++q/\i=a+(1+A6 d)/\FY (s::p) x=L9 q (1+A6 d) s.name (FY p)) (λ(d,q,i,k)=>q.length) ([],x.ps,a+1,0) U U ⟨rfl,rfl,by simp[A6],by rw[eL];simp[A6]⟩ ?_
  rintro⟨d,q,i,k⟩ ⟨P,n,hi,A⟩
  have F:=congrArg A6 n
  rw[IG]at F
  have C:=congrArg len n
  rw[AQ]at C
  have hl0:=A9 d
  have hq0:=A9 q
  have l:BW f i (q++z):=by
   have:=X
   rw[n,List.append_assoc]at this
   rw[hi,<-Int.add_assoc];exact this.skip
  refine A1 U (λ V=>?_) (λ V=>?_)<;>simp only[zb]at V
  ·cases q with
   |nil=>rw[len_nil]at C;omega
   |cons y q=>
    have l:BW f i (y::(q++z)):=l
    have hy:=l.node
    have Q:(at' f i).name=y.t.name:=by rw[hy.2.2];rfl
    have R:=SP l
    have hys:=y.size_pos
    rw[A6]at F
    refine G4 U BM Ac (G5 U ?_)
    refine A1 U (λ G=>?_) (λ G=>?_)<;>simp only[zb]at G<;>rw[Q,E]at G
    ·refine FO (gd:=none) 9 1 (len (s::p)) U U U ⟨.i64,_,rfl,AE U⟩ U underlying61 sizeOf105 Aa U λ v9=>?_
     rw[gE]
     refine AJ U call68 U U (λ _ w M b=>W f v v9 i y (q++z) M w b.st.sat (b.sl 0 U) (b.sl 9 U) L Aa l) U ?_
     refine A2 D U U U λ w M b=>⟨?_,b.st.low⟩
     have e:OZ a (FY (s::p) x)=OZ i (FY p y):=by rw[A,L9,if_pos G,Ai3,hi]
     rw[e];rfl
    ·refine AJ U call64 U U (λ _ w M b=>gO f v i M w b.st.sat (b.sl 0 U) L Aa Aa) U ?_
     have S:GZ f i=a+(1+A6 (d++[y])):=by rw[R,hi,IG,A6,A6];omega
     have T:k+1=len (d++[y]):=by rw[AQ,P];rfl
     have H:FY (s::p) x=L9 q (1+A6 (d++[y])) s.name (FY p):=by
      rw[A,L9,if_neg G,IG,A6,A6];congr 1;omega
     exact AX (d++[y],q,GZ f i,k+1) U U ⟨T,by rw[n];simp,S,H⟩ (by show q.length<(y::q).length;simp)
  ·have hq:q=[]:=by
    cases q with
    |nil=>rfl
    |cons y q=>rw[AM]at C;have:=A9 q;omega
   subst hq
   refine A2 D U U U λ w M b=>⟨?_,b.st.low⟩
   rw[A];rfl
end Go.Proofs.YtnoegalemkbbbaaGreatDoor
namespace Go.Eng
theorem Aj2{f:Fl}{i o:Int}{y:Tf}{z:List Tf}(h:BW f i (y::z))(h0:0<=o)(h1:o<y.size):at' f (i+o)=at' y.flat o:=by
 obtain⟨hi,pre,post,rfl,rfl⟩:=h
 have hl:len y.flat=y.size:=by unfold len;rw[Tf.DC]
 rw[show len pre+o=o+len pre by omega,sB _ _ h0,AO,List.append_assoc,nQ _ _ h0 Aa]
theorem Aj3{t:Tm}(h:H3 t=true)(ho:t.op=7\/t.op=8):t.many=1:=by
 unfold H3 JY at h
 rw[if_neg Aa,if_neg Aa,if_neg Aa,if_neg Aa,if_neg Aa,if_neg Aa,if_pos ho]at h
 simp only[Bool.and_eq_true,beq_iff_eq]at h
 exact h.2.1
theorem Aj4(s:A0):len (I2 s).1<=20:=Go.Proofs.YtnoegalemkbbbaaGreatDoor.sG s
theorem Aj5{u:Tf}{us:List Tf}(h1:H3 u.node=true)(b:ES u.t.op none u.ps=true)(e:P0 u.t u.ps=true):I3 (u::us)=I3 (u.ps++us):=by
 rw[I3,sK,h1,b,e,Ai4];simp
structure Tf.gQ (x:Tf):Prop where
 zm:x.zm
 name:x.t.name=[]
 op:x.t.op≠9
 all:ML x=true
end Go.Eng
namespace Go.Proofs.YtnoegalemkbbbaaGreatDoor
open Go.Proofs.Tryz
open Go.Eng
theorem Aj6(f:Fl)(v:Value)(M:Mem)(w:World)(hM:Sat w M)(hv:Sl M 11 f.length v (f.flatMap Tm.cells))(V:len f<=1048576)(D: ∀t∈f,len t.name<=1048576/\len t.s<=1048576/\len t.c.s<=1048576):
    Calls prog 20 [v].toArray w λ e w'=>(∃b:Bool,e= .returned (.bool b)/\(b=true-> ∃x:Tf,f=x.flat/\x.gQ))/\Ext w w':=by
 have hl0:=A9 f
 refine AH (Hr:=[]) AF func20 U ntmps20 [(0,A7 v f)] [] [.sl 0 v] U (Aj hM) (fc 0 hv Tm.AV A4) (λ B T=>AJ U call64 U U (λ _ w M k=>gO f v 0 M w k.st.sat (k.sl 0 U) V Aa Aa) U ?_) U
 refine A1 U (λ n=>?_) (λ n=>?_)<;>simp only[zb]at n
 ·exact A2 T rfl rfl rfl λ w M k=>⟨⟨false,rfl,λ h=>by cases h⟩,k.st.low⟩
 have W:f≠[]:=λ e=>by subst e;exact n.1.1.1 rfl
 obtain⟨x,hz,A⟩:=qT n.2 W
 have X:x.t.name=[]:=by have:=n.1.1.2;rw[A,Tf.DA]at this;exact this
 have hop:x.t.op≠9:=by have:=n.1.2;rw[A,Tf.DA]at this;exact this
 have hsx:BW f 0 [x]:=by rw[A];exact BW.top x
 have hlx:len f=x.size:=by rw[A];unfold len;rw[Tf.DC]
 refine B5 (σ:=Int×List Tf) (λ(i,ts)=>⟨[(0,A7 v f)],[],[Z 0 (.sl 0 v),Z 3 (I i)]⟩) (λ(i,ts)=>BW f i ts/\i+A6 ts=len f/\ML x=I3 ts) (λ(i,ts)=>A6 ts) (0,[x]) U U ⟨hsx,by rw[hlx];simp[A6],by simp[I3]⟩ ?_
 rintro⟨i,ts⟩ ⟨E,K,L⟩
 have hi0:=E.1
 refine A1 U (λ N=>?_) (λ N=>?_)<;>simp only[zb]at N
 ·cases ts with
  |nil=>rw[show A6 []=0 from rfl]at K;omega
  |cons u us=>
   have hu:=E.node
   have C:=at_mem hu.1 hu.2.1
   have O:(at' f i).op=u.t.op:=by rw[hu.2.2];rfl
   have hus:(at' f i).s=u.t.s:=by rw[hu.2.2];rfl
   have hum:(at' f i).many=len u.ps:=by rw[hu.2.2];rfl
   have j:=E.SO
   have hsz:=u.size_pos
   have J:=IG u.ps us
   have hse:=u.size_eq
   rw[A6]at K
   refine AJ U call65 U U (λ _ w M k=>Ai1 (at' f i) w M k.st.sat (D _ C).2.1 (D _ C).2.2) U ?_
   refine AJ U call66 U U (λ _ w M k=>Aj0 f v i u us M w k.st.sat (k.sl 0 U) V E λ t ht=>(D t ht).1) U ?_
   refine A1 U (λ F=>?_) (λ F=>?_)<;>simp only[zb]at F
   ·exact A2 T rfl rfl rfl λ w M k=>⟨⟨false,rfl,λ h=>by cases h⟩,k.st.low⟩
   have P:=F.1
   refine CP 1 (λ s=>P0 u.t u.ps=true/\s=⟨[(0,A7 v f)],[],[Z 0 (.sl 0 v),Z 3 (I i)]⟩) U U (λ z=>?_) (λ z=>?_) ?_
   ·simp only[zb]at z
    have G:=Aj3 P z
    obtain⟨y,hy⟩: ∃y,u.ps=[y]:=by
     match hps:u.ps,hum with
     |[],h=>rw[h]at G;cases G
     |[y],_=>exact⟨y,rfl⟩
     |_::_::l,h=>rw[h]at G;simp only[AM]at G;have:=A9 l;omega
    rw[hy]at j
    have j:BW f (i+1) (y::us):=j
    have hky:=j.le
    rw[A6]at hky
    have hus1:=A9 (I2 (at' f i).s).1
    have hpl2:=Aj4 (at' f i).s
    have Q:P0 u.t u.ps=QO (I2 u.t.s).1 y:=by
     rw[hy]
     show(if u.t.op=7\/u.t.op=8 then QO (I2 u.t.s).1 y else true)=_
     rw[if_pos (by rw[<-O];exact z)]
    obtain⟨r,hr⟩: ∃r,r=FY (I2 (at' f i).s).1 y:=⟨_,rfl⟩
    have R: ∀o,r=some o->0<=o/\o<y.size:=λ o h=>gP _ y o (by rw[<-hr];exact h)
    have hlv:OZ (i+1) r<len f:=by
     cases r with
     |none=>show(-1:Int)<_;omega
     |some o=>have:=R o U;show i+1+o<_;omega
    refine EW (λ v:Value=>.tu [.sl 6 v,.v (.bool (I2 (at' f i).s).2)]) [6] (Fg:=λ v=>[(0,kn v 3 (I2 (at' f i).s).1 Sp.cells)]) (pu:=λ _=>True) U U call67 U (λ w M k=>sH (at' f i).s k.st.sat (D _ C).2.1) λ v6 _=>?_
    refine AJ U call68 U U (λ _ w M k=>(by have q:=Aj1 (I2 (at' f i).s).1 f v v6 (i+1) y us M w k.st.sat (k.sl 0 U) (k.sl 6 U) V Aa j;rw[<-hr]at q;exact q:Calls prog 68 [v,i64 (i+1),v6].toArray w λ e w'=>e= .returned (i64 (OZ (i+1) r))/\Ext w w')) U ?_
    refine A1 U (λ H=>?_) (λ H=>?_)<;>simp only[zb]at H
    ·exact A2 T rfl rfl rfl λ w M k=>⟨⟨false,rfl,λ h=>by cases h⟩,k.st.low⟩
    ·refine AW _ U U ⟨?_,rfl⟩
     rw[Q]
     unfold QO
     rw[<-hus,<-hr]
     cases r with
     |none=>exact absurd H.1 (by show ¬ ¬((-1:Int)<0);omega)
     |some o=>
      have S:=R o U
      have h5:=H.2
      rw[show OZ (i+1) (some o)=i+1+o from rfl,Aj2 j S.1 S.2]at h5
      show((at' y.flat o).op==1)=true
      rw[beq_iff_eq];exact h5
   ·simp only[zb]at z
    refine AW _ U U ⟨?_,rfl⟩
    rw[O]at z
    unfold P0
    split
    · rw[if_neg Aa]
    · rw[if_neg Aa]
   rintro s ⟨hld,rfl⟩
   refine AX (i+1,u.ps++us) U U ⟨j,by rw[J];omega,?_⟩ (by show A6 (u.ps++us)<A6 (u::us);rw[J,A6];omega)
   rw[L]
   exact Aj5 (by rw[<-hu.2.2];exact P) F.2 hld
 ·have hts:ts=[]:=by
   cases ts with
   |nil=>rfl
   |cons u us=>rw[A6]at K;have:=u.size_pos;omega
  subst hts
  exact A2 T U U U λ w M k=>⟨⟨true,rfl,λ _=>⟨x,A,hz,X,hop,by rw[L];rfl⟩⟩,k.st.low⟩
end Go.Proofs.YtnoegalemkbbbaaGreatDoor
namespace Go.Eng
def IY(n:Int)(k:Nat):Bool:=n.toNat/2^k%2==1
abbrev C5(u:Tm):List Value:=[i64 u.n,i64 u.c.kind,i64 u.c.many,str u.c.name,str u.c.s,.bool u.c.neg,i64 u.c.e]
theorem ZB(u:Tm):(C5 u).length=7:=rfl
theorem sL(x:Tm): ∀u∈C5 x,u.oneCell'=true:=by intro u hu;simp[C5]at hu;rcases hu with rfl|rfl|rfl|rfl|rfl|rfl|rfl<;>rfl
end Go.Eng
namespace Go.Proofs.YtnoegalemkbbbaaGreatDoor
open Go.Proofs.Tryz
open Go.Eng
theorem Aj7(n:Int)(k:Nat)(w:World)(h0:0<=n)(h1:n<=1048576)(s:k<=5):Calls prog 100 [i64 n,i64 k].toArray w λ e w'=>e= .returned (.bool (IY n k))/\Ext w w':=by
 refine AH AF func100 U ntmps100 [] [] [I n,I k] U (BD w) A4 (λ B h=>B5 (σ:=Nat×Int) (λ(j,m)=>⟨[],[],[Z 0 (I m),Z 1 (I k),Z 5 (I j)]⟩) (λ(j,m)=>j<=k/\m=((n.toNat/2^j:Nat):Int)/\0<=m/\m<=1048576) (λ(j,m)=>k-j) (0,n) U U ⟨Aa,by simp;omega,h0,h1⟩ ?_) U
 rintro⟨j,m⟩ ⟨y,hm,i,l⟩
 refine A1 U (λ b=>?_) (λ b=>?_)<;>simp only[zb]at b
 ·refine AX (j+1,m/2) U U ⟨Aa,?_,Aa,Aa⟩ (by show k-(j+1)<k-j;omega)
  rw[hm,Nat.pow_succ,<-Nat.div_div_eq_div_mul];simp
 ·have e:j=k:=by omega
  subst e
  refine A2 h U U U λ w M q=>⟨?_,q.st.low⟩
  have e2:IY n j=(m%2==1):=by
   unfold IY;rw[hm,Bool.eq_iff_iff,beq_iff_eq,beq_iff_eq];omega
  rw[e2];rfl
end Go.Proofs.YtnoegalemkbbbaaGreatDoor
namespace Go.Eng
open Go.RowKit
def IZ(a b:Int):Int:=if a<b then-1 else if b<a then 1 else 0
def SS(a b:A0):Int:=if Op.bytesLess a b=true then-1 else if Op.bytesLess b a=true then 1 else 0
def SU(a b:Nd):Int:=if a.s=[]\/b.s=[]then IZ (len a.s) (len b.s)else if IZ (len a.s+a.e) (len b.s+b.e)≠0 then IZ (len a.s+a.e) (len b.s+b.e)else SS a.s b.s
def SW(a b:Nd):Int:=if a.neg=true/\b.neg=false then-1 else if b.neg=true/\a.neg=false then 1 else if a.neg=true then SU b a else SU a b
def SX(a b:Nd):Int:=if IZ a.kind b.kind≠0 then IZ a.kind b.kind else if a.kind=3 then SW a b else if a.kind=4 then SS a.s b.s else 0
def J0(how c:Int):Bool:=
 if how=0 then decide (c=0)else if how=1 then decide (c≠0)else if how=2 then decide (c<0)else if how=3 then decide (c<=0)else if how=4 then decide (0<c)else decide (0<=c)
def HL(a:Tm)(x:Nd):Bool:=J0 a.n (SX x a.c)
def NM(mask:Int)(l:List Tm)(x:Nd):Bool:=decide (x.kind<5)&&GN x&&IY mask x.kind.toNat&&l.all λ a=>HL a x
def MM(n:Int):Int:=if n=0 then 1 else if n=1 then 0 else if n=2 then 5 else if n=3 then 4 else if n=4 then 3 else if n=5 then 2 else 0
def I4(s:A0):A0:=Lib.trimRightS s [57]
def P1(n:Int):A0:=List.replicate n.toNat 57
def P2(s:A0):A0:=if len (I4 s)=0 then [49]++BB (len s-len (I4 s))else Eng.sub s 0 (len (I4 s)-1)++[(A3 s (len (I4 s)-1)+1).toNat.toUInt8]++BB (len s-len (I4 s))
def P3(s:A0):A0:=Eng.sub s 0 (len (BE s)-1)++[(A3 s (len (BE s)-1)-1).toNat.toUInt8]++P1 (len s-len (BE s))
def P4(n:Nd)(above:Bool):Int:=max (len n.s+n.e-(if n.neg=above/\n.s=[49]then 1 else 0)-100) (-1000)
def P5(n:Nd)(above:Bool):Nd×Int:=
 if n.s=[]then CI (!above) [49] (-1000)
 else CI n.neg ((if n.neg=above then P3 else P2) (n.s++BB (n.e-P4 n above))) (P4 n above)
def NN(n:Nd)(above:Bool):Nd×Bool:=((P5 n above).1,decide ((P5 n above).2=0))
def DB(k:Int):Nd:=⟨k,0,[],[],false,0⟩
def MN(n:Nd)(above:Bool):List Nd:=if(NN n above).2=true then [(NN n above).1]else []
def NO(a:Tm):List Nd:=if a.c.kind=3 then [a.c]++MN a.c true++MN a.c false else []
def HM(a:Tm):List Nd:=if a.c.kind=4 then [a.c,⟨4,0,[],a.c.s++[0],false,0⟩]else []
def DW(l:List Tm):List Nd:=[DB 0,DB 1,DB 2,DB 3]++l.flatMap NO++[DB 4]++l.flatMap HM
def II(mask:Int)(l:List Tm):Nd×Bool:=match(DW l).find? (NM mask l)with
 |some x=>(x,true)
 |none=>(DB 0,false)
theorem sM(a b:Int):(a<b/\IZ a b= -1)\/(b<a/\IZ a b=1)\/(a=b/\IZ a b=0):=by
 unfold IZ
 rcases Int.lt_trichotomy a b with h|h|h
 ·exact .inl ⟨h,if_pos h⟩
 ·exact .inr (.inr ⟨h,by rw[if_neg Aa,if_neg Aa]⟩)
 ·exact .inr (.inl ⟨h,by rw[if_neg Aa,if_pos h]⟩)
theorem Aj8{a b:A0}(h:(!(Op.bytesLess a b||a==b))=true):Op.bytesLess b a=true:=by
 rw[Go.Proofs.bytesLess_eq]at h ⊢
 simp only[Bool.not_eq_true',Bool.or_eq_false_iff,decide_eq_false_iff_not,beq_eq_false_iff_ne]at h
 rw[decide_eq_true_eq]
 exact Decidable.byContradiction λ q=>h.2 (List.le_antisymm (List.not_lt.1 q) (List.not_lt.1 h.1))
theorem Aj9{a b:A0}(h1: ¬Op.bytesLess a b=true)(h:(!(Op.bytesLess a b||a==b))=false): ¬Op.bytesLess b a=true:=by
 simp only[Bool.not_eq_false',Bool.or_eq_true,beq_iff_eq]at h
 rcases h with h|h
 ·exact absurd h h1
 ·rw[<-h];rw[h];rw[h]at h1;exact h1
theorem sN(x:Int):(x != 0)=decide (x≠0):=by by_cases h:x=0<;>simp[h]
theorem Ak0(a b:Int): -1<=IZ a b/\IZ a b<=1:=by rcases sM a b with h|h|h<;>omega
end Go.Eng
namespace Go.Proofs.YtnoegalemkbbbaaGreatDoor
open Go.Proofs.Tryz
open Go.Eng
theorem sO(a:Int)(w:World):Calls prog 338 [i64 a].toArray w λ e w'=>e= .returned (.bool false)/\Ext w w':=AH AF func338 U ntmps338 [] [] [I a] U (BD w) A4 (λ B b=>A2 b U U U λ w M h=>⟨by simp;rfl,h.st.low⟩) U
theorem sP(a:A0)(w:World):Calls prog 247 [str a].toArray w λ e w'=>e= .returned (.bool false)/\Ext w w':=AH AF func247 U ntmps247 [] [] [.v (str a)] U (BD w) A4 (λ B b=>A2 b U U U λ w M h=>⟨by simp;rfl,h.st.low⟩) U
theorem gR(a b:Int)(w:World):Calls prog 312 [i64 a,i64 b].toArray w λ e w'=>e= .returned (i64 (IZ a b))/\Ext w w':=by
 refine AH AF func312 U ntmps312 [] [] [I a,I b] U (BD w) A4 (λ B j=>AJ U call338 U U (λ _ w M i=>sO a w) U <|AJ U call338 U U (λ _ w M i=>sO b w) U <|A1 rfl (λ h=>by cases h) (λ _=>A1 rfl (λ h=>by cases h) (λ _=>?_))) U
 refine A1 U (λ h1=>?_) (λ h1=>?_)<;>simp only[zb]at h1
 ·exact A2 j U U U λ w M i=>⟨by unfold IZ;rw[if_pos h1];rfl,i.st.low⟩
 refine A1 U (λ k=>?_) (λ k=>?_)<;>simp only[zb]at k
 ·exact A2 j U U U λ w M i=>⟨by unfold IZ;rw[if_neg Aa,if_pos k];rfl,i.st.low⟩
 exact A2 j U U U λ w M i=>⟨by unfold IZ;rw[if_neg Aa,if_neg Aa];rfl,i.st.low⟩
theorem sQ(a b:A0)(w:World):Calls prog 314 [str a,str b].toArray w λ e w'=>e= .returned (i64 (SS a b))/\Ext w w':=by
 refine AH AF func314 U ntmps314 [] [] [.v (str a),.v (str b)] U (BD w) A4 (λ B k=>AJ U call247 U U (λ _ w M i=>sP a w) U <|AJ U call247 U U (λ _ w M i=>sP b w) U <|A1 rfl (λ h=>by cases h) (λ _=>A1 rfl (λ h=>by cases h) (λ _=>A1 U (λ h1=>?_) (λ h1=>?_)))) U
 ·exact A2 k U U U λ w M i=>⟨by unfold SS;rw[if_pos h1];rfl,i.st.low⟩
 have j: ¬Op.bytesLess a b=true:=by rw[h1];decide
 refine A1 U (λ l=>?_) (λ l=>?_)
 ·exact A2 k U U U λ w M i=>⟨by unfold SS;rw[if_neg j,if_pos (Aj8 l)];rfl,i.st.low⟩
 exact A2 k U U U λ w M i=>⟨by unfold SS;rw[if_neg j,if_neg (Aj9 j l)];rfl,i.st.low⟩
theorem sR(a b:Nd)(w:World)(q:len a.s<=1048576/\ -1048576<=a.e/\a.e<=1048576)(y:len b.s<=1048576/\ -1048576<=b.e/\b.e<=1048576):
   Calls prog 339 [EV a,EV b].toArray w λ e w'=>e= .returned (i64 (SU a b))/\Ext w w':=by
 have l:=A9 a.s
 have n:=A9 b.s
 have ho:=Ak0 (len a.s+a.e) (len b.s+b.e)
 refine AH AF func339 U ntmps339 [] [] [D3 a,D3 b] U (BD w) A4 (λ B j=>BP 2 U U U λ z=>BP 3 U U U λ A=>?_) U
 refine A1 U (λ h1=>?_) (λ h1=>?_)<;>simp only[zb]at h1
 ·exact AJ U call312 U U (λ _ w M h=>gR (len a.s) (len b.s) w) U <|A2 j U U U λ w M h=>⟨by unfold SU;rw[if_pos h1];rfl,h.st.low⟩
 have i: ¬(a.s=[]\/b.s=[]):=by simpa using h1
 refine AJ U call312 U U (λ _ w M h=>gR (len a.s+a.e) (len b.s+b.e) w) U ?_
 refine A1 U (λ k=>?_) (λ k=>?_)<;>simp only[zb]at k
 ·exact A2 j U U U λ w M h=>⟨by unfold SU;rw[if_neg i,if_pos k];rfl,h.st.low⟩
 exact AJ U call314 U U (λ _ w M h=>sQ a.s b.s w) U <|A2 j U U U λ w M h=>⟨by unfold SU;rw[if_neg i,if_neg Aa];rfl,h.st.low⟩
theorem Ak1(a b:Nd)(w:World)(q:len a.s<=1048576/\ -1048576<=a.e/\a.e<=1048576)(y:len b.s<=1048576/\ -1048576<=b.e/\b.e<=1048576):
   Calls prog 313 [EV a,EV b].toArray w λ e w'=>e= .returned (i64 (SW a b))/\Ext w w':=by
 refine AH AF func313 U ntmps313 [] [] [D3 a,D3 b] U (BD w) A4 (λ B k=>BP 2 U U U λ z=>BP 3 U U U λ A=>A1 U (λ h1=>?_) (λ h1=>?_)) U
 ·exact A2 k U U U λ w M h=>⟨by unfold SW;rw[if_pos (by simpa using h1)];rfl,h.st.low⟩
 have i: ¬(a.neg=true/\b.neg=false):=by simpa using h1
 refine A1 U (λ l=>?_) (λ l=>?_)
 ·exact A2 k U U U λ w M h=>⟨by unfold SW;rw[if_neg i,if_pos (by simpa using l)];rfl,h.st.low⟩
 have j: ¬(b.neg=true/\a.neg=false):=by simpa using l
 refine A1 U (λ n=>?_) (λ n=>?_)
 ·exact AJ U call339 U U (λ _ w M h=>sR b a w y q) U <|A2 k U U U λ w M h=>⟨by unfold SW;rw[if_neg i,if_neg j,if_pos n];rfl,h.st.low⟩
 exact AJ U call339 U U (λ _ w M h=>sR a b w q y) U <|A2 k U U U λ w M h=>⟨by unfold SW;rw[if_neg i,if_neg j,if_neg (by rw[n];decide)];rfl,h.st.low⟩
abbrev J1(a:Nd):Prop:=len a.s<=1048576/\ -1048576<=a.e/\a.e<=1048576
theorem Ak2(a b:Nd)(v u:Value)(w:World)(M:Mem)(z:Sat w M)(A:(kn v 6 [a] Nd.cells).ok M)(hu:(kn u 6 [b] Nd.cells).ok M)(C:J1 a)(D:J1 b)(J:a.kind<5):
   Calls prog 294 [v,u].toArray w λ e w'=>e= .returned (i64 (SX a b))/\Ext w w':=by
 refine AH (Hr:=[]) AF func294 U ntmps294 [(0,kn v 6 [a] Nd.cells),(1,kn u 6 [b] Nd.cells)] [] [.sl 0 v,.sl 1 u] U (Aj z) (AG A (AG hu A4)) (λ B n=>?_) U
 have E:len [a]=1:=rfl
 have F:len [b]=1:=rfl
 have j:at' [a] 0=a:=rfl
 have G:at' [b] 0=b:=rfl
 refine G4 U BM Ac <|HB U call312 U U (λ _ w M i=>gR a.kind b.kind w) U <|G5 U ?_
 refine A1 U (λ h1=>?_) (λ h1=>?_)<;>simp only[zb]at h1
 ·exact A2 n U U U λ w M i=>⟨by unfold SX;rw[if_pos h1];rfl,i.st.low⟩
 have H:a.kind=b.kind:=by rcases sM a.kind b.kind with h|h|h<;>omega
 refine A1 U (λ k=>?_) (λ k=>?_)<;>simp only[zb]at k<;>rw[j]at k
 ·exact G4 U BM Ac <|HB U call313 U U (λ _ w M i=>Ak1 a b w C D) U <|G5 U <|A2 n U U U λ w M i=>⟨by unfold SX;rw[if_neg Aa,if_pos k];rfl,i.st.low⟩
 refine A1 U (λ l=>?_) (λ l=>?_)<;>simp only[zb]at l<;>rw[j]at l
 ·exact G4 U BM Ac <|HB U call314 U U (λ _ w M i=>sQ a.s b.s w) U <|G5 U <|A2 n U U U λ w M i=>⟨by unfold SX;rw[if_neg Aa,if_neg k,if_pos l];rfl,i.st.low⟩
 refine A1 U (λ q=>?_) (λ q=>?_)<;>simp only[zb]at q<;>rw[j]at q
 ·omega
 refine A1 U (λ y=>?_) (λ y=>?_)<;>simp only[zb]at y<;>rw[j]at y
 ·omega
 exact A2 n U U U λ w M i=>⟨by unfold SX;rw[if_neg Aa,if_neg k,if_neg l];rfl,i.st.low⟩
abbrev gS(a:Tm):XV:=.ag [I a.n,I a.c.kind,I a.c.many,.v (str a.c.name),.v (str a.c.s),.v (.bool a.c.neg),I a.c.e]
abbrev VS(a:Tm):Value:=.agg (i64 a.n::a.c.cells).toArray
theorem Ak3(a:Tm)(x:Nd)(w:World)(M:Mem)(q:Sat w M)(s:J1 a.c)(hx:J1 x)(y:x.kind<5):
   Calls prog 270 [VS a,EV x].toArray w λ e w'=>e= .returned (.bool (HL a x))/\Ext w w':=by
 refine AH (Hr:=[]) AF func270 U ntmps270 [] [] [gS a,D3 x] U (Aj q) A4 (λ B i=>BP 2 U U U λ A=>BP 3 U U U λ C=>BF 7 [x] Nd.cells 6 46 Nd.AV U U Ah U λ z=>BF 10 [a.c] Nd.cells 6 46 Nd.AV U U Ah U λ v10=>AJ U call294 U U (λ _ w M b=>Ak2 x a.c z v10 w M b.st.sat (b.f.get (k:=7) U) (b.f.get (k:=10) U) hx s y) U ?_) U
 refine A1 U (λ h1=>?_) (λ h1=>?_)<;>simp only[zb]at h1
 ·exact A2 i U U U λ w M b=>⟨by unfold HL J0;rw[if_pos h1];rfl,b.st.low⟩
 refine A1 U (λ h=>?_) (λ h=>?_)<;>simp only[zb]at h
 ·exact A2 i U U U λ w M b=>⟨by unfold HL J0;rw[if_neg h1,if_pos h];rw[<-sN];rfl,b.st.low⟩
 refine A1 U (λ j=>?_) (λ j=>?_)<;>simp only[zb]at j
 ·exact A2 i U U U λ w M b=>⟨by unfold HL J0;rw[if_neg h1,if_neg h,if_pos j];rfl,b.st.low⟩
 refine A1 U (λ l=>?_) (λ l=>?_)<;>simp only[zb]at l
 ·exact A2 i U U U λ w M b=>⟨by unfold HL J0;rw[if_neg h1,if_neg h,if_neg j,if_pos l];rfl,b.st.low⟩
 refine A1 U (λ n=>?_) (λ n=>?_)<;>simp only[zb]at n
 ·exact A2 i U U U λ w M b=>⟨by unfold HL J0;rw[if_neg h1,if_neg h,if_neg j,if_neg l,if_pos n];rfl,b.st.low⟩
 exact A2 i U U U λ w M b=>⟨by unfold HL J0;rw[if_neg h1,if_neg h,if_neg j,if_neg l,if_neg n];rfl,b.st.low⟩
end Go.Proofs.YtnoegalemkbbbaaGreatDoor
namespace Go.Eng
open Go.RowKit
def JM(l:Fl)(i:Int):Fl:=l.set i.toNat { at' l i with many:=(at' l i).many+1}
def GC(l:Fl)(i:Int)(a:Tm):Fl:=(JM l i).take (i+(at' l i).many+1).toNat++({ AP 9 with n:=a.n,c:=a.c}:Tm)::(JM l i).drop (i+(at' l i).many+1).toNat
end Go.Eng
namespace Go.Proofs.YtnoegalemkbbbaaGreatDoor
open Go.Proofs.Tryz
open Go.Eng Go.RowKit
theorem Ak4{w0 i:World}{M0 M:Mem}{Rs:List HO}{v u:Value}{t:Tf}{p:List Sp}{a:Tm}(hS:St w0 M0 i M Rs)(hl:(A7 v t.flat).ok M)(hu:(kn u 3 p Sp.cells).ok M)(q:len t.flat<=1099511627)(e:len p<=1099511627776)(h:(BK p t).2=false):
   Calls prog 79 [v,u,VS a].toArray i (BJ w0 M0 M Rs (λ _:Unit=>.tuple #[.slice none 0 0,i64 6]) (λ _=>True) (λ _=>[]) λ _=>[]):=by
 refine AH (Hr:=Rs) AF func79 U ntmps79 [(0,A7 v t.flat),(1,kn u 3 p Sp.cells)] [] [.sl 0 v,.sl 1 u,.ag (I a.n::EO a.c.cells)] U hS (AG hl (AG hu A4)) (λ B l=>BP 5 U U U λ s=>AS [] (λ _:Unit=>.tu [I (BK p t).1,.v (.bool (BK p t).2)]) [] (λ _=>[]) (Fg:=λ _=>[]) (pu:=λ _=>True) U U call134 U U (λ w M hS hF=>Z8 p v u t hS (hF.get (k:=0) U) (hF.get (k:=1) U) Aa e) λ _ _=>?_) U
 rw[h]
 refine A1 U (λ b=>?_) (λ b=>?_)
 ·exact A2 l U U U λ w M' j=>⟨(),M',rfl,trivial,j.le,j.st.drop _ (List.sublist_cons_self _ _),A4⟩
 ·cases b
theorem Ak5{w0 D:World}{M0 M:Mem}{Rs:List HO}{v u:Value}{t:Tf}{p:List Sp}{a:Tm}{i:Int}(hS:St w0 M0 D M Rs)(hl:(A7 v t.flat).ok M)(hu:(kn u 3 p Sp.cells).ok M)(K:len t.flat<=1099511627)(A:len p<=1099511627776)(h:BK p t=(i,true))(hm:0<=(at' t.flat i).many/\i+(at' t.flat i).many+1<=len t.flat):
    Calls prog 79 [v,u,VS a].toArray D (BJ w0 M0 M Rs (λ g:Value=>.tuple #[g,i64 0]) (λ _=>True) (λ _=>[]) λ g=>[IT g (GC t.flat i a)]):=by
 have hi:=Z7 p t
 rw[h]at hi
 refine AH (Hr:=Rs) AF func79 U ntmps79 [(0,A7 v t.flat),(1,kn u 3 p Sp.cells)] [] [.sl 0 v,.sl 1 u,.ag (I a.n::EO a.c.cells)] U hS (AG hl (AG hu A4)) (λ B y=>BP 5 U U U λ L=>AS [] (λ _:Unit=>.tu [I (BK p t).1,.v (.bool (BK p t).2)]) [] (λ _=>[]) (Fg:=λ _=>[]) (pu:=λ _=>True) U U call134 U U (λ w M hS hF=>Z8 p v u t hS (hF.get (k:=0) U) (hF.get (k:=1) U) Aa A) λ _ _=>?_) U
 rw[h]
 refine A1 U (λ s=>?_) (λ s=>?_)
 ·cases s
 refine AS [] (λ u:AI=>.sl 11 u.v) [] (λ u=>[(11,DV u.v t.flat)]) U U call135 U U (λ w M hS hF=>gJ v t.flat hS (hF.get (k:=0) U) (Tf.OO _) Aa) λ E _=>HU { at' t.flat i with many:=(at' t.flat i).many+1} rfl U U sizeOf3 U U U Aa λ z F=>?_
 have l:z=JM t.flat i:=F
 have C:len z=len t.flat:=by rw[l];unfold JM len;rw[List.length_set]
 have q:at' z i= { at' t.flat i with many:=(at' t.flat i).many+1}:=by
  obtain⟨h1,G⟩:=CG z (i:=i) Aa Aa
  rw[G];simp[l,JM]
 have H:(at' z i).many=(at' t.flat i).many+1:=by rw[q]
 have b: ∀(w:World) (M':Mem) (v v12:Value) (Rs:List HO),St w0 M0 w M' (IT v z::IT v12 [({ AP 9 with n:=a.n,c:=a.c}:Tm)]::Rs)->Calls prog 136 [v,i64 (i+(at' z i).many),v12].toArray w (BJ w0 M0 M' Rs (λ v:Value=>v) (λ _=>True) (λ _=>[]) λ g=>[IT g (GC t.flat i a)]):=λ w M' v v12 Rs hS=>by
  have:=AS4 (i:=i+(at' z i).many) hS (by rw[l];intro e;have:=congrArg List.length e;simp[JM]at this;exact Tf.OO _ this) (by rw[q,C];simp only[];omega) Aa
  have J:z.take (i+(at' z i).many).toNat++({ AP 9 with n:=a.n,c:=a.c}:Tm)::z.drop (i+(at' z i).many).toNat=GC t.flat i a:=by
   rw[q,l];unfold GC;simp only[<-Int.add_assoc]
  rw[J]at this
  exact this
 refine DI [4,5,6,13,14,15,16] 8 (λ _ _ _ _ _ h=>h) U BM U <|G6 4 13 U U U ?_ ?_
 ·refine AD U <|G6 5 13 U U U ?_ ?_
  ·refine AD U <|G6 6 13 U U U ?_ ?_
   ·exact AD U <|AK 13 U U U <|IM 12 [({ AP 9 with n:=a.n,c:=a.c}:Tm)] Tm.cells 11 52 Tm.AV U U Ah U λ v12=>AD U <|AK 14 U U U <|AS [11,12] (λ u:Value=>.sl 13 u) [] (λ u=>[(13,DV u (GC t.flat i a))]) (Fg:=λ _=>[]) (pu:=λ _=>True) (Hg:=λ g=>[IT g (GC t.flat i a)]) U U call136 U U (λ w M hS hF=>b w M _ _ _ hS) λ g _=>AD U <|AK 15 U U U <|AD U <|AK 16 U U U <|AD U <|BN U U U <|A2 y U U U λ w M' j=>⟨g,M',rfl,trivial,j.le,j.st.drop _ ((List.sublist_cons_self _ _).cons_cons _),A4⟩
   ·exact IM 12 [({ AP 9 with n:=a.n,c:=a.c}:Tm)] Tm.cells 11 52 Tm.AV U U Ah U λ v12=>AD U <|AK 6 U U U <|AD U <|AK 14 U U U <|AS [11,12] (λ u:Value=>.sl 13 u) [] (λ u=>[(13,DV u (GC t.flat i a))]) (Fg:=λ _=>[]) (pu:=λ _=>True) (Hg:=λ g=>[IT g (GC t.flat i a)]) U U call136 U U (λ w M hS hF=>b w M _ _ _ hS) λ g _=>AD U <|AK 15 U U U <|AD U <|AK 16 U U U <|AD U <|BN U U U <|A2 y U U U λ w M' j=>⟨g,M',rfl,trivial,j.le,j.st.drop _ ((List.sublist_cons_self _ _).cons_cons _),A4⟩
  ·exact IM 12 [({ AP 9 with n:=a.n,c:=a.c}:Tm)] Tm.cells 11 52 Tm.AV U U Ah U λ v12=>AD U <|AK 5 U U U <|AD U <|AK 6 U U U <|AD U <|AK 14 U U U <|AS [11,12] (λ u:Value=>.sl 13 u) [] (λ u=>[(13,DV u (GC t.flat i a))]) (Fg:=λ _=>[]) (pu:=λ _=>True) (Hg:=λ g=>[IT g (GC t.flat i a)]) U U call136 U U (λ w M hS hF=>b w M _ _ _ hS) λ g _=>AD U <|AK 15 U U U <|AD U <|AK 16 U U U <|AD U <|BN U U U <|A2 y U U U λ w M' j=>⟨g,M',rfl,trivial,j.le,j.st.drop _ ((List.sublist_cons_self _ _).cons_cons _),A4⟩
 ·exact IM 12 [({ AP 9 with n:=a.n,c:=a.c}:Tm)] Tm.cells 11 52 Tm.AV U U Ah U λ v12=>AD U <|AK 4 U U U <|AD U <|AK 5 U U U <|AD U <|AK 6 U U U <|AD U <|AK 14 U U U <|AS [11,12] (λ u:Value=>.sl 13 u) [] (λ u=>[(13,DV u (GC t.flat i a))]) (Fg:=λ _=>[]) (pu:=λ _=>True) (Hg:=λ g=>[IT g (GC t.flat i a)]) U U call136 U U (λ w M hS hF=>b w M _ _ _ hS) λ g _=>AD U <|AK 15 U U U <|AD U <|AK 16 U U U <|AD U <|BN U U U <|A2 y U U U λ w M' j=>⟨g,M',rfl,trivial,j.le,j.st.drop _ ((List.sublist_cons_self _ _).cons_cons _),A4⟩
end Go.Proofs.YtnoegalemkbbbaaGreatDoor
namespace Go.Eng
open Go.RowKit
section
variable {c:Cx} {B:Exit->Act->World->Prop} {k k':List Fr} {m:Md} {s s':XS} {O:Prop} {E:List Ck} {all:Array Oper} {rest:List Oper} {d:Nat} {ty:TypeId} {ps:String} {af:Array Edge}
theorem Ak6(kk:Nat){t:TypeId}(h:run c.T c.N k m s=⟨k',.ops all (⟨some d,.makeMap t none,ty,ps,af,none⟩::rest),s',O,E⟩)
  (i: ∀b,XG c B k' (.ops all rest) ⟨s'.F,(kk,.ho (.raw b (BS .i64 [] 0)))::s'.H,(d,.t,.v (.map (some b)))::s'.L⟩) (hE:AA E:=by exact Ad) (hO:O:=by exact Af) (hd:Nat.blt d c.N=true:=by exact rfl):XG c B k m s:=
 DF h (hE:=hE) (hO:=hO) λ w M e=>RL.makeMap .i64 e.st hd λ w' b hS=>DH (i b) ⟨hS,e.f,e.le⟩ U
theorem SY(kk:Nat)(j:Nat)(l':List KV){t kt e:TypeId}{y x z:Operand}{b cl:Nat}{l:List KV}{n:Int}{v:Value}{E1 E2 E3:List Ck}(h:run c.T c.N k m s=⟨k',.ops all (⟨none,.insert t y x z,ty,ps,af,none⟩::rest),s',O,E⟩)
  (D:B8 s'.L .t y=some (.v (.map (some b)),E1)) (hx:B8 s'.L .t x=some (.v (.int .i64 n),E2)) (G:B8 s'.L .t z=some (.v v,E3)) (J:D0 s'.H kk=some (.ho (.raw b (BS .i64 l cl)))) (K:c.P.underlying t=some (.map kt e)) (A:c.P.underlying kt=some (.int .i64))
  (hl:LU l cl n v=l') (Q:PH l cl n v=j) (R:XG c B k' (.ops all rest) ⟨s'.F,CB s'.H kk (.ho (.raw b (BS .i64 l' j))),s'.L⟩) (hE:AA E:=by exact Ad) (hO:O:=by exact Af) (h1:AA E1:=by exact Ad) (S:AA E2:=by exact Ad) (V:AA E3:=by exact Ad):XG c B k m s:=by
 refine DF h (hE:=hE) (hO:=hO) λ w M C=>?_
 obtain⟨q,W,i⟩:=DP (Hr:=c.Hr) J
 exact RL.mapUpdate (c:=cl) true C.st W (A8 D (hE:=h1)) (A8 hx (hE:=S)) (A8 G (hE:=V)) K A hl Q (Hs':=HD (CB s'.H kk (.ho (.raw b (BS .i64 l' j))))++c.Hr) (i (.ho (.raw b (BS .i64 l' j)))).symm λ w' hS=>DH R ⟨hS,C.f,C.le⟩ U
theorem Ak7(kk:Nat)(u:Value){t kt e:TypeId}{x y:Operand}{b cl:Nat}{l:List KV}{n:Int}{z:Value}{E1 E2:List Ck}(h:run c.T c.N k m s=⟨k',.ops all (⟨some d,.lookup t x y false,ty,ps,af,none⟩::rest),s',O,E⟩)
  (hx:B8 s'.L .t x=some (.v (.map (some b)),E1)) (j:B8 s'.L .t y=some (.v (.int .i64 n),E2)) (A:D0 s'.H kk=some (.ho (.raw b (BS .i64 l cl)))) (C:c.P.underlying t=some (.map kt e)) (i:c.P.underlying kt=some (.int .i64)) (D: ∀w,(zeroValue e).run c.P w= .ok z w) (hu:(C7 l n).getD z=u)
  (G:XG c B k' (.ops all rest) ⟨s'.F,s'.H,(d,.t,.v u)::s'.L⟩) (hE:AA E:=by exact Ad) (hO:O:=by exact Af) (h1:AA E1:=by exact Ad) (J:AA E2:=by exact Ad) (hd:Nat.blt d c.N=true:=by exact rfl):XG c B k m s:=by
 refine AU (.v u) h (hE:=hE) (hO:=hO) (W:=.t) (by rw[hd];rfl) (λ w M K=>?_) G
 obtain⟨q,Q,_⟩:=DP (Hr:=c.Hr) A
 exact PV.lookup K.st H8 Q (A8 hx (hE:=h1)) (A8 j (hE:=J)) C i D hu
end
end Go.Eng
namespace Go.Proofs.YtnoegalemkbbbaaGreatDoor
open Go.Proofs.Tryz
open Go.Eng Go.RowKit
theorem Ak8{w0 e:World}{M0 M:Mem}{Rs:List HO}(n:Int)(hS:St w0 M0 e M Rs):
   Calls prog 78 [i64 n].toArray e (BJ w0 M0 M Rs (λ _:Unit=>i64 (MM n)) (λ _=>True) (λ _=>[]) λ _=>[]):=by
 refine AH (Hr:=Rs) AF func78 U ntmps78 [] [] [I n] U hS A4 (λ B i=>Ak6 1 U λ b=>SY 1 1 [⟨0,i64 1,0⟩] U U U U U underlying168 underlying3 U U <|SY 1 2 [⟨0,i64 1,0⟩,⟨1,i64 0,1⟩] U U U U U underlying168 underlying3 U U <|SY 1 3 [⟨0,i64 1,0⟩,⟨1,i64 0,1⟩,⟨2,i64 5,2⟩] U U U U U underlying168 underlying3 U U <|SY 1 4 [⟨0,i64 1,0⟩,⟨1,i64 0,1⟩,⟨2,i64 5,2⟩,⟨5,i64 2,3⟩] U U U U U underlying168 underlying3 U U <|SY 1 5 [⟨0,i64 1,0⟩,⟨1,i64 0,1⟩,⟨2,i64 5,2⟩,⟨5,i64 2,3⟩,⟨3,i64 4,4⟩] U U U U U underlying168 underlying3 U U <|SY 1 6 [⟨0,i64 1,0⟩,⟨1,i64 0,1⟩,⟨2,i64 5,2⟩,⟨5,i64 2,3⟩,⟨3,i64 4,4⟩,⟨4,i64 3,5⟩] U U U U U underlying168 underlying3 U U <|Ak7 1 (i64 (MM n)) U U U U underlying168 underlying3 zeroValue3 ?_ ?_) U
 ·unfold MM
  simp only[C7,beq_iff_eq]
  repeat' split
  all_goals first|rfl|omega
 exact A2 i U U U λ w M' h=>⟨(),M',rfl,trivial,h.le,h.st.drop _ (List.sublist_cons_self _ _),A4⟩
end Go.Proofs.YtnoegalemkbbbaaGreatDoor
namespace Go.Eng
open Go.RowKit
def AN(t:Tf):List Tf:=if t.t.op=1 then []else t.ps.map (Tf.named [])
theorem MO{t:Tf}(h:t.t.op≠1):AN t=t.ps.map (Tf.named []):=by unfold AN;rw[if_neg h]
theorem Ak9{t:Tf}(h:t.t.op=1):AN t=[]:=by unfold AN;rw[if_pos h]
theorem sS(t:Tf):(AN t).length<=t.ps.length:=by unfold AN;split<;>simp
theorem ZC{t:Tf}{k:Nat}(h:k<(AN t).length):t.t.op≠1/\k<t.ps.length:=by
 unfold AN at h
 split at h
 ·simp at h
 ·rename_i ho;exact⟨ho,by simpa using h⟩
theorem gT{t:Tf}{k:Nat}(h:k<(AN t).length):at' (AN t) (k:Int)=(at' t.ps (k:Int)).named []:=by
 obtain⟨ho,j⟩:=ZC h
 obtain⟨h1,b⟩:=CG t.ps (i:=(k:Int)) Aa (by unfold len;omega)
 obtain⟨l,e⟩:=CG (AN t) (i:=(k:Int)) Aa (by unfold len;omega)
 rw[b,e]
 simp[AN,ho]
theorem sU(x:Tf)(n:A0):x.flat.set 0 { at' x.flat 0 with name:=n}=(x.named n).flat:=by cases x;rfl
theorem sV{α:Type}[Inhabited α]{l:List α}{k:Nat}(h:k<l.length):l.take (k+1)=l.take k++[at' l (k:Int)]:=by
 obtain⟨h1,b⟩:=CG l (i:=(k:Int)) Aa (by unfold len;omega)
 rw[b,List.take_add_one];simp[h]
end Go.Eng
namespace Go.Proofs.YtnoegalemkbbbaaGreatDoor
open Go.Proofs.Tryz
open Go.Eng
theorem Al0{w0 w:World}{M0 M:Mem}{s:HO}{Rs:List HO}{b:Nat}{v:Value}{t:Tf}(hl:(A7 v t.flat).ok M)(Q:len t.flat<=1099511627776)(y:t.t.op=1):
    SQ prog 190 [.pointer (some ⟨b,0,none⟩)] 0 w0 M0 (s:: .box b [v] 25::Rs)
     (λ k (_:Unit)=>[I (BX t k),I (BX t (k+1))]) (λ _ _=>True) (λ _ _=>[]) w M:=by
 intro γ ub I' J Hy L l g0 ⟨z,A,C,D,E,hx⟩ hS hF R hy
 have H:St w0 M0 w M (.box b [v] 25::z g0::A g0::C g0::D g0::E g0::(s::Rs)):=by
  rw[hx]at hS
  exact hS.perm (List.perm_middle (l₁:=[z g0,A g0,C g0,D g0,E g0,s])).symm
 have N:=t.YB
 have O:=t.EE
 have S:=JS t.ps
 have T:len t.flat=1+len (AO t.ps):=by rw[Tf.FI,AM];omega
 have V:len t.ps=(t.ps.length:Int):=rfl
 have F:(at' t.flat 0).op=t.t.op:=by rw[Tf.S9]
 refine Y8 (Hr:=s::Rs) AF func190 rfl ntmps190 rfl (λ w h=>by obtain⟨g,M',h,_⟩:=h;cases h) [(0,A7 v t.flat),(9,ID (L g0))] [(0,.box b [.sl 0 v] 25),(1,.ho (z g0)),(2,.ho (A g0)),(3,.ho (C g0)),(4,.ho (D g0)),(5,.ho (E g0))] [.v (.func (.yield l) #[] #[]),.bx 0 b 0] rfl H (AG hl (AG ⟨Sl.nil M 1,DN,hF⟩ A4)) (λ B W=>B5 (σ:=Int×Nat) (λ(i,k)=>⟨[(0,A7 v t.flat),(9,ID (L g0))],[(0,.box b [.sl 0 v] 25),(1,.ho (z g0)),(2,.ho (A g0)),(3,.ho (C g0)),(4,.ho (D g0)),(5,.ho (E g0))],[Z 0 (.v (.func (.yield l) #[] #[])),Z 1 (.bx 0 b 0),Z 3 (I i),Z 8 (I (at' t.flat 0).many),Z 9 (I k)]⟩) (λ(i,k)=>i=BX t k/\k<=t.ps.length) (λ(i,k)=>t.ps.length-k) (1,0) U U ⟨rfl,Nat.zero_le _⟩ ?_) rfl
 rintro⟨i,k⟩ ⟨hi,hk⟩
 have X:=JX t k
 refine A1 U (λ G=>?_) (λ G=>?_)<;>simp only[zb]at G
 ·have e:k<t.ps.length:=by omega
  have P:=JX t (k+1)
  have K:=QF e
  subst hi
  refine AJ U call191 U U (λ _ w M q=>rE v t.flat (BX t k) _ _ q.st.sat (q.f.get (k:=0) U) ((SR t k).next e) Aa Q) U ?_
  rw[<-K]
  refine EX (.v (.bool true)) U U (λ j=>?_) (λ j=>?_)
  ·rw[F,y]at j;simp at j
  ·refine A1 U (λ n=>?_) (λ n=>?_)
   ·rw[F,y]at n;simp at n
   ·exact AX (BX t (k+1),k+1) U U ⟨rfl,e⟩ (by show t.ps.length-(k+1)<t.ps.length-k;omega)
 ·refine UK W U U λ w' M' q=>⟨g0,M',rfl,.inl R,q.le,q.st.perm ?_,(q.f.get (k:=9) U).more⟩
  rw[hx]
  exact List.perm_middle (l₁:=[z g0,A g0,C g0,D g0,E g0,s])
theorem Al1{w0 w:World}{M0 M:Mem}{h:HO}{Rs:List HO}{b:Nat}{v:Value}{t:Tf}(hl:(A7 v t.flat).ok M)(e:len t.flat<=1099511627776):
   SQ prog 190 [.pointer (some ⟨b,0,none⟩)] (AN t).length w0 M0 (h:: .box b [v] 25::Rs)
    (λ k (_:Unit)=>[I (BX t k),I (BX t (k+1))]) (λ _ _=>True) (λ _ _=>[]) w M:=by
 by_cases ho:t.t.op=1
 ·rw[Ak9 ho];exact Al0 hl e ho
 ·rw[MO ho,List.length_map];exact rF hl e ho
abbrev EC(v:Value)(hs:List AI):HX:=.pv 25 (kn v 1 hs BR) CR
abbrev NP(v:Value)(hs:List AI):HO:=.priv 25 1 v hs.length (hs.flatMap BR)
theorem SZ{w0 J:World}{M0 M:Mem}{Rs:List HO}{v:Value}{t:Tf}(hS:St w0 M0 J M Rs)(hl:(A7 v t.flat).ok M)(O:len t.flat<=1099511627776):
    Calls prog 143 [v].toArray J (BJ w0 M0 M Rs (λ g:Value×List AI=>g.1) (λ g=>g.2.length=(AN t).length) (λ g=>[(0,FU g.2 ((AN t).map Tf.flat))]) λ g=>[NP g.1 g.2]):=by
 have P:=JS t.ps
 have Q:len t.flat=1+len (AO t.ps):=by rw[Tf.FI,AM];omega
 have R:len t.ps=(t.ps.length:Int):=rfl
 have S:=sS t
 refine UN (Hr:=Rs) AF func143 U ntmps143 [(0,A7 v t.flat)] [] [.sl 0 v] U hS (AG hl A4) (λ B T=>BP 7 U U U λ n=>BA 1 U zeroValue53 U λ q=>AS [] (λ b:Nat=>.v (.func (.func 190) #[] #[.pointer (some ⟨b,0,none⟩)])) [] (λ b=>[(2,.box b [.sl 0 v] 25)]) U U call167 U U (λ w M hS hF=>rG hS (hF.get (k:=0) U)) λ b2 _=>XC [2] U U <|AB7 6 25 1 BR CR <|XI 8 25 1 BR CR <|DS 9 (FU [] []) (λ w M j=>⟨Sl.nil M 1,DN,trivial⟩) <|lP ⟨_,[(8,.ho (.own 25 1 (.slice none 0 0) ([]:List AI).length (([]:List AI).flatMap BR))),(6,EC (.slice none 0 0) []),(1,.box q [.sl 6 (.slice none 0 0)] 53),(7,.box n [.sl 0 v] 25)],_⟩ U U U ?_) U
 refine gC (σ:=Value×List AI×List Fl) (τ:=Unit) (λ g=>⟨[(0,A7 v t.flat),(9,FU g.2.1 g.2.2)],[(7,.box n [.sl 0 v] 25),(1,.box q [.sl 6 g.1] 53),(6,EC g.1 g.2.1),(8,.ho (.own 25 1 (.slice none 0 0) ([]:List AI).length (([]:List AI).flatMap BR)))],[Z 1 (.bx 7 n 0),Z 3 (.bx 1 q 0)]⟩)
  (λ k g=>g.2.2=((AN t).map Tf.flat).take k/\g.2.1.length=k) (λ _=>False) (.slice none 0 0,[],[])
  (λ k g y K=>K=⟨[(0,A7 v t.flat),(9,FU g.2.1 g.2.2)],[(7,.box n [.sl 0 v] 25),(1,.box q [.sl 6 g.1] 53),(6,EC g.1 g.2.1),(8,.ho (.own 25 1 (.slice none 0 0) ([]:List AI).length (([]:List AI).flatMap BR)))],[Z 4 (I (BX t k)),Z 5 (I (BX t (k+1))),Z 1 (.bx 7 n 0),Z 3 (.bx 1 q 0)]⟩)
  (λ _ _ _ _ h=>h) U U call190 U ⟨rfl,rfl⟩ (λ _=>rfl) ⟨_,_,_,_,λ _=>rfl⟩ (λ w M D w' j=>Al1 (j.f.get (k:=0) U) O) (λ _ _=>rfl)
  (λ k g y l D r M F G hp=>?_) U (λ k g y l D r M F G hp K V=>?_) U (λ D g a w G=>?_) (λ D g a w W=>W.elim)
 ·exact AW _ U U U
 ·subst V
  obtain⟨H,hs,xs⟩:=g
  obtain⟨e,i⟩:=G
  dsimp only at e i
  obtain⟨X,C⟩:=ZC F
  have hpk:=JX t k
  have L:=JX t (k+1)
  have hst:=QF C
  have hcp:=(at' t.ps (k:Int)).EE
  have E:=rB C
  refine FO (gd:=none) 10 (BX t k) (BX t (k+1)) U U U ⟨.i64,_,rfl,AE U⟩ ⟨.i64,_,rfl,AE U⟩ underlying25 sizeOf52 Aa U λ v10=>?_
  rw[E]
  refine AS [] (λ u:AI=>.sl 11 u.v) [] (λ u=>[(11,DV u.v (at' t.ps (k:Int)).flat)]) U U call135 U U (λ w M hS hF=>gJ v10 (at' t.ps (k:Int)).flat hS (hF.get (k:=10) U) (Tf.OO _) Aa) λ A _=>HU { at' (at' t.ps (k:Int)).flat 0 with name:=[]} rfl U U sizeOf9 U U U Aa λ z N=>?_
  rw[show(0:Int).toNat=0 from rfl,sU,<-gT F]at N
  refine CH U Ad Aa <|C2 11 U <|BF 12 [A] BR 1 25 CR U U Ah U λ v12=>IB 24 U U U underlying53 type25 U U ON (by simp only[AM,len_nil];unfold len at*;omega) λ v'=>DS 9 (FU (hs++[A]) (xs++[z])) (λ w M j=>⟨Sl.nil M 1,DN,B3.snoc (j.sl 11 U) (j.f.get (k:=9) U).more⟩) ?_
  exact AW _ U U ⟨(v',hs++[A],xs++[z]),rfl,by
   dsimp only
   rw[e,N,<-List.map_take,<-List.map_take,sV F,List.map_append];rfl,by dsimp only;rw[List.length_append,i];rfl⟩
 ·obtain⟨H,hs,xs⟩:=g
  obtain⟨e,i⟩:=G
  dsimp only at e i
  rw[List.take_of_length_le (by simp)]at e
  subst e
  refine X9 8 (λ _ _ _ _ h=>h) U (s:=⟨[(0,A7 v t.flat),(9,FU hs ((AN t).map Tf.flat))],[(7,.box n [.sl 0 v] 25),(1,.box q [.sl 6 H] 53),(6,EC H hs),(8,.ho (.own 25 1 (.slice none 0 0) ([]:List AI).length (([]:List AI).flatMap BR)))],[Z 1 (.bx 7 n 0),Z 3 (.bx 1 q 0)]⟩) ?_ a w
  refine A2 (T.DZ U D) U U U λ w M j=>?_
  obtain⟨h1,h2⟩:=j.shut
  exact⟨by simp,h1,(H,hs),M,rfl,i,j.le,h2.drop _ (((((List.Sublist.refl _).cons _).cons _).cons_cons _).cons _|>.cons _),AG (j.f.get (k:=9) U) A4⟩
open Go.Eng Go.RowKit
theorem gU{w0 e:World}{M0 M:Mem}{Rs:List HO}(s:A0)(hS:St w0 M0 e M Rs)(hg:Gl w0)(h:len s<=200000000000):
  Calls prog 80 [str s].toArray e (BJ w0 M0 M Rs (λ u:Value=>u) (λ _=>True) (λ u=>[(1,kn u 3 (C8 s).1 Sp.cells)]) λ _=>[]):=AH (Hr:=Rs) AF func80 U ntmps80 [] [] [.v (str s)] U hS A4 (λ B i=>AS [] (λ u:Value=>.tu [.sl 1 u,I (C8 s).2.1,I (C8 s).2.2]) [1] (λ _=>[]) (Fg:=λ u=>[(1,kn u 3 (C8 s).1 Sp.cells)]) (pu:=λ _=>True) U U call137 U U (λ w M hS hF=>qL s hS hg h) λ u _=>A2 i U U U λ w M' b=>⟨u,M',rfl,trivial,b.le,b.st,AG (b.f.get (k:=1) U) A4⟩) U
abbrev NoC(w0:World)(M0 M:Mem)(Rs:List HO)(i why:Int):Ending->World->Prop:=λ e w'=> ∃M',e= .panicked [PO 110 i why]/\St w0 M0 w' M' Rs/\M.le M'
theorem FL{w0 e:World}{M0 M:Mem}{Rs:List HO}(i why:Int)(hS:St w0 M0 e M Rs):
  Calls prog 81 [i64 i,i64 why].toArray e (NoC w0 M0 M Rs i why):=AH (Hr:=Rs) AF func81 U ntmps81 [] [] [I i,I why] U hS A4 (λ B h=>AU (.v (.iface 110 (.agg #[i64 i,i64 why]))) U U (λ w M b=>PV.iface (v:=.agg #[i64 i,i64 why]) (A8 (v:=.ag [I i,I why]) (E:=[]) U) underlying110 U) <|AB5 U U U λ a w M hs b=>E4 [] (h.p ⟨M,rfl,b.st,b.le⟩ a hs)) U
theorem Al3{w0 b:World}{M0 M:Mem}{Rs:List HO}(h:AI)(x:Tf)(hS:St w0 M0 b M Rs)(hl:(A7 h.v x.flat).ok M)(j:len x.flat<=1099511627):
  Calls prog 141 [h.v].toArray b (MK w0 M0 M Rs (Tf.mk (AP 5) [x]).flat):=AH (Hr:=Rs) AF func141 U ntmps141 [(0,A7 h.v x.flat)] [] [.sl 0 h.v] U hS (AG hl A4) (λ B i=>BF 1 [h] BR 1 25 CR U U Ah U λ v1=>AS [] (λ u:AI=>.sl 2 u.v) [] (λ u=>[(2,DV u.v (Tf.mk (AP 5) [x]).flat)]) U U call146 U U (λ w M hS hF=>Af1 (AP 5) v1 h x hS (hF.get (k:=1) U).sl (hF.get (k:=0) U).sl Aa) λ u _=>A2 i U U U λ w M' e=>⟨u,M',rfl,trivial,e.le,e.st.drop _ ((List.sublist_cons_self _ _).cons_cons _),A4⟩) U
end Go.Proofs.YtnoegalemkbbbaaGreatDoor
namespace Go.Eng
open Go.RowKit
def B7(t:Tf):List A0:=if t.t.op=1 then []else t.ps.map λ x=>x.t.name
theorem Al4{t:Tf}{k:Nat}(h:k<(AN t).length):len (at' (AN t) (k:Int)).flat=len (at' t.ps (k:Int)).flat:=by
 rw[gT h,<-sU];unfold len;rw[List.length_set]
theorem NQ(t:Tf):(B7 t).length=(AN t).length:=by unfold B7 AN;split<;>simp
theorem Al5{t:Tf}{k:Nat}(h:k<(AN t).length):(B7 t).take (k+1)=(B7 t).take k++[(at' t.ps (k:Int)).t.name]:=by
 obtain⟨ho,b⟩:=ZC h
 have e:B7 t=t.ps.map λ x=>x.t.name:=by unfold B7;rw[if_neg ho]
 obtain⟨h1,j⟩:=CG t.ps (i:=(k:Int)) Aa (by unfold len;omega)
 rw[e,j,List.take_add_one];simp[b]
end Go.Eng
namespace Go.Proofs.YtnoegalemkbbbaaGreatDoor
open Go.Proofs.Tryz
open Go.Eng Go.RowKit
abbrev T0(u:Value)(l:List A0):HO:=.priv 9 1 u l.length (l.flatMap D7)
abbrev QP(u:Value)(l:List A0):HX:=.pv 9 (kn u 1 l D7) DN
theorem gV{w0 z:World}{M0 M:Mem}{Rs:List HO}{v:Value}{t:Tf}(hS:St w0 M0 z M Rs)(hl:(A7 v t.flat).ok M)(R:len t.flat<=1099511627):
    Calls prog 147 [v].toArray z (BJ w0 M0 M Rs (λ u:Value=>u) (λ _=>True) (λ _=>[]) λ u=>[T0 u (B7 t)]):=by
 have D:=JS t.ps
 have E:len t.flat=1+len (AO t.ps):=by rw[Tf.FI,AM];omega
 have F:len t.ps=(t.ps.length:Int):=rfl
 have G:=sS t
 refine AH (Hr:=Rs) AF func147 U ntmps147 [(0,A7 v t.flat)] [] [.sl 0 v] U hS (AG hl A4) (λ B H=>AS [] (λ g:Value×List AI=>.sl 8 g.1) [9] (λ g=>[(8,EC g.1 g.2)]) U U call143 U U (λ w M hS hF=>SZ hS (hF.get (k:=0) U) Aa) λ g hg=>?_) U
 obtain⟨u,hs⟩:=g
 dsimp only at hg
 refine C2 8 U <|DS 8 (C6 u hs ((AN t).map Tf.flat)) (λ w M h=>⟨(h.f.get (k:=8) U).sl,CR,(h.f.get (k:=9) U).more⟩) <|cS 3 3 9 1 D7 DN U ?_
 refine B5 (σ:=Nat×Value) (λ(k,o)=>⟨[(0,A7 v t.flat),(8,C6 u hs ((AN t).map Tf.flat))],[(3,QP o ((B7 t).take k))],[Z 0 (.sl 0 v),Z 3 (.sl 3 o),Z 4 (I (BX t k)),Z 8 (.sl 8 u),Z 9 (I (len hs)),Z 10 (I k)]⟩)
   (λ(k,o)=>k<=(AN t).length) (λ(k,o)=>(AN t).length-k) (0,.slice none 0 0) U U Aa ?_
 rintro⟨k,o⟩ S
 refine A1 U (λ b=>?_) (λ b=>?_)<;>simp only[zb]at b
 ·have j:k<(AN t).length:=by unfold len at b;omega
  obtain⟨J,l⟩:=ZC j
  have K:=JX t k
  have A:=JX t (k+1)
  have s:=QF l
  have L:=(at' t.ps (k:Int)).EE
  have n:=Al4 j
  have N:len ((AN t).map Tf.flat)=len hs:=by unfold len;rw[List.length_map,hg]
  have q:at' ((AN t).map Tf.flat) (k:Int)=(at' (AN t) (k:Int)).flat:=by
   obtain⟨T,O⟩:=CG (AN t) (i:=(k:Int)) Aa (by unfold len;omega)
   obtain⟨V,P⟩:=CG ((AN t).map Tf.flat) (i:=(k:Int)) Aa (by unfold len;rw[List.length_map];omega)
   rw[O,P,List.getElem_map]
  have y:(at' t.flat (BX t k)).name=(at' t.ps (k:Int)).t.name:=by rw[((SR t k).next l).step.2.1]
  have C:len (at' ((AN t).map Tf.flat) (k:Int))=len (at' t.ps (k:Int)).flat:=by rw[q,n]
  have Q:len ((B7 t).take k)<=1099511627:=by unfold len at*;rw[List.length_take];omega
  refine BF 12 [(at' t.flat (BX t k)).name] D7 1 9 DN U U Ah U λ v12=>IB 16 U U U underlying103 type9 U U bA (by simp only[AM,len_nil];omega) λ v'=>DS 2 (A7 (at' hs (k:Int)).v (at' ((AN t).map Tf.flat) (k:Int))) (λ w M h=>F9 (h.f.get (k:=8) U) Aa Aa) (KR 6 2 U ?_)
  exact AX (k+1,v') U (by dsimp only;rw[Al5 j,s,<-n,<-q,<-y];rfl) Aa (by show(AN t).length-(k+1)<(AN t).length-k;omega)
 ·refine A2 H U U U λ w M' h=>⟨o,M',rfl,trivial,h.le,?_,A4⟩
  have e:(B7 t).take k=B7 t:=List.take_of_length_le (by rw[NQ];unfold len at b;omega)
  have:=h.st
  rw[e]at this
  exact this
end Go.Proofs.YtnoegalemkbbbaaGreatDoor
namespace Go.Eng
open Go.RowKit
def KK(t:Tm):Sp:=⟨decide (t.op=2),t.s,t.n⟩
end Go.Eng
namespace Go.Proofs.YtnoegalemkbbbaaGreatDoor
open Go.Proofs.Tryz
open Go.Eng Go.RowKit
theorem sW{w0 b:World}{M0 M:Mem}{Rs:List HO}(t:Tm)(hS:St w0 M0 b M Rs):
  Calls prog 73 [.agg t.cells.toArray].toArray b (BJ w0 M0 M Rs (λ _:Unit=>.tuple #[.agg (KK t).cells.toArray,.bool (decide (t.op=1)||decide (t.op=2))]) (λ _=>True) (λ _=>[]) λ _=>[]):=AH (Hr:=Rs) AF func73 U ntmps73 [] [] [.ag (EO t.cells)] U hS A4 (λ B i=>BP 1 U U U λ j=>BA 2 U zeroValue105 U λ k=>DI [16,17] 3 (λ _ _ _ _ _ h=>h) U BM U <|AK 16 U U U <|AD U <|AK 17 U U U <|AD U <|BN U U U <|A2 i U U U λ w M' e=>⟨(),M',rfl,trivial,e.le,e.st.drop _ ((List.sublist_cons_self _ _).cons _),A4⟩) U
end Go.Proofs.YtnoegalemkbbbaaGreatDoor
namespace Go.Eng
open Go.RowKit
def JZ(t:Tm):Bool:=decide (t.op=1)||decide (t.op=2)
def D4:Fl->List Sp
 |[]=>[]
 |[x]=>if JZ x then [KK x]else []
 |x::y::r=>if JZ x then [KK x]else if x.op=4/\JZ y=true then KK y::D4 r else []
theorem gW: ∀f:Fl,len (D4 f)<=len f
 |[]=>by show len ([]:List Sp)<=len ([]:Fl);simp[len]
 |[x]=>by unfold D4;split<;>simp[len]
 |x::y::r=>by
  have h:=gW r
  have h0:=A9 r
  unfold D4
  split
  ·simp only[AM,len_nil];omega
  ·split
   ·simp only[AM];omega
   ·simp only[AM,len_nil];omega
def MP:Fl->Bool
 |[]=>false
 |[x]=>x.op != 4
 |x::y::r=>JZ x||x.op != 4|| !JZ y||MP r
end Go.Eng
namespace Go.Proofs.YtnoegalemkbbbaaGreatDoor
open Go.Proofs.Tryz
open Go.Eng Go.RowKit
theorem sX: ∀(n:Nat) (f:Fl) {w0 F:World} {M0 M:Mem} {Rs:List HO} {v:Value},f.length<=n->MP f=true->St w0 M0 F M Rs->(A7 v f).ok M->len f<=1099511627->
    Calls prog 28 [v].toArray F (BJ w0 M0 M Rs (λ u:Value=>u) (λ _=>True) (λ u=>[(0,kn u 3 (D4 f) Sp.cells)]) λ _=>[]):=by
 intro n
 induction n with
 |zero=>intro f _ _ _ _ _ _ D j;cases f with
  |nil=>cases j
  |cons=>simp at D
 |succ n G=>
  intro f w0 F M0 M Rs v D j hS hl O
  obtain⟨x,r,rfl⟩: ∃x r,f=x::r:=by cases f with
   |nil=>cases j
   |cons x r=>exact⟨x,r,rfl⟩
  have hp:0<len (x::r):=HQ (by simp)
  have h0:at' (x::r) 0=x:=rfl
  refine AH (Hr:=Rs) AF func28 U ntmps28 [(0,A7 v (x::r))] [] [.sl 0 v] U hS (AG hl A4) (λ B C=>?_) U
  refine AS [] (λ _:Unit=>.tu [.ag (EO (KK x).cells),.v (.bool (JZ x))]) [] (λ _=>[]) (Fg:=λ _=>[]) (pu:=λ _=>True) U U call73 U U (λ w M hS hF=>sW x hS) λ _ _=>?_
  refine BA 3 U zeroValue105 U λ P=>?_
  refine A1 U (λ i=>?_) (λ i=>?_)
  ·refine BF 4 [KK x] Sp.cells 3 105 (λ _=>rfl) U U Ah U λ v4=>?_
   refine A2 C U U U λ w M' b=>⟨v4,M',rfl,trivial,b.le,b.st.drop _ (((List.Sublist.refl _).cons _).cons _),?_⟩
   have e:D4 (x::r)=[KK x]:=by cases r<;>simp[D4,i]
   rw[e]
   exact AG (b.f.get (k:=4) U) A4
  refine A1 U (λ l=>?_) (λ l=>?_)<;>simp only[zb]at l
  ·rw[h0]at l
   refine A2 C U U U λ w M' b=>⟨.slice none 0 0,M',rfl,trivial,b.le,b.st.drop _ ((List.Sublist.refl _).cons _),?_⟩
   have e:D4 (x::r)=[]:=by cases r<;>simp[D4,i,l]
   rw[e]
   exact AG ⟨Sl.nil M' 3,λ _=>rfl,trivial⟩ A4
  rw[h0]at l
  have z:x.op=4:=by omega
  obtain⟨y,r,rfl⟩: ∃y r',r=y::r':=by cases r with
   |nil=>simp[MP,z]at j
   |cons y r=>exact⟨y,r,rfl⟩
  have K:=A9 r
  have H:len (x::y::r)=len r+2:=by simp only[AM];omega
  have h1:at' (x::y::r) 1=y:=rfl
  refine AS [] (λ _:Unit=>.tu [.ag (EO (KK y).cells),.v (.bool (JZ y))]) [] (λ _=>[]) (Fg:=λ _=>[]) (pu:=λ _=>True) U U call73 U U (λ w M hS hF=>sW y hS) λ _ _=>?_
  refine BA 5 U zeroValue105 U λ Q=>?_
  refine A1 U (λ A=>?_) (λ A=>?_)
  ·have E:JZ y=false:=by simpa using A
   refine A2 C U U U λ w M' b=>⟨.slice none 0 0,M',rfl,trivial,b.le,b.st.drop _ (((List.Sublist.refl _).cons _).cons _),?_⟩
   have e:D4 (x::y::r)=[]:=by simp[D4,i,E]
   rw[e]
   exact AG ⟨Sl.nil M' 3,λ _=>rfl,trivial⟩ A4
  have E:JZ y=true:=by simpa using A
  have q:MP r=true:=by simpa[MP,i,z,E]using j
  have s:Eng.sub (x::y::r) 2 (len (x::y::r))=r:=by unfold Eng.sub;rw[H];simp only[List.drop_succ_cons,List.drop_zero,show(2:Int).toNat=2 from rfl];exact List.take_of_length_le (by unfold len;omega)
  have e:D4 (x::y::r)=[KK y]++D4 r:=by simp[D4,i,z,E]
  have L:len (D4 r)<=1099511627:=by have:=gW r;omega
  refine DI [1,3,4,5,6] 6 (λ _ _ _ _ _ h=>h) U BM U ?_
  refine G6 1 3 U U U ?_ ?_
  ·refine IM 6 [KK y] Sp.cells 3 105 (λ _=>rfl) U U Ah U λ v6=>?_
   refine AD U ?_
   refine AK 3 U U U ?_
   refine FO (gd:=none) 7 2 (len (x::y::r)) U U U ⟨.i64,_,rfl,AE U⟩ U underlying23 sizeOf48 Aa U λ N=>?_
   rw[s]
   refine AD U ?_
   refine AK 4 U U U ?_
   refine AS [] (λ u:Value=>.sl 8 u) [8] (λ _=>[]) (Fg:=λ u=>[(0,kn u 3 (D4 r) Sp.cells)]) (pu:=λ _=>True) U U call28 U U (λ w M hS hF=>G r (by simp at D;omega) q hS (hF.get (k:=7) U) Aa) λ J _=>?_
   refine AD U ?_
   refine AK 5 U U U ?_
   refine IB 32 rfl rfl rfl underlying61 type105 rfl rfl (λ x u hu=>by simp[Sp.cells]at hu;rcases hu with rfl|rfl|rfl<;>rfl) (by simp only[AM,len_nil];omega) λ v'=>?_
   refine AD U ?_
   refine AK 6 U U U ?_
   refine AD U ?_
   refine BN U U U ?_
   refine C2 6 U ?_
   exact A2 C U U U λ w M' b=>⟨v',M',rfl,trivial,b.le,b.st.drop _ ((List.Sublist.refl _).cons _|>.cons _),AG (by rw[e];exact b.f.get (k:=6) U) A4⟩
  ·refine FO (gd:=none) 7 2 (len (x::y::r)) U U U ⟨.i64,_,rfl,AE U⟩ U underlying23 sizeOf48 Aa U λ N=>?_
   rw[s]
   refine AD U ?_
   refine G6 1 4 U U U ?_ ?_
   ·refine IM 6 [KK y] Sp.cells 3 105 (λ _=>rfl) U U Ah U λ v6=>?_
    refine AD U ?_
    refine AK 4 U U U ?_
    refine AS [] (λ u:Value=>.sl 8 u) [8] (λ _=>[]) (Fg:=λ u=>[(0,kn u 3 (D4 r) Sp.cells)]) (pu:=λ _=>True) U U call28 U U (λ w M hS hF=>G r (by simp at D;omega) q hS (hF.get (k:=7) U) Aa) λ J _=>?_
    refine AD U ?_
    refine AK 5 U U U ?_
    refine IB 32 rfl rfl rfl underlying61 type105 rfl rfl (λ x u hu=>by simp[Sp.cells]at hu;rcases hu with rfl|rfl|rfl<;>rfl) (by simp only[AM,len_nil];omega) λ v'=>?_
    refine AD U ?_
    refine AK 6 U U U ?_
    refine AD U ?_
    refine BN U U U ?_
    refine C2 6 U ?_
    exact A2 C U U U λ w M' b=>⟨v',M',rfl,trivial,b.le,b.st.drop _ ((List.Sublist.refl _).cons _|>.cons _),AG (by rw[e];exact b.f.get (k:=6) U) A4⟩
   ·refine AS [] (λ u:Value=>.sl 8 u) [8] (λ _=>[]) (Fg:=λ u=>[(0,kn u 3 (D4 r) Sp.cells)]) (pu:=λ _=>True) U U call28 U U (λ w M hS hF=>G r (by simp at D;omega) q hS (hF.get (k:=7) U) Aa) λ J _=>?_
    refine AD U ?_
    refine AK 1 U U U ?_
    refine IM 6 [KK y] Sp.cells 3 105 (λ _=>rfl) U U Ah U λ v6=>?_
    refine AD U ?_
    refine AK 5 U U U ?_
    refine IB 32 rfl rfl rfl underlying61 type105 rfl rfl (λ x u hu=>by simp[Sp.cells]at hu;rcases hu with rfl|rfl|rfl<;>rfl) (by simp only[AM,len_nil];omega) λ v'=>?_
    refine AD U ?_
    refine AK 6 U U U ?_
    refine AD U ?_
    refine BN U U U ?_
    refine C2 6 U ?_
    exact A2 C U U U λ w M' b=>⟨v',M',rfl,trivial,b.le,b.st.drop _ ((List.Sublist.refl _).cons _|>.cons _),AG (by rw[e];exact b.f.get (k:=6) U) A4⟩
end Go.Proofs.YtnoegalemkbbbaaGreatDoor
namespace Go.Eng
theorem Al6{α:Type}(l:List α)(p:α->Bool):(!(l.any λ x=> !p x))=l.all p:=by
 induction l with
 |nil=>rfl
 |cons x l b=>rw[List.any_cons,List.all_cons,<-b];cases p x<;>rfl
theorem Al7{x:Nd}(h:GN x=true):0<=x.kind/\x.kind<=6:=by
 unfold GN JW at h
 simp only[Bool.and_eq_true]at h
 have h1:=h.1.1
 repeat' split at h1
 all_goals first|omega|(cases h1)
theorem Al8(mask:Int)(k:Nat)(q:Nat)(b:q=mask.toNat/2^k):IY mask k=decide (¬((q%2:Nat):Int)=0):=by
 unfold IY
 rw[<-b,Bool.eq_iff_iff,beq_iff_eq,decide_eq_true_eq];omega
end Go.Eng
namespace Go.Proofs.YtnoegalemkbbbaaGreatDoor
open Go.Proofs.Tryz
open Go.Eng
abbrev T1(b:Nat)(x:Nd):HO:=.box b x.cells 46
abbrev EN(b:Nat)(x:Nd):HX:=.box b [I x.kind,I x.many,.v (str x.name),.v (str x.s),.v (.bool x.neg),I x.e] 46
abbrev T2(b:Nat):Value:=.func (.func 269) #[] #[.pointer (some ⟨b,0,none⟩)]
theorem Al9{w0 h:World}{M0 M:Mem}{Rs:List HO}(b:Nat)(a:Tm)(x:Nd)(hS:St w0 M0 h M (T1 b x::Rs))(i:J1 a.c)(hx:J1 x)(j:x.kind<5):
  Calls prog 269 [VS a,.pointer (some ⟨b,0,none⟩)].toArray h (BJ w0 M0 M Rs (λ _:Unit=>.bool (!HL a x)) (λ _=>True) (λ _=>[]) λ _=>[T1 b x]):=AH (Hr:=Rs) AF func269 U ntmps269 [] [(0,EN b x)] [gS a,.bx 0 b 0] U hS A4 (λ B k=>BP 1 U U U λ l=>AJ U call270 U U (λ _ w M e=>Ak3 a x w M e.st.sat i hx j) U <|A2 k U U U λ w M' e=>⟨(),M',rfl,trivial,e.le,e.st.drop _ (List.sublist_cons_self _ _),A4⟩) U
theorem Am0{w0 s:World}{M0 M:Mem}{Rs:List HO}(b:Nat)(v:Value)(l:List Tm)(x:Nd)(hS:St w0 M0 s M (T1 b x::Rs))(hl:(kn v 7 l C5).ok M)(E:len l<=1099511627776)(z: ∀a∈l,J1 a.c)(hx:J1 x)(A:x.kind<5):
    Calls prog 293 [v,T2 b].toArray s (BJ w0 M0 M Rs (λ k:Int=>i64 k) (λ k=>0<=k↔(l.any λ a=> !HL a x)=true) (λ _=>[]) λ _=>[T1 b x]):=by
 have C:=A9 l
 refine AH (Hr:=Rs) AF func293 U ntmps293 [(0,kn v 7 l C5)] [(0,EN b x)] [.sl 0 v,.v (T2 b)] U hS (AG hl A4) (λ B y=>B5 (σ:=Int) (λ k=>⟨[(0,kn v 7 l C5)],[(0,EN b x)],[Z 0 (.sl 0 v),Z 1 (.v (T2 b)),Z 7 (I (len l)),Z 8 (I k)]⟩) (λ k=>0<=k/\k<=len l/\ ∀a∈Eng.sub l 0 k,¬(!HL a x)=true) (λ k=>(len l-k).toNat) 0 rfl rfl ⟨Aa,Aa,λ x hx=>by cases hx⟩ ?_) U
 intro k ⟨h0,h1,j⟩
 refine A1 U (λ i=>?_) (λ i=>?_)<;>simp only[zb]at i
 ·refine AS [0] (λ _:Unit=>.v (.bool (!HL (at' l k) x))) [] (λ _=>[(0,EN b x)]) (Fg:=λ _=>[]) (pu:=λ _=>True) U U call269 U U (λ w M hS hF=>Al9 b (at' l k) x hS (z _ (at_mem h0 i)) hx A) λ _ _=>A1 U (λ n=>?_) (λ n=>?_)
  ·exact A2 y U U U λ w M' q=>⟨k,M',rfl,⟨λ _=>List.any_eq_true.2 ⟨at' l k,at_mem h0 i,n⟩,λ _=>h0⟩,q.le,q.st,A4⟩
  ·exact AX (k+1) U U ⟨Aa,Aa,λ a e=>by
    rw[FT h0 i]at e
    rcases List.mem_append.1 e with e|e
    ·exact j a e
    ·rw[List.mem_singleton.1 e,n];decide⟩ Ag
 ·rw[G7 Aa]at j
  exact A2 y U U U λ w M' q=>⟨-1,M',rfl,⟨λ h=>by omega,λ h=>by
   obtain⟨a,e,D⟩:=List.any_eq_true.1 h
   exact absurd D (j a e)⟩,q.le,q.st,A4⟩
theorem Am1{w0 j:World}{M0 M:Mem}{Rs:List HO}(b:Nat)(v:Value)(l:List Tm)(x:Nd)(hS:St w0 M0 j M (T1 b x::Rs))(hl:(kn v 7 l C5).ok M)(s:len l<=1099511627776)(y: ∀a∈l,J1 a.c)(hx:J1 x)(z:x.kind<5):
    Calls prog 268 [v,T2 b].toArray j (BJ w0 M0 M Rs (λ _:Unit=>.bool (l.any λ a=> !HL a x)) (λ _=>True) (λ _=>[]) λ _=>[T1 b x]):=by
 refine AH (Hr:=Rs) AF func268 U ntmps268 [(0,kn v 7 l C5)] [(0,EN b x)] [.sl 0 v,.v (T2 b)] U hS (AG hl A4) (λ B A=>AS [0] (λ k:Int=>I k) [] (λ _=>[(0,EN b x)]) (Fg:=λ _=>[]) (pu:=λ k=>0<=k↔(l.any λ a=> !HL a x)=true) U U call293 U U (λ w M hS hF=>Am0 b v l x hS (hF.get (k:=0) U) s y hx z) λ k i=>?_) U
 exact A2 A U U U λ w M' n=>⟨(),M',by
  have e:decide (0<=k)=(l.any λ a=> !HL a x):=by
   by_cases h:0<=k
   · rw[i.1 h];simpa using h
   · rw[show(l.any λ a=> !HL a x)=false from by rw[<-Bool.not_eq_true];exact λ q=>h (i.2 q)];simpa using h
  rw[<-e];rfl,trivial,n.le,n.st,A4⟩
theorem Am2(mask:Int)(v:Value)(l:List Tm)(x:Nd)(w:World)(M:Mem)(J:Sat w M)(hg:Gl w)(hl:(kn v 7 l C5).ok M)(K:len l<=1099511627776)(L: ∀a∈l,J1 a.c)(hx:J1 x)(hm:0<=mask/\mask<=31):
    Calls prog 240 [i64 mask,v,EV x].toArray w λ e w'=>e= .returned (.bool (NM mask l x))/\Ext w w':=by
 refine AH (Hr:=[]) AF func240 U ntmps240 [(1,kn v 7 l C5)] [] [I mask,.sl 1 v,D3 x] U (Aj J) (AG hl A4) (λ B G=>BP 5 U U U λ b=>AJ U call267 U U (λ _ w M i=>s0 x w M i.st.sat (hg.low i.st.low) hx.1) U <|EX (I 0) U U (λ y=>?_) (λ y=>?_)) U
 ·have z:(decide (x.kind<5)&&GN x)=true:=by simpa using y
  have j:x.kind<5/\GN x=true:=by simpa using z
  have N:=Al7 j.2
  obtain⟨kn,A⟩: ∃kn:Nat,x.kind=kn:=⟨x.kind.toNat,Aa⟩
  obtain⟨n,rfl⟩: ∃n:Nat,mask=n:=⟨mask.toNat,Aa⟩
  obtain⟨q,H⟩: ∃q,q=n/2^kn:=⟨_,rfl⟩
  have C:q<32:=by rw[H];exact Nat.lt_of_le_of_lt (Nat.div_le_self _ _) Aa
  refine AU (I (q:Int)) U U (λ w M i=>PV.oA (A8 (v:=I (n:Int)) (E:=[.b true _]) U (hE:=M6 y U)) (A8 (v:=I x.kind) (E:=[.b true _]) U (hE:=M6 y U)) (λ _=>by omega) (λ _=>by rw[A,AS0 _ _ Aa,H])) <|AU (I ((q%2:Nat):Int)) U U (λ w M i=>PV.eO (A8 (v:=I (q:Int)) (E:=[]) U) (A8 (v:=I 1) (E:=[]) U) (λ _=>AR9 ⟨q,C⟩)) ?_
  have D:=Al8 (n:Int) kn q (by rw[H,Int.toNat_natCast])
  have F:NM n l x=(IY n kn&&l.all λ a=>HL a x):=by unfold NM;rw[z,A,Int.toNat_natCast,Bool.true_and]
  refine A1 U (λ h=>?_) (λ h=>?_)
  ·have s:((q%2:Nat):Int)=0:=by simpa[z,j.1,j.2]using h
   exact A2 G U U U λ w M i=>⟨by rw[F,D,s];rfl,i.st.low⟩
  ·have s: ¬((q%2:Nat):Int)=0:=by intro c;rw[c]at h;simp at h
   refine AU (.v (T2 b)) U U (λ w M i=>PV.makeFunc (xs:=[]) (ys:=[.tmp 5]) (vs:=[]) (us:=[.pointer (some ⟨b,0,none⟩)]) trivial ⟨A8 (v:=.bx 5 b 0) (E:=[]) U,trivial⟩) <|AS [5] (λ _:Unit=>.v (.bool (l.any λ a=> !HL a x))) [] (λ _=>[(5,EN b x)]) (Fg:=λ _=>[]) (pu:=λ _=>True) U U call268 U U (λ w M hS hF=>Am1 b v l x hS (hF.get (k:=1) U) K L hx j.1) λ _ _=>A2 G U U U λ w M i=>⟨?_,i.st.low⟩
   rw[F,D,decide_eq_true s,Bool.true_and,<-Al6];rfl
 ·have z:(decide (x.kind<5)&&GN x)=false:=by simpa using y
  refine EX (I 0) U U (λ j=>?_) (λ j=>?_)
  ·rw[y]at j;cases j
  refine A1 U (λ h=>?_) (λ h=>?_)
  ·exact A2 G U U U λ w M i=>⟨by unfold NM;rw[z];rfl,i.st.low⟩
  ·rw[z]at h;simp at h
end Go.Proofs.YtnoegalemkbbbaaGreatDoor
