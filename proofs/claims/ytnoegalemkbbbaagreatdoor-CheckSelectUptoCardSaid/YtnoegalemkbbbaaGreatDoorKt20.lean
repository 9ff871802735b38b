/- Lemmas for the card. -/
import Derived.Test.YtnoegalemkbbbaaGreatDoorKt19
set_option linter.unusedVariables false
set_option linter.unusedSimpArgs false
set_option maxRecDepth 100000
set_option linter.unnecessarySimpa false
set_option maxRecDepth 100000
namespace Go.Proofs.YtnoegalemkbbbaaGreatDoor
open Go.Proofs.Tryz
open Go.Eng Go.RowKit
abbrev LX(w0:World)(M0 M:Mem)(Rs:List HO)(r:PR Tf):Ending->World->Prop:=X6 w0 M0 M Rs 110 r λ y _=>BY w0 M0 M Rs (λ h:AJ=>h.v) (λ _=>True) (λ h=>[(0,A7 h.v y.flat)]) λ _=>[]
theorem KF(p:Tf):D3 p=(BE p).map Tf.flat:=by unfold D3 BE;rw[List.map_map];rfl
theorem x7{t:Tm}(h:EE t=true):t.op=16\/t.op=17\/t.op=18\/t.op=19:=by
 unfold EE at h
 simp only[Bool.and_eq_true,decide_eq_true_eq]at h
 omega
theorem jC{p:Tf}(hg:p.B2)(ho:p.t.op≠8)(i:EE p.t=true\/p.t.op=7): ∀x∈p.ps,x.B2/\EE x.t=true/\x.named []=x:=λ x hx=>by
 obtain⟨a,b,e⟩:=List.append_of_mem hx
 have h:=hg.HV a x b e
 refine⟨hg.kids x hx,?_,Tf.AM0 (h.n ho)⟩
 rw[h.c]
 rcases i with h|h
 ·rw[h];rfl
 ·simp[h]
theorem BB1{p:Tf}{i:Int}{t:Tf}{h:Bool}(e:p.ps=[]):DX p i t h=if(BF (CI p.t.s).1 t).2=true then .ok (CV (JW (if h=true then p.t.n else IJ p.t.n) p.t.c) (CI p.t.s).1 t) 0 else .er i 5:=by
 cases p with|mk x ps=>cases e;rfl
theorem BB2{p a:Tf}{i:Int}{t:Tf}{h:Bool}(e:p.ps=[a]):DX p i t h=DX a (i+1) t (!h):=by
 cases p with|mk x ps=>cases e;rfl
theorem BB3{p a b:Tf}{i:Int}{t:Tf}{h:Bool}(e:p.ps=[a,b]):DX p i t h=if decide (p.t.op=17)≠h then .er i 4 else(DX a (i+1) t h).bind λ y _=>DX b (i+1+a.size) y h:=by
 cases p with|mk x ps=>cases e;rfl
theorem G6(x:Tf):len x.flat=x.size:=by unfold len;rw[Tf.BR]
theorem x8: ∀(n:Nat) (p:Tf) {w0 wv:World} {M0 M:Mem} {Rs:List HO} (i:Int) (v u:Value) (t:Tf) (h:Bool),p.size<=n->p.B2->EE p.t=true->B4 p->St w0 M0 wv M Rs->Gl w0->(A7 v p.flat).ok M->(A7 u t.flat).ok M->BS t=true->B4 t->(t.size:Int)+p.size<=16777216->0<=i->i+p.size<=1099511627776->
    Calls prog 35 [v,i64 i,u,.bool h].toArray wv (LX w0 M0 M Rs (DX p i t h)):=by
 intro n
 induction n with
 |zero=>intro p _ _ _ _ _ i v u t h hn;have:=p.size_pos;omega
 |succ n V=>
 intro p w0 wv M0 M Rs i v u t h hn hg hc X hS F hlp hlt T G hsz hi0 hi1
 have K:=p.size_eq
 have hpz:=G6 p
 have htz:=G6 t
 have htp:=t.size_pos
 have L:(at' p.flat 0).op=p.t.op:=by rw[p.BA];rfl
 have hco:=x7 hc
 have P:=jC hg Aa (.inl hc)
 have D: ∀x∈p.ps,B4 x:=X.kids
 refine AE (Hr:=Rs) A8 func35 U ntmps35 [(0,A7 v p.flat),(1,A7 u t.flat)] [] [.sl 0 v,I i,.sl 1 u,.v (.bool h)] U hS (AA hlp (AA hlt A3)) (λ B l=>AZ 2 U zeroValue48 U λ b9=>AY [] (λ g:Value×List AJ=>.sl 3 g.1) [3] (λ _=>[]) U U call77 U U (λ w M hS hF=>VF hS (hF.get (k:=0) U) Aa) λ N hgg=>?_) U
 refine A1 U (λ O=>?_) (λ O=>?_)<;>simp only[zb]at O<;>rw[L]at O
 ·obtain⟨a,e⟩:=hg.one (.inr (.inr (.inr O)))
  rw[e]at K
  rw[AK,AK]at K
  obtain⟨k1,k2,k3⟩:=P a (by rw[e];simp)
  have C:D3 p=[a.flat]:=by rw[KF];unfold BE;rw[e];show [(a.named []).flat]=_;rw[k3]
  rw[BB2 e,<-PR.ret (DX a (i+1) t !h)]at l
  have hgl2:len N.2=1:=by rw[hgg,e];rfl
  exact KW [] [4] (λ _ (g:AJ)=>.sl 4 g.v) (λ _ _ _=>[]) l U U call35 U U (List.sublist_cons_self _ _) (λ w M hS hF=>V a (i+1) (at' N.2 0).v u t (!h) Aa k1 k2 (D a (by rw[e];simp)) hS F (by have:=EF (hF.get (k:=3) U) (k:=0) Aa Aa;rw[C]at this;exact this) (hF.get (k:=1) U) T G Aa Aa Aa) λ y j hy l g _=>A2 l U U U λ w M' A=>⟨g,M',rfl,trivial,A.le,A.C8 [] U,AA (A.f.get (k:=4) U) A3⟩
 refine A1 U (λ H=>?_) (λ H=>?_)<;>simp only[zb]at H<;>rw[L]at H
 ·have e:p.ps=[]:=by
   have:=(aC hg.plain H).1
   have h2:len p.ps=0:=this
   exact List.eq_nil_of_length_eq_zero (by unfold len at h2;omega)
  have hn5:=(aC hg.plain H).2.2.1
  have Q:(at' p.flat 0).s=p.t.s:=by rw[p.BA];rfl
  have hn0:(at' p.flat 0).n=p.t.n:=by rw[p.BA];rfl
  have hc0:(at' p.flat 0).c=p.t.c:=by rw[p.BA];rfl
  have hrs:=X.root
  rw[BB1 e,<-Q,<-hn0,<-hc0]at l
  obtain⟨x,hx⟩: ∃x,x=at' p.flat 0:=⟨_,rfl⟩
  rw[<-hx]at l Q hn0 hc0
  have hrl:=gO x.s
  refine AZ 5 U zeroValue113 U λ b11=>CZ 0 (λ s=>s=⟨[(0,A7 v p.flat),(1,A7 u t.flat)],[(5,.box b11 (I (if h=true then(at' p.flat 0).n else IJ (at' p.flat 0).n)::G9 (at' p.flat 0).c.cells) 113),(2,.box b9 (G9 (at' p.flat 0).cells) 48)],[Z 1 (I i),Z 2 (.sl 1 u),Z 9 (.bx 2 b9 0),Z 11 (.bx 5 b11 0)]⟩) U U (λ q=>?_) (λ q=>?_) ?_
  ·have hh:h=false:=by simpa using q
   subst hh
   exact AY [] (λ _:Unit=>I (IJ (at' p.flat 0).n)) [] (λ _=>[]) (Fg:=λ _=>[]) (pu:=λ _=>True) U U call78 U U (λ w M hS hF=>Ay0 _ hS) λ _ _=>AQ _ U U U
  ·have hh:h=true:=by simpa using q
   subst hh
   exact AQ _ U U U
  rintro s rfl
  obtain⟨R,hnn⟩: ∃R,R=if h=true then x.n else IJ x.n:=⟨_,rfl⟩
  rw[<-hx,<-hnn]
  rw[<-hnn]at l
  refine EJ [3,5,9,10] 5 (λ _ _ _ _ _ h=>h) U BI U <|AL 3 U U U <|AY [] (λ u:Value=>.sl 6 u) [6] (λ _=>[]) (Fg:=λ u=>[(1,kn u 3 (CI x.s).1 Sp.cells)]) (pu:=λ _=>True) U U call80 U U (λ w M hS hF=>Ay6 x.s hS F (by rw[Q];omega)) λ v6 _=>AI U <|AL 5 U U U ?_
  obtain⟨k,hk⟩: ∃k,k=(BF (CI x.s).1 t).1:=⟨_,rfl⟩
  cases hl:(BF (CI x.s).1 t).2 with
  |false=>
   refine AY [] (λ _:Unit=>.tu [.v (.slice none 0 0),I 6]) [] (λ _=>[]) (Fg:=λ _=>[]) (pu:=λ _=>True) U U call79 U U (λ w M hS hF=>Ax6 (a:= { BK 9 with n:=R,c:=x.c}) hS (hF.get (k:=1) U) (hF.get (k:=6) U) Aa Aa hl) λ _ _=>?_
   refine AI U ?_
   refine AL 9 U U U ?_
   refine AI U ?_
   refine AL 10 U U U ?_
   refine AI U ?_
   refine BV U U U ?_
   rw[hl,if_neg Ab]at l
   refine A1 U (λ J=>?_) (λ J=>?_)
   ·refine OB [] U U call81 U U (λ w M hS hF=>TG i 5 hS) λ a w M hs hS hle=>?_
    exact K0 _ (l.p ⟨M,rfl,hS.drop _ ((List.sublist_cons_self _ _).cons _),hle⟩ a hs)
   ·exact absurd J (by simp)
  |true=>
   have hlq:BF (CI x.s).1 t=(k,true):=by rw[hk,<-hl]
   obtain⟨r1,r2,r3⟩:=x6 (a:= { BK 9 with n:=R,c:=x.c}) (CI x.s).1 t k hlq T
   refine AY [] (λ g:Value=>.tu [.sl 7 g,I 0]) [] (λ g=>[(7,IG g (CV (JW R x.c) (CI x.s).1 t).flat)]) (Fg:=λ _=>[]) (pu:=λ _=>True) (Hg:=λ g=>[J0 g (CV (JW R x.c) (CI x.s).1 t).flat]) U U call79 U U (hu:=λ _=>rfl) (hH:=λ _=>rfl) (λ w M hS hF=>by rw[<-r1];exact Ax7 (a:= { BK 9 with n:=R,c:=x.c}) hS (hF.get (k:=1) U) (hF.get (k:=6) U) Aa Aa hlq ⟨r2,r3⟩) λ g _=>?_
   refine AI U ?_
   refine AL 9 U U U ?_
   refine AI U ?_
   refine AL 10 U U U ?_
   refine AI U ?_
   refine BV U U U ?_
   rw[hl,if_pos U]at l
   refine A1 U (λ J=>?_) (λ J=>?_)
   ·exact absurd J (by simp)
   refine H0 7 U ?_
   refine XC 7 U λ a7 c7 e7=>?_
   subst e7
   exact A2 l U U U λ w M' A=>⟨⟨a7,_,c7⟩,M',rfl,trivial,A.le,A.C8 [] U,AA (A.f.get (k:=7) U) A3⟩
 ·obtain⟨a,b,e⟩:=hg.two (.inr Aa)
  rw[e]at K
  rw[AK,AK,AK]at K
  obtain⟨a1,a2,a3⟩:=P a (by rw[e];simp)
  obtain⟨b1,b2,b3⟩:=P b (by rw[e];simp)
  have C:D3 p=[a.flat,b.flat]:=by rw[KF];unfold BE;rw[e];show [(a.named []).flat,(b.named []).flat]=_;rw[a3,b3]
  have hgl2:len N.2=2:=by rw[hgg,e];rfl
  have hz1:=G6 a
  rw[BB3 e]at l
  refine A1 U (λ q=>?_) (λ q=>?_)
  ·rw[if_pos (by rw[L]at q;simp only[bne_iff_ne,ne_eq]at q;exact q)]at l
   exact OB [] U U call81 U U (λ w M hS hF=>TG i 4 hS) λ a w M hs hS hle=>K0 _ (l.p ⟨M,rfl,hS.drop _ (List.sublist_cons_self _ _),hle⟩ a hs)
  rw[if_neg (by rw[L]at q;simp only[bne_eq_false_iff_eq]at q;exact λ h9=>h9 q)]at l
  refine EJ [8,17,19,20] 5 (λ _ _ _ _ _ h=>h) U BI U <|H3 8 17 U U U ?_ ?_
  ·refine AU (W:=.t) (I (len a.flat)) U U (λ w M A=>by have:=EF (A.f.get (k:=3) U) (k:=0) Aa Aa;rw[C]at this;exact PV.bC this.sl (AF (v:=.v (at' N.2 0).v) (E:=[]) U) ⟨_,underlying23⟩) <|AI U <|AL 17 U U U <|KW [] [4] (λ _ (g:AJ)=>.sl 4 g.v) (λ _ _ _=>[]) l U U call35 U U (List.sublist_cons_self _ _) (λ w M hS hF=>V a (i+1) (at' N.2 0).v u t h Aa a1 a2 (D a (by rw[e];simp)) hS F (by have:=EF (hF.get (k:=3) U) (k:=0) Aa Aa;rw[C]at this;exact this) (hF.get (k:=1) U) T G Aa Aa Aa) λ y j hy l g _=>?_
   obtain⟨S,y2⟩:=PH a hy (D a (by rw[e];simp)) T G
   have y3:=S.size
   refine AI U <|AL 19 U U U ?_
   rw[<-PR.ret (DX b (i+1+a.size) y h)]at l
   refine KW [] [5] (λ _ (g:AJ)=>.sl 5 g.v) (λ _ _ _=>[]) l U U call35 U U (List.sublist_cons_self _ _) (hu:=λ _ _=>rfl) (hH:=λ _ _ _=>rfl) (λ w M hS hF=>by
    have:=V b (i+1+a.size) (at' N.2 1).v g.v y h Aa b1 b2 (D b (by rw[e];simp)) hS F (by have:=EF (hF.get (k:=3) U) (k:=1) Aa Aa;rw[C]at this;exact this) (hF.get (k:=4) U) S.ar S.sh Aa Aa Aa
    rw[<-hz1]at this ⊢
    exact this) λ z k hz l g2 _=>?_
   exact AI U <|AL 20 U U U <|AI U <|BV U U U <|A2 l U U U λ w M' A=>⟨g2,M',rfl,trivial,A.le,A.C8 [] U,AA (A.f.get (k:=5) U) A3⟩
  ·refine KW [] [4] (λ _ (g:AJ)=>.sl 4 g.v) (λ _ _ _=>[]) l U U call35 U U (List.sublist_cons_self _ _) (λ w M hS hF=>V a (i+1) (at' N.2 0).v u t h Aa a1 a2 (D a (by rw[e];simp)) hS F (by have:=EF (hF.get (k:=3) U) (k:=0) Aa Aa;rw[C]at this;exact this) (hF.get (k:=1) U) T G Aa Aa Aa) λ y j hy l g _=>?_
   obtain⟨S,y2⟩:=PH a hy (D a (by rw[e];simp)) T G
   have y3:=S.size
   refine AI U <|AL 8 U U U <|AU (W:=.t) (I (len a.flat)) U U (λ w M A=>by have:=EF (A.f.get (k:=3) U) (k:=0) Aa Aa;rw[C]at this;exact PV.bC this.sl (AF (v:=.v (at' N.2 0).v) (E:=[]) U) ⟨_,underlying23⟩) <|AI U <|AL 19 U U U ?_
   rw[<-PR.ret (DX b (i+1+a.size) y h)]at l
   refine KW [] [5] (λ _ (g:AJ)=>.sl 5 g.v) (λ _ _ _=>[]) l U U call35 U U (List.sublist_cons_self _ _) (hu:=λ _ _=>rfl) (hH:=λ _ _ _=>rfl) (λ w M hS hF=>by
    have:=V b (i+1+a.size) (at' N.2 1).v g.v y h Aa b1 b2 (D b (by rw[e];simp)) hS F (by have:=EF (hF.get (k:=3) U) (k:=1) Aa Aa;rw[C]at this;exact this) (hF.get (k:=4) U) S.ar S.sh Aa Aa Aa
    rw[<-hz1]at this ⊢
    exact this) λ z k hz l g2 _=>?_
   exact AI U <|AL 20 U U U <|AI U <|BV U U U <|A2 l U U U λ w M' A=>⟨g2,M',rfl,trivial,A.le,A.C8 [] U,AA (A.f.get (k:=5) U) A3⟩
end Go.Proofs.YtnoegalemkbbbaaGreatDoor
namespace Go.Eng
open Go.RowKit
theorem aH{l:List Tf}{k:Nat}(h:k<l.length):at' (l.map Tf.flat) (k:Int)=(at' l (k:Int)).flat:=by
 obtain⟨j,b⟩:=DB l (i:=(k:Int)) Aa (by unfold len;omega)
 obtain⟨n,e⟩:=DB (l.map Tf.flat) (i:=(k:Int)) Aa (by unfold len;rw[List.length_map];omega)
 rw[b,e,List.getElem_map]
end Go.Eng
namespace Go.Proofs.YtnoegalemkbbbaaGreatDoor
open Go.Proofs.Tryz
open Go.Eng Go.RowKit
theorem BB4{x:Tf}(h:B4 x):QQ x.flat/\ ∀t∈x.flat,len t.c.s<=1000000:=⟨λ t b=>by have:=h t b;exact⟨Aa,Aa,Aa⟩,λ t b=>by have:=h t b;omega⟩
end Go.Proofs.YtnoegalemkbbbaaGreatDoor
namespace Go.Eng
open Go.RowKit
section pv
variable {P:Program} {C:World->Prop} {L:Env} {W:Bool} {d:Option Tmp} {ty:TypeId} {ps:String} {af:Array Edge} {gd:Option (Nat×Bool)}
end pv
end Go.Eng
namespace Go.Proofs.YtnoegalemkbbbaaGreatDoor
open Go.Proofs.Tryz
open Go.Eng Go.RowKit
theorem x9{b:List A0}{n:A0}(h:n ∉ b):TI b n= -1:=if_neg h
theorem BB5{b:List A0}{n:A0}{k:Nat}(l:k<b.length)(h0: ∀j<k,b[j]?≠some n)(h1:b[k]? =some n):TI b n=k:=by
 have hm:n∈b:=List.mem_of_getElem? h1
 unfold TI JP
 rw[if_pos hm]
 have e:b.idxOf n<b.length:=List.idxOf_lt_length_of_mem hm
 have q:b[b.idxOf n]? =some n:=by rw[List.getElem?_eq_getElem e,List.getElem_idxOf e]
 have w: ¬b.idxOf n<k:=λ h=>h0 _ h q
 have y: ¬k<b.idxOf n:=λ h=>by
  have s:=List.not_of_lt_findIdx (p:=(· ==n)) (xs:=b) (i:=k) h
  rw[List.getElem?_eq_getElem l,Option.some.injEq]at h1
  simp[h1]at s
 show((b.idxOf n:Nat):Int)=_
 omega
theorem BB6(b:List A0)(n:A0)(v:Value)(w:World)(M:Mem)(F:Sat w M)(hl:(kn v 1 b CO).ok M):
    Calls prog 153 [v,str n].toArray w λ e w'=>e= .returned (i64 (TI b n))/\Ext w w':=by
 have A:len b<=9223372036854775807:=hl.sl.le
 refine AE (Hr:=[]) A8 func153 U ntmps153 [(0,kn v 1 b CO)] [] [.sl 0 v,.v (str n)] U (Aj F) (AA hl A3) (λ B E=>AT (λ k:Nat=>⟨[(0,kn v 1 b CO)],[],[Z 0 (.sl 0 v),Z 1 (.v (str n)),Z 7 (I (len b)),Z 8 (I k)]⟩) (λ k=>k<=b.length/\ ∀j<k,b[j]?≠some n) (λ k=>b.length-k) 0 U U ⟨Aa,λ j h=>by omega⟩ ?_) U
 rintro k ⟨J,s⟩
 refine A1 U (λ l=>?_) (λ l=>?_)<;>simp only[zb]at l
 ·have y:k<b.length:=by unfold len at l;omega
  obtain⟨K,G⟩:=DB b (i:=(k:Int)) Aa (by unfold len;omega)
  have z:b[k]? =some (at' b (k:Int)):=by rw[List.getElem?_eq_getElem y,G];rfl
  refine A1 U (λ q=>?_) (λ q=>?_)<;>simp only[zb]at q
  ·refine A2 E U U U λ w M C=>⟨?_,C.st.low⟩
   rw[BB5 y s (by rw[z,<-q])];rfl
  ·exact AR (k+1) U (hO:=by simp only[zb]<;>unfold len at A<;>omega) U ⟨Aa,λ j D=>by
    rcases Nat.lt_or_ge j k with h|h
    ·exact s j h
    ·rw[show j=k by omega,z];intro e;exact q (Option.some.inj e).symm⟩ (by show b.length-(k+1)<b.length-k;omega)
 ·refine A2 E U U U λ w M C=>⟨?_,C.st.low⟩
  rw[x9 (λ hm=>?_)];rfl
  obtain⟨j,D⟩:=List.mem_iff_getElem?.1 hm
  have H:=(List.getElem?_eq_some_iff.1 D).1
  exact s j (by unfold len at l;omega) D
end Go.Proofs.YtnoegalemkbbbaaGreatDoor
namespace Go.Eng
open Go.RowKit
abbrev jD(s:A0):Tm:= { BK 1 with s:=s}
end Go.Eng
namespace Go.Proofs.YtnoegalemkbbbaaGreatDoor
open Go.Proofs.Tryz
open Go.Eng Go.RowKit
end Go.Proofs.YtnoegalemkbbbaaGreatDoor
namespace Go.Eng
open Go.RowKit
def xA(hs xs:List AJ)(k:Nat):Prop:=xs.length=hs.length/\ ∀j,j<hs.length->at' xs (j:Int)=if j<k\/hs.length-k<=j then at' hs ((hs.length-1-j:Nat):Int)else at' hs (j:Int)
theorem xA.done {b xs:List AJ}{k:Nat}(h:xA b xs k)(z:b.length<=2*k+1):xs=b.reverse:=by
 obtain⟨h1,q⟩:=h
 apply List.ext_getElem (by rw[h1,List.length_reverse])
 intro j s e
 rw[List.length_reverse]at e
 rw[List.getElem_reverse]
 obtain⟨A,w⟩:=DB xs (i:=(j:Int)) Aa (by unfold len;omega)
 obtain⟨B,y⟩:=DB b (i:=((b.length-1-j:Nat):Int)) Aa (by unfold len;omega)
 have l:=q j e
 have n:at' xs (j:Int)=at' b ((b.length-1-j:Nat):Int):=by
  by_cases c:j<k\/b.length-k<=j
  ·rw[if_pos c]at l;exact l
  ·rw[if_neg c]at l
   rw[l];congr 1;omega
 rw[w,y]at n
 simpa using n
end Go.Eng
namespace Go.Proofs.YtnoegalemkbbbaaGreatDoor
open Go.Proofs.Tryz
open Go.Eng Go.RowKit
end Go.Proofs.YtnoegalemkbbbaaGreatDoor
namespace Go.Eng
open Go.RowKit
end Go.Eng
namespace Go.Proofs.YtnoegalemkbbbaaGreatDoor
open Go.Proofs.Tryz
open Go.Eng Go.RowKit
end Go.Proofs.YtnoegalemkbbbaaGreatDoor
namespace Go.Eng
open Go.RowKit
end Go.Eng
namespace Go.Proofs.YtnoegalemkbbbaaGreatDoor
open Go.Proofs.Tryz
open Go.Eng Go.RowKit
end Go.Proofs.YtnoegalemkbbbaaGreatDoor
namespace Go.Eng
open Go.RowKit
end Go.Eng
namespace Go.Proofs.YtnoegalemkbbbaaGreatDoor
open Go.Proofs.Tryz
open Go.Eng Go.RowKit
end Go.Proofs.YtnoegalemkbbbaaGreatDoor
namespace Go.Eng
open Go.RowKit
end Go.Eng
namespace Go.Proofs.YtnoegalemkbbbaaGreatDoor
open Go.Proofs.Tryz
open Go.Eng Go.RowKit
end Go.Proofs.YtnoegalemkbbbaaGreatDoor
namespace Go.Eng
def TM:PR Tf->Fl×Int×Int
 | .ok y _=>(y.flat,0,0)
 | .er i why=>([],i,why)
def KG(f t:Tf):Fl×Int×Int:=TM (FX f.size f 0 t)
def N1(p t:Tf):Fl×Int×Int:=TM (DX p 0 t true)
end Go.Eng
namespace Go.Proofs.YtnoegalemkbbbaaGreatDoor
open Go.Proofs.Tryz
open Go.Eng Go.RowKit
abbrev W4(bx by' bz:Nat)(x y z:Value):List HO:=[.box bx [x] 25,.box by' [y] 3,.box bz [z] 3]
theorem BB7{w0 j:World}{M0 M:Mem}{Rs:List HO}(bx by' b:Nat)(x y z:Value)(hS:St w0 M0 j M (W4 bx by' b x y z++Rs)):
   CallsD prog 76 [.pointer (some ⟨bx,0,none⟩),.pointer (some ⟨by',0,none⟩),.pointer (some ⟨b,0,none⟩)].toArray .returning j (λ e k w'=>e= .returned (.tuple #[])/\k=(H9 .returning).2/\ ∃M',St w0 M0 w' M' (W4 bx by' b x y z++Rs)/\M.le M'):=by
 refine rZ (Hr:=Rs) A8 func76 U ntmps76 U U U U (λ a w=>rfl) [] [(0,.box bx [.v x] 25),(1,.box by' [.v y] 3),(2,.box b [.v z] 3)] (.v .nilIface) [.bx 0 bx 0,.bx 1 by' 0,.bx 2 b 0] U U hS A3 (λ B l=>AU (.tu [.ag [I 0,I 0],.v (.bool false)]) U U (λ w M i=>PV.Ad6 (AF (v:=.v .nilIface) (E:=[]) U) underlying110 zeroValue110) <|AZ 3 U zeroValue110 U λ n=>A1 U (λ h=>?_) (λ h=>?_)) U
 ·cases h
 ·exact s0 l U λ w M' i=>⟨M',i.C8 [0,1,2] U,i.le⟩
theorem BB8{w0 l:World}{M0 M:Mem}{Rs:List HO}(b p:Int)(bx by' i:Nat)(x y z:Value)(hS:St w0 M0 l M (W4 bx by' i x y z++Rs)):
   CallsD prog 76 [.pointer (some ⟨bx,0,none⟩),.pointer (some ⟨by',0,none⟩),.pointer (some ⟨i,0,none⟩)].toArray (.panicking [PW 110 b p]) l (λ e n w'=>e= .returned (.tuple #[])/\n=(H9 (.panicking [PW 110 b p])).2/\ ∃M',St w0 M0 w' M' (W4 bx by' i (.slice none 0 0) (i64 b) (i64 p)++Rs)/\M.le M'):=by
 refine rZ (Hr:=Rs) A8 func76 U ntmps76 U U U U (λ a w=>rfl) [] [(0,.box bx [.v x] 25),(1,.box by' [.v y] 3),(2,.box i [.v z] 3)] (.v (.iface 110 (.agg #[i64 b,i64 p]))) [.bx 0 bx 0,.bx 1 by' 0,.bx 2 i 0] U U hS A3 (λ B q=>AU (.tu [.ag [I b,I p],.v (.bool true)]) U U (λ w M k=>PV.Ad5 (v:=.agg #[i64 b,i64 p]) (AF (v:=.v (.iface 110 (.agg #[i64 b,i64 p]))) (E:=[]) U) underlying110) <|AZ 3 U zeroValue110 U λ s=>A1 U (λ j=>?_) (λ j=>?_)) U
 ·exact EJ [4,5,6] 4 (λ _ _ _ _ _ h=>h) U BI Ac <|AL 4 U U U <|AI U <|AL 5 U U U <|AI U <|AL 6 U U U <|AI U <|BV U U U <|s0 q U λ w M' k=>⟨M',k.C8 [0,1,2] U,k.le⟩
 ·cases j
abbrev xB(w:World)(M:Mem)(r:Fl×Int×Int):Ending->World->Prop:=ET w M (λ h:AJ=>.tuple #[h.v,i64 r.2.1,i64 r.2.2]) (λ _=>True) λ h=>[(0,A7 h.v r.1)]
abbrev aI(b1 b2:Nat)(v u:Value):List HO:=[.box b1 [v] 23,.box b2 [u] 25]
abbrev aJ(fid:FuncId)(b1 b2:Nat):Value:=.func (.func fid) #[] #[.pointer (some ⟨b1,0,none⟩),.pointer (some ⟨b2,0,none⟩)]
theorem xC{i:FuncId}(F:CT prog i){w0 G:World}{M0 M:Mem}{Rs:List HO}(q s:Nat)(v u:Value)(f t:Tf)(r:PR Tf)(hS:St w0 M0 G M (aI q s v u++Rs))(O:(A7 v f.flat).ok M)(hu:(A7 u t.flat).ok M)
   (J: ∀ {w:World} {M:Mem} {Rs:List HO},St w0 M0 w M (aI q s v u++Rs)->(A7 v f.flat).ok M->(A7 u t.flat).ok M->Calls prog i [.pointer (some ⟨q,0,none⟩),.pointer (some ⟨s,0,none⟩)].toArray w (LX w0 M0 M Rs r)):
   Calls prog 33 [aJ i q s].toArray G (BY w0 M0 M Rs (λ h:AJ=>.tuple #[h.v,i64 (TM r).2.1,i64 (TM r).2.2]) (λ _=>True) (λ h=>[(0,A7 h.v (TM r).1)]) λ _=>[]):=by
 refine Ad9 (Hr:=Rs) A8 func33 U ntmps33 [(0,A7 v f.flat),(1,A7 u t.flat)] [(8,.box q [.sl 0 v] 23),(9,.box s [.sl 1 u] 25)] [.v (aJ i q s)] U hS (AA O (AA hu A3)) (λ B K=>AZ 10 U zeroValue25 U λ bx=>AZ 11 U zeroValue3 U λ by'=>?_) U
 refine AZ 12 U zeroValue3 U λ l=>AU (.v (.func (.func 76) #[] #[.pointer (some ⟨bx,0,none⟩),.pointer (some ⟨by',0,none⟩),.pointer (some ⟨l,0,none⟩)])) U U (λ w M A=>PV.makeFunc (xs:=[]) (ys:=[.tmp 2,.tmp 3,.tmp 4]) (vs:=[]) (us:=[.pointer (some ⟨bx,0,none⟩),.pointer (some ⟨by',0,none⟩),.pointer (some ⟨l,0,none⟩)]) trivial ⟨AF (v:=.bx 10 bx 0) (E:=[]) U,AF (v:=.bx 11 by' 0) (E:=[]) U,AF (v:=.bx 12 l 0) (E:=[]) U,trivial⟩) <|Ae0 (λ _ _ _ _ h=>h) (λ _ _ _ _ _ h=>h) U U U ?_
 have n: ∀ {w:World} {M:Mem} {x y z:Value},St w0 M0 w M ([.box l [z] 3,.box by' [y] 3,.box bx [x] 25]++Rs)->St w0 M0 w M (W4 bx by' l x y z++Rs):=λ h=>h.perm ((List.reverse_perm [_,_,_]).append_right _)
 cases hr:r with
 |er L p=>
  subst hr
  refine OB [8,9] U U F U U (λ w M hS hF=>J hS (hF.get (k:=0) U) (hF.get (k:=1) U)) λ a w M C hS hle=>K0 _ (K.pan C ?_)
  have D:=n hS
  refine rY call76 (λ h=>by cases h) rfl (BB8 L p bx by' l _ _ _ D) λ w' ⟨M',e,b⟩=>⟨_,gM A8 (H:=[(10,.box bx [.v (.slice none 0 0)] 25),(11,.box by' [I L] 3),(12,.box l [I p] 3)]) (Hr:=Rs) e C rfl rfl,?_⟩
  exact⟨⟨none,0,0⟩,M',rfl,trivial,hle.trans b,e.drop _ (((List.Sublist.refl _).cons _).cons _|>.cons _),AA ⟨Sl.nil M' 11,Tm.AO,trivial⟩ A3⟩
 |ok x j=>
  subst hr
  refine AY [8,9] (λ h:AJ=>.sl 5 h.v) [5] (λ _=>[]) (Fg:=λ h=>[(0,A7 h.v x.flat)]) (pu:=λ _=>True) U U F U U (λ w M hS hF=>J hS (hF.get (k:=0) U) (hF.get (k:=1) U)) λ N _=>?_
  refine Ae1 K rfl λ a w M C A=>rY call76 (λ h=>by cases h) rfl (BB7 bx by' l _ _ _ (A.C8 [10,11,12] rfl)) λ w' ⟨M',e,b⟩=>⟨_,gM A8 (H:=[(10,.box bx [.sl 5 N.v] 25),(11,.box by' [I 0] 3),(12,.box l [I 0] 3)]) (Hr:=Rs) e C rfl rfl,?_⟩
  exact⟨N,M',rfl,trivial,A.le.trans b,e.drop _ (((List.Sublist.refl _).cons _).cons _|>.cons _),AA ((A.f.get (k:=5) U).mono b) A3⟩
theorem BB9{w0 s:World}{M0 M:Mem}{Rs:List HO}(b e:Nat)(v:Value)(u:AJ)(p t:Tf)(hS:St w0 M0 s M (aI b e v u.v++Rs))(j:Gl w0)(z:(A7 v p.flat).ok M)(hu:(A7 u.v t.flat).ok M)(hg:p.B2)(A:EE p.t=true)(l:B4 p)(C:BS t=true)(D:B4 t)(n:(t.size:Int)+p.size<=16777216):
  Calls prog 34 [.pointer (some ⟨b,0,none⟩),.pointer (some ⟨e,0,none⟩)].toArray s (LX w0 M0 M Rs (DX p 0 t true)):=by
 refine AE (Hr:=Rs) A8 func34 U ntmps34 [(0,A7 v p.flat),(1,A7 u.v t.flat)] [(8,.box b [.sl 0 v] 23),(9,.box e [.sl 1 u.v] 25)] [.bx 8 b 0,.bx 9 e 0] U hS (AA z (AA hu A3)) (λ B i=>?_) U
 rw[<-PR.ret (DX p 0 t true)]at i
 exact KW [] [6] (λ _ (h:AJ)=>.sl 6 h.v) (λ _ _ _=>[]) i U U call35 U U (((List.Sublist.refl _).cons _).cons _) (λ w M hS hF=>x8 p.size p 0 v u.v t true (Nat.le_refl _) hg A l hS j (hF.get (k:=0) U) (hF.get (k:=1) U) C D n Aa Aa) λ y F G i E _=>A2 i U U U λ w M' q=>⟨E,M',rfl,trivial,q.le,q.C8 [] U,AA (q.f.get (k:=6) U) A3⟩
theorem jE(p t:Tf)(v u:Value)(w:World)(M:Mem)(s:Sat w M)(i:Gl w)(j:(A7 v p.flat).ok M)(hu:(A7 u t.flat).ok M)(hg:p.B2)(y:EE p.t=true)(l:B4 p)(z:BS t=true)(A:B4 t)(n:(t.size:Int)+p.size<=16777216):
  Calls prog 12 [v,u].toArray w (xB w M (N1 p t)):=by
 obtain⟨us,rfl⟩:=A7.shape hu
 exact AE (Hr:=[]) A8 func12 U ntmps12 [(0,A7 v p.flat),(1,A7 us.v t.flat)] [] [.sl 0 v,.sl 1 us.v] U (Aj s) (AA j (AA hu A3)) (λ B C=>BO 8 U U U λ b=>BO 9 U U U λ e=>AU (.v (aJ 34 b e)) U U (λ w M q=>PV.makeFunc (xs:=[]) (ys:=[.tmp 2,.tmp 3]) (vs:=[]) (us:=[.pointer (some ⟨b,0,none⟩),.pointer (some ⟨e,0,none⟩)]) trivial ⟨AF (v:=.bx 8 b 0) (E:=[]) U,AF (v:=.bx 9 e 0) (E:=[]) U,trivial⟩) <|AY [8,9] (λ h:AJ=>.tu [.sl 5 h.v,I (N1 p t).2.1,I (N1 p t).2.2]) [5] (λ _=>[]) (Fg:=λ h=>[(0,A7 h.v (N1 p t).1)]) (pu:=λ _=>True) U U call33 U U (λ w M hS hF=>xC call34 b e v us.v p t _ hS (hF.get (k:=0) U) (hF.get (k:=1) U) λ hS j hu=>BB9 b e v us p t hS i j hu hg y l z A n) λ D _=>A2 C U U U λ w M' q=>⟨D,M',rfl,trivial,(q.C8 [] U).done,AA (q.f.get (k:=5) U) A3⟩) U
end Go.Proofs.YtnoegalemkbbbaaGreatDoor
namespace Go.Eng
open Go.RowKit
def L1:Tf:=.mk { BK 16 with s:=[46,97],n:=4,c:=⟨3,0,[],[49],false,0⟩} []
def G7:Tf:=.mk (BK 5) [.mk (BK 4) [.mk (BK 7) [L1],.mk { BK 1 with s:=[98]} []]]
def xD:Tf:=.mk { BK 1 with n:=8,name:=[97]} []
def R9:Tf:=.mk (BK 2) [xD,.mk { BK 1 with n:=16,name:=[98]} []]
def N2:Tf:=.mk (BK 5) [R9]
def PI:Tf:=.mk (BK 2) [xD]
theorem BC0:G7.B2:=⟨by simp[G7,L1,Tf.zm,GS,BK],Ac⟩
theorem BC1:L1.B2:=⟨by simp[L1,Tf.zm,GS,BK],Ac⟩
theorem BC2:B4 G7:=by unfold B4 JA;decide+kernel
theorem BC3:B4 L1:=by unfold B4 JA;decide+kernel
theorem BC4:B4 N2:=by unfold B4 JA;decide+kernel
theorem BC5:B4 R9:=by unfold B4 JA;decide+kernel
theorem BC6:B4 PI:=by unfold B4 JA;decide+kernel
theorem al1:(KG G7 N2).2.2=0/\len (KG G7 N2).1=2/\(at' (KG G7 N2).1 1).n=16:=by decide+kernel
theorem al2:(KG G7 R9).2=(0,1):=by decide+kernel
theorem al3:(N1 L1 PI).2.2=0/\len (N1 L1 PI).1=3:=by decide+kernel
theorem BD0{t:Tm}(h:HY t=true)(ho:t.op=3\/(5<=t.op/\t.op<=8)):t.many=1:=by
 unfold HY IH at h
 rw[if_neg Aa,if_neg Aa,if_neg Aa,if_neg Aa,if_neg Aa]at h
 by_cases h3:t.op=3\/t.op=5\/t.op=6
 ·rw[if_pos h3]at h
  simp only[Bool.and_eq_true,beq_iff_eq]at h
  exact h.1
 ·rw[if_neg h3,if_pos Aa]at h
  simp only[Bool.and_eq_true,beq_iff_eq]at h
  exact h.1.2
theorem BD1: ∀(n:Nat) (x:Tf),x.size<=n->D2 x=true->BS x=true:=by
 intro n
 induction n with
 |zero=>intro x h;have:=x.size_pos;omega
 |succ n e=>
  intro x j hw
  have k:=x.size_eq
  obtain⟨h1,i⟩:=VV hw
  rw[aD,Bool.and_eq_true,W3]
  refine⟨?_,λ y b=>e y (by have:=MN b;omega) (VU i y b).1⟩
  unfold R7
  simp only[Bool.and_eq_true,Bool.or_eq_true,Bool.not_eq_true',decide_eq_true_eq,decide_eq_false_iff_not,Bool.or_eq_false_iff,List.all_eq_true,List.isEmpty_iff]
  refine⟨?_,?_⟩
  ·by_cases h3:x.t.op=1
   ·exact .inr λ y b=>((iC hw h3).2 y b).1
   ·exact .inl h3
  ·by_cases h3:x.t.op=3\/(5<=x.t.op/\x.t.op<=8)
   ·exact .inr (BD0 h1 h3)
   ·exact .inl ⟨Aa,Aa⟩
structure W5 (f:Fl) (x:Tf):Prop where
 eq:f=x.flat
 B2:x.B2
 name:x.t.name=[]
 cond:EE x.t=false
 size:x.size<=40
 sh:B4 x
structure aK (t:Fl) (x:Tf):Prop where
 eq:t=x.flat
 B2:x.VY
 ar:BS x=true
 size:x.size<=40
 sh:B4 x
theorem BD2{f:Fl}(h:QJ f 40=true): ∃x,W5 f x:=by
 obtain⟨x,h1,b,e,i,l,j⟩:=AS9 h
 have n:len f=x.size:=by rw[b];unfold len;rw[Tf.BR]
 exact⟨x,b,h1,e,i,Aa,λ t k=>by have:=j t (by rw[b];exact k);exact⟨this.2.1,this.1,this.2.2⟩⟩
theorem BD3{t:Fl}(h:NQ 40 t=true)(i: ∃x:Tf,t=x.flat/\x.VY): ∃x,aK t x:=by
 obtain⟨x,b,e⟩:=i
 unfold NQ at h
 simp only[Bool.and_eq_true,decide_eq_true_eq,List.all_eq_true]at h
 have j:len t=x.size:=by rw[b];unfold len;rw[Tf.BR]
 exact⟨x,b,e,BD1 x.size x (Nat.le_refl _) (iT x.size x (Nat.le_refl _) e.right.all),Aa,λ u hu=>by have:=h.2 u (by rw[b];exact hu);exact⟨this.1.2,this.1.1,this.2⟩⟩
end Go.Eng
namespace Go.Proofs.YtnoegalemkbbbaaGreatDoor
open Go.Proofs.Tryz
open Go.Eng Go.RowKit
theorem BD4(f t:Fl)(v u:Value)(w:World)(M:Mem)(q:Sat w M)(s:(A7 v f).ok M)(hu:(A7 u t).ok M):
    Calls prog 9 [v,u].toArray w λ e w'=>(∃b,e= .returned (.bool b)/\(b=true->(∃x,W5 f x)/\ ∃y,aK t y))/\Ext w w':=by
 refine AE (Hr:=[]) A8 func9 U ntmps9 [(0,A7 v f),(1,A7 u t)] [] [.sl 0 v,.sl 1 u] U (Aj q) (AA s (AA hu A3)) (λ B n=>AB U call22 U U (λ _ w M i=>Ar7 f v 40 M w i.st.sat (i.sl 0 U) Aa) U <|F9 (.v (.bool false)) U U (λ j=>?_) (λ j=>?_)) U
 ·refine B3 (γ:=Bool) (pu:=λ b=>b=true-> ∃y,aK t y) (Fg:=λ _=>[]) (λ b:Bool=>.v (.bool b)) [] U U call32 U (hE1:=L7 j U) (λ w M i=>(Au7 t u 40 M w i.st.sat (i.f.get (k:=1) U) Aa).mono λ e w' he=>by
   obtain⟨⟨b,z,e2⟩,e3⟩:=he
   exact⟨b,M,z,λ h=>BD3 (e2 h).1 (e2 h).2,Grow.TP i.st.sat e3,A3⟩) λ b l=>?_
  exact A2 n U U U λ w M i=>⟨⟨b,by rw[j];rfl,λ h=>⟨BD2 j,l h⟩⟩,i.st.low⟩
 ·exact A2 n rfl rfl rfl λ w M i=>⟨⟨false,by rw[j];rfl,λ h=>by cases h⟩,i.st.low⟩
end Go.Proofs.YtnoegalemkbbbaaGreatDoor
namespace Go.Eng
open Go.RowKit
end Go.Eng
namespace Go.Proofs.YtnoegalemkbbbaaGreatDoor
open Go.Proofs.Tryz
open Go.Eng Go.RowKit
end Go.Proofs.YtnoegalemkbbbaaGreatDoor
namespace Go.Eng
open Go.RowKit
end Go.Eng
namespace Go.Proofs.YtnoegalemkbbbaaGreatDoor
open Go.Proofs.Tryz
open Go.Eng Go.RowKit
end Go.Proofs.YtnoegalemkbbbaaGreatDoor
namespace Go.Eng
open Go.RowKit
theorem PR.BD5 {α β:Type}{r:PR α}{k:α->Int->PR β}{e p:Int}(h:r.bind k= .er e p):r= .er e p\/ ∃x i,r= .ok x i/\k x i= .er e p:=by
 cases r with
 |er b j=>exact .inl (by cases h;rfl)
 |ok x i=>exact .inr ⟨x,i,rfl,h⟩
structure xE (i:Int) (n:Nat) (e p:Int):Prop where
 lo:i<=e
 hi:e<i+n
 why:1<=p/\p<=6
theorem xE.at {i:Int}{n:Nat}{p e q:Int}(h:(.er i p:PR Tf)= .er e q)(b:1<=n)(hp:1<=p/\p<=6):xE i n e q:=by cases h;exact⟨Aa,Aa,hp⟩
theorem aL: ∀(p:Tf) {i:Int} {t:Tf} {h:Bool} {e q:Int},DX p i t h= .er e q->i<=e/\e<i+p.size/\(q=4\/q=5)
 | .mk x [],i,t,h,e,q,he=>by
  unfold DX at he
  split at he
  ·cases he
  ·cases he
   exact⟨Aa,by rw[Tf.size,AK];omega,.inr U⟩
 | .mk x [a],i,t,h,e,q,he=>by
  unfold DX at he
  have:=aL a he
  rw[Tf.size,AK,AK]
  exact⟨Aa,Aa,this.2.2⟩
 | .mk x (a::b::l),i,t,h,e,q,he=>by
  unfold DX at he
  rw[Tf.size,AK,AK]
  have j:=a.size_pos
  split at he
  ·cases he
   exact⟨Aa,Aa,.inl U⟩
  ·rcases PR.BD5 he with he|⟨u,k,_,he⟩
   ·have:=aL a he
    exact⟨Aa,Aa,this.2.2⟩
   ·have:=aL b he
    exact⟨Aa,Aa,this.2.2⟩
structure OkF (f:Tf):Prop where
 B2:f.B2
 sh:B4 f
 name:f.t.name=[]
 cond:EE f.t=false
theorem W5.ok {l:Fl}{f:Tf}(h:W5 l f):OkF f:=⟨h.B2,h.sh,h.name,h.cond⟩
end Go.Eng
namespace Go.Proofs.YtnoegalemkbbbaaGreatDoor
open Go.Proofs.Tryz
open Go.Eng Go.RowKit
theorem BD7{w0 Q:World}{M0 M:Mem}{Rs:List HO}(t:Tm)(q:Value)(i:List A0)(v:Value)(j:List AJ)(xs:List Fl)(hS:St w0 M0 Q M Rs)(T:Sl M 1 i.length q (i.flatMap CO))(hu:(CS v j xs).ok M)(F:i=[]\/len i=len j)(G:i≠[]-> ∀x∈xs,x≠[])(hb:len xs.flatten<=100000000000)(hr:len j<=1048576):
  Calls prog 26 [.agg t.cells.toArray,q,v].toArray Q (fW w0 M0 M Rs ({ t with many:=len xs}::(J1 i xs).flatten)):=by
 have H:=fV hu
 have V:=A6 j
 have W:=A6 i
 have J:i=[]->len i=0:=λ h=>by rw[h];rfl
 rw[<-H]
 refine AE (Hr:=Rs) A8 func26 U ntmps26 [(0,CS v j xs),(1,kn q 1 i CO)] [] [.ag (G9 t.cells),.sl 1 q,.sl 0 v] U hS (AA hu (fc 1 T FY A3)) (λ B X=>BO 3 U U U λ b=>IB 7 [{ t with many:=len j}] Tm.cells 11 48 Tm.AO U U Ah U λ u=>?_) U
 refine AT (σ:=Int×Value×Fl) (λ(k,u,y)=>⟨[(0,CS v j xs),(1,kn q 1 i CO)],[(7,YU u y)],[Z 1 (.sl 1 q),Z 2 (.sl 0 v),Z 7 (.sl 7 u),Z 8 (I k)]⟩)
   (λ(k,u,y)=>0<=k/\k<=len j/\y= { t with many:=len j}::(J1 i (Eng.sub xs 0 k)).flatten) (λ(k,u,y)=>(len j-k).toNat) (0,u,[{ t with many:=len j}]) U U ⟨Aa,Aa,rfl⟩ ?_
 rintro⟨k,u,y⟩ ⟨h0,h1,D⟩
 refine A1 U (λ A=>?_) (λ A=>?_)<;>simp only[zb]at A
 ·have hyl:len y=1+len (JJ xs k):=by
   have:=rU i (Eng.sub xs 0 k)
   rw[D,AH,this]
   have e:Eng.sub xs 0 k=xs.take k.toNat:=by unfold Eng.sub;simp
   rw[e];unfold JJ;omega
  have K:=Y0 (xs:=xs) h0 Aa
  have L:=V2 xs (k+1)
  have hf3:=A6 (JJ xs k)
  have hf4:=A6 (at' xs k)
  rw[K,AN]at L
  refine C5 U Ad Aa <|ES 2 (A7 (at' j k).v (at' xs k)) (λ w M E=>EF (E.f.get (k:=0) U) h0 A) (ME 28 2 U ?_)
  refine IT 120 U U U underlying23 type48 U U Tm.cells_one Aa λ v'=>CZ 1 (λ s=> ∃z:Fl,z=y++KX i k (at' xs k)/\s=⟨[(0,CS v j xs),(1,kn q 1 i CO)],[(7,YU v' z)],[Z 1 (.sl 1 q),Z 2 (.sl 0 v),Z 7 (.sl 7 v'),Z 8 (I k)]⟩) U U (λ n=>?_) (λ n=>?_) ?_
  ·simp only[zb]at n
   have C:i≠[]:=λ h=>by rw[J h]at n;omega
   have N:=G C _ (at_mem (l:=xs) h0 Aa)
   have hxp:=GM N
   have R:len (y++at' xs k)=len y+len (at' xs k):=AN _ _
   have S:len i=len j:=F.resolve_left C
   refine AZ 10 U zeroValue48 U λ b10=>L6 { at' (y++at' xs k) (len y)with name:=at' i k} rfl U U sizeOf48 U U U Aa λ z O=>AQ _ U U ⟨z,?_,rfl⟩
   rw[O,Ai9,Aj0];unfold KX;rw[if_pos Aa]
  ·simp only[zb]at n
   exact AQ _ U U ⟨_,by unfold KX;rw[if_neg Aa],rfl⟩
  rintro s ⟨z,O,rfl⟩
  refine AR (k+1,v',z) U U ⟨Aa,Aa,?_⟩ Ag
  have P:len (Eng.sub xs 0 k)=k:=by unfold Eng.sub;unfold len at*;rw[List.length_take,List.length_drop];simp only[Int.toNat_zero];omega
  rw[HQ h0 Aa,rT,P,O,D]
  simp
 have hke:k=len j:=by omega
 rw[ID Aa]at D
 subst D
 exact A2 X U U U λ w M' E=>qR ⟨u,M',rfl,trivial,E.le,E.st,A3⟩
end Go.Proofs.YtnoegalemkbbbaaGreatDoor
namespace Go.Eng
open Go.RowKit
theorem jF{b:UInt8}(h:CP b=true):48<=b.toNat/\b.toNat<=57:=by
 unfold CP C1 at h
 simp only[Bool.and_eq_true,decide_eq_true_eq]at h
 omega
theorem xF: ∀(l:A0) (n:Nat),CH l-> ∃m:Nat,Lib.decFrom n l=some m/\(m:Int)=l.foldl (λ n b=>n*10+((b.toNat:Int)-48)) (n:Int)
 |[],n,_=>⟨n,rfl,rfl⟩
 |b::l,n,h=>by
  have e:=jF (h b (.head _))
  obtain⟨m,h1,i⟩:=xF l (n*10+(b.toNat-48)) λ x hx=>h x (.tail _ hx)
  refine⟨m,?_,?_⟩
  ·unfold Lib.decFrom Lib.digitVal
   rw[if_pos e];exact h1
  ·rw[List.foldl_cons,i];congr 1;omega
theorem BD8{l:A0}(h:CH l)(n:l≠[]):Lib.atoi l=some (CK l):=by
 cases l with
 |nil=>exact absurd U n
 |cons b l=>
  have k:=jF (h b (.head _))
  obtain⟨m,h1,q⟩:=xF (b::l) 0 h
  have i: ¬(b==45)=true:=λ e=>by have:=eq_of_beq e;subst this;exact absurd k.1 Ab
  have j: ¬(b==43)=true:=λ e=>by have:=eq_of_beq e;subst this;exact absurd k.1 Ab
  unfold Lib.atoi
  dsimp only
  rw[if_neg i,if_neg j]
  unfold Lib.decNat
  rw[if_neg (by simp),h1]
  show some (m:Int)=_
  rw[q];rfl
theorem xG: ∀(g r:A0),CH g->Lib.indexByte (g++93::r) 93=len g
 |[],r,_=>by show(if(93:UInt8)==93 then(0:Int)else _)=_;rfl
 |b::g,r,h=>by
  have i:=jF (h b (.head _))
  have j:=xG g r λ x hx=>h x (.tail _ hx)
  have hl:=A6 g
  have k: ¬(b==93)=true:=λ e=>by have:=eq_of_beq e;subst this;exact absurd i.2 Ab
  show Lib.indexByte (b::(g++93::r)) 93=_
  unfold Lib.indexByte
  rw[if_neg k,j,if_neg (by simp;omega),AH]
theorem xH{n:Int}(h0:0<=n)(h1:n<=1000000)(r:A0):FE ((91::(Lib.itoa n++[93]))++r)=(⟨true,[],n⟩,len (91::(Lib.itoa n++[93]))):=by
 obtain⟨l,b,i,_⟩:=As2 n h0
 have q:=As3 h0 h1
 have hp:=GM i
 obtain⟨g,hg⟩: ∃g,g=Lib.itoa n:=⟨_,rfl⟩
 rw[<-hg]at l b i q hp ⊢
 have e:(91::(g++[93]))++r=91::(g++93::r):=by simp
 rw[e]
 have k:Lib.indexByte (91::(g++93::r)) 93=len g+1:=by
  unfold Lib.indexByte
  rw[if_neg Ab,xG g r b,if_neg (by simp;omega)]
 have j:Eng.sub (91::(g++93::r)) 1 (len g+1)=g:=iS 91 g (93::r)
 unfold FE
 rw[k,if_neg (by rintro(h|h|h);cases h;omega;omega),j,BD8 b i]
 dsimp only
 rw[l,if_neg (by rintro(h|h|h);omega;exact h hg.symm;omega)]
 rw[AH,AN]
 rfl
theorem BD9{p:List Sp}: ∀c r',BQ p=c::r'->CJ (c.toNat:Int) false=false:=by
 intro c r' e
 cases p with
 |nil=>cases e
 |cons x p=>
  unfold BQ at e
  rw[List.map_cons,List.flatten_cons]at e
  unfold Sp.CR at e
  split at e
  ·rw[<-(List.cons.inj e).1];decide
  ·rw[<-(List.cons.inj e).1];decide
theorem xI{x:Sp}(h:x.B2)(hp:x.part=true):(⟨true,[],x.n⟩:Sp)=x/\0<=x.n/\x.n<=1000000/\x.CR=91::(Lib.itoa x.n++[93]):=by
 obtain⟨h1,e,i⟩:=h.1 hp
 refine⟨by obtain⟨a,b,c⟩:=x;cases hp;cases h1;rfl,e,i,by unfold Sp.CR;rw[if_pos hp];simp⟩
theorem xJ{x:Sp}(h:x.B2)(hp:x.part=false):MY x:=⟨hp,(h.2 hp).1,(h.2 hp).2⟩
theorem BE0{x:Sp}{p:List Sp}{A:A0}(hx:x.B2)(w:x.part=true->A≠[]):EP (A++BQ (x::p)) (len A)=(x,len x.CR)/\0<len x.CR:=by
 have e:BQ (x::p)=x.CR++BQ p:=by unfold BQ;rw[List.map_cons,List.flatten_cons]
 cases hp:x.part with
 |false=>
  have k:=xJ hx hp
  have i:=vJ (s:=x.name) (r:=BQ p) k.2.2 BD9
  have y:=A6 (F0 x.name)
  have b:0<len x.CR:=by rw[k.CR,AH];omega
  refine⟨?_,b⟩
  unfold EP
  rw[QD,e,k.CR,i,if_pos (by show len (46::F0 x.name)≠0;rw[AH];omega),k.eq]
 |true=>
  obtain⟨g1,g2,g3,g4⟩:=xI hx hp
  have l:=xH g2 g3 (BQ p)
  have b:0<len x.CR:=by rw[g4,AH];have:=A6 (Lib.itoa x.n++[93]);omega
  have q:=GM (w hp)
  refine⟨?_,b⟩
  have i:F3 (91::(Lib.itoa x.n++[93])++BQ p)=(HW,0):=by
   have j:Lib.hasPrefix (91::(Lib.itoa x.n++[93])++BQ p) [46]=false:=rfl
   unfold F3;rw[j,if_pos U]
  have hd:GV (A++BQ (x::p)) (len A)=0:=by unfold GV;rw[if_neg (by rintro⟨h,_⟩;omega)]
  unfold EP
  rw[hd,Int.add_zero,QD,e,g4,i,if_neg Ab,if_pos (.inl q),l,if_neg (by rw[<-g4];show ¬len x.CR=0;omega),Int.add_zero,g1]
theorem jG: ∀(p2 p1:List Sp) (A:A0) (f:Nat),(∀x∈p2,x.B2)->(A=[]-> ∀x∈p2.head?,x.part=false)->p2.length<=f->FO f (A++BQ p2) p1 (len A)=(p1++p2,len (A++BQ p2))
 |[],p1,A,f,_,_,_=>by
  rw[show BQ []=[]from rfl,List.append_nil,List.append_nil]
  cases f with
  |zero=>rfl
  |succ f=>rw[FO,if_neg Aa]
 |x::p2,p1,A,f,h,l,n=>by
  rw[List.length_cons]at n
  obtain⟨f,rfl⟩: ∃g,f=g+1:=⟨f-1,Aa⟩
  have hx:=h x (.head _)
  have e:BQ (x::p2)=x.CR++BQ p2:=by unfold BQ;rw[List.map_cons,List.flatten_cons]
  obtain⟨i,b⟩:=BE0 (p:=p2) (A:=A) hx λ hp j=>by have:=l j x rfl;rw[hp]at this;cases this
  have s:=A6 (BQ p2)
  have k:=jG p2 (p1++[x]) (A++x.CR) f (λ y q=>h y (.tail _ q)) (λ j=>by have:=(List.append_eq_nil_iff.1 j).2;rw[this]at b;exact absurd b Ab) Aa
  rw[List.append_assoc,<-e,AN]at k
  rw[FO,if_pos (by rw[e,AN,AN];omega),i,if_neg (by show ¬len x.CR=0;omega)]
  show FO f (A++BQ (x::p2)) (p1++[x]) (len A+len x.CR)=_
  rw[k,List.append_assoc];rfl
theorem BE1{p:List Sp}(hl:p.length<=20)(h: ∀x∈p,x.B2):CI (DM p)=(p,0,0):=by
 cases p with
 |nil=>rfl
 |cons x p=>
  have hx:=h x (.head _)
  cases hp:x.part with
  |false=>
   have l:=xJ hx hp
   have e:DM (x::p)=BQ (x::p):=by
    unfold DM BQ
    rw[if_neg (by rintro(h|h);cases h;have h:x.part=true:=h;rw[hp]at h;cases h)];rfl
   have b:DM (x::p)≠[46]:=by
    rw[e];unfold BQ
    rw[List.map_cons,List.flatten_cons,l.CR]
    intro q
    have:=(List.cons.inj q).2
    exact vL l.2.2 (List.append_eq_nil_iff.1 this).1
   have hg:=jG (x::p) [] [] 20 h (λ _ y s=>by cases s;exact hp) hl
   rw[List.nil_append,List.nil_append,len_nil,<-e]at hg
   unfold CI
   rw[if_neg b,hg,if_neg (by rintro(h|h);(have h:len (DM (x::p))<len (DM (x::p)):=h;omega);cases h)]
  |true=>
   obtain⟨g1,g2,g3,g4⟩:=xI hx hp
   have e:BQ (x::p)=x.CR++BQ p:=by unfold BQ;rw[List.map_cons,List.flatten_cons]
   have es:DM (x::p)=46::(x.CR++BQ p):=by
    rw[<-e];unfold DM BQ
    rw[if_pos (.inr hp)];rfl
   have b:DM (x::p)≠[46]:=by
    rw[es,g4]
    intro q
    cases (List.cons.inj q).2
   have i:=xH g2 g3 (BQ p)
   rw[<-g4,g1]at i
   have C:0<len x.CR:=by rw[g4,AH];have:=A6 (Lib.itoa x.n++[93]);omega
   have w:F3 (DM (x::p))=(HW,0):=by
    rw[es,g4]
    have k:Lib.hasPrefix (46::(91::(Lib.itoa x.n++[93])++BQ p)) [46]=true:=rfl
    have l:A5 (46::(91::(Lib.itoa x.n++[93])++BQ p)) 1=91::(Lib.itoa x.n++[93])++BQ p:=rfl
    have hw:CX (91::(Lib.itoa x.n++[93])++BQ p) 0=0:=by
     refine QE (n:=0) (by have:=A6 (91::(Lib.itoa x.n++[93])++BQ p);omega) (λ j h1 q=>by omega) (λ _=>?_) 0 (Int.le_refl _) (Int.le_refl _)
     rfl
    have hu:(B1 (91::(Lib.itoa x.n++[93])++BQ p)).2.2≠0:=by
     have z:Lib.hasPrefix (91::(Lib.itoa x.n++[93])++BQ p) [34]=false:=rfl
     unfold B1;rw[z,if_neg Ab];decide
    unfold F3
    rw[k,if_neg Ab,l,hw,if_neg Ab,if_pos (.inl hu)]
   have hd:GV (DM (x::p)) 0=1:=by unfold GV;rw[es,if_pos ⟨rfl,rfl⟩]
   have A:EP (DM (x::p)) 0=(x,len x.CR+1):=by
    unfold EP
    rw[OL,w,if_neg Ab,hd,if_pos (.inr Ab)]
    have B:A5 (DM (x::p)) (0+1)=x.CR++BQ p:=by rw[es];rfl
    rw[B,i,if_neg (by show ¬len x.CR=0;omega)]
   have F:=A6 (BQ p)
   rw[List.length_cons]at hl
   have hg:FO 20 (DM (x::p)) [] 0=(x::p,len (DM (x::p))):=by
    have D:=jG p [x] (46::x.CR) 19 (λ y s=>h y (.tail _ s)) (λ E=>by cases E) Aa
    have e2:(46::x.CR)++BQ p=DM (x::p):=by rw[es];rfl
    rw[e2,AH]at D
    rw[FO,if_pos (by rw[es,AH,AN];omega),A,if_neg (by show ¬len x.CR+1=0;omega)]
    show FO 19 (DM (x::p)) [x] (0+(len x.CR+1))=_
    rw[Int.zero_add,D];rfl
   unfold CI
   rw[if_neg b,hg,if_neg (by rintro(h|h);(have h:len (DM (x::p))<len (DM (x::p)):=h;omega);cases h)]
theorem BE2{s:A0}(h:KT s=true):(CI s).1=(CQ s).1:=by
 obtain⟨p,h1,b,e,i⟩:=pY h
 rw[i,e,BE1 h1 b]
end Go.Eng
namespace Go.Proofs.YtnoegalemkbbbaaGreatDoor
open Go.Proofs.Tryz
open Go.Eng Go.RowKit
end Go.Proofs.YtnoegalemkbbbaaGreatDoor
namespace Go.Eng
def CE:Tf->Tr->Option Bool
 | .mk t [],x=>(FV (CQ t.s).1 x).map λ y=>F4 t.n (F5 y (.mk t.c []))
 | .mk t [a],x=>(CE a x).map λ h=> !h
 | .mk t (a::b::_),x=>(CE a x).bind λ h=>if h=(t.op==18)then some h else CE b x
theorem BE3{p:Tf}(h:p.ps=[])(x:Tr):CE p x=(FV (CQ p.t.s).1 x).map λ y=>F4 p.t.n (F5 y (.mk p.t.c [])):=by
 obtain⟨t,ps⟩:=p
 have h:ps=[]:=h
 subst h;rw[CE];rfl
theorem BE4{p a:Tf}(h:p.ps=[a])(x:Tr):CE p x=(CE a x).map λ h=> !h:=by
 obtain⟨t,ps⟩:=p
 have h:ps=[a]:=h
 subst h;rw[CE]
theorem BE5{p a b:Tf}(h:p.ps=[a,b])(x:Tr):CE p x=(CE a x).bind λ h=>if h=(p.t.op==18)then some h else CE b x:=by
 obtain⟨t,ps⟩:=p
 have h:ps=[a,b]:=h
 subst h;rw[CE];rfl
def RB(o:Option Bool):Int:=if o.isSome=true then 0 else 5
def jH(p:Tf):Prop:= ∀m∈p.flat,m.op=16->CD (.mk m.c [])
theorem jI{y:Tf}{m:Tm}: ∀ {l:List Tf},y∈l->m∈y.flat->m∈AM l
 |x::l,h,hm=>by
  rw[AM]
  rcases List.mem_cons.1 h with rfl|h
  ·exact List.mem_append.2 (.inl hm)
  ·exact List.mem_append.2 (.inr (jI h hm))
end Go.Eng
namespace Go.Proofs.YtnoegalemkbbbaaGreatDoor
open Go.Proofs.Tryz
open Go.Eng
theorem xK: ∀ {p:List Sp} {x y:Tr},(∀s∈p,0<=s.n)->CD x->FV p x=some y->CD y
 |[],x,y,_,hx,h=>by rw[FV]at h;exact Option.some.inj h▸hx
 |s::p,x,y,hp,hx,h=>by
  rw[FV]at h
  cases hf:JU s x with
  |none=>rw[hf]at h;cases h
  |some z=>
   rw[hf]at h
   exact xK (λ t b=>hp t (.tail _ b)) (vV (hp s (.head _)) hx hf) h
theorem BE6: ∀(n:Nat) (p:Tf) (v u:Value) (x:Tr) (w:World) (M:Mem),p.size<=n->p.B2->EE p.t=true->B4 p->jH p->CD x->len p.flat<=1048576->Sat w M->(A7 v p.flat).ok M->(kn u 6 x.flat Nd.cells).ok M->
    Calls prog 21 [v,u].toArray w λ e w'=>e= .returned (.tuple #[.bool ((CE p x).getD false),i64 (RB (CE p x))])/\Ext w w':=by
 intro n
 induction n with
 |zero=>intro p _ _ _ _ _ hn;have:=p.size_pos;omega
 |succ n W=>
 intro p v u x w0 M hn hg hc O P hx hl hM X hlx
 have D:=p.size_eq
 have hpz:=G6 p
 have z:(at' p.flat 0).op=p.t.op:=by rw[p.BA];rfl
 have hcc:=x7 hc
 have G:=jC hg Aa (.inl hc)
 have H: ∀x∈p.ps,B4 x:=O.kids
 have A: ∀y∈p.ps,jH y:=λ y hy m hm=>P m (by obtain⟨t,ps⟩:=p;rw[Tf.flat];exact List.mem_cons_of_mem _ (jI hy hm))
 refine AE (Hr:=[]) A8 func21 U ntmps21 [(0,A7 v p.flat),(1,kn u 6 x.flat Nd.cells)] [] [.sl 0 v,.sl 1 u] U (Aj hM) (AA X (AA hlx A3)) (λ B q=>AZ 2 U zeroValue48 U λ b9=>?_) U
 refine A1 U (λ C=>?_) (λ C=>?_)<;>simp only[zb]at C<;>rw[z]at C
 ·have e:p.ps=[]:=by
   have:=(aC hg.plain C).1
   have h2:len p.ps=0:=this
   exact List.eq_nil_of_length_eq_zero (by unfold len at h2;omega)
  have Q:(at' p.flat 0).s=p.t.s:=by rw[p.BA];rfl
  have hn0:(at' p.flat 0).n=p.t.n:=by rw[p.BA];rfl
  have hc0:(at' p.flat 0).c=p.t.c:=by rw[p.BA];rfl
  have hrs:=O.root
  have J:CD (.mk (at' p.flat 0).c []):=P (at' p.flat 0) (at_mem Aa (by have:=p.size_pos;omega)) (by rw[z];exact C)
  rw[BE3 e,<-Q,<-hn0,<-hc0]at q
  have hrl:=VN (at' p.flat 0).s
  have hsl:len (at' p.flat 0).s<=1048576:=by rw[Q];omega
  refine B3 (λ u:Value=>.sl 6 u) [6] U U call63 U (λ w M i=>Av3 (at' p.flat 0).s i.st.sat hsl) λ v6 _=>B3 (λ g:Value=>.tu [.sl 7 g,I (R3 (FV (CQ (at' p.flat 0).s).1 x))]) [7] U U call69 U (λ w M i=>Av8 _ (ZE _) Aa x hx v6 u w M i.st.sat (i.f.get (k:=6) U) (i.f.get (k:=1) U)) λ g7 _=>?_
  cases hf:FV (CQ (at' p.flat 0).s).1 x with
  |none=>
   rw[hf]at q
   refine A1 U (λ j=>?_) (λ j=>?_)<;>simp only[zb]at j
   ·exact A2 q U U U λ w M i=>⟨rfl,i.st.low⟩
   ·exact absurd (show(5:Int)=0 by simpa[R3]using j) Aa
  |some y=>
   rw[hf]at q
   have K:=xK (ZE _) hx hf
   refine A1 U (λ j=>?_) (λ j=>?_)<;>simp only[zb]at j
   ·exact absurd U j
   refine EJ [5,6,7,8,9] 6 (λ _ _ _ _ _ h=>h) U BI Ac ?_
   refine AL 5 U U U ?_
   refine B9 8 [(at' p.flat 0).c] Nd.cells 6 46 Nd.AO U U Ah U λ v8=>?_
   refine AI U ?_
   refine AL 6 U U U ?_
   refine AB U call71 U U (λ _ w M i=>iI _ y (.mk (at' p.flat 0).c []) (Nat.le_refl _) K.w J.w K.r J.r K.l J.l g7 v8 w M i.st.sat (i.f.get (k:=7) U) (i.f.get (k:=8) U)) U ?_
   refine AI U ?_
   refine AL 7 U U U ?_
   refine AB U call70 U U (λ _ w M i=>iF (at' p.flat 0).n (F5 y (.mk (at' p.flat 0).c [])) w) U ?_
   refine AI U ?_
   refine AL 8 U U U ?_
   refine AI U ?_
   refine AL 9 U U U ?_
   refine AI U ?_
   refine BV U U U ?_
   exact A2 q U U U λ w M i=>⟨rfl,i.st.low⟩
 refine B3 (λ g:Value×List AJ=>.sl 3 g.1) [3] U U call56 U (λ w M i=>Ar9 p v w M i.st.sat (i.sl 0 U) hl) λ R S=>?_
 by_cases h19:p.t.op=19
 ·obtain⟨a,e⟩:=hg.one (.inr (.inr (.inr h19)))
  rw[e]at D
  rw[AK,AK]at D
  obtain⟨k1,k2,k3⟩:=G a (by rw[e];simp)
  have E:D3 p=[a.flat]:=by rw[KF];unfold BE;rw[e];show [(a.named []).flat]=_;rw[k3]
  have T:len R.2=1:=by rw[S,e];rfl
  have hza:=G6 a
  rw[BE4 e]at q
  refine AB (u:=.tuple #[.bool ((CE a x).getD false),i64 (RB (CE a x))]) U call21 U U (λ _ w M i=>by
    have j:=EF (i.f.get (k:=3) U) (k:=0) Aa Aa
    rw[E]at j
    exact W a (at' R.2 0).v u x w M Aa k1 k2 (H a (by rw[e];simp)) (A a (by rw[e];simp)) hx Aa i.st.sat j (i.f.get (k:=1) U)) U ?_
  cases hh:CE a x with
  |none=>
   rw[hh]at q
   refine A1 U (λ j=>?_) (λ j=>?_)<;>simp only[zb]at j
   ·exact A2 q U U U λ w M i=>⟨rfl,i.st.low⟩
   ·exact absurd (show(5:Int)=0 by simpa[RB]using j) Aa
  |some h=>
   rw[hh]at q
   refine A1 U (λ j=>?_) (λ j=>?_)<;>simp only[zb]at j
   ·exact absurd U j
   refine A1 U (λ F=>?_) (λ F=>?_)<;>simp only[zb]at F<;>rw[z]at F
   ·exact A2 q U U U λ w M i=>⟨rfl,i.st.low⟩
   ·exact absurd h19 F
 obtain⟨a,b,e⟩:=hg.two (.inr Aa)
 rw[e]at D
 rw[AK,AK,AK]at D
 obtain⟨a1,a2,a3⟩:=G a (by rw[e];simp)
 obtain⟨b1,b2,b3⟩:=G b (by rw[e];simp)
 have E:D3 p=[a.flat,b.flat]:=by rw[KF];unfold BE;rw[e];show [(a.named []).flat,(b.named []).flat]=_;rw[a3,b3]
 have T:len R.2=2:=by rw[S,e];rfl
 have hza:=G6 a
 have hzb:=G6 b
 rw[BE5 e]at q
 refine AB (u:=.tuple #[.bool ((CE a x).getD false),i64 (RB (CE a x))]) U call21 U U (λ _ w M i=>by
    have j:=EF (i.f.get (k:=3) U) (k:=0) Aa Aa
    rw[E]at j
    exact W a (at' R.2 0).v u x w M Aa a1 a2 (H a (by rw[e];simp)) (A a (by rw[e];simp)) hx Aa i.st.sat j (i.f.get (k:=1) U)) U ?_
 cases hh:CE a x with
 |none=>
  rw[hh]at q
  refine A1 U (λ j=>?_) (λ j=>?_)<;>simp only[zb]at j
  ·exact A2 q U U U λ w M i=>⟨rfl,i.st.low⟩
  ·exact absurd (show(5:Int)=0 by simpa[RB]using j) Aa
 |some h=>
  rw[hh]at q
  refine A1 U (λ j=>?_) (λ j=>?_)<;>simp only[zb]at j
  ·exact absurd U j
  refine A1 U (λ F=>?_) (λ F=>?_)<;>simp only[zb]at F<;>rw[z]at F
  ·exact absurd F h19
  refine A1 U (λ V=>?_) (λ V=>?_)<;>rw[z]at V
  ·have L:h=(p.t.op==18):=by simpa using V
   have N:Eng.Ends prog Tryz.f21 (λ e w'=>e= .returned (.tuple #[.bool h,i64 0])/\Ext w0 w') B:=by
    have e2:((some h).bind λ h=>if h=(p.t.op==18)then some h else CE b x)=some h:=if_pos L
    rw[e2]at q;exact q
   exact A2 N U U U λ w M i=>⟨rfl,i.st.low⟩
  ·have L: ¬h=(p.t.op==18):=by simpa using V
   have N:Eng.Ends prog Tryz.f21 (λ e w'=>e= .returned (.tuple #[.bool ((CE b x).getD false),i64 (RB (CE b x))])/\Ext w0 w') B:=by
    have e2:((some h).bind λ h=>if h=(p.t.op==18)then some h else CE b x)=CE b x:=if_neg L
    rw[e2]at q;exact q
   refine AB (u:=.tuple #[.bool ((CE b x).getD false),i64 (RB (CE b x))]) U call21 U U (λ _ w M i=>by
    have j:=EF (i.f.get (k:=3) U) (k:=1) Aa Aa
    rw[E]at j
    exact W b (at' R.2 1).v u x w M Aa b1 b2 (H b (by rw[e];simp)) (A b (by rw[e];simp)) hx Aa i.st.sat j (i.f.get (k:=1) U)) U ?_
   exact A2 N U U U λ w M i=>⟨rfl,i.st.low⟩
end Go.Proofs.YtnoegalemkbbbaaGreatDoor
namespace Go.Eng
theorem BE7(x:Tm)(n:A0):DL { x with name:=n}=DL x:=by
 obtain⟨op,many,name,s,m,c⟩:=x
 unfold DL II C6
 dsimp only
 by_cases h0:op=0
 ·simp only[if_pos h0,Tm.mk.injEq,true_and]
 by_cases h1:op=1
 ·simp only[if_neg h0,if_pos h1,Tm.mk.injEq,true_and]
 by_cases h9:op=9
 ·simp only[if_neg h0,if_neg h1,if_pos h9,Tm.mk.injEq,true_and]
 by_cases h2:op=2
 ·simp only[if_neg h0,if_neg h1,if_neg h9,if_pos h2,Tm.mk.injEq,true_and]
 by_cases h4:op=4
 ·simp only[if_neg h0,if_neg h1,if_neg h9,if_neg h2,if_pos h4,Tm.mk.injEq,true_and]
 by_cases h3:op=3\/op=5\/op=6
 ·simp only[if_neg h0,if_neg h1,if_neg h9,if_neg h2,if_neg h4,if_pos h3,Tm.mk.injEq,true_and]
 by_cases h7:op=7\/op=8
 ·simp only[if_neg h0,if_neg h1,if_neg h9,if_neg h2,if_neg h4,if_neg h3,if_pos h7,Tm.mk.injEq,true_and]
 ·simp only[if_neg h0,if_neg h1,if_neg h9,if_neg h2,if_neg h4,if_neg h3,if_neg h7,Tm.mk.injEq,true_and]
theorem BE8(n:A0)(p:Tf):DV (p.named n)=DV p:=by
 obtain⟨t,ps⟩:=p
 show DV (.mk { t with name:=n} ps)=_
 rw[DV,DV]
 have h1:DL { ({ t with name:=n}:Tm)with many:=len ps}=DL { t with many:=len ps}:=BE7 { t with many:=len ps} n
 have e:HZ { t with name:=n} ps=HZ t ps:=by unfold HZ;split<;>rfl
 exact congr (congrArg and (congr (congrArg and (congr (congrArg and h1) U)) e)) U
theorem aM{p:Tf}: ∀ {l:List Tf},EA l=true->p∈l->DV p=true
 |x::l,h,hp=>by
  rw[EA,Bool.and_eq_true]at h
  rcases List.mem_cons.1 hp with rfl|hp
  ·exact h.1
  ·exact aM h.2 hp
theorem jJ{o:Int}{p:Tf}: ∀ {l:List Tf} {L:Option A0},C7 o L l=true->p∈l->(decide (p.t.op=9)=decide (o=1))
 |x::l,L,h,hp=>by
  rw[C7]at h
  simp only[Bool.and_eq_true]at h
  rcases List.mem_cons.1 hp with rfl|hp
  ·exact eq_of_beq h.1.1.1
  ·exact jJ h.2 hp
theorem I5.HV {t p:Tf}(h:I5 t)(h1:t.t.op≠1)(hp:p∈t.ps):I5 (p.named []):=by
 have i:=h.a
 rw[NR]at i
 simp only[Bool.and_eq_true]at i
 have b: ∀m∈p.flat,m∈t.flat:=λ m hm=>by
  obtain⟨a,ps⟩:=t
  rw[Tf.flat];exact List.mem_cons_of_mem _ (Go.Eng.jI hp hm)
 have n: ∀m∈(p.named []).flat,∃k∈p.flat,m.c=k.c/\m.s=k.s:=λ m hm=>by
  obtain⟨a,ps⟩:=p
  have hm:m∈ { a with name:=[],many:=len ps}::AM ps:=hm
  rcases List.mem_cons.1 hm with rfl|hm
  ·exact⟨_,.head _,rfl,rfl⟩
  ·exact⟨m,List.mem_cons_of_mem _ hm,rfl,rfl⟩
 have w:=MN hp
 have q:=t.size_eq
 have hl:=h.l
 refine⟨?_,by rw[BE8];exact aM i.2 hp,?_,?_,?_⟩
 ·have e:(p.named []).size=p.size:=by cases p;rfl
  unfold len at*
  rw[Tf.BR,e]
  rw[Tf.BR]at hl
  omega
 ·have:=jJ i.1.1.2 hp
  rw[decide_eq_false h1]at this
  have e:(p.named []).t.op=p.t.op:=by cases p;rfl
  rw[e];exact of_decide_eq_false this
 ·intro m hm
  obtain⟨k,j,e,_⟩:=n m hm
  rw[e];exact h.r k (b k j)
 ·intro m hm
  obtain⟨k,j,_,e⟩:=n m hm
  rw[e];exact h.s k (b k j)
theorem jK{n:Nd}(h:DT n=true)(q:len n.s<=200):IM n:=by
 unfold DT at h
 split at h
 ·rename_i w
  rw[decide_eq_true_eq]at h
  have e2:n.e=0:=congrArg Nd.e h
  exact⟨⟨Aa,Aa,Aa⟩,λ e=>by omega⟩
 split at h
 ·obtain⟨h1,i,_,j,k,_⟩:=pF h
  have a: -1000<=n.e:=j
  have b:n.e<=1000:=k
  refine⟨⟨Aa,Aa,Aa⟩,λ e=>?_⟩
  intro c l
  have:=i c l
  unfold CP C1 at this
  simp only[Bool.and_eq_true,decide_eq_true_eq]at this
  omega
 split at h
 ·simp only[Bool.and_eq_true,decide_eq_true_eq]at h
  have e2:n.e=0:=congrArg Nd.e h.2
  exact⟨⟨Aa,Aa,Aa⟩,λ e=>by omega⟩
 split at h
 ·simp only[Bool.and_eq_true,decide_eq_true_eq]at h
  have e2:n.e=0:=congrArg Nd.e h.2
  exact⟨⟨Aa,Aa,Aa⟩,λ e=>by omega⟩
 ·cases h
theorem BE9(y:Tr)(c:Nd)(b:c.kind<5):F5 y (.mk c [])=IL y.node c:=by
 rw[uH]
 unfold IL
 show(if y.node.kind≠c.kind then _ else if y.node.kind=3 then KA y.node c else if y.node.kind=4 then _ else if y.node.kind=5 then _ else if y.node.kind=6 then _ else 0)=_
 by_cases h:y.node.kind≠c.kind
 ·rw[if_pos h,if_pos h];rfl
 ·rw[if_neg h,if_neg h,if_neg (show ¬y.node.kind=5 by omega),if_neg (show ¬y.node.kind=6 by omega)];rfl
end Go.Eng
namespace Go.Proofs.YtnoegalemkbbbaaGreatDoor
open Go.Proofs.Tryz
open Go.Eng
theorem BF0{m:Int}(hm:m<=1048576){f:Vl}(h:OT m f=true): ∃t:Tr,f=t.flat/\t.B2/\t.node.name=[]/\CD t/\(t.size:Int)<=m/\AU4 200 t.flat:=by
 unfold OT at h
 simp only[Bool.and_eq_true,decide_eq_true_eq,List.all_eq_true]at h
 obtain⟨⟨h1,i⟩,j⟩:=h
 have w:=j
 obtain⟨t,rfl,hg,s⟩:=AU3 j
 have y:=FQ t
 refine⟨t,rfl,hg,s,⟨Tr.fU hg,λ n b=>?_,Aa⟩,Aa,λ n b=>i n b⟩
 obtain⟨k,l,rfl⟩:=List.mem_iff_getElem.1 b
 have q:=AU2 _ [t] 0 U ⟨hg,trivial⟩ (DU.one (EN.top t)) (k:Int) Aa (by rw[C3,C3];rw[Tr.BR]at l;omega)
 have e:at' t.flat (k:Int)=t.flat[k]:=by
  unfold at';rw[Int.toNat_natCast,List.getD_eq_getElem?_getD,List.getElem?_eq_getElem l];rfl
 rw[e]at q
 exact jK q.1 (i _ b).1
end Go.Proofs.YtnoegalemkbbbaaGreatDoor
namespace Go.Eng
theorem O0(t:Tf)(x:Tr):BG t x=(
  if t.t.op=0 then true
  else if t.t.op=1 then decide (len x.flat=1)&&MV t.t.n (t.ps.map Tf.node) x.node
  else if t.t.op=2 then decide (x.node.kind=6)&&(HI t.ps x&&(decide (t.t.n=1)||decide (x.node.many=len t.ps)))
  else if t.t.op=3 then decide (x.node.kind=6)&&(AP x.parts).all (λ y=>FU t.ps y)
  else if x.node.kind≠5 then false
  else if t.t.op=4 then NY t.ps (AP x.parts)
  else if t.t.op=6 then J8 (λ y=>FU t.ps y) none (AP x.parts)
  else if t.t.op=8 then HH (λ y=>FU t.ps y) t.t.s none (AP x.parts)
  else if t.t.op=7 then(AP x.parts).all (λ y=>FU t.ps y)&&iU t.t.s (AP x.parts)
  else(AP x.parts).all (λ y=>FU t.ps y)):=by
 obtain⟨t,ps⟩:=t
 rw[BG];rfl
end Go.Eng
namespace Go.Proofs.YtnoegalemkbbbaaGreatDoor
open Go.Proofs.Tryz
open Go.Eng
theorem BF1(t:Tf)(G:I5 t)(h1:t.t.op=1)(hm:0<=t.t.n/\t.t.n<=31)(y:t.flat=t.node::t.ps.map Tf.node)(K:t.node.many=len (t.ps.map Tf.node)):FI t.flat (BG t):=by
 intro x hx u v w M L hu N
 have e:=O0 t x
 rw[if_neg Aa,if_pos h1]at e
 have H:=Tf.D7 t
 have z:=G.l
 have A:len (t.ps.map Tf.node)<=1048576:=by rw[y,AH]at z;omega
 have O:=FQ x
 have P:=x.size_pos
 have i:(at' t.flat 0).op=t.t.op:=by rw[t.BA];rfl
 have j:(at' t.flat 0).n=t.t.n:=by rw[t.BA];rfl
 have q:at' x.flat 0=x.node:=x.BA
 refine AE (Hr:=[]) A8 func18 U ntmps18 [(0,A7 u t.flat),(1,kn v 6 x.flat Nd.cells)] [] [.sl 0 u,.sl 1 v] U (Aj L) (AA hu (AA N A3)) (λ B J=>AZ 5 U zeroValue52 U λ S=>?_) U
 refine A1 U (λ C=>?_) (λ C=>?_)<;>simp only[zb]at C<;>rw[i]at C
 ·omega
 refine A1 U (λ D=>?_) (λ D=>?_)<;>simp only[zb]at D<;>rw[i]at D
 ·refine EJ [7,11,13] 4 (λ _ _ _ _ _ h=>h) U BI Ac <|AL 7 U U U <|F9 (.v (.slice none 0 0)) U U (λ hg=>?_) (λ hg=>?_)
  ·refine B3 (λ u:Value=>.sl 6 u) [6] U U call43 U (hE1:=L7 hg U) (λ w M b=>by
    have h0:=b.f.get (k:=0) U
    rw[y]at h0
    exact Al0 t.node (t.ps.map Tf.node) u w M b.st.sat h0.sl A K h1) λ Q _=>?_
   refine AI U <|AL 11 U U U <|AB (u:=.bool (MV (at' t.flat 0).n (t.ps.map Tf.node) (at' x.flat 0))) U call42 U U (λ _ w M b=>uE (at' t.flat 0).n Q (t.ps.map Tf.node) (at' x.flat 0) w M b.st.sat (b.f.get (k:=6) U) Aa (λ a E=>G.r a (by rw[y];exact List.mem_cons_of_mem _ E)) (by rw[q];exact hx.r.node) (by rw[j];exact hm)) U <|AI U <|AL 13 U U U <|AI U <|BV U U U <|A2 J U U U λ w M b=>⟨?_,b.st.low⟩
   rw[e,<-j,<-q];rfl
  ·refine AI U <|AL 11 U U U <|AB (u:=.bool false) U call42 U U (λ R w M b=>absurd (R.symm.trans hg) Ab) U <|AI U <|AL 13 U U U <|AI U <|BV U U U <|A2 J U U U λ w M b=>⟨?_,b.st.low⟩
   have s:(len x.flat==1)=false:=hg
   have F:decide (len x.flat=1)=false:=by simpa using s
   rw[e,F]
   show Ending.returned (.bool ((len x.flat==1)&&false))=_
   rw[s];rfl
 ·omega
theorem LY{x:Tr}(hx:CD x): ∀y∈AP x.parts,CD y:=λ y b=>by
 obtain⟨u,hu,rfl⟩:=iH b
 exact hx.HV hu
theorem BF2(t:Tf)(J:I5 t)(q:t.t.op=2)(s: ∀p∈t.ps,FI (p.named []).flat (BG p)):FI t.flat (BG t):=by
 intro x hx u v w M L hu N
 have j:=O0 t x
 rw[if_neg Aa,if_neg Aa]at j
 have K:=Tf.D7 t
 have y:=J.l
 have O:=FQ x
 have P:=x.size_pos
 have b:(at' t.flat 0).op=t.t.op:=by rw[t.BA];rfl
 have z:at' x.flat 0=x.node:=x.BA
 have Q:=IX x.parts
 have R:=x.size_eq
 have A:=hx.l
 refine AE (Hr:=[]) A8 func18 U ntmps18 [(0,A7 u t.flat),(1,kn v 6 x.flat Nd.cells)] [] [.sl 0 u,.sl 1 v] U (Aj L) (AA hu (AA N A3)) (λ B S=>AZ 5 U zeroValue52 U λ W=>?_) U
 refine A1 U (λ C=>?_) (λ C=>?_)<;>simp only[zb]at C<;>rw[b]at C
 ·omega
 refine A1 U (λ D=>?_) (λ D=>?_)<;>simp only[zb]at D<;>rw[b]at D
 ·omega
 refine B3 (λ g:Value×List AJ=>.sl 6 g.1) [6] U U call44 U (λ w M i=>I0 x hx.w v w M i.st.sat (i.sl 1 U) A) λ g hg=>?_
 ·rw[if_pos q]at j
  refine B3 (λ g:Value×List AJ=>.v g.1) [] U U call45 U (Fg:=λ _=>[]) (λ w M i=>(OY t Aa u w M i.st.sat (i.sl 0 U) y).mono λ e w' ⟨h,M',he,hp,hg,X⟩=>⟨h,M',he,hp,hg,A3⟩) λ gt T=>?_
  refine A1 U (λ E=>?_) (λ E=>?_)<;>simp only[zb]at E<;>rw[b]at E
  ·refine AB (u:=.bool (HI t.ps x&&(decide (t.t.n=1)||decide (x.node.many=len t.ps)))) U call46 U U (λ _ w M i=>Au9 t J q s x hx u v w M i.st.sat (i.f.get (k:=0) U) (i.f.get (k:=1) U)) U <|F9 (.v (.bool false)) U U (λ hg=>?_) (λ hg=>?_)
   ·have F:((at' t.flat 0).op==3)=false:=by rw[b,q];rfl
    rw[F,Bool.and_false]at hg;cases hg
   ·refine F9 (.v (.bool false)) U U (λ G=>absurd (hg.symm.trans G) Ab) (λ _=>AB (u:=.bool false) U call47 U U (λ V w M i=>absurd (V.symm.trans hg) Ab) U <|A2 S U U U λ w M i=>⟨?_,i.st.low⟩)
    have F:((at' t.flat 0).op==3)=false:=by rw[b,q];rfl
    have H:((at' t.flat 0).op==2)=true:=by rw[b,q];rfl
    rw[j,<-z]
    show Ending.returned (.bool ((at' x.flat 0).kind==6&&((at' t.flat 0).op==2&&(HI t.ps x&&(decide (t.t.n=1)||decide ((at' x.flat 0).many=len t.ps)))||(at' t.flat 0).op==3&&false)))=_
    rw[F,H,Bool.true_and,Bool.false_and,Bool.or_false]
    congr 2
  ·omega
theorem W6{t p:Tf}(e:t.ps=[p])(h:FI (p.named []).flat (BG p)):FI (p.named []).flat (λ y=>FU t.ps y):=by
 have:(λ y=>FU t.ps y)=BG p:=by funext y;rw[e,FU]
 rw[this];exact h
theorem BF3(t p:Tf)(N:I5 t)(q:t.t.op=3)(e:t.ps=[p])(s:FI (p.named []).flat (BG p)):FI t.flat (BG t):=by
 intro x hx u v w M O hu P
 have i:=O0 t x
 rw[if_neg Aa,if_neg Aa,if_neg Aa,if_pos q]at i
 have J:=Tf.D7 t
 have z:=N.l
 have Q:=FQ x
 have R:=x.size_pos
 have h:(at' t.flat 0).op=t.t.op:=by rw[t.BA];rfl
 have A:at' x.flat 0=x.node:=x.BA
 have S:=IX x.parts
 have T:=x.size_eq
 have C:=hx.l
 have V:len (AP x.parts)=len x.parts:=by unfold AP len;rw[List.length_map]
 have W:((at' t.flat 0).op==3)=true:=by rw[h,q];rfl
 have j:((at' t.flat 0).op==2)=false:=by rw[h,q];rfl
 have D:D3 t=[(p.named []).flat]:=by rw[KF];unfold BE;rw[e];rfl
 refine AE (Hr:=[]) A8 func18 U ntmps18 [(0,A7 u t.flat),(1,kn v 6 x.flat Nd.cells)] [] [.sl 0 u,.sl 1 v] U (Aj O) (AA hu (AA P A3)) (λ B X=>AZ 5 U zeroValue52 U λ b5=>?_) U
 refine A1 U (λ E=>?_) (λ E=>?_)<;>simp only[zb]at E<;>rw[h]at E
 ·omega
 refine A1 U (λ F=>?_) (λ F=>?_)<;>simp only[zb]at F<;>rw[h]at F
 ·omega
 refine B3 (λ g:Value×List AJ=>.sl 6 g.1) [6] U U call44 U (λ w M b=>I0 x hx.w v w M b.st.sat (b.sl 1 U) C) λ g hg=>B3 (λ g:Value×List AJ=>.sl 7 g.1) [7] U U call45 U (λ w M b=>OY t Aa u w M b.st.sat (b.sl 0 U) z) λ gt G=>?_
 have hgl:len gt.2=1:=by rw[G,e];rfl
 refine A1 U (λ H=>?_) (λ H=>?_)<;>simp only[zb]at H<;>rw[h]at H
 ·refine AB (u:=.bool false) U call46 U U (λ n w M b=>by
   have n:((at' x.flat 0).kind==6&&(at' t.flat 0).op==2)=true:=n
   rw[j,Bool.and_false]at n;cases n) rfl ?_
  refine AB (u:=.bool ((AP x.parts).all λ y=>FU t.ps y)) U call47 U U (λ n w M b=>by
   have K:=EF (b.f.get (k:=7) U) (k:=0) Aa Aa
   rw[D]at K
   have L:=b.f.get (k:=6) U
   rw[LU]at L
   exact ZP _ _ (W6 e s) (AP x.parts) (LY hx) _ g.1 g.2 w M b.st.sat K L Aa) U ?_
  refine A2 X U U U λ w M b=>⟨?_,b.st.low⟩
  rw[i,<-A]
  show Ending.returned (.bool ((at' x.flat 0).kind==6&&((at' t.flat 0).op==2&&false||(at' t.flat 0).op==3&&((AP x.parts).all λ y=>FU t.ps y))))=_
  rw[W,j,Bool.true_and,Bool.false_and,Bool.false_or]
  congr 2
 ·omega
theorem BF4(t p:Tf)(K:I5 t)(W:t.t.op=5)(e:t.ps=[p])(q:FI (p.named []).flat (BG p)):FI t.flat (BG t):=by
 intro x hx u v w M L hu N
 have j:=O0 t x
 rw[if_neg Aa,if_neg Aa,if_neg Aa,if_neg Aa]at j
 have H:=Tf.D7 t
 have s:=K.l
 have O:=FQ x
 have P:=x.size_pos
 have h:(at' t.flat 0).op=t.t.op:=by rw[t.BA];rfl
 have z:at' x.flat 0=x.node:=x.BA
 have Q:=IX x.parts
 have R:=x.size_eq
 have A:=hx.l
 have S:len (AP x.parts)=len x.parts:=by unfold AP len;rw[List.length_map]
 have C:D3 t=[(p.named []).flat]:=by rw[KF];unfold BE;rw[e];rfl
 refine AE (Hr:=[]) A8 func18 U ntmps18 [(0,A7 u t.flat),(1,kn v 6 x.flat Nd.cells)] [] [.sl 0 u,.sl 1 v] U (Aj L) (AA hu (AA N A3)) (λ B J=>AZ 5 U zeroValue52 U λ X=>?_) U
 refine A1 U (λ D=>?_) (λ D=>?_)<;>simp only[zb]at D<;>rw[h]at D
 ·omega
 refine A1 U (λ E=>?_) (λ E=>?_)<;>simp only[zb]at E<;>rw[h]at E
 ·omega
 refine B3 (λ g:Value×List AJ=>.sl 6 g.1) [6] U U call44 U (λ w M i=>I0 x hx.w v w M i.st.sat (i.sl 1 U) A) λ g hg=>B3 (λ g:Value×List AJ=>.sl 7 g.1) [7] U U call45 U (λ w M i=>OY t Aa u w M i.st.sat (i.sl 0 U) s) λ gt F=>?_
 have T:len gt.2=1:=by rw[F,e];rfl
 refine A1 U (λ G=>?_) (λ G=>?_)<;>simp only[zb]at G<;>rw[h]at G
 ·omega
 refine A1 U (λ n=>?_) (λ n=>?_)<;>simp only[zb]at n<;>rw[z]at n
 ·exact A2 J U U U λ w M i=>⟨by rw[j,if_pos n];rfl,i.st.low⟩
 rw[if_neg (λ V=>V n),if_neg Aa,if_neg Aa,if_neg Aa,if_neg Aa]at j
 refine A1 U (λ b=>?_) (λ b=>?_)<;>simp only[zb]at b<;>rw[h]at b
 ·omega
 refine A1 U (λ b=>?_) (λ b=>?_)<;>simp only[zb]at b<;>rw[h]at b
 ·omega
 refine A1 U (λ b=>?_) (λ b=>?_)<;>simp only[zb]at b<;>rw[h]at b
 ·omega
 refine A1 U (λ b=>?_) (λ b=>?_)<;>simp only[zb]at b<;>rw[h]at b
 ·omega
 refine AB (u:=.bool ((AP x.parts).all λ y=>FU t.ps y)) U call47 U U (λ hW w M i=>by
   have n:=EF (i.f.get (k:=7) U) (k:=0) Aa Aa
   rw[C]at n
   have b:=i.f.get (k:=6) U
   rw[LU]at b
   exact ZP _ _ (W6 e q) (AP x.parts) (LY hx) _ g.1 g.2 w M i.st.sat n b Aa) U ?_
 exact A2 J U U U λ w M i=>⟨by rw[j];rfl,i.st.low⟩
theorem BF5(t p:Tf)(K:I5 t)(L:t.t.op=6)(e:t.ps=[p])(q:FI (p.named []).flat (BG p)):FI t.flat (BG t):=by
 intro x hx u v w M N hu O
 have j:=O0 t x
 rw[if_neg Aa,if_neg Aa,if_neg Aa,if_neg Aa]at j
 have H:=Tf.D7 t
 have s:=K.l
 have P:=FQ x
 have Q:=x.size_pos
 have h:(at' t.flat 0).op=t.t.op:=by rw[t.BA];rfl
 have z:at' x.flat 0=x.node:=x.BA
 have R:=IX x.parts
 have S:=x.size_eq
 have A:=hx.l
 have T:len (AP x.parts)=len x.parts:=by unfold AP len;rw[List.length_map]
 have C:D3 t=[(p.named []).flat]:=by rw[KF];unfold BE;rw[e];rfl
 refine AE (Hr:=[]) A8 func18 U ntmps18 [(0,A7 u t.flat),(1,kn v 6 x.flat Nd.cells)] [] [.sl 0 u,.sl 1 v] U (Aj N) (AA hu (AA O A3)) (λ B J=>AZ 5 U zeroValue52 U λ X=>?_) U
 refine A1 U (λ D=>?_) (λ D=>?_)<;>simp only[zb]at D<;>rw[h]at D
 ·omega
 refine A1 U (λ E=>?_) (λ E=>?_)<;>simp only[zb]at E<;>rw[h]at E
 ·omega
 refine B3 (λ g:Value×List AJ=>.sl 6 g.1) [6] U U call44 U (λ w M b=>I0 x hx.w v w M b.st.sat (b.sl 1 U) A) λ g hg=>B3 (λ g:Value×List AJ=>.sl 7 g.1) [7] U U call45 U (λ w M b=>OY t Aa u w M b.st.sat (b.sl 0 U) s) λ gt F=>?_
 have V:len gt.2=1:=by rw[F,e];rfl
 refine A1 U (λ G=>?_) (λ G=>?_)<;>simp only[zb]at G<;>rw[h]at G
 ·omega
 refine A1 U (λ n=>?_) (λ n=>?_)<;>simp only[zb]at n<;>rw[z]at n
 ·exact A2 J U U U λ w M b=>⟨by rw[j,if_pos n];rfl,b.st.low⟩
 rw[if_neg (λ W=>W n),if_neg Aa,if_pos L]at j
 refine A1 U (λ i=>?_) (λ i=>?_)<;>simp only[zb]at i<;>rw[h]at i
 ·omega
 refine A1 U (λ i=>?_) (λ i=>?_)<;>simp only[zb]at i<;>rw[h]at i
 ·refine AB (u:=.bool (J8 (λ y=>FU t.ps y) none (AP x.parts))) U call48 U U (λ hW w M b=>by
   have n:=EF (b.f.get (k:=7) U) (k:=0) Aa Aa
   rw[C]at n
   have i:=b.f.get (k:=6) U
   rw[LU]at i
   exact Av1 _ _ (W6 e q) (AP x.parts) (LY hx) _ g.1 g.2 w M b.st.sat n i Aa) U ?_
  exact A2 J U U U λ w M b=>⟨by rw[j];rfl,b.st.low⟩
 ·omega
end Go.Proofs.YtnoegalemkbbbaaGreatDoor
