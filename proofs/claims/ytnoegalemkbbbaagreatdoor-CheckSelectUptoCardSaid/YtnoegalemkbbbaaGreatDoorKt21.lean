/- Lemmas for the card. -/
import Derived.Test.YtnoegalemkbbbaaGreatDoorKt20
set_option linter.unusedVariables false
set_option linter.unusedSimpArgs false
set_option maxRecDepth 100000
set_option maxRecDepth 100000
namespace Go.Eng
theorem xL{b:Bool}(e:b=true){E:List Ck}(h:E=[.b true b,.b true b]):A9 E:=by
 subst h;intro c i
 have:c= .b true b:=by simpa using i
 subst this;exact λ _=>e
end Go.Eng
namespace Go.Proofs.YtnoegalemkbbbaaGreatDoor
open Go.Proofs.Tryz
open Go.Eng
theorem BF6(t p:Tf)(ht:I5 t)(h3:t.t.op=7)(e:t.ps=[p])(G:FI (p.named []).flat (BG p))(D:JQ (DA t.t.s).1 p=true):FI t.flat (BG t):=by
 intro x hx u v w M hM hu hv
 have A:=O0 t x
 rw[if_neg Aa,if_neg Aa,if_neg Aa,if_neg Aa]at A
 have E:=Tf.D7 t
 have H:=ht.l
 have hxl:=FQ x
 have hxp:=x.size_pos
 have n:(at' t.flat 0).op=t.t.op:=by rw[t.BA];rfl
 have J:at' x.flat 0=x.node:=x.BA
 have hpl:=IX x.parts
 have hxz:=x.size_eq
 have K:=hx.l
 have hbl:len (AP x.parts)=len x.parts:=by unfold AP len;rw[List.length_map]
 have L:D3 t=[(p.named []).flat]:=by rw[KF];unfold BE;rw[e];rfl
 refine AE (Hr:=[]) A8 func18 U ntmps18 [(0,A7 u t.flat),(1,kn v 6 x.flat Nd.cells)] [] [.sl 0 u,.sl 1 v] U (Aj hM) (AA hu (AA hv A3)) (λ B N=>AZ 5 U zeroValue52 U λ b5=>?_) U
 refine A1 U (λ O=>?_) (λ O=>?_)<;>simp only[zb]at O<;>rw[n]at O
 ·omega
 refine A1 U (λ P=>?_) (λ P=>?_)<;>simp only[zb]at P<;>rw[n]at P
 ·omega
 refine B3 (λ g:Value×List AJ=>.sl 6 g.1) [6] U U call44 U (λ w M j=>I0 x hx.w v w M j.st.sat (j.sl 1 U) K) λ g hg=>B3 (λ g:Value×List AJ=>.sl 7 g.1) [7] U U call45 U (λ w M j=>OY t Aa u w M j.st.sat (j.sl 0 U) H) λ gt Q=>?_
 have hgl:len gt.2=1:=by rw[Q,e];rfl
 refine A1 U (λ R=>?_) (λ R=>?_)<;>simp only[zb]at R<;>rw[n]at R
 ·omega
 refine A1 U (λ C=>?_) (λ C=>?_)<;>simp only[zb]at C<;>rw[J]at C
 ·exact A2 N U U U λ w M j=>⟨by rw[A,if_pos C];rfl,j.st.low⟩
 rw[if_neg (λ hh=>hh C),if_neg Aa,if_neg Aa,if_neg Aa,if_pos h3]at A
 have S:(at' t.flat 0).s=t.t.s:=by rw[t.BA];rfl
 have T:len (at' t.flat 0).s<=1048576:=ht.s _ (at_mem Aa E)
 refine A1 U (λ i=>?_) (λ i=>?_)<;>simp only[zb]at i<;>rw[n]at i
 ·omega
 refine A1 U (λ i=>?_) (λ i=>?_)<;>simp only[zb]at i<;>rw[n]at i
 ·omega
 refine A1 U (λ i=>?_) (λ i=>?_)<;>simp only[zb]at i<;>rw[n]at i
 ·omega
 refine A1 U (λ i=>?_) (λ i=>?_)<;>simp only[zb]at i<;>rw[n]at i
 ·refine AB (u:=.bool ((AP x.parts).all λ y=>FU t.ps y)) U call47 U U (λ V w M j=>by
    have C:=EF (j.f.get (k:=7) U) (k:=0) Aa Aa
    rw[L]at C
    have i:=j.f.get (k:=6) U
    rw[LU]at i
    exact ZP _ _ (W6 e G) (AP x.parts) (LY hx) _ g.1 g.2 w M j.st.sat C i Aa) U ?_
  refine F9 (.v (.slice none 0 0)) U U (λ hg=>?_) (λ hg=>?_)
  ·have hg:((AP x.parts).all λ y=>FU t.ps y)=true:=hg
   have hk: ∀y∈AP x.parts,∃z,I4 t.t.s y=some z:=λ y W=>by
    have:=List.all_eq_true.1 hg y W
    rw[e,FU]at this
    exact vU (t:=t.t) D this
   have X: ∀l:List Tr,(∀y∈l,∃z,I4 t.t.s y=some z)->EB t.t.s l=(l.filterMap (I4 t.t.s)).map Tr.flat/\len (l.filterMap (I4 t.t.s))=len l:=λ l=>by
    induction l with
    |nil=>intro _;exact⟨rfl,rfl⟩
    |cons y l ih=>
     intro h
     obtain⟨z,hz⟩:=h y (.head _)
     obtain⟨a,b⟩:=ih λ w hw=>h w (.tail _ hw)
     unfold EB at a ⊢
     rw[List.map_cons,List.filterMap_cons_some hz,List.map_cons,a,hz,AH,AH,b]
     exact⟨rfl,rfl⟩
   obtain⟨hk1,hk2⟩:=X _ hk
   refine B3 (λ F:Value×List AJ=>.sl 8 F.1) [8] U U call51 U (hE1:=xL hg U) (λ w M j=>by
    have i:=j.f.get (k:=6) U
    rw[LU]at i
    exact uQ (at' t.flat 0).s T (AP x.parts) (LY hx) Aa g.1 g.2 w M j.st.sat i) λ F hgk=>?_
   refine AB (u:=.bool (iU t.t.s (AP x.parts))) U call50 U U (λ V w M j=>by
    have i:=j.f.get (k:=8) U
    rw[S,hk1]at i
    exact Ap7 _ (λ y W=>by
     obtain⟨q,hq,hqy⟩:=List.mem_filterMap.1 W
     exact iJ (LY hx q hq) hqy) F.1 F.2 w M j.st.sat i Aa) U ?_
   exact A2 N U U U λ w M j=>⟨by rw[A];rfl,j.st.low⟩
  ·have hg:((AP x.parts).all λ y=>FU t.ps y)=false:=hg
   refine AB (u:=.bool false) U call50 U U (λ V w M j=>absurd (V.symm.trans hg) Ab) U <|A2 N U U U λ w M j=>⟨?_,j.st.low⟩
   rw[A,hg];rfl
 ·omega
theorem BF7(t:Tf)(W:I5 t)(X:t.t.op=4)(D: ∀p∈t.ps,FI (p.named []).flat (BG p)):FI t.flat (BG t):=by
 intro x hx u v w M hM hu hv
 have j:=O0 t x
 rw[if_neg Aa,if_neg Aa,if_neg Aa,if_neg Aa]at j
 have T:=Tf.D7 t
 have E:=W.l
 have hxl:=FQ x
 have hxp:=x.size_pos
 have n:(at' t.flat 0).op=t.t.op:=by rw[t.BA];rfl
 have F:at' x.flat 0=x.node:=x.BA
 have hpl:=IX x.parts
 have hxz:=x.size_eq
 have G:=hx.l
 have H:len (AP x.parts)=len x.parts:=by unfold AP len;rw[List.length_map]
 have htp:=MM t.ps
 have htz:=G6 t
 have hts:=t.size_eq
 have hp0:=A6 t.ps
 have hl0:=A6 x.parts
 refine AE (Hr:=[]) A8 func18 U ntmps18 [(0,A7 u t.flat),(1,kn v 6 x.flat Nd.cells)] [] [.sl 0 u,.sl 1 v] U (Aj hM) (AA hu (AA hv A3)) (λ B J=>AZ 5 U zeroValue52 U λ b5=>?_) U
 refine A1 U (λ K=>?_) (λ K=>?_)<;>simp only[zb]at K<;>rw[n]at K
 ·omega
 refine A1 U (λ L=>?_) (λ L=>?_)<;>simp only[zb]at L<;>rw[n]at L
 ·omega
 refine B3 (λ g:Value×List AJ=>.sl 6 g.1) [6] U U call44 U (λ w M i=>I0 x hx.w v w M i.st.sat (i.sl 1 U) G) λ g hg=>B3 (λ g:Value×List AJ=>.sl 7 g.1) [7] U U call45 U (λ w M i=>OY t Aa u w M i.st.sat (i.sl 0 U) E) λ gt N=>?_
 have O:len gt.2=len t.ps:=N
 have P:len g.2=len x.parts:=hg
 refine A1 U (λ Q=>?_) (λ Q=>?_)<;>simp only[zb]at Q<;>rw[n]at Q
 ·omega
 refine A1 U (λ z=>?_) (λ z=>?_)<;>simp only[zb]at z<;>rw[F]at z
 ·exact A2 J U U U λ w M i=>⟨by rw[j,if_pos z];rfl,i.st.low⟩
 rw[if_neg (λ R=>R z),if_pos X]at j
 refine A1 U (λ A=>?_) (λ A=>?_)<;>simp only[zb]at A<;>rw[n]at A
 ·refine AT (σ:=Int) (λ k=>⟨[(6,CN g.1 g.2 (JO x)),(7,CS gt.1 gt.2 (D3 t))],[],[Z 6 (.sl 6 g.1),Z 7 (.sl 7 gt.1),Z 8 (I k)]⟩) (λ k=>0<=k/\k<=len t.ps/\k<=len x.parts/\NY (t.ps.drop k.toNat) ((AP x.parts).drop k.toNat)=NY t.ps (AP x.parts)) (λ k=>(len t.ps-k).toNat) 0 U U ⟨Aa,Aa,Aa,rfl⟩ ?_
  rintro k ⟨e,S,hk2,C⟩
  refine A1 U (λ V=>?_) (λ V=>?_)<;>simp only[zb]at V
  ·rw[IN e Aa,IN (l:=AP x.parts) e Aa,NY]at C
   refine DQ U BI Ac ?_
   refine EZ U call18 U U (λ _ w M i=>by
    have z:=EF (i.f.get (k:=7) U) (k:=k) Aa Aa
    have A:=I1 (i.f.get (k:=6) U) (k:=k) Aa Aa
    rw[D3,J6 e Aa]at z
    rw[LU,J6 e Aa]at A
    exact D (at' t.ps k) (at_mem e Aa) (at' (AP x.parts) k) (LY hx _ (at_mem e Aa)) _ _ w M i.st.sat z A) U ?_
   refine DR U ?_
   refine A1 U (λ s=>?_) (λ s=>?_)<;>simp only[zb]at s
   ·exact A2 J U U U λ w M i=>⟨by rw[j,<-C,s];rfl,i.st.low⟩
   ·rw[s,Bool.true_and]at C
    exact AR (k+1) U U ⟨Aa,Aa,Aa,C⟩ Ag
  ·refine A2 J U U U λ w M i=>⟨?_,i.st.low⟩
   rw[j,<-C]
   have hd: ∀(a:List Tf) (b:List Tr),a=[]\/b=[]->NY a b=decide (len b=len a):=λ a b h=>by
    cases a with
    |nil=>rw[NY];cases b with
     |nil=>rfl
     |cons y b=>rw[AH,len_nil];have:=A6 b;rw[decide_eq_false Aa];rfl
    |cons q a=>
     obtain rfl:b=[]:=by simpa using h
     rw[NY,AH,len_nil];have:=A6 a;rw[decide_eq_false Aa]
   rw[hd _ _ (by by_cases R:len t.ps<=k;exact .inl (KB R);exact .inr (KB Aa)),T6 e S,T6 e Aa]
   show Ending.returned (.bool (len g.2==len gt.2))=_
   rw[O,P,H,show decide (len x.parts-k=len t.ps-k)=decide (len x.parts=len t.ps) by rw[decide_eq_decide];omega]
   rfl
 ·omega
theorem BF8(t:Tf)(j:I5 t)(h0:t.t.op=0):FI t.flat (BG t):=by
 intro x hx u v w M k hu n
 have b:=O0 t x
 rw[if_pos h0]at b
 have i:=Tf.D7 t
 have q:=j.l
 have h:(at' t.flat 0).op=t.t.op:=by rw[t.BA];rfl
 refine AE (Hr:=[]) A8 func18 U ntmps18 [(0,A7 u t.flat),(1,kn v 6 x.flat Nd.cells)] [] [.sl 0 u,.sl 1 v] U (Aj k) (AA hu (AA n A3)) (λ B s=>AZ 5 U zeroValue52 U λ z=>?_) U
 refine A1 U (λ e=>?_) (λ e=>?_)<;>simp only[zb]at e<;>rw[h]at e
 ·exact A2 s U U U λ w M y=>⟨by rw[b];rfl,y.st.low⟩
 ·exact absurd h0 e
end Go.Proofs.YtnoegalemkbbbaaGreatDoor
namespace Go.Eng
theorem BF9{s:A0}{l:List Tr}{k:Int}(h0:0<=k)(h1:k<len l):at' (EB s l) k=P0 (I4 s (at' l k)):=by unfold EB;rw[J6 h0 h1]
theorem BG0(s:A0)(l:List Tr):len (EB s l)=len l:=by unfold EB len;rw[List.length_map]
def jL(s:A0)(q y:Tr):Bool:=match I4 s q,I4 s y with
 |some a,some b=>decide (F5 a b<0)
 |_,_=>false
def W7(s:A0)(y:Tr):Option Tr->Bool
 |none=>true
 |some q=>jL s q y
def W8(s:A0)(l:List Tr):Bool:=(EB s l).all λ k=>decide (k=at' (EB s l) 0)
theorem BG1(F:Tr->Bool)(s:A0)(P:Option Tr)(y:Tr)(l:List Tr):HH F s P (y::l)=(decide (y.node.kind=5)&&(!decide (y.node.many=0)&&((AP y.parts).all F&&(W8 s (AP y.parts)&&(W7 s (at' (AP y.parts) 0) P&&HH F s (some (at' (AP y.parts) 0)) l))))):=by
 rw[HH.eq_def];cases P<;>rfl
end Go.Eng
namespace Go.Proofs.YtnoegalemkbbbaaGreatDoor
open Go.Proofs.Tryz
open Go.Eng
theorem BG2(tf:Fl)(F:Tr->Bool)(hin:FI tf F)(s:A0)(hs:len s<=1048576)(R: ∀z,F z=true-> ∃k,I4 s z=some k)(l:List Tr)(hx: ∀x∈l,CD x)(u v:Value)(D:List AJ)(w:World)(M:Mem)(hM:Sat w M)(hu:(A7 u tf).ok M)(hv:(CN v D (l.map Tr.flat)).ok M)(hl:len l<=1048576):
    Calls prog 49 [u,str s,v].toArray w λ e w'=>e= .returned (.bool (HH F s none l))/\Ext w w':=by
 have hl0:=A6 l
 have hsl:len D=len l:=by have:=CB.len (f:=Nd.cells) hv.more;unfold len;rw[List.length_map]at this;omega
 refine AE (Hr:=[]) A8 func49 U ntmps49 [(0,A7 u tf),(1,CN v D (l.map Tr.flat))] [] [.sl 0 u,.v (str s),.sl 1 v] U (Aj hM) (AA hu (AA hv A3)) (λ B hB=>AT (σ:=Int) (λ k=>⟨[(0,A7 u tf),(1,CN v D (l.map Tr.flat))],[],[Z 0 (.sl 0 u),Z 1 (.v (str s)),Z 2 (.sl 1 v),Z 7 (I k)]⟩) (λ k=>0<=k/\k<=len l/\ ∃P:Option Tr,HH F s P (l.drop k.toNat)=HH F s none l/\(k=0->P=none)/\(0<k->0<len (at' l (k-1)).parts/\F (at' (AP (at' l (k-1)).parts) 0)=true/\P=some (at' (AP (at' l (k-1)).parts) 0))) (λ k=>(len l-k).toNat) 0 U U ⟨Aa,Aa,none,rfl,λ _=>rfl,λ h=>absurd h Aa⟩ ?_) U
 rintro k ⟨J,hk1,P,n,hP0,hP1⟩
 refine A1 U (λ h1=>?_) (λ h1=>?_)<;>simp only[zb]at h1
 ·have h1:k<len l:=by omega
  obtain⟨y,K⟩: ∃y,y=at' l k:=⟨_,rfl⟩
  have hym:y∈l:=by rw[K];exact at_mem J h1
  have E:=hx y hym
  have hyk:at' (l.map Tr.flat) k=y.flat:=by rw[J6 J h1,K]
  rw[IN J h1,<-K,BG1]at n
  have hy0:at' y.flat 0=y.node:=y.BA
  have hyp:0<len y.flat:=by have:=FQ y;have:=y.size_pos;omega
  have hym2:=Tr.fT E.w
  have hypl:=IX y.parts
  have hyz:=y.size_eq
  have hyf:=FQ y
  have hyl:=E.l
  have hbl:len (AP y.parts)=len y.parts:=by unfold AP len;rw[List.length_map]
  have W:=LY E
  have hpn:=A6 y.parts
  have G: ∀ {M:Mem},(CN v D (l.map Tr.flat)).ok M->(kn (at' D k).v 6 y.flat Nd.cells).ok M:=λ h=>by
   have:=I1 h J Aa
   rw[hyk]at this
   exact this
  refine C5 U Ad Aa <|ES 7 (kn (at' D k).v 6 y.flat Nd.cells) (λ w M i=>G (i.f.get (k:=1) U)) (ME 19 7 U ?_)
  refine C5 U Ad Aa (ME 28 7 U ?_)
  refine F9 (.v (.slice none 0 0)) U U (λ hg=>?_) (λ hg=>?_)
  ·have L:y.node.kind=5/\y.node.many≠0:=by
    rw[<-hy0];simpa using hg
   refine B3 (λ g:Value×List AJ=>.sl 8 g.1) [8] U U call44 U (hE1:=L7 hg U) (λ w M i=>I0 y E.w (at' D k).v w M i.st.sat (G (i.f.get (k:=1) U)).sl hyl) λ g hgl=>?_
   refine AB (u:=.bool ((AP y.parts).all F)) U call47 U U (λ hW w M i=>by
    have X:=i.f.get (k:=8) U
    rw[LU]at X
    exact ZP tf F hin (AP y.parts) W u g.1 g.2 w M i.st.sat (i.f.get (k:=0) U) X Aa) U ?_
   rw[decide_eq_true L.1,decide_eq_false L.2]at n
   refine A1 U (λ A=>?_) (λ A=>?_)
   ·have h3:(AP y.parts).all F=false:=by
     have A:((((at' y.flat 0).kind != 5||(at' y.flat 0).many==0))|| !((AP y.parts).all F))=true:=A
     rw[show((at' y.flat 0).kind != 5||(at' y.flat 0).many==0)=false by simpa using hg]at A
     simpa using A
    rw[h3]at n
    exact A2 hB U U U λ w M i=>⟨by rw[<-n];rfl,i.st.low⟩
   have S:(AP y.parts).all F=true:=by
    have A:((((at' y.flat 0).kind != 5||(at' y.flat 0).many==0))|| !((AP y.parts).all F))=false:=A
    rw[Bool.or_eq_false_iff]at A
    simpa using A.2
   rw[S]at n
   have H:at' (AP y.parts) 0∈AP y.parts:=at_mem (Int.le_refl _) Aa
   have hF0:F (at' (AP y.parts) 0)=true:=List.all_eq_true.1 S _ H
   refine B3 (λ g:Value×List AJ=>.sl 9 g.1) [9] U U call44 U (λ w M i=>I0 y E.w (at' D k).v w M i.st.sat (G (i.f.get (k:=1) U)).sl hyl) λ g9 hgl9=>?_
   refine B3 (λ N:Value×List AJ=>.sl 10 N.1) [10] U U call51 U (λ w M i=>by
    have X:=i.f.get (k:=9) U
    rw[LU]at X
    exact uQ s hs (AP y.parts) W Aa g9.1 g9.2 w M i.st.sat X) λ N hgk=>?_
   have hgk:len N.2=len (AP y.parts):=hgk
   have hkl:=BG0 s (AP y.parts)
   refine AT (σ:=Int) (λ j=>⟨[(0,A7 u tf),(1,CN v D (l.map Tr.flat)),(10,CN N.1 N.2 (EB s (AP y.parts)))],[],[Z 0 (.sl 0 u),Z 1 (.v (str s)),Z 2 (.sl 1 v),Z 7 (I k),Z 8 (.sl 10 N.1),Z 9 (I j)]⟩) (λ j=>0<=j/\j<=len N.2/\((EB s (AP y.parts)).drop j.toNat).all (λ q=>decide (q=at' (EB s (AP y.parts)) 0))=W8 s (AP y.parts)) (λ j=>(len N.2-j).toNat) 0 U U ⟨Aa,Aa,rfl⟩ ?_
   rintro j ⟨hj0,hj1,C⟩
   refine A1 U (λ h4=>?_) (λ h4=>?_)<;>simp only[zb]at h4
   ·rw[IN hj0 Aa,List.all_cons]at C
    refine DQ U BI Ac ?_
    refine EZ U call30 U U (λ _ w M i=>by
     have h7:=I1 (i.f.get (k:=10) U) (k:=j) Aa Aa
     have X:=I1 (i.f.get (k:=10) U) (k:=0) Aa Aa
     exact Av2 _ _ _ _ w M i.st.sat h7 X) U ?_
    refine DR U <|A1 U (λ h5=>?_) (λ h5=>?_)
    ·have h5:(!decide (at' (EB s (AP y.parts)) j=at' (EB s (AP y.parts)) 0))=true:=h5
     have O:decide (at' (EB s (AP y.parts)) j=at' (EB s (AP y.parts)) 0)=false:=by simpa using h5
     rw[O,Bool.false_and]at C
     rw[<-C]at n
     exact A2 hB U U U λ w M i=>⟨by rw[<-n];rfl,i.st.low⟩
    ·have h5:(!decide (at' (EB s (AP y.parts)) j=at' (EB s (AP y.parts)) 0))=false:=h5
     have O:decide (at' (EB s (AP y.parts)) j=at' (EB s (AP y.parts)) 0)=true:=by simpa using h5
     rw[O,Bool.true_and]at C
     exact AR (j+1) U U ⟨Aa,Aa,C⟩ Ag
   rw[KB Aa]at C
   have hsg:W8 s (AP y.parts)=true:=by rw[<-C];rfl
   rw[hsg]at n
   have n:(W7 s (at' (AP y.parts) 0) P&&HH F s (some (at' (AP y.parts) 0)) (l.drop (k+1).toNat))=HH F s none l:=n
   refine EJ [9,12,16] 4 (λ _ _ _ _ _ h=>h) U BI Ac <|AL 9 U U U <|F9 (.sl 10 N.1) U U (λ T=>?_) (λ T=>?_)
   ·have hkp:0<k:=by simpa using T
    obtain⟨z,hz⟩: ∃z,z=at' l (k-1):=⟨_,rfl⟩
    obtain⟨hz1,hz2,hz3⟩:=hP1 hkp
    rw[<-hz]at hz1 hz2 hz3
    have Q:CD z:=by rw[hz];exact hx _ (at_mem Aa Aa)
    have hbzl:len (AP z.parts)=len z.parts:=by unfold AP len;rw[List.length_map]
    have hrow': ∀ {M:Mem},(CN v D (l.map Tr.flat)).ok M->(kn (at' D (k-1)).v 6 z.flat Nd.cells).ok M:=λ h=>by
     have:=I1 h (k:=k-1) Aa Aa
     rw[J6 Aa Aa,<-hz]at this
     exact this
    obtain⟨ka,hka⟩:=R _ hz2
    obtain⟨kb,hkb⟩:=R _ hF0
    refine B3 (λ g:Value×List AJ=>.sl 11 g.1) [11] U U call44 U (hE1:=L7 T U) (λ w M i=>I0 z Q.w (at' D (k-1)).v w M i.st.sat (hrow' (i.f.get (k:=1) U)).sl Q.l) λ g11 V=>?_
    have V:len g11.2=len z.parts:=V
    refine AI U <|AL 12 U U U <|F9 (.v (.slice none 0 0)) U U (λ hk2=>?_) (λ hk2=>absurd (T.symm.trans hk2) Ab)
    refine B3 (λ h:AJ=>.sl 12 h.v) [12] U U call105 U (hE1:=xL T U) (λ w M i=>by
     have h11:=I1 (i.f.get (k:=11) U) (k:=0) Aa Aa
     rw[LU,J6 Aa Aa]at h11
     exact uP s hs (at' (AP z.parts) 0) (LY Q _ (at_mem Aa Aa)) _ w M i.st.sat h11) λ h12 _=>?_
    refine AI U <|AL 16 U U U ?_
    refine AB (u:=i64 (F5 ka kb)) U call71 U U (λ _ w M i=>by
     have h10:=I1 (i.f.get (k:=10) U) (k:=0) Aa Aa
     have h12:=i.f.get (k:=12) U
     rw[BF9 Aa Aa,hkb]at h10
     rw[hka]at h12
     have a:=iJ (LY Q _ (at_mem (l:=AP z.parts) (k:=0) Aa Aa)) hka
     have b:=iJ (W _ H) hkb
     exact iI _ _ _ (Nat.le_refl _) a.w b.w a.r b.r a.l b.l _ _ w M i.st.sat h12 h10) U ?_
    refine AI U <|BV U U U ?_
    have hup:W7 s (at' (AP y.parts) 0) P=decide (F5 ka kb<0):=by
     rw[hz3]
     show jL s _ _=_
     unfold jL;rw[hka,hkb]
    rw[hup]at n
    refine A1 U (λ O=>?_) (λ O=>?_)<;>simp only[zb]at O
    ·rw[decide_eq_false Aa]at n
     exact A2 hB U U U λ w M i=>⟨by rw[<-n];rfl,i.st.low⟩
    ·rw[decide_eq_true Aa,Bool.true_and]at n
     exact AR (k+1) U U ⟨Aa,Aa,_,n,λ h=>by omega,λ _=>⟨by rw[show k+1-1=k by omega,<-K];omega,by rw[show k+1-1=k by omega,<-K];exact hF0,by rw[show k+1-1=k by omega,<-K]⟩⟩ Ag
   ·have hkp:k=0:=by
                           have: ¬0<k:=by simpa using T
                           omega
    refine AI U <|AL 12 U U U <|F9 (.v (.slice none 0 0)) U U (λ h=>absurd (h.symm.trans T) Ab) (λ _=>AI U <|AL 16 U U U <|AB (u:=i64 0) U call71 U U (λ hW w M i=>absurd (hW.symm.trans T) Ab) U <|AI U <|BV U U U ?_)
    rw[hP0 hkp]at n
    have n:(true&&HH F s (some (at' (AP y.parts) 0)) (l.drop (k+1).toNat))=HH F s none l:=n
    rw[Bool.true_and]at n
    refine A1 U (λ O=>?_) (λ O=>?_)<;>simp only[zb]at O
    ·omega
    ·exact AR (k+1) U U ⟨Aa,Aa,_,n,λ h=>by omega,λ _=>⟨by rw[show k+1-1=k by omega,<-K];omega,by rw[show k+1-1=k by omega,<-K];exact hF0,by rw[show k+1-1=k by omega,<-K]⟩⟩ Ag
  ·have L: ¬(y.node.kind=5/\y.node.many≠0):=by
    rw[<-hy0];simpa using hg
   refine AB (u:=.bool false) U call47 U U (λ hW w M i=>absurd (hW.symm.trans hg) Ab) U ?_
   have e:(decide (y.node.kind=5)&&(!decide (y.node.many=0)&&((AP y.parts).all F&&(W8 s (AP y.parts)&&(W7 s (at' (AP y.parts) 0) P&&HH F s (some (at' (AP y.parts) 0)) (l.drop (k+1).toNat))))))=false:=by
    by_cases q5:y.node.kind=5
    · have q6:y.node.many=0:=Classical.byContradiction λ q=>L ⟨q5,q⟩
      rw[decide_eq_true q6];simp
    · rw[decide_eq_false q5];rfl
   have n:(decide (y.node.kind=5)&&(!decide (y.node.many=0)&&((AP y.parts).all F&&(W8 s (AP y.parts)&&(W7 s (at' (AP y.parts) 0) P&&HH F s (some (at' (AP y.parts) 0)) (l.drop (k+1).toNat))))))=HH F s none l:=n
   rw[e]at n
   refine A1 U (λ A=>?_) (λ A=>?_)
   ·exact A2 hB U U U λ w M i=>⟨by rw[<-n];rfl,i.st.low⟩
   ·have A:(((at' y.flat 0).kind != 5||(at' y.flat 0).many==0)||true)=false:=A
    rw[Bool.or_true]at A;cases A
 ·refine A2 hB U U U λ w M i=>⟨?_,i.st.low⟩
  rw[<-n,KB Aa,HH];rfl
theorem BG3(t p:Tf)(P:I5 t)(S:t.t.op=8)(e:t.ps=[p])(D:FI (p.named []).flat (BG p))(q:JQ (DA t.t.s).1 p=true):FI t.flat (BG t):=by
 intro x hx u v w M T hu V
 have j:=O0 t x
 rw[if_neg Aa,if_neg Aa,if_neg Aa,if_neg Aa]at j
 have A:=Tf.D7 t
 have E:=P.l
 have W:=FQ x
 have X:=x.size_pos
 have h:(at' t.flat 0).op=t.t.op:=by rw[t.BA];rfl
 have F:at' x.flat 0=x.node:=x.BA
 have hpl:=IX x.parts
 have hxz:=x.size_eq
 have G:=hx.l
 have hbl:len (AP x.parts)=len x.parts:=by unfold AP len;rw[List.length_map]
 have H:D3 t=[(p.named []).flat]:=by rw[KF];unfold BE;rw[e];rfl
 have C:(at' t.flat 0).s=t.t.s:=by rw[t.BA];rfl
 have J:len (at' t.flat 0).s<=1048576:=P.s _ (at_mem Aa A)
 refine AE (Hr:=[]) A8 func18 U ntmps18 [(0,A7 u t.flat),(1,kn v 6 x.flat Nd.cells)] [] [.sl 0 u,.sl 1 v] U (Aj T) (AA hu (AA V A3)) (λ B Q=>AZ 5 U zeroValue52 U λ b5=>?_) U
 refine A1 U (λ K=>?_) (λ K=>?_)<;>simp only[zb]at K<;>rw[h]at K
 ·omega
 refine A1 U (λ L=>?_) (λ L=>?_)<;>simp only[zb]at L<;>rw[h]at L
 ·omega
 refine B3 (λ g:Value×List AJ=>.sl 6 g.1) [6] U U call44 U (λ w M i=>I0 x hx.w v w M i.st.sat (i.sl 1 U) G) λ g hg=>B3 (λ g:Value×List AJ=>.sl 7 g.1) [7] U U call45 U (λ w M i=>OY t Aa u w M i.st.sat (i.sl 0 U) E) λ gt N=>?_
 have hgl:len gt.2=1:=by rw[N,e];rfl
 refine A1 U (λ O=>?_) (λ O=>?_)<;>simp only[zb]at O<;>rw[h]at O
 ·omega
 refine A1 U (λ n=>?_) (λ n=>?_)<;>simp only[zb]at n<;>rw[F]at n
 ·exact A2 Q U U U λ w M i=>⟨by rw[j,if_pos n];rfl,i.st.low⟩
 rw[if_neg (λ hh=>hh n),if_neg Aa,if_neg Aa,if_pos S]at j
 refine A1 U (λ b=>?_) (λ b=>?_)<;>simp only[zb]at b<;>rw[h]at b
 ·omega
 refine A1 U (λ b=>?_) (λ b=>?_)<;>simp only[zb]at b<;>rw[h]at b
 ·omega
 refine A1 U (λ b=>?_) (λ b=>?_)<;>simp only[zb]at b<;>rw[h]at b
 ·refine DQ U BI Ac ?_
  refine EZ (u:=.bool (HH (λ y=>FU t.ps y) t.t.s none (AP x.parts))) U call49 U U (λ hW w M i=>by
   have n:=EF (i.f.get (k:=7) U) (k:=0) Aa Aa
   rw[H]at n
   have b:=i.f.get (k:=6) U
   rw[LU]at b
   have hq:=BG2 _ _ (W6 e D) (at' t.flat 0).s J (λ z R=>by rw[C];rw[e,FU]at R;exact vU (t:=t.t) q R) (AP x.parts) (LY hx) _ g.1 g.2 w M i.st.sat n b Aa
   rw[<-C];exact hq) U ?_
  exact DR U <|A2 Q U U U λ w M i=>⟨by rw[j];rfl,i.st.low⟩
 ·omega
end Go.Proofs.YtnoegalemkbbbaaGreatDoor
namespace Go.Eng
structure BG4 (t:Tm):Prop where
 op:t.op=0\/t.op=1\/t.op=2\/t.op=3\/t.op=4\/t.op=5\/t.op=6\/t.op=7\/t.op=8\/t.op=9
 one:(t.op=3\/t.op=5\/t.op=6\/t.op=7\/t.op=8)->t.many=1
 mask:t.op=1->1<=t.n/\t.n<=31
 atom:t.op=9->t.many=0/\DT t.c=true
 bare:t.op≠9->t.c=B6
theorem jM{t:Tm}(h:DL t=true):BG4 t:=by
 unfold DL II at h
 by_cases h0:t.op=0
 ·rw[if_pos h0]at h
  simp only[Bool.and_eq_true,decide_eq_true_eq]at h
  exact⟨Aa,λ _=>by omega,λ _=>by omega,λ _=>by omega,λ _=>by rw[h.1];rfl⟩
 rw[if_neg h0]at h
 by_cases h1:t.op=1
 ·rw[if_pos h1]at h
  simp only[Bool.and_eq_true,decide_eq_true_eq]at h
  exact⟨Aa,λ _=>by omega,λ _=>⟨h.2.1.2,h.2.2⟩,λ _=>by omega,λ _=>by rw[h.1];rfl⟩
 rw[if_neg h1]at h
 by_cases h9:t.op=9
 ·rw[if_pos h9]at h
  unfold OW at h
  simp only[Bool.and_eq_true,decide_eq_true_eq,beq_iff_eq]at h
  exact⟨Aa,λ _=>by omega,λ _=>by omega,λ _=>⟨h.2.1,h.2.2.2.2.2⟩,λ b=>absurd h9 b⟩
 rw[if_neg h9]at h
 by_cases h2:t.op=2
 ·rw[if_pos h2]at h
  simp only[Bool.and_eq_true,decide_eq_true_eq]at h
  exact⟨Aa,λ _=>by omega,λ _=>by omega,λ _=>by omega,λ _=>by rw[h.1];rfl⟩
 rw[if_neg h2]at h
 by_cases h4:t.op=4
 ·rw[if_pos h4]at h
  simp only[Bool.and_eq_true,decide_eq_true_eq]at h
  exact⟨Aa,λ _=>by omega,λ _=>by omega,λ _=>by omega,λ _=>by rw[h.1];rfl⟩
 rw[if_neg h4]at h
 by_cases h3:t.op=3\/t.op=5\/t.op=6
 ·rw[if_pos h3]at h
  simp only[Bool.and_eq_true,decide_eq_true_eq,beq_iff_eq]at h
  exact⟨Aa,λ _=>h.2,λ _=>by omega,λ _=>by omega,λ _=>by rw[h.1];rfl⟩
 rw[if_neg h3]at h
 by_cases h7:t.op=7\/t.op=8
 ·rw[if_pos h7]at h
  simp only[Bool.and_eq_true,decide_eq_true_eq,beq_iff_eq]at h
  exact⟨Aa,λ _=>h.2.1,λ _=>by omega,λ _=>by omega,λ _=>by rw[h.1];rfl⟩
 rw[if_neg h7,Bool.and_false]at h
 cases h
theorem xM: ∀(n:Nat) (t:Tf),t.size<=n->DV t=true-> ∀m∈t.flat,DL m=true
 |0,t,h,_=>by have:=t.size_pos;omega
 |n+1,t,h,b=>λ m hm=>by
  rw[NR]at b
  simp only[Bool.and_eq_true]at b
  rw[Tf.JL]at hm
  rcases List.mem_cons.1 hm with rfl|hm
  ·exact b.1.1.1
  ·obtain⟨y,i,e⟩:=vC.1 hm
   have:=MN i
   have:=t.size_eq
   exact xM n y Aa (aM b.2 i) m e
theorem BG5:IM B6:=⟨⟨Ab,Ab,Ab⟩,λ e=>by cases e⟩
theorem xN{t:Tf}(b:DV t=true)(ho:t.t.op≠9)(e:B4 t)(hl:t.size<=1048576):I5 t:=by
 have h:len t.flat=t.size:=by unfold len;rw[Tf.BR]
 refine⟨Aa,b,ho,λ m hm=>?_,λ m hm=>by have:=(e m hm).2.1;omega⟩
 have ho:=jM (xM t.size t (Nat.le_refl _) b m hm)
 by_cases h9:m.op=9
 ·exact jK (ho.atom h9).2 (by have:=(e m hm).2.2;omega)
 ·rw[ho.bare h9];exact BG5
theorem xO{F:Tf->Int×Bool}{n:A0}: ∀ {l:List Tf} {o:Int},(FP l o n F).2=true-> ∃a y b,l=a++y::b/\y.t.name=n/\(F y).2=true/\ ∀g,J9 n g l=a++g y::b
 |[],o,h=>by cases h
 |x::l,o,h=>by
  unfold FP at h
  split at h
  ·rename_i e
   split at h
   ·rename_i i
    exact⟨[],x,l,rfl,e,i,λ g=>by rw[J9,if_pos e];rfl⟩
   ·cases h
  ·rename_i e
   obtain⟨a,y,b,rfl,j,k,q⟩:=xO h
   exact⟨x::a,y,b,rfl,j,k,λ g=>by rw[J9,if_neg e,q];rfl⟩
theorem aN{s:Sp}{p:List Sp}{t:Tf}(h:(BF (s::p) t).2=true):
  t.t.op=2/\ ¬s.part=true/\ ∃a y b,t.ps=a++y::b/\y.t.name=s.name/\(BF p y).2=true/\ ∀c,CV c (s::p) t= .mk t.t (a++CV c p y::b):=by
 unfold BF at h
 split at h
 ·cases h
 ·rename_i i
  obtain⟨a,y,b,e,j,k,l⟩:=xO h
  refine⟨Classical.byContradiction λ e=>i (.inl e),λ e=>i (.inr e),a,y,b,e,j,k,λ c=>?_⟩
  obtain⟨t,ps⟩:=t
  rw[CV]
  exact congrArg _ (l _)
theorem jN(c:Tf)(p:List Sp)(t:Tf):(CV c p t).t=t.t:=by cases p<;>rfl
theorem xP{t:Tf}(h:(BF [] t).2=true):t.t.op=1:=of_decide_eq_true h
theorem jO(x:Tr)(b:List Tf): ∀a:List Tf,HI (a++b) x=(HI a x&&HI b x)
 |[]=>by rw[HI];rfl
 |p::a=>by rw[List.cons_append,TC,TC,jO x b a,Bool.and_assoc]
def aO(a:Tm)(p:List Sp)(x:Tr):Bool:=match FV p x with
 |some z=>NX a z.node
 |none=>false
theorem xQ{s:Sp}{p:List Sp}{x:Tr}(b: ¬s.part=true)(h:x.node.kind=6):FV (s::p) x=FV p ((BX s.name x).getD JR):=by
 have e:JU s x=some ((BX s.name x).getD JR):=by
  unfold JU JS;rw[if_neg b,if_neg Aa,if_pos h]
 rw[FV,e]
theorem xR(c:Tf): ∀(p:List Sp) (t:Tf) (x:Tr),(BF p t).2=true->BG (CV c p t) x=(BG t x&&aO c.node p x)
 |[],t,x,h=>by
  have h1:=xP h
  obtain⟨t,ps⟩:=t
  have h1:t.op=1:=h1
  show BG (.mk t (ps++[c])) x=_
  rw[BG,BG,if_neg Aa,if_pos h1,if_neg Aa,if_pos h1]
  show _=(_&&NX c.node x.node)
  unfold MV
  rw[List.map_append,List.all_append]
  simp only[List.map_cons,List.map_nil,List.all_cons,List.all_nil,Bool.and_true,Bool.and_assoc]
 |s::p,t,x,h=>by
  obtain⟨i,k,a,y,b,e,l,hl,n⟩:=aN h
  rw[n c]
  obtain⟨t,ps⟩:=t
  have e:ps=_:=e
  subst e
  have i:t.op=2:=i
  show BG (.mk t (a++CV c p y::b)) x=_
  rw[BG,BG,if_neg Aa,if_neg Aa,if_pos i,if_neg Aa,if_neg Aa,if_pos i]
  by_cases hk:x.node.kind=6
  ·have w:=xQ (p:=p) k hk
   have el:len (a++CV c p y::b)=len (a++y::b):=by simp only[AN,AH]
   rw[el,jO,jO,TC,TC,jN,l]
   unfold aO
   rw[w]
   cases hfo:BX s.name x with
   |none=>show(_&&((_&&(false&&_))&&_))=((_&&((_&&(false&&_))&&_))&&_);simp
   |some z=>
    have j:=xR c p y z hl
    unfold aO at j
    show(_&&((_&&(BG (CV c p y) z&&_))&&_))=((_&&((_&&(BG y z&&_))&&_))&&(match FV p z with|some z=>NX c.node z.node|none=>false))
    rw[j]
    generalize (match FV p z with|some z=>NX c.node z.node|none=>false)=q
    cases q<;>simp[Bool.and_comm,Bool.and_left_comm,Bool.and_assoc]
  ·rw[decide_eq_false hk];rfl
theorem jQ: ∀(p:List Sp) (t:Tf) (x:Tr),(BF p t).2=true->BG t x=true-> ∃z,FV p x=some z
 |[],t,x,_,_=>⟨x,rfl⟩
 |s::p,t,x,h,hi=>by
  obtain⟨j,k,a,y,b,e,l,hl,_⟩:=aN h
  obtain⟨n,ho⟩:=vR j hi
  obtain⟨z,w,i⟩:=iV ho y (by rw[e];simp)
  obtain⟨q,A⟩:=jQ p y z hl i
  refine⟨q,?_⟩
  rw[xQ k n,<-l,w];exact A
theorem BG6{n c:Int}(h0:0<=n)(b:n<=5):F4 (IJ n) c= !F4 n c:=by
 have h:n=0\/n=1\/n=2\/n=3\/n=4\/n=5:=by omega
 rcases h with rfl|rfl|rfl|rfl|rfl|rfl
 ·show decide (c≠0)= !decide (c=0);simp
 ·show decide (c=0)= !decide (c≠0);simp
 ·show decide (0<=c)= !decide (c<0);rw[Bool.eq_iff_iff];simp
 ·show decide (0<c)= !decide (c<=0);rw[Bool.eq_iff_iff];simp
 ·show decide (c<=0)= !decide (0<c);rw[Bool.eq_iff_iff];simp
 ·show decide (c<0)= !decide (0<=c);rw[Bool.eq_iff_iff];simp
theorem BG7{n:Int}(h0:0<=n)(b:n<=5):0<=IJ n/\IJ n<=5:=by
 have h:n=0\/n=1\/n=2\/n=3\/n=4\/n=5:=by omega
 rcases h with rfl|rfl|rfl|rfl|rfl|rfl<;>decide
theorem BG8{n:Int}{c:Nd}(h0:0<=n)(b:n<=5)(h:MR c=true):DV (JW n c)=true:=by
 have e:OW n c=true:=by unfold OW;rw[decide_eq_true h0,decide_eq_true b];exact h
 show DV (.mk { BK 9 with n:=n,c:=c} [])=true
 rw[DV]
 have h1:DL { ({ BK 9 with n:=n,c:=c}:Tm)with many:=len ([]:List Tf)}=true:=by
  show(decide ((⟨9,0,[],[],n,c⟩:Tm)=⟨9,0,[],[],n,c⟩)&&((0:Int)==0&&OW n c))=true
  rw[e];simp
 rw[h1];rfl
theorem BG9{t:Tm}{m k:Int}(h1:t.op=1)(b:0<=k)(h:DL { t with many:=m}=true):DL { t with many:=k}=true:=by
 obtain⟨op,many,name,s,n,c⟩:=t
 have h1:op=1:=h1
 subst h1
 unfold DL II C6 at*
 dsimp only at*
 rw[if_neg Aa,if_pos U]at*
 simp only[Bool.and_eq_true,decide_eq_true_eq,Tm.mk.injEq,true_and]at*
 exact⟨h.1,⟨b,h.2.1.2⟩,h.2.2⟩
theorem xS{c:Tf}(b:c.t.op=9)(e:c.t.name=[]): ∀ {l:List Tf} {L:Option A0},C7 1 L l=true->C7 1 L (l++[c])=true
 |[],L,_=>by rw[List.nil_append,C7,C7,b,e];rfl
 |x::l,L,h=>by
  rw[List.cons_append,C7]
  rw[C7,Bool.and_eq_true]at h
  rw[h.1,xS b e h.2];rfl
theorem xT{o:Int}{y z:Tf}{b:List Tf}(ho:z.t=y.t): ∀ {a:List Tf} {L:Option A0},C7 o L (a++y::b)=true->C7 o L (a++z::b)=true
 |[],L,h=>by rw[List.nil_append,C7,ho];rw[List.nil_append,C7]at h;exact h
 |x::a,L,h=>by
  rw[List.cons_append,C7]
  rw[List.cons_append,C7,Bool.and_eq_true]at h
  rw[h.1,xT ho h.2];rfl
theorem xU{c:Tf}(l:DV c=true)(n:c.t.op=9)(q:c.t.name=[]): ∀(p:List Sp) (t:Tf),(BF p t).2=true->DV t=true->DV (CV c p t)=true
 |[],t,h,i=>by
  have h1:=xP h
  rw[NR]at i
  simp only[Bool.and_eq_true]at i
  obtain⟨t,ps⟩:=t
  have h1:t.op=1:=h1
  obtain⟨⟨⟨j,a2⟩,a3⟩,a4⟩:=i
  have a2:C7 t.op none ps=true:=a2
  have a4:EA ps=true:=a4
  show DV (.mk t (ps++[c]))=true
  rw[DV]
  have k:DL { t with many:=len (ps++[c])}=true:=BG9 h1 (A6 _) j
  have e2:C7 t.op none (ps++[c])=true:=by rw[h1]at a2 ⊢;exact xS n q a2
  have e3:HZ t (ps++[c])=true:=by unfold HZ;split<;>rw[if_neg Aa]
  have e4:EA (ps++[c])=true:=by rw[VO,a4,EA,l];rfl
  rw[k,e2,e3,e4];rfl
 |s::p,t,h,i=>by
  obtain⟨w,B,a,y,b,e,z,hl,A⟩:=aN h
  rw[A c]
  rw[NR]at i
  simp only[Bool.and_eq_true]at i
  obtain⟨t,ps⟩:=t
  have e:ps=_:=e
  subst e
  have w:t.op=2:=w
  obtain⟨⟨⟨j,a2⟩,a3⟩,a4⟩:=i
  have a2:C7 t.op none (a++y::b)=true:=a2
  have a4:EA (a++y::b)=true:=a4
  rw[VO,EA,Bool.and_eq_true,Bool.and_eq_true]at a4
  show DV (.mk t (a++CV c p y::b))=true
  rw[DV]
  have el:len (a++CV c p y::b)=len (a++y::b):=by simp only[AN,AH]
  have k:DL { t with many:=len (a++CV c p y::b)}=true:=by rw[el];exact j
  have e2:C7 t.op none (a++CV c p y::b)=true:=xT (jN c p y) a2
  have e3:HZ t (a++CV c p y::b)=true:=by unfold HZ;split<;>rw[if_neg Aa]
  have e4:EA (a++CV c p y::b)=true:=by rw[VO,EA,a4.1,xU l n q p y hl a4.2.1,a4.2.2];rfl
  rw[k,e2,e3,e4];rfl
theorem xV{c:Tf}(k:c.zm): ∀(p:List Sp) (t:Tf),(BF p t).2=true->t.zm->(CV c p t).zm
 |[],t,h,i=>by
  obtain⟨j,z2⟩:=Tf.vF i
  show(Tf.mk t.t (t.ps++[c])).zm
  rw[Tf.zm]
  refine⟨j,Y2.2 λ x hx=>?_⟩
  rcases List.mem_append.1 hx with hx|hx
  ·exact z2 x hx
  ·rw[List.mem_singleton.1 hx];exact k
 |s::p,t,h,i=>by
  obtain⟨q,w,a,y,b,e,l,hl,n⟩:=aN h
  rw[n c]
  obtain⟨j,z2⟩:=Tf.vF i
  rw[e]at z2
  rw[Tf.zm]
  refine⟨j,Y2.2 λ x hx=>?_⟩
  rcases List.mem_append.1 hx with hx|hx
  ·exact z2 x (List.mem_append.2 (.inl hx))
  ·rcases List.mem_cons.1 hx with rfl|hx
   ·exact xV k p y hl (z2 y (by simp))
   ·exact z2 x (by simp[hx])
structure BH0 (p t y:Tf) (h:Bool):Prop where
 has: ∀x,BG t x=true-> ∃b,CE p x=some b
 iff: ∀x,BG y x=(BG t x&&decide (CE p x=some h))
 all:DV t=true->DV y=true
 zm:t.zm->y.zm
 tt:y.t=t.t
theorem aP: ∀(p:Tf) {i j:Int} {t y:Tf} {h:Bool},p.B2->EE p.t=true->DX p i t h= .ok y j->BH0 p t y h
 | .mk x [],i,j,t,y,h,hg,B,he=>by
  rcases vA (uZ hg) B with⟨nm,s,k,c,g1,g2,g3,g4,n,e2⟩|⟨nm,a,b,n,e2⟩|⟨nm,a,b,n,e2⟩|⟨nm,a,n,e2⟩
  ·have n:x=⟨16,0,nm,s,k,c⟩:=n
   subst n
   unfold DX at he
   dsimp only at he
   split at he
   ·rename_i hl
    have he:=PR.ok.inj he
    obtain⟨e,_⟩:=he
    subst e
    have L:c.kind<5:=by
     unfold MR at g4
     simp only[Bool.and_eq_true,decide_eq_true_eq]at g4
     exact g4.1
    have G:0<=(if h=true then k else IJ k)/\(if h=true then k else IJ k)<=5:=by
     split
     ·exact⟨g2,g3⟩
     ·exact BG7 g2 g3
    have hH: ∀z,CE (.mk ⟨16,0,nm,s,k,c⟩ []) z=(FV (CQ s).1 z).map λ q=>F4 k (IL q.node c):=λ z=>by
     rw[CE]
     show Option.map (λ y=>F4 k (F5 y (.mk c []))) _=_
     congr 1;funext q;rw[BE9 q c L]
    have M:=BE2 g1
    rw[M]at hl ⊢
    refine⟨λ z F=>?_,λ z=>?_,λ w=>xU (BG8 G.1 G.2 g4) U U _ t hl w,λ w=>xV (by show(Tf.mk _ []).zm;rw[Tf.zm];exact⟨rfl,trivial⟩) _ t hl w,jN _ _ _⟩
    ·obtain⟨q,A⟩:=jQ _ t z hl F
     exact⟨_,by rw[hH,A];rfl⟩
    ·rw[xR _ _ t z hl]
     cases hiz:BG t z with
     |false=>rfl
     |true=>
      obtain⟨q,A⟩:=jQ _ t z hl hiz
      rw[hH,A,Bool.true_and,Bool.true_and]
      unfold aO
      rw[A]
      show F4 (if h=true then k else IJ k) (IL q.node c)=decide (some (F4 k (IL q.node c))=some h)
      cases h with
      |true=>
       rw[if_pos U]
       cases F4 k (IL q.node c)<;>rfl
      |false=>
       rw[if_neg Ab,BG6 g2 g3]
       cases F4 k (IL q.node c)<;>rfl
   ·cases he
  ·cases e2
  ·cases e2
  ·cases e2
 | .mk x [a],i,j,t,y,h,hg,B,he=>by
  have V:=hg.HV [] a [] U
  have N:=V.c
  have O:=hg.kids a (.head _)
  have C:EE a.t=true:=by rw[N,B];rfl
  unfold DX at he
  have H:=aP a O C he
  have e: ∀z,CE (.mk x [a]) z=(CE a z).map λ b=> !b:=λ z=>by rw[CE]
  refine⟨λ z F=>?_,λ z=>?_,H.all,H.zm,H.tt⟩
  ·obtain⟨b,D⟩:=H.has z F
   exact⟨!b,by rw[e,D];rfl⟩
  ·rw[H.iff z,e]
   cases CE a z with
   |none=>rfl
   |some b=>cases b<;>cases h<;>rfl
 | .mk x (a::b::l),i,j,t,y,h,hg,B,he=>by
  have P:=(hg.HV [] a (b::l) U).c
  have Q:=(hg.HV [a] b l U).c
  have C:EE a.t=true:=by rw[P,B];rfl
  have R:EE b.t=true:=by rw[Q,B];rfl
  have S:x.op=17\/x.op=18:=by
   rcases vA (uZ hg) B with⟨nm,s,k,c,g1,g2,g3,g4,n,e2⟩|⟨nm,a',W,n,e2⟩|⟨nm,a',W,n,e2⟩|⟨nm,a',n,e2⟩
   ·cases e2
   ·have n:x=_:=n
    rw[n];exact .inl U
   ·have n:x=_:=n
    rw[n];exact .inr U
   ·cases e2
  have e: ∀z,CE (.mk x (a::b::l)) z=(CE a z).bind λ q=>if q=(x.op==18)then some q else CE b z:=λ z=>by rw[CE]
  unfold DX at he
  split at he
  ·cases he
  ·rename_i K
   have K:decide (x.op=17)=h:=Classical.byContradiction K
   have J:(x.op==18)= !h:=by
    rcases S with q|q<;>rw[q]at K ⊢ <;>rw[<-K]<;>rfl
   cases hr:DX a (i+1) t h with
   |er e p=>rw[hr]at he;cases he
   |ok u k=>
    rw[hr]at he
    have w:=aP a (hg.kids a (.head _)) C hr
    have D:=aP b (hg.kids b (.tail _ (.head _))) R he
    refine⟨λ z F=>?_,λ z=>?_,λ q=>D.all (w.all q),λ q=>D.zm (w.zm q),D.tt.trans w.tt⟩
    ·obtain⟨q,A⟩:=w.has z F
     rw[e,A,J]
     show ∃T,(if q= !h then some q else CE b z)=some T
     by_cases hqh:q= !h
     ·exact⟨q,by rw[if_pos hqh]⟩
     ·rw[if_neg hqh]
      have E:q=h:=by cases q<;>cases h<;>first|rfl|exact absurd rfl hqh
      exact D.has z (by rw[w.iff z,F,A,E];simp)
    ·rw[D.iff z,w.iff z,e,J]
     cases hiz:BG t z with
     |false=>rfl
     |true=>
      obtain⟨q,A⟩:=w.has z hiz
      rw[A]
      show(true&&decide (some q=some h)&&decide (CE b z=some h))=(true&&decide ((if q= !h then some q else CE b z)=some h))
      by_cases hqh:q= !h
      ·rw[if_pos hqh,hqh];cases h<;>rfl
      ·rw[if_neg hqh]
       have E:q=h:=by cases q<;>cases h<;>first|rfl|exact absurd rfl hqh
       rw[E];simp
end Go.Eng
namespace Go.Proofs.YtnoegalemkbbbaaGreatDoor
open Go.Proofs.Tryz
open Go.Eng
theorem jR: ∀(n:Nat) (t:Tf),t.size<=n->I5 t->FI t.flat (BG t)
  |0,t,h,_=>by have:=t.size_pos;omega
  |n+1,t,h,j=>by
   have B:=j.a
   rw[NR]at B
   simp only[Bool.and_eq_true]at B
   obtain⟨⟨⟨F,a2⟩,a3⟩,a4⟩:=B
   have k:=jM F
   have C:t.node.op=t.t.op:=rfl
   have z:t.node.many=len t.ps:=rfl
   have D:t.node.n=t.t.n:=rfl
   have E:=j.o
   have G:=t.size_eq
   have i:t.t.op≠1-> ∀p∈t.ps,FI (p.named []).flat (BG p):=λ h1 p hp=>by
    have J:=MN hp
    have e:(p.named []).size=p.size:=by cases p;rfl
    have:=jR n (p.named []) Aa (j.HV h1 hp)
    have H:BG (p.named [])=BG p:=by funext y;exact Au8 [] p y
    rw[H]at this;exact this
   have b:(t.t.op=3\/t.t.op=5\/t.t.op=6\/t.t.op=7\/t.t.op=8)-> ∃p,t.ps=[p]:=λ h=>j6 (by rw[<-z];exact k.one h)
   have w: ∀p,t.ps=[p]->(t.t.op=7\/t.t.op=8)->JQ (DA t.t.s).1 p=true:=λ p e h=>by
    rw[e]at a3
    unfold HZ at a3
    simp only[if_pos h]at a3
    exact a3
   rcases k.op with q|q|q|q|q|q|q|q|q|q<;>rw[C]at q
   · exact BF8 t j q
   · refine BF1 t j q (by have:=k.mask q;rw[D]at this;omega) ?_ ?_
     · rw[Tf.JL,iD λ x hx=>?_]
       have A:=jJ a2 hx
       rw[decide_eq_true q]at A
       have A:=of_decide_eq_true A
       have l:=aM a4 hx
       rw[NR]at l
       simp only[Bool.and_eq_true]at l
       have:=((jM l.1.1.1).atom A).1
       exact T8 this
     · rw[z];unfold len;rw[List.length_map]
   · exact BF2 t j q (i Aa)
   · obtain⟨p,e⟩:=b Aa
     exact BF3 t p j q e (i Aa p (by rw[e];simp))
   · exact BF7 t j q (i Aa)
   · obtain⟨p,e⟩:=b Aa
     exact BF4 t p j q e (i Aa p (by rw[e];simp))
   · obtain⟨p,e⟩:=b Aa
     exact BF5 t p j q e (i Aa p (by rw[e];simp))
   · obtain⟨p,e⟩:=b Aa
     exact BF6 t p j q e (i Aa p (by rw[e];simp)) (w p e Aa)
   · obtain⟨p,e⟩:=b Aa
     exact BG3 t p j q e (i Aa p (by rw[e];simp)) (w p e Aa)
   · exact absurd q E
theorem BH1(x:Tf)(F:x.VP)(v:Value)(M:Mem)(w:World)(hM:Sat w M)(hv:(A7 v x.flat).ok M)(P:len x.flat<=1048576)(z: ∀t∈x.flat,len t.name<=1048576/\len t.s<=1048576/\len t.c.s<=1048576):
    Calls prog 20 [v].toArray w λ e w'=>e= .returned (.bool true)/\Ext w w':=by
 have hl0:=x.D7
 have Q:len x.flat=x.size:=by unfold len;rw[Tf.BR]
 have K:at' x.flat 0=x.node:=x.BA
 have R:=o9 x
 have S:(at' x.flat 0).name=[]:=by rw[K];exact F.name
 have T:(at' x.flat 0).op≠9:=by rw[K];exact F.op
 refine AE (Hr:=[]) A8 func20 U ntmps20 [(0,A7 v x.flat)] [] [.sl 0 v] U (Aj hM) (AA hv A3) (λ B hB=>AB U call64 U U (λ _ w M k=>SY x.flat v 0 M w k.st.sat (k.sl 0 U) P Aa Aa) U ?_) U
 refine A1 U (λ G=>?_) (λ G=>?_)<;>simp only[zb]at G
 ·exfalso
  rcases G with((h|h)|h)|h
  ·omega
  ·exact h S
  ·exact T h
  ·exact h R
 refine AT (σ:=Int×List Tf) (λ(i,ts)=>⟨[(0,A7 v x.flat)],[],[Z 0 (.sl 0 v),Z 3 (I i)]⟩) (λ(i,ts)=>BL x.flat i ts/\i+AK ts=len x.flat/\EA ts=true) (λ(i,ts)=>AK ts) (0,[x]) U U ⟨BL.top x,by rw[Q];simp[AK],by rw[EA,F.all];rfl⟩ ?_
 rintro⟨i,ts⟩ ⟨A,L,H⟩
 have hi0:=A.1
 refine A1 U (λ N=>?_) (λ N=>?_)<;>simp only[zb]at N
 ·cases ts with
  |nil=>rw[show AK []=0 from rfl]at L;omega
  |cons u us=>
   have hu:=A.node
   have n:=at_mem hu.1 hu.2.1
   have V:(at' x.flat i).op=u.t.op:=by rw[hu.2.2];rfl
   have W:(at' x.flat i).s=u.t.s:=by rw[hu.2.2];rfl
   have X:(at' x.flat i).many=len u.ps:=by rw[hu.2.2];rfl
   have b:=A.QA
   have hsz:=u.size_pos
   have E:=HR u.ps us
   have hse:=u.size_eq
   rw[AK]at L
   rw[EA,NR]at H
   simp only[Bool.and_eq_true]at H
   obtain⟨⟨⟨⟨a1,a2⟩,a3⟩,a4⟩,a5⟩:=H
   rw[<-hu.2.2]at a1
   refine AB (u:=.bool true) U call65 U U (λ _ w M k=>by rw[<-a1];exact sZ (at' x.flat i) w M k.st.sat (z _ n).2.1 (z _ n).2.2) U ?_
   refine AB (u:=.bool true) U call66 U U (λ _ w M k=>by rw[<-a2];exact tC x.flat v i u us M w k.st.sat (k.sl 0 U) P A λ t ht=>(z t ht).1) U ?_
   refine A1 U (λ hb3=>nomatch hb3) (λ _=>?_)
   refine CZ 1 (λ s=>True/\s=⟨[(0,A7 v x.flat)],[],[Z 0 (.sl 0 v),Z 3 (I i)]⟩) U U (λ C=>?_) (λ C=>?_) ?_
   ·simp only[zb]at C
    have D:=tE a1 C
    obtain⟨y,hy⟩: ∃y,u.ps=[y]:=by
     match hps:u.ps,X with
     |[],h=>rw[h]at D;cases D
     |[y],_=>exact⟨y,rfl⟩
     |_::_::l,h=>rw[h]at D;simp only[AH]at D;have:=A6 l;omega
    rw[hy]at b
    have b:BL x.flat (i+1) (y::us):=b
    have hky:=b.le
    rw[AK]at hky
    have hpl2:=tF (at' x.flat i).s
    have j:JQ (DA (at' x.flat i).s).1 y=true:=by
     rw[hy]at a3
     unfold HZ at a3
     simp only[if_pos (show u.t.op=7\/u.t.op=8 by rw[<-V];exact C)]at a3
     rw[W];exact a3
    unfold JQ at j
    obtain⟨o,F⟩: ∃o,EX (DA (at' x.flat i).s).1 y=some o:=by
     cases hq:EX (DA (at' x.flat i).s).1 y with
     |none=>rw[hq]at j;cases j
     |some o=>exact⟨o,rfl⟩
    rw[F]at j
    have O:=ZB _ y o F
    have hle:=beq_iff_eq.1 j
    rw[<-YR b O.1 O.2]at hle
    refine B3 (λ v:Value=>.tu [.sl 6 v,.v (.bool (DA (at' x.flat i).s).2)]) [6] (Fg:=λ v=>[(0,kn v 3 (DA (at' x.flat i).s).1 Sp.cells)]) (pu:=λ _=>True) U U call67 U (λ w M k=>ZA (at' x.flat i).s k.st.sat (z _ n).2.1) λ v6 _=>?_
    refine AB (u:=i64 (i+1+o)) U call68 U U (λ _ w M k=>by have q:=tD (DA (at' x.flat i).s).1 x.flat v v6 (i+1) y us M w k.st.sat (k.sl 0 U) (k.sl 6 U) P Aa b;rw[F]at q;exact q) U ?_
    refine A1 U (λ J=>?_) (λ J=>?_)<;>simp only[zb]at J
    ·exfalso
     rcases J with h|h
     · omega
     · exact h hle
    ·exact AQ _ U U ⟨trivial,rfl⟩
   ·exact AQ _ U U ⟨trivial,rfl⟩
   rintro s ⟨_,rfl⟩
   exact AR (i+1,u.ps++us) U U ⟨b,by rw[E];omega,by rw[VO,a4,a5];rfl⟩ (by show AK (u.ps++us)<AK (u::us);rw[E,AK];omega)
 ·exact A2 hB U U U λ w M k=>⟨rfl,k.st.low⟩
open Go.Eng Go.RowKit
abbrev FlR(w:World)(M:Mem)(x:Fl):Ending->World->Prop:=ET w M (λ h:AJ=>h.v) (λ _=>True) λ h=>[(0,A7 h.v x)]
theorem BH3(l:Fl):(({ BK 7 with many:=len [l]}:Tm)::(J1 [] [l]).flatten)= { BK 7 with many:=1}::l:=by rw[rV];show _::(l++[])=_;rw[List.append_nil];rfl
theorem BH4(l:Fl)(v:AJ)(w:World)(M:Mem)(e:Sat w M)(i:(A7 v.v l).ok M)(q:len l<=100000000000):
   Calls prog 10 [v.v].toArray w (FlR w M ({ BK 7 with many:=1}::l)):=by
 refine AE (Hr:=[]) A8 func10 U ntmps10 [(0,A7 v.v l)] [] [.sl 0 v.v] U (Aj e) (AA i A3) (λ B j=>B9 5 [v] CA 1 23 DJ U U Ah U λ v5=>?_) U
 refine AY [] (λ h:AJ=>.sl 6 h.v) [] (λ h=>[(6,YU h.v ({ BK 7 with many:=1}::l))]) U U call26 U U (hu:=λ _=>rfl) (hH:=λ _=>rfl) (λ w M hS hF=>by
  have:=BD7 (BK 7) (.slice none 0 0) [] v5 [v] [l] hS (Sl.nil M 1) ⟨(hF.get (k:=5) U).sl,DJ,(hF.get (k:=0) U).sl,trivial⟩ (.inl U) (λ h=>absurd U h) (by simp only[List.flatten_cons,List.flatten_nil,AN,len_nil];omega) (by simp only[AH,len_nil];omega)
  rw[BH3]at this
  exact this) λ n _=>?_
 exact H0 6 U <|A2 j U U U λ w M' b=>⟨n,M',rfl,trivial,(b.C8 [] U).done,AA (b.f.get (k:=6) U) A3⟩
abbrev jS(n:Nat)(g:Tf):Prop:= ∀ {w0 wv:World} {M0 M:Mem} {Rs:List HO} (i:Int) (v:Value) (u:AJ) (t:Tf),St w0 M0 wv M Rs->Gl w0->(A7 v g.flat).ok M->(A7 u.v t.flat).ok M->BS t=true->B4 t->t.size*hF g<=16777216->0<=i->i+2*g.size<=1099511627776->
 Calls prog 39 [v,i64 i,u.v].toArray wv (LX w0 M0 M Rs (FX n g i t))
theorem BH5{n:Nat}(g:Tf){w0 wv:World}{M0 M:Mem}{Rs:List HO}(i:Int)(v:Value)(u:AJ)(t:Tf)(H:jS n (C4 g i).2.1)(hg:g.B2)(N:B4 g)(hS:St w0 M0 wv M Rs)(C:Gl w0)(W:(A7 v g.flat).ok M)(X:(A7 u.v t.flat).ok M)(ha:BS t=true)(R:B4 t)(h7:MZ g=true)(hsz:t.size*hF g<=16777216)(hi0:0<=i)(hi1:i+2*g.size+1<=1099511627776):
    Calls prog 142 [v,i64 i,u.v].toArray wv (LX w0 M0 M Rs (TH (FX n) g i t)):=by
 have hgz:=G6 g
 have hgp:=g.size_pos
 have hge:=g.size_eq
 have O:(at' g.flat 0).op=g.t.op:=by rw[g.BA];rfl
 have htm:t.size<=16777216:=Nat.le_trans (Nat.le_mul_of_pos_right _ (W0 g hg)) hsz
 have htz:=G6 t
 refine AE (Hr:=Rs) A8 func142 U ntmps142 [(0,A7 v g.flat),(1,A7 u.v t.flat)] [] [.sl 0 v,I i,.sl 1 u.v] U hS (AA W (AA X A3)) (λ B q=>B9 3 [BK 0] Tm.cells 11 48 Tm.AO U U Ah U λ v3=>?_) U
 obtain⟨G,S,D,hz⟩: ∃G S D,C4 g i=(G,S,D):=⟨_,_,_,rfl⟩
 refine CZ 0 (λ s=> ∃v' T,s=⟨[(0,A7 v' G.flat),(1,A7 u.v t.flat),(3,A7 T S.flat)],[],[Z 0 (.sl 0 v'),Z 1 (I D),Z 2 (.sl 1 u.v),Z 7 (.sl 3 T)]⟩) U U (λ l=>?_) (λ l=>?_) ?_<;>try simp only[zb]at l
 ·rw[O]at l
  obtain⟨a,b,e⟩:=hg.two (.inl l)
  have A:D3 g=[(a.named []).flat,(b.named []).flat]:=by rw[KF];unfold BE;rw[e];rfl
  refine AY [] (λ g:Value×List AJ=>.sl 4 g.1) [4] (λ _=>[]) U U call77 U U (λ w M hS hF=>VF hS (hF.get (k:=0) U) Aa) λ L E=>?_
  have P:len L.2=2:=by rw[E,e];rfl
  have ek:BE g=[a.named [],b.named []]:=by unfold BE;rw[e];rfl
  refine EJ [6,7] 3 (λ _ _ _ _ _ h=>h) U BI U <|AL 6 U U U <|AI U <|AL 7 U U U <|AI U <|BV U U U <|ES 0 (A7 (at' L.2 0).v (a.named []).flat) (λ w M F=>by have:=EF (F.f.get (k:=4) U) (k:=0) Aa Aa;rw[A]at this;exact this) (ME 0 0 U ?_)
  refine ES 3 (A7 (at' L.2 1).v (b.named []).flat) (λ w M F=>by have:=EF (F.f.get (k:=4) U) (k:=1) Aa Aa;rw[A]at this;exact this) (ME 7 3 U ?_)
  have e1:C4 g i=(a.named [],b.named [],i+1):=by unfold C4;rw[if_pos l,ek];rfl
  cases hz.symm.trans e1
  exact AQ _ U U ⟨_,_,rfl⟩
 ·rw[O]at l
  have e1:C4 g i=(g,a6,i):=by unfold C4;rw[if_neg l]
  cases hz.symm.trans e1
  exact AQ _ U U ⟨_,_,rfl⟩
 rintro s ⟨v',T,rfl⟩
 obtain⟨p1,p2,p3,p4,p5,p6,p7,p8,_⟩:=jB (i:=i) hg N h7
 obtain⟨a,e,e2,h3,h4⟩:=wW (i:=i) (t:=t) hg N h7
 obtain⟨k1,k2,k3⟩:=jC p1 Aa (.inr p2) a (by rw[e];simp)
 have Q:(C4 g i).2.2=i/\(C4 g i).1.size=g.size/\(C4 g i).2.1.size=1\/(C4 g i).2.2=i+1/\(C4 g i).1.size+(C4 g i).2.1.size+1<=g.size:=by
  unfold C4
  split
  ·rename_i hq
   obtain⟨a,b,e⟩:=hg.two (.inl hq)
   have ek:BE g=[a.named [],b.named []]:=by unfold BE;rw[e];rfl
   rw[e,AK,AK,AK]at hge
   refine .inr ⟨rfl,?_⟩
   rw[ek];show(a.named []).size+(b.named []).size+1<=_;rw[Tf.LD,Tf.LD];omega
  ·exact .inl ⟨rfl,rfl,rfl⟩
 unfold TH at q
 rw[e2,k3]at q
 rw[hz]at q p1 p2 p3 p4 p5 p6 p7 p8 e h4 Q H
 dsimp only at q p1 p2 p3 p4 p5 p6 p7 p8 e h4 Q H
 have hGz:=G6 G
 have hGe:=G.size_eq
 rw[e,AK,AK]at hGe
 have A:D3 G=[a.flat]:=by rw[KF];unfold BE;rw[e];show [(a.named []).flat]=_;rw[k3]
 refine AY [] (λ g:Value×List AJ=>.sl 4 g.1) [4] (λ _=>[]) U U call77 U U (λ w M hS hF=>VF hS (hF.get (k:=0) U) Aa) λ L E=>?_
 have P:len L.2=1:=by rw[E,e];rfl
 refine KW [] [6] (λ _ (h:AJ)=>.sl 6 h.v) (λ _ _ _=>[]) q U U call35 U U (List.Sublist.refl _) (λ w M hS hF=>x8 a.size a (D+1) (at' L.2 0).v u.v t true (Nat.le_refl _) k1 k2 (p4.kids a (by rw[e];simp)) hS C (by have:=EF (hF.get (k:=4) U) (k:=0) Aa Aa;rw[A]at this;exact this) (hF.get (k:=1) U) ha R Aa Aa Aa) λ y j hy q h6 _=>?_
 obtain⟨V,y2⟩:=PH a hy (p4.kids a (by rw[e];simp)) ha R
 have y3:=V.size
 have y4:=h4 _ y3
 obtain⟨z1,z2⟩:=BB4 V.sh
 have hyz:=G6 y
 refine AY [] (λ _:Unit=>.v (.bool (LQ y))) [] (λ _=>[]) (Fg:=λ _=>[]) (pu:=λ _=>True) U U call175 U U (λ w M hS hF=>Ao3 h6.v y hS C (hF.get (k:=6) U) Aa z1 z2) λ _ _=>A1 U (λ J=>?_) (λ J=>?_)
 ·have K:LQ y=false:=by simpa using J
  rw[K,if_neg Ab]at q
  exact OB [] U U call81 U U (λ w M hS hF=>TG D 6 hS) λ a w M R hS hle=>K0 _ (q.p ⟨M,rfl,hS.drop _ (List.Sublist.refl _),hle⟩ a R)
 have K:LQ y=true:=by simpa using J
 rw[K,if_pos U,<-PR.ret (FX n S (D+G.size) y)]at q
 refine KW [] [5] (λ _ (h:AJ)=>.sl 5 h.v) (λ _ _ _=>[]) q U U call39 U U (List.Sublist.refl _) (hu:=λ _ _=>rfl) (hH:=λ _ _ _=>rfl) (λ w M hS hF=>by
  have:=H (D+G.size) T h6 y hS C (hF.get (k:=3) U) (hF.get (k:=6) U) V.ar V.sh Aa Aa Aa
  rw[<-hGz]at this ⊢
  exact this) λ z k hzz q h5 _=>?_
 exact A2 q U U U λ w M' F=>⟨h5,M',rfl,trivial,F.le,F.C8 [] U,AA (F.f.get (k:=5) U) A3⟩
theorem BH6{w0 H:World}{M0 M:Mem}{Rs:List HO}(x:Tm)(i:Int)(u:AJ)(t:Tf)(hS:St w0 M0 H M Rs)(L:Gl w0)(D:(A7 u.v t.flat).ok M)(N:BS t=true)(C:B4 t)(hx:x.op=1)(hz:t.size<=16777216):
    Calls prog 97 [.agg x.cells.toArray,i64 i,u.v].toArray H (LX w0 M0 M Rs (PG x i t)):=by
 have y:(at' t.flat 0).op=t.t.op:=by rw[t.BA];rfl
 have O:=G6 t
 have P:=t.size_pos
 have Q:=t.size_eq
 obtain⟨k1,k2⟩:=j8 N C
 have R:((BD t).length:Int)<=AK (BD t):=MM _
 have S:=j3 t
 refine AE (Hr:=Rs) A8 func97 U ntmps97 [(1,A7 u.v t.flat)] [] [.ag (G9 x.cells),I i,.sl 1 u.v] U hS (AA D A3) (λ B z=>BO 3 U U U λ b3=>AY [] (λ g:Value×List AJ=>.sl 8 g.1) [9] (λ g=>[(8,Go.Proofs.YtnoegalemkbbbaaGreatDoor.IP g.1 g.2)]) U U call143 U U (λ w M hS hF=>iZ hS (hF.get (k:=1) U) Aa) λ T E=>?_) U
 obtain⟨pu,q⟩:=T
 dsimp only at E
 have V:len q=(BD t).length:=by unfold len;omega
 refine A1 U (λ l=>?_) (λ l=>?_)<;>simp only[zb]at l
 ·refine A1 U (λ n=>?_) (λ n=>?_)<;>simp only[zb]at n<;>rw[y]at n
  ·have J:PG x i t=if x.s∈EY t then .ok (at' (BD t) (JP (EY t) x.s)) 0 else .er i 2:=by unfold PG;rw[if_pos l,if_pos n]
   refine EJ [1,4,5] 4 (λ _ _ _ _ _ h=>h) U BI U <|AL 1 U U U <|AY [] (λ u:Value=>.sl 5 u) [] (λ u=>[(5,wG u (EY t))]) U U call147 U U (λ w M hS hF=>Az2 hS (hF.get (k:=1) U) Aa) λ W _=>H0 5 U <|AI U <|AL 4 U U U <|AB U call153 U U (λ _ w M A=>BB6 (EY t) x.s W w M A.st.sat (A.f.get (k:=5) U)) U <|AI U <|AL 5 U U U <|AI U <|BV U U U ?_
   by_cases hm:x.s∈EY t
   ·obtain⟨j1,X⟩:=wX hm
    obtain⟨j,hj⟩: ∃j:Nat,j=(JP (EY t) x.s).toNat:=⟨_,rfl⟩
    have F:TI (EY t) x.s=j:=by unfold TI;rw[if_pos hm];omega
    rw[J,if_pos hm,X,<-hj]at z
    have G:j<(BD t).length:=by omega
    rw[F]
    refine A1 U (λ b=>?_) (λ b=>?_)<;>simp only[zb]at b
    ·refine A2 z U U (hO:=by and_intros<;>first|omega|(show(j:Int)<len q;omega)) U λ w M' A=>⟨at' q (j:Int),M',rfl,trivial,A.le,A.C8 [] U,AA ?_ A3⟩
     have h2:CB M' 11 Tm.cells q ((BD t).map Tf.flat):=(A.f.get (k:=9) U).more
     have K:=CB.at h2 (k:=(j:Int)) Aa Aa
     rw[aH G]at K
     exact⟨K,Tm.AO,trivial⟩
    ·omega
   ·rw[J,if_neg hm]at z
    rw[x9 hm]
    refine A1 U (λ b=>?_) (λ b=>?_)<;>simp only[zb]at b
    ·omega
    refine A1 U (λ e=>?_) (λ e=>?_)<;>simp only[zb]at e<;>rw[y]at e
    ·exact OB [] U U call81 U U (λ w M hS hF=>TG i 2 hS) λ a w M C hS hle=>K0 _ (z.p ⟨M,rfl,hS.drop _ (((List.Sublist.refl _).cons _).cons _),hle⟩ a C)
    ·omega
  ·rw[show PG x i t= .er i 1 by unfold PG;rw[if_pos l,if_neg n]]at z
   refine A1 U (λ b=>?_) (λ b=>?_)<;>simp only[zb]at b
   ·omega
   refine A1 U (λ e=>?_) (λ e=>?_)<;>simp only[zb]at e<;>rw[y]at e
   ·omega
   ·exact OB [] U U call81 U U (λ w M hS hF=>TG i 1 hS) λ a w M C hS hle=>K0 _ (z.p ⟨M,rfl,hS.drop _ (((List.Sublist.refl _).cons _).cons _),hle⟩ a C)
 ·exact absurd hx l
theorem BH7{n:Nat}(g:Tf){w0 wv:World}{M0 M:Mem}{Rs:List HO}(i:Int)(v:Value)(u:AJ)(t:Tf)(H:jS n (C4 g (i+1)).2.1)(hI:aE (FX n) (C4 g (i+1)).2.1)(FK:MZ g=true)(ht:t.t.op=5\/t.t.op=2)(hg:g.B2)(F:B4 g)(hS:St w0 M0 wv M Rs)(N:Gl w0)(O:(A7 v g.flat).ok M)(P:(A7 u.v t.flat).ok M)(ha:BS t=true)(Q:B4 t)(R:t.size*(1+hF g)<=16777216)(hgb:g.size<=16777216)(hi0:0<=i)(hi1:i+2*g.size+2<=1099511627776):
    Calls prog 89 [v,i64 i,u.v].toArray wv (LX w0 M0 M Rs (R5 (FX n) g i t)):=by
 have hgz:=G6 g
 have hgp:=g.size_pos
 have hge:=g.size_eq
 have htz:=G6 t
 have htp:=t.size_pos
 have hhp:=W0 g hg
 rw[Nat.mul_add,Nat.mul_one]at R
 have A:(at' t.flat 0).op=t.t.op:=by rw[t.BA];rfl
 have G:(at' g.flat 0).op=g.t.op:=by rw[g.BA];rfl
 have J:g.t.op=4->1<len g.flat/\(at' g.flat 1).op=(at' g.ps 0).t.op:=λ S=>by
  obtain⟨a,b,e⟩:=hg.two (.inl S)
  have hap:=a.D7
  have hbp:=b.D7
  refine⟨?_,by rw[e,Tf.JL,e];show(at' (_::(a.flat++(b.flat++[]))) 1).op=a.t.op;rw[Tf.JL a];rfl⟩
  rw[Tf.JL,e]
  show 1<len (_::(a.flat++(b.flat++[])))
  rw[AH,AN,AN];have:=A6 ([]:Fl);omega
 have h14b:((at' g.flat 0).op==4)=false\/1<len g.flat:=by
  cases K:(at' g.flat 0).op==4 with
  |false=>exact .inl U
  |true=>rw[G]at K;exact .inr (J (by simpa using K)).1
 refine AE (Hr:=Rs) A8 func89 U ntmps89 [(0,A7 v g.flat),(1,A7 u.v t.flat)] [] [.sl 0 v,I i,.sl 1 u.v] U hS (AA O (AA P A3)) (λ B D=>?_) U
 refine A1 U (λ q=>?_) (λ q=>?_)<;>simp only[zb]at q<;>rw[A]at q
 ·refine A1 U (λ l=>?_) (λ l=>?_)<;>simp only[zb]at l<;>rw[G]at l
  ·have K:R5 (FX n) g i t=(TH (FX n) g (i+1) (at' (BD t) 0)).bind λ y _=>.ok (.mk (BK 5) [y]) 0:=by unfold R5;rw[if_pos q,if_pos FK]
   obtain⟨x,e⟩:=BS.one ha (.inr Aa)
   have hkl:(BD t).length=1:=by rw[wC Aa,List.length_map,e];rfl
   obtain⟨k1,L⟩:=j8 ha Q
   have s:at' (BD t) 0∈BD t:=aF (k:=0) Aa
   have T:at' ((BD t).map Tf.flat) 0=(at' (BD t) 0).flat:=aH (k:=0) Aa
   have hkz:=MN s
   have hte:=t.size_eq
   have V:(at' (BD t) 0).size*hF g<=16777216:=Nat.le_trans (Nat.mul_le_mul_right _ (show(at' (BD t) 0).size<=t.size by omega)) Aa
   refine AY [] (λ g:Value×List AJ=>.sl 8 g.1) [9] (λ g=>[(8,IP g.1 g.2)]) U U call143 U U (λ w M hS hF=>iZ hS (hF.get (k:=1) U) Aa) λ gg W=>?_
   obtain⟨pu,C⟩:=gg
   dsimp only at W
   refine H0 8 U <|ES 8 (CS pu C ((BD t).map Tf.flat)) (λ w M E=>⟨(E.f.get (k:=8) U).sl,DJ,(E.f.get (k:=9) U).more⟩) ?_
   have hl8:len C=1:=by unfold len;omega
   rw[K]at D
   refine KW [] [4] (λ _ (h:AJ)=>.sl 4 h.v) (λ _ _ _=>[]) D U U call142 U U (List.Sublist.refl _) (λ w M hS hF=>BH5 g (i+1) v (at' C 0) (at' (BD t) 0) H hg F hS N (hF.get (k:=0) U) (by have:=EF (hF.get (k:=8) U) (k:=0) Aa Aa;rw[T]at this;exact this) (L _ s).1 (L _ s).2 FK V Aa Aa) λ y j hy D S _=>?_
   have X:=BA9 hg F FK hI hy (L _ s).1 (L _ s).2
   have hyz:=G6 y
   have hys:=X.size
   exact AY [] (λ h:AJ=>.sl 10 h.v) [] (λ h=>[(10,IG h.v (Tf.mk (BK 5) [y]).flat)]) U U call141 U U (λ w M hS hF=>Ay8 S y hS (hF.get (k:=4) U) Aa) λ h10 _=>H0 10 U <|A2 D U U U λ w M' E=>⟨h10,M',rfl,trivial,E.le,E.C8 [] U,AA (E.f.get (k:=10) U) A3⟩
  ·exfalso
   unfold MZ at FK
   simp only[Bool.or_eq_true,Bool.and_eq_true,decide_eq_true_eq]at FK
   rcases FK with h|⟨h1,h2⟩
   ·exact l.1 h
   ·exact l.2.elim (λ h=>h h1) (λ h=>h (by rw[(J h1).2];exact h2))
 have ht:t.t.op=2:=by omega
 refine A1 U (λ l=>?_) (λ l=>?_)<;>simp only[zb]at l<;>rw[A]at l
 ·omega
 refine A1 U (λ z=>?_) (λ z=>?_)<;>simp only[zb]at z<;>rw[A]at z
 ·omega
 rw[show R5 (FX n) g i t= .er i 1 by unfold R5;rw[if_neg q,if_neg l,if_neg z]]at D
 exact OB [] U U call81 U U (λ w M hS hF=>TG i 1 hS) λ a w M Q hS hle=>K0 _ (D.p ⟨M,rfl,hS.drop _ (List.Sublist.refl _),hle⟩ a Q)
theorem BH8{n:Nat}(f:Tf)(h5:f.t.op=5){w0 W:World}{M0 M:Mem}{Rs:List HO}(i:Int)(v:Value)(u:AJ)(t:Tf)(H:jS n (C4 (at' (BE f) 0) (i+1)).2.1)(hI:aE (FX n) (C4 (at' (BE f) 0) (i+1)).2.1)(FK:MZ (at' (BE f) 0)=true)(ht:t.t.op=5\/t.t.op=2)(hn1:n+1<=16777216)(hfn:f.size<=n+1)(hg:f.B2)(C:B4 f)(D:St w0 M0 W M Rs)(E:Gl w0)(F:(A7 v f.flat).ok M)(G:(A7 u.v t.flat).ok M)(ha:BS t=true)(hs:B4 t)(z:t.size*hF f<=16777216)(hi0:0<=i)(hi1:i+2*f.size<=1099511627776):
   Calls prog 39 [v,i64 i,u.v].toArray W (LX w0 M0 M Rs (FX (n+1) f i t)):=by
 have hfz:=G6 f
 have hfp:=f.size_pos
 have J:=f.size_eq
 have htz:=G6 t
 have htp:=t.size_pos
 have hte:=t.size_eq
 have K:=W0 f hg
 have htm:t.size<=16777216:=Nat.le_trans (Nat.le_mul_of_pos_right _ K) z
 have A:(at' f.flat 0).op=f.t.op:=by rw[f.BA];rfl
 have hto:(at' t.flat 0).op=t.t.op:=by rw[t.BA];rfl
 have htn:(at' t.flat 0).n=t.t.n:=by rw[t.BA];rfl
 have X:at' f.flat 0=f.node:=f.BA
 have L: ∀x∈BE f,x.B2/\B4 x/\x.size<f.size:=λ x hx=>⟨(hg.JX hx).1,C.JX hx,(hg.JX hx).2⟩
 have N:FX (n+1) f i t=R6 (FX n) f i t:=rfl
 rw[N]
 refine AE (Hr:=Rs) A8 func39 U ntmps39 [(0,A7 v f.flat),(1,A7 u.v t.flat)] [] [.sl 0 v,I i,.sl 1 u.v] U D (AA F (AA G A3)) (λ B q=>AZ 2 U zeroValue48 U λ b7=>AY [] (λ g:Value×List AJ=>.sl 3 g.1) [3] (λ _=>[]) U U call77 U U (λ w M hS hF=>VF hS (hF.get (k:=0) U) Aa) λ s O=>?_) U
 have hgl2:len s.2=(f.ps.length:Int):=O
 have P: ∀ {M:Mem} {k:Nat},k<f.ps.length->(CS s.1 s.2 (D3 f)).ok M->(A7 (at' s.2 (k:Int)).v (at' (BE f) (k:Int)).flat).ok M:=λ{M k} Q h=>by
  have:=EF h (k:=(k:Int)) Aa Aa
  rw[KF,aH (by rw[aG];exact Q)]at this;exact this
 have R: ∀ {k:Nat},k<f.ps.length->at' (BE f) (k:Int)∈BE f:=λ Q=>aF (by rw[aG];exact Q)
 unfold R6 at q
 refine A1 U (λ l=>?_) (λ l=>?_)<;>simp only[zb]at l<;>rw[A]at l
 ·omega
 rw[if_neg l]at q
 refine A1 U (λ b=>?_) (λ b=>?_)<;>simp only[zb]at b<;>rw[A]at b
 ·omega
 rw[if_neg b]at q
 refine A1 U (λ j=>?_) (λ j=>?_)<;>simp only[zb]at j<;>rw[A]at j
 ·rw[if_pos j]at q
  obtain⟨a,e⟩:=hg.one Aa
  have hl2:f.ps.length=1:=by rw[e];rfl
  obtain⟨a1,a2,a3⟩:=L _ (R (k:=0) Aa)
  have ea:at' (BE f) 0=a.named []:=by unfold BE;rw[e];rfl
  have hza:(at' (BE f) 0).size=a.size:=by rw[ea,Tf.LD]
  have hfs2:f.size=1+a.size:=by rw[J,e,AK,AK];omega
  have hh:hF f=1+hF a:=by rw[TJ f,if_neg b,if_neg Aa,e,hS,hS];rfl
  have S:hF (at' (BE f) 0)=hF a:=by rw[ea,wV]
  rw[hh]at z
  have T: ∀ {M:Mem},(CS s.1 s.2 (D3 f)).ok M->(A7 (at' s.2 0).v (at' (BE f) 0).flat).ok M:=λ h=>P (k:=0) Aa h
  rw[<-PR.ret (R5 (FX n) (at' (BE f) 0) i t)]at q
  exact KW [] [6] (λ _ (h:AJ)=>.sl 6 h.v) (λ _ _ _=>[]) q U U call89 U U (List.sublist_cons_self _ _) (λ w M hS hF=>BH7 (at' (BE f) 0) i (at' s.2 0).v u t H hI FK ht a1 a2 hS E (T (hF.get (k:=3) U)) (hF.get (k:=1) U) ha hs (by rw[S];exact z) Aa Aa Aa) λ y jj hy q h6 _=>A2 q U U U λ w M' V=>⟨h6,M',rfl,trivial,V.le,V.C8 [] U,AA (V.f.get (k:=6) U) A3⟩
 ·exact absurd h5 j
theorem BH9{n:Nat}(f:Tf)(h1:f.t.op=1){w0 wv:World}{M0 M:Mem}{Rs:List HO}(i:Int)(v:Value)(u:AJ)(t:Tf)(hg:f.B2)(O:B4 f)(P:St w0 M0 wv M Rs)(Q:Gl w0)(R:(A7 v f.flat).ok M)(S:(A7 u.v t.flat).ok M)(ha:BS t=true)(hs:B4 t)(T:t.size*hF f<=16777216)(hi0:0<=i)(hi1:i+2*f.size<=1099511627776):
    Calls prog 39 [v,i64 i,u.v].toArray wv (LX w0 M0 M Rs (FX (n+1) f i t)):=by
 have hfz:=G6 f
 have hfp:=f.size_pos
 have hfe:=f.size_eq
 have htz:=G6 t
 have htp:=t.size_pos
 have hte:=t.size_eq
 have V:=W0 f hg
 have W:t.size<=16777216:=Nat.le_trans (Nat.le_mul_of_pos_right _ V) T
 have e:(at' f.flat 0).op=f.t.op:=by rw[f.BA];rfl
 have hto:(at' t.flat 0).op=t.t.op:=by rw[t.BA];rfl
 have htn:(at' t.flat 0).n=t.t.n:=by rw[t.BA];rfl
 have G:at' f.flat 0=f.node:=f.BA
 have hkz: ∀x∈BE f,x.B2/\B4 x/\x.size<f.size:=λ x hx=>⟨(hg.JX hx).1,O.JX hx,(hg.JX hx).2⟩
 have X:FX (n+1) f i t=R6 (FX n) f i t:=rfl
 rw[X]
 refine AE (Hr:=Rs) A8 func39 U ntmps39 [(0,A7 v f.flat),(1,A7 u.v t.flat)] [] [.sl 0 v,I i,.sl 1 u.v] U P (AA R (AA S A3)) (λ B z=>AZ 2 U zeroValue48 U λ L=>AY [] (λ g:Value×List AJ=>.sl 3 g.1) [3] (λ _=>[]) U U call77 U U (λ w M hS hF=>VF hS (hF.get (k:=0) U) Aa) λ N hgg=>?_) U
 have hgl2:len N.2=(f.ps.length:Int):=hgg
 have hfk: ∀ {M:Mem} {k:Nat},k<f.ps.length->(CS N.1 N.2 (D3 f)).ok M->(A7 (at' N.2 (k:Int)).v (at' (BE f) (k:Int)).flat).ok M:=λ{M k} hk h=>by
  have:=EF h (k:=(k:Int)) Aa Aa
  rw[KF,aH (by rw[aG];exact hk)]at this;exact this
 have hkm: ∀ {k:Nat},k<f.ps.length->at' (BE f) (k:Int)∈BE f:=λ hk=>aF (by rw[aG];exact hk)
 unfold R6 at z
 refine A1 U (λ A=>?_) (λ A=>?_)<;>simp only[zb]at A<;>rw[e]at A
 ·omega
 rw[if_neg A]at z
 refine A1 U (λ C=>?_) (λ C=>?_)<;>simp only[zb]at C<;>rw[e]at C
 ·omega
 rw[if_neg C]at z
 refine A1 U (λ D=>?_) (λ D=>?_)<;>simp only[zb]at D<;>rw[e]at D
 ·omega
 rw[if_neg D]at z
 refine A1 U (λ E=>?_) (λ E=>?_)<;>simp only[zb]at E<;>rw[e]at E
 ·omega
 rw[if_neg E]at z
 refine A1 U (λ F=>?_) (λ F=>?_)<;>simp only[zb]at F<;>rw[e]at F
 ·omega
 rw[if_neg F]at z
 refine CZ 0 (λ s=> ∃b:Bool,(b=true↔f.t.op=8\/f.t.op=9)/\s=⟨[(0,A7 v f.flat),(1,A7 u.v t.flat)],[(2,.box L (G9 (at' f.flat 0).cells) 48)],[Z 0 (.sl 0 v),Z 1 (I i),Z 2 (.sl 1 u.v),Z 7 (.bx 2 L 0),Z 17 (I (at' f.flat 0).op),Z 79 (.v (.bool b))]⟩) U U (λ j=>?_) (λ j=>?_) ?_<;>try simp only[zb]at j<;>rw[e]at j
 ·exact AQ _ U U ⟨_,by rw[e];simp[j],rfl⟩
 ·exact AQ _ U U ⟨_,by rw[e];simp[j],rfl⟩
 rintro s ⟨b,H,rfl⟩
 refine A1 U (λ j=>?_) (λ j=>?_)
 ·have ho:=H.1 j
  omega
 have J: ¬(f.t.op=8\/f.t.op=9):=λ h=>by have:=H.2 h;rw[j]at this;cases this
 rw[if_neg J]at z
 refine CZ 0 (λ s=> ∃b:Bool,(b=true↔f.t.op=12\/f.t.op=13)/\s=⟨[(0,A7 v f.flat),(1,A7 u.v t.flat)],[(2,.box L (G9 (at' f.flat 0).cells) 48)],[Z 0 (.sl 0 v),Z 1 (I i),Z 2 (.sl 1 u.v),Z 7 (.bx 2 L 0),Z 17 (I (at' f.flat 0).op),Z 86 (.v (.bool b))]⟩) U U (λ l=>?_) (λ l=>?_) ?_<;>try simp only[zb]at l<;>rw[e]at l
 ·exact AQ _ U U ⟨_,by rw[e];simp[l],rfl⟩
 ·exact AQ _ U U ⟨_,by rw[e];simp[l],rfl⟩
 rintro s ⟨b,H,rfl⟩
 refine A1 U (λ l=>?_) (λ l=>?_)
 ·have ho:=H.1 l
  omega
 have K: ¬(f.t.op=12\/f.t.op=13):=λ h=>by have:=H.2 h;rw[l]at this;cases this
 rw[if_neg K]at z
 refine A1 U (λ q=>?_) (λ q=>?_)<;>simp only[zb]at q<;>rw[e]at q
 ·omega
 rw[if_neg q]at z
 rw[<-PR.ret (PG f.t i t)]at z
 refine KW [] [6] (λ _ (h:AJ)=>.sl 6 h.v) (λ _ _ _=>[]) z U U call97 U U (List.sublist_cons_self _ _) (hu:=λ _ _=>rfl) (hH:=λ _ _ _=>rfl) (λ w M hS hF=>by
   have:=BH6 f.node i u t hS Q (hF.get (k:=1) U) ha hs h1 W
   rw[show f.node.cells=(at' f.flat 0).cells by rw[G]]at this
   exact this) λ y jj hy z h6 _=>?_
 exact A2 z U U U λ w M' hX=>⟨h6,M',rfl,trivial,hX.le,hX.C8 [] U,AA (hX.f.get (k:=6) U) A3⟩
end Go.Proofs.YtnoegalemkbbbaaGreatDoor
