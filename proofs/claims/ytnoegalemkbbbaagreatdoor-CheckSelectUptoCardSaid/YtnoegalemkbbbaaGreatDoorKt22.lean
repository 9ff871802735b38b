/- Lemmas for the card. -/
import Derived.Test.YtnoegalemkbbbaaGreatDoorKt21
set_option linter.unusedVariables false
set_option linter.unusedSimpArgs false
set_option maxRecDepth 100000
set_option maxRecDepth 100000
namespace Go.Proofs.YtnoegalemkbbbaaGreatDoor
open Go.Proofs.Tryz
open Go.Eng Go.RowKit
abbrev jT(w0:World)(f t:Tf)(v:Value)(u:AJ):Prop:= ∀ {wv:World} {M0 M:Mem} {Rs:List HO},St w0 M0 wv M Rs->(A7 v f.flat).ok M->(A7 u.v t.flat).ok M->Calls prog 39 [v,i64 0,u.v].toArray wv (LX w0 M0 M Rs (FX f.size f 0 t))
theorem BI0{w0 l:World}{M0 M:Mem}{Rs:List HO}(b e:Nat)(v:Value)(u:AJ)(f t:Tf)(hS:St w0 M0 l M (aI b e v u.v++Rs))(n:(A7 v f.flat).ok M)(hu:(A7 u.v t.flat).ok M)(H:jT w0 f t v u):
  Calls prog 38 [.pointer (some ⟨b,0,none⟩),.pointer (some ⟨e,0,none⟩)].toArray l (LX w0 M0 M Rs (FX f.size f 0 t)):=by
 refine AE (Hr:=Rs) A8 func38 U ntmps38 [(0,A7 v f.flat),(1,A7 u.v t.flat)] [(8,.box b [.sl 0 v] 23),(9,.box e [.sl 1 u.v] 25)] [.bx 8 b 0,.bx 9 e 0] U hS (AA n (AA hu A3)) (λ B i=>?_) U
 rw[<-PR.ret (FX f.size f 0 t)]at i
 exact KW [] [6] (λ _ (h:AJ)=>.sl 6 h.v) (λ _ _ _=>[]) i U U call39 U U (((List.Sublist.refl _).cons _).cons _) (λ w M hS hF=>H hS (hF.get (k:=0) U) (hF.get (k:=1) U)) λ y s z i q _=>A2 i U U U λ w M' j=>⟨q,M',rfl,trivial,j.le,j.C8 [] U,AA (j.f.get (k:=6) U) A3⟩
theorem xW(f t:Tf)(v:Value)(us:AJ)(w:World)(M:Mem)(l:Sat w M)(i:(A7 v f.flat).ok M)(hu:(A7 us.v t.flat).ok M)(H:jT w f t v us):
  Calls prog 16 [v,us.v].toArray w (xB w M (KG f t)):=AE (Hr:=[]) A8 func16 U ntmps16 [(0,A7 v f.flat),(1,A7 us.v t.flat)] [] [.sl 0 v,.sl 1 us.v] U (Aj l) (AA i (AA hu A3)) (λ B n=>BO 8 U U U λ b=>BO 9 U U U λ e=>AU (.v (aJ 38 b e)) U U (λ w M j=>PV.makeFunc (xs:=[]) (ys:=[.tmp 2,.tmp 3]) (vs:=[]) (us:=[.pointer (some ⟨b,0,none⟩),.pointer (some ⟨e,0,none⟩)]) trivial ⟨AF (v:=.bx 8 b 0) (E:=[]) U,AF (v:=.bx 9 e 0) (E:=[]) U,trivial⟩) <|AY [8,9] (λ h:AJ=>.tu [.sl 5 h.v,I (KG f t).2.1,I (KG f t).2.2]) [5] (λ _=>[]) (Fg:=λ h=>[(0,A7 h.v (KG f t).1)]) (pu:=λ _=>True) U U call33 U U (λ w M hS hF=>xC call38 b e v us.v f t _ hS (hF.get (k:=0) U) (hF.get (k:=1) U) λ hS i hu=>BI0 b e v us f t hS i hu H) λ q _=>A2 n U U U λ w M' j=>⟨q,M',rfl,trivial,(j.C8 [] U).done,AA (j.f.get (k:=5) U) A3⟩) U
theorem BI1{n:Nat}{f:Tf}(h1:f.t.op=1)(hp:f.ps=[]):aE (FX (n+1)) f:=by
 intro i t y j he e h
 obtain⟨A,b⟩:=j8 e h
 have k:=t.size_eq
 have l:hF f=1:=by rw[TJ f,if_neg Aa,if_neg Aa,hp];rfl
 rw[l,Nat.mul_one]
 have he:R6 (FX n) f i t= .ok y j:=he
 unfold R6 at he
 rw[if_neg Aa,if_neg Aa,if_neg Aa,if_neg Aa,if_neg Aa,if_neg Aa,if_neg Aa,if_neg Aa]at he
 unfold PG at he
 rw[if_pos h1]at he
 split at he
 ·split at he
  ·rename_i q
   have:=PR.wO he
   subst this
   obtain⟨w,z⟩:=wX q
   have hm:at' (BD t) (JP (EY t) f.t.s)∈BD t:=by rw[z];exact aF (by rw[<-j3];exact w)
   have:=MN hm
   exact⟨Aa,(b _ hm).1,(b _ hm).2⟩
  ·cases he
 ·cases he
theorem xX{w0:World}(b:Gl w0)(t:Tf)(v:Value)(u:AJ)(s:t.t.op=5\/t.t.op=2)(e:BS t=true)(h:B4 t)(j:t.size*hF G7<=16777216):jT w0 G7 t v u:=λ hS k hu=>by
 have l:(at' (BE (at' (BE G7) 0)) 1).B2:=⟨by simp[G7,L1,Tf.zm,GS,BK,BE,at',Tf.named,Tf.ps],Ac⟩
 have q:B4 (at' (BE (at' (BE G7) 0)) 1):=by unfold B4 JA;decide+kernel
 exact BH8 (n:=4) G7 U 0 v u t (λ i v u t hS b k hu e h w h0 h1=>BH9 (n:=3) (at' (BE (at' (BE G7) 0)) 1) U i v u t l q hS b k hu e h w h0 h1) (BI1 (n:=3) U U) Ac s Ab Ab BC0 BC2 hS b k hu e h j Ab Ab
theorem jU(w:World)(hg:Gl w):
  Calls prog 11 [].toArray w λ e w'=>e= .returned (.bool true)/\Ext w w':=by
 obtain⟨a1,a2,a3⟩:=al1
 obtain⟨c1,c2⟩:=al3
 obtain⟨z1,hz1⟩: ∃z,z=(KG G7 N2).1:=⟨_,rfl⟩
 obtain⟨y1,hy1⟩: ∃z,z=(KG G7 N2).2.1:=⟨_,rfl⟩
 obtain⟨z2,hz2⟩: ∃z,z=(KG G7 R9).1:=⟨_,rfl⟩
 obtain⟨z3,hz3⟩: ∃z,z=(N1 L1 PI).1:=⟨_,rfl⟩
 obtain⟨y3,hy3⟩: ∃z,z=(N1 L1 PI).2.1:=⟨_,rfl⟩
 have e1:KG G7 N2=(z1,y1,0):=by rw[hz1,hy1];exact Prod.ext U (Prod.ext U a1)
 have e2:KG G7 R9=(z2,0,1):=by rw[hz2];exact Prod.ext U al2
 have e3:N1 L1 PI=(z3,y3,0):=by rw[hz3,hy3];exact Prod.ext U (Prod.ext U c1)
 rw[<-hz1]at a2 a3
 rw[<-hz3]at c2
 refine AE A8 func11 U ntmps11 [] [] [] U (BB w) A3 (λ B hB=>?_) U
 refine AZ 9 U zeroValue46 U λ b1=>?_
 refine B9 1 G7.flat Tm.cells 11 48 Tm.AO U U Ah U λ v1=>?_
 refine B9 2 N2.flat Tm.cells 11 52 Tm.AO U U Ah U λ v2=>?_
 refine B3 (λ h:AJ=>.tu [.sl 3 h.v,I y1,I 0]) [3] rfl rfl call16 rfl (hu:=λ _=>rfl) (λ w M hX=>by have h2:=hX.f.get (k:=2) rfl;obtain⟨u2,rfl⟩:=A7.shape h2;have:=xW G7 N2 v1 u2 w M hX.st.sat (hX.f.get (k:=1) rfl) h2 (xX (hg.low hX.st.low) N2 v1 u2 (.inl rfl) Ac BC4 Ab);rw[e1]at this;exact this) λ h3 _=>?_
 refine HP (gd:=none) 4 1 4 U U U ⟨.i64,_,rfl,AG U⟩ U underlying25 sizeOf52 Ab U λ v4=>?_
 refine B3 (λ h:AJ=>.tu [.sl 5 h.v,I 0,I 1]) [5] rfl rfl call16 rfl (hu:=λ _=>rfl) (λ w M hX=>by have h2:=hX.f.get (k:=4) rfl;obtain⟨u2,rfl⟩:=A7.shape h2;have:=xW G7 R9 v1 u2 w M hX.st.sat (hX.f.get (k:=1) rfl) h2 (xX (hg.low hX.st.low) R9 v1 u2 (.inr rfl) Ac BC5 Ab);rw[e2]at this;exact this) λ h5 _=>?_
 refine HP (gd:=none) 6 3 4 U U U ⟨.i64,_,rfl,AG U⟩ ⟨.i64,_,rfl,AG U⟩ underlying23 sizeOf48 Ab U λ v6=>?_
 refine B9 7 PI.flat Tm.cells 11 52 Tm.AO U U Ah U λ v7=>?_
 refine B3 (λ h:AJ=>.tu [.sl 8 h.v,I y3,I 0]) [8] U U call12 U (hu:=λ _=>rfl) (λ w M hX=>by have:=jE L1 PI v6 v7 w M hX.st.sat (hg.low hX.st.low) (hX.f.get (k:=6) U) (hX.f.get (k:=7) U) BC1 Ab BC3 Ac BC6 Ab;rw[e3]at this;exact this) λ h8 _=>?_
 have hall:((((((((0:Int)==0)&&(len z1==2))&&((at' z1 1).n==16))&&((0:Int)==0))&&((1:Int)==1))&&((0:Int)==0))&&(len z3==3))=true:=by rw[a2,a3,c2];rfl
 refine F9 (.v (.slice none 0 0)) U U (λ hn=>?_) (λ hn=>absurd (hn.symm.trans hall) Ab)
 refine B9 10 [jD [97]] Tm.cells 11 48 Tm.AO U U (hE1:=SX hn λ c hc=>by simpa using hc) Ah U λ v10=>?_
 refine F9 (.v (.slice none 0 0)) U U (λ hn=>?_) (λ hn=>absurd (hn.symm.trans hall) Ab)
 refine B3 (λ u:Value=>.sl 11 u) [11] (pu:=λ _=>True) (Fg:=λ u=>[(0,kn u 3 (GD [jD [97]]) Sp.cells)]) U U call28 U (λ w M hX=>(Az3 1 [jD [97]] (Nat.le_refl _) U (Aj hX.st.sat) (hX.f.get (k:=10) U) Ab).mono λ e w' ⟨u,M',h1,_,h3,h4,h5⟩=>⟨u,M',h1,trivial,h4.done,h5⟩) λ v11 _=>?_
 refine A2 hB U U U λ w M hX=>⟨?_,hX.st.low⟩
 dsimp only
 rw[a2,a3,c2];rfl
end Go.Proofs.YtnoegalemkbbbaaGreatDoor
namespace Go.Eng
theorem xY: ∀(n:Nat) (f:Tf),f.size<=n->f.B2-> ∀m∈f.flat,DN m=true
 |0,f,h,_=>by have:=f.size_pos;omega
 |n+1,f,h,hg=>λ m hm=>by
  rw[Tf.JL]at hm
  rcases List.mem_cons.1 hm with rfl|hm
  ·exact hg.plain
  ·obtain⟨y,e,b⟩:=vC.1 hm
   have:=MN e
   have:=f.size_eq
   exact xY n y Aa (hg.kids y e) m b
theorem BI2{c:Nd}(h:MR c=true)(b:len c.s<=200):CD (.mk c []):=by
 unfold MR at h
 simp only[Bool.and_eq_true,decide_eq_true_eq]at h
 refine⟨?_,λ n e=>?_,by show((1:Nat):Int)<=_;decide⟩
 ·rw[Tr.wf];exact⟨h.2.1.2,trivial⟩
 ·have:n=c:=by simpa[Tr.flat,F1]using e
  rw[this];exact jK h.2.2 b
theorem BI3{p:Tf}(hg:p.B2)(e:B4 p):jH p:=λ m hm b=>
 BI2 (aC (xY p.size p (Nat.le_refl _) hg m hm) b).2.2.2 (by have:=(e m hm).2.2;omega)
end Go.Eng
namespace Go.Proofs.YtnoegalemkbbbaaGreatDoor
open Go.Proofs.Tryz
open Go.Eng Go.RowKit
theorem BI4(f t:Fl)(q:Vl)(v s r:Value)(w:World)(M:Mem)(hM:Sat w M)(hgl:Gl w)(hv:(A7 v f).ok M)(hs:(A7 s t).ok M)(hq:(kn r 6 q Nd.cells).ok M)(hb:len f<=100000000000):
    Calls prog 5 [v,s,r].toArray w λ e w'=>e= .returned (.bool true)/\Ext w w':=by
 obtain⟨vs,rfl⟩:=A7.shape hv
 obtain⟨ss,rfl⟩:=A7.shape hs
 refine AE (Hr:=[]) A8 func5 U ntmps5 [(0,A7 vs.v f),(1,A7 ss.v t),(2,kn r 6 q Nd.cells)] [] [.sl 0 vs.v,.sl 1 ss.v,.sl 2 r] U (Aj hM) (AA hv (AA hs (AA hq A3))) (λ B hB=>?_) U
 refine B3 (λ h:AJ=>.sl 3 h.v) [3] U U call10 U (λ w M hX=>BH4 f vs w M hX.st.sat (hX.f.get (k:=0) U) hb) λ h3 _=>?_
 refine B3 (γ:=Bool) (pu:=λ b=>b=true->(∃x,W5 ({ BK 7 with many:=1}::f) x)/\ ∃y,aK t y) (Fg:=λ _=>[]) (λ b:Bool=>.v (.bool b)) [] U U call9 U (λ w M hX=>(BD4 _ t h3.v ss.v w M hX.st.sat (hX.f.get (k:=3) U) (hX.f.get (k:=1) U)).mono λ e w' he=>by
   obtain⟨⟨b,e1,e2⟩,e3⟩:=he
   exact⟨b,M,e1,e2,Grow.TP hX.st.sat e3,A3⟩) λ gb hbr=>?_
 refine AB (u:=.bool (OT 40 q)) U call15 U U (λ hW w M hX=>Ab2 q r 40 M w hX.st.sat (hX.sl 2 U) Ab Ab) U ?_
 refine A1 U (λ hb1=>?_) (λ hb1=>?_)
 ·refine AB U call11 U U (λ _ w M hX=>jU w (hgl.low hX.st.low)) U ?_
  exact A2 hB U U U λ w M hX=>⟨rfl,hX.st.low⟩
 have hgt:gb=true/\OT 40 q=true:=by simpa using hb1
 obtain⟨⟨W,hW⟩,t,ht⟩:=hbr hgt.1
 obtain rfl:=ht.eq
 obtain⟨x,rfl,hxg,hxn,hxw,hxs,hxq⟩:=BF0 Ab hgt.2
 obtain⟨p,hp1,hp2,hp3,hp4,hp5⟩: ∃p:Tf,f=p.flat/\p.B2/\EE p.t=true/\B4 p/\p.size<=40:=by
  have he:=hW.eq
  have h7:W.t.op=7:=by
   have:=congrArg (λ l=>(at' l 0).op) he
   rw[show(at' W.flat 0).op=W.t.op by rw[W.BA];rfl]at this
   exact this.symm
  obtain⟨p,e⟩:=hW.B2.one (.inr (.inr (.inl h7)))
  have hk:=hW.B2.HV [] p [] (by rw[e];rfl)
  have hz:=W.size_eq
  rw[e,AK,AK]at hz
  have hws:=hW.size
  refine⟨p,?_,hW.B2.kids p (by rw[e];simp),by rw[hk.c,h7];simp,hW.sh.kids p (by rw[e];simp),Aa⟩
  rw[Tf.JL W,e]at he
  have:=(List.cons.inj he).2
  rw[this];show p.flat++[]=_;simp
 subst hp1
 have hts:=ht.size
 have hpz:=G6 p
 obtain⟨o,ho⟩: ∃o,o=DX p 0 t true:=⟨_,rfl⟩
 have FK:N1 p t=TM o:=by rw[ho];rfl
 cases o with
 |er e why=>
  obtain⟨q1,q2,q3⟩:=aL p ho.symm
  refine B3 (λ h:AJ=>.tu [.sl 4 h.v,I e,I why]) [4] (Fg:=λ h=>[(0,A7 h.v [])]) (pu:=λ _=>True) U U call12 U (hu:=λ _=>rfl) (λ w M hX=>by
   have:=jE p t vs.v ss.v w M hX.st.sat (hgl.low hX.st.low) (hX.f.get (k:=0) U) (hX.f.get (k:=1) U) hp2 hp3 hp4 ht.ar ht.sh Aa
   rw[FK]at this;exact this) λ h4 _=>?_
  refine A1 U (λ h5=>?_) (λ h5=>?_)<;>simp only[zb]at h5
  ·refine AB U call11 U U (λ _ w M hX=>jU w (hgl.low hX.st.low)) U ?_
   refine A2 hB U U U λ w M hX=>⟨?_,hX.st.low⟩
   have a1:decide (e>=0)=true:=decide_eq_true q1
   have a2:decide (e<len p.flat)=true:=decide_eq_true Aa
   have a3:(why==4||why==5)=true:=by rcases q3 with h|h<;>rw[h]<;>rfl
   show Ending.returned (.bool (true&&len ([]:Fl)==0&&decide (0<=e)&&decide (e<len p.flat)&&(why==4||why==5)))=_
   rw[a3,a2,show decide (0<=e)=true from a1];rfl
  ·omega
 |ok y j=>
  have hS:=aP p hp2 hp3 ho.symm
  obtain⟨him,_⟩:=PH p ho.symm hp4 ht.ar ht.sh
  have hys:=him.size
  have hyz:=G6 y
  have hyr:y.VP:=⟨hS.zm ht.B2.right.zm,by rw[hS.tt];exact ht.B2.right.name,by rw[hS.tt];exact ht.B2.right.op,hS.all ht.B2.right.all⟩
  have htw:I5 t:=xN ht.B2.right.all ht.B2.right.op ht.sh Aa
  have hyw:I5 y:=xN hyr.all hyr.op him.sh Aa
  refine B3 (λ h:AJ=>.tu [.sl 4 h.v,I 0,I 0]) [4] (Fg:=λ h=>[(0,A7 h.v y.flat)]) (pu:=λ _=>True) U U call12 U (hu:=λ _=>rfl) (λ w M hX=>by
   have:=jE p t vs.v ss.v w M hX.st.sat (hgl.low hX.st.low) (hX.f.get (k:=0) U) (hX.f.get (k:=1) U) hp2 hp3 hp4 ht.ar ht.sh Aa
   rw[FK]at this;exact this) λ h4 _=>?_
  refine A1 U (λ h5=>?_) (λ h5=>?_)<;>simp only[zb]at h5
  ·exact absurd trivial h5
  refine AB (u:=.bool true) U call20 U U (λ _ w M hX=>BH1 y hyr h4.v M w hX.st.sat (hX.f.get (k:=4) U) Aa (λ m hm=>by have:=him.sh m hm;omega)) U ?_
  refine A1 U (λ h6=>nomatch h6) (λ h6=>?_)
  refine AB (u:=.bool (BG t x)) U call18 U U (λ _ w M hX=>jR t.size t (Nat.le_refl _) htw x hxw _ _ w M hX.st.sat (hX.f.get (k:=1) U) (hX.f.get (k:=2) U)) U ?_
  refine CZ 0 (λ st=>True/\st=⟨[(0,A7 vs.v p.flat),(1,A7 ss.v t.flat),(2,kn r 6 x.flat Nd.cells),(4,A7 h4.v y.flat)],[],[Z 0 (.sl 0 vs.v),Z 1 (.sl 1 ss.v),Z 2 (.sl 2 r),Z 7 (.sl 4 h4.v),Z 10 (.v (.bool (BG y x)))]⟩) U U (λ h7=>?_) (λ h7=>?_) ?_
  ·obtain⟨b,hbv⟩:=hS.has x h7
   have hby:BG y x=b:=by rw[hS.iff x,hbv,h7];cases b<;>rfl
   refine B3 (γ:=Unit) (λ _=>.tu [.v (.bool b),I 0]) [] (Fg:=λ _=>[]) (pu:=λ _=>True) U U call21 U (hu:=λ _=>rfl) (λ w M hX=>(BE6 p.size p vs.v r x w M (Nat.le_refl _) hp2 hp3 hp4 (BI3 hp2 hp4) hxw Aa hX.st.sat (hX.f.get (k:=0) U) (hX.f.get (k:=2) U)).mono λ e w' he=>by
    rw[hbv]at he
    exact⟨(),M,he.1,trivial,Grow.TP hX.st.sat he.2,A3⟩) λ _ _=>?_
   refine A1 U (λ h8=>?_) (λ h8=>?_)<;>simp only[zb]at h8
   ·exact absurd trivial h8
   rw[hby]
   exact AQ _ U U ⟨trivial,rfl⟩
  ·have hby:BG y x=false:=by rw[hS.iff x,h7];rfl
   rw[hby]
   exact AQ _ U U ⟨trivial,rfl⟩
  rintro st ⟨_,rfl⟩
  refine AB (u:=.bool true) U call11 U U (λ _ w M hX=>jU w (hgl.low hX.st.low)) U ?_
  refine AB (u:=.bool (BG y x)) U call18 U U (λ _ w M hX=>jR y.size y (Nat.le_refl _) hyw x hxw _ _ w M hX.st.sat (hX.f.get (k:=4) U) (hX.f.get (k:=2) U)) U ?_
  refine A2 hB U U U λ w M hX=>⟨?_,hX.st.low⟩
  show Ending.returned (.bool (BG y x==BG y x))=_
  rw[beq_self_eq_true]
end Go.Proofs.YtnoegalemkbbbaaGreatDoor
namespace Go.Proofs.YtnoegalemkbbbaaGreatDoor.checkSelect
open Go.Proofs.Tryz
open Go.ChangeShapes Go.WideShapes Go.ChangeAt Go.RowKit Go.Eng
noncomputable abbrev jP:=prog
noncomputable abbrev jf:FuncId:=5
noncomputable abbrev I6:=Tryz.f5
noncomputable abbrev js:=Rows.checkSelectSpec
noncomputable abbrev jc:=Rows.checkSelectUptoRow
theorem jk0:jc.wf (OpenSpec.ofChange js)=true:=by kernel_rfl
theorem jk1:laidOutB jP=true:=by kernel_rfl
theorem jk2:mapsRowed jP=true:=by kernel_rfl
theorem jk3:I6.params.all (jP.readableRec ·)=true:=by kernel_rfl
theorem jk4:namedTie jP jc.named js.vars=true:=by kernel_rfl
theorem jk5:(jc.stops==[])=true:=by kernel_rfl
theorem jk6:(jP.stops==[])=true:=by kernel_rfl
theorem jk7:(jc.knobs==[])=true:=by kernel_rfl
theorem jk8:(jP.stopKnobs==[])=true:=by kernel_rfl
theorem jk9:(jc.inPlace==jP.inPlace jf)=true:=by kernel_rfl
theorem BJ5:(jc.unfollowed==jP.unfollowed jf)=true:=by kernel_rfl
theorem BJ6:(jc.recurses==jP.recurses jf)=true:=by kernel_rfl
theorem BJ7:(jc.named==jP.varsNamed jf)=true:=by kernel_rfl
theorem BJ8:(jc.maps==(I6.params.toList++js.plain.varTypes jP).any (jP.mapsRec ·))=true:=by kernel_rfl
theorem BJ9:(jc.ifaces==(I6.params.toList++js.plain.varTypes jP).any (jP.ifacesRec ·))=true:=by kernel_rfl
theorem BK0:(jc.mapsOut==jP.mapsAmong I6.resultTypes.toList)=true:=by kernel_rfl
theorem BK1:(jc.loops==(I6.params.toList++js.plain.varTypes jP).any (jP.loopsFrom ·))=true:=by kernel_rfl
theorem BK2:(jc.wideKeys==(I6.params.toList++js.plain.varTypes jP++I6.resultTypes.toList).any (jP.wideKeysFrom ·))=true:=by kernel_rfl
theorem BK3:js.vars.all (jP.varReadable ·)=true:=by kernel_rfl
theorem BK4:I6.resultTypes.all (λ t=>jP.readableRec t&&decide (t<jP.types.size))=true:=by kernel_rfl
theorem BK5:(jc.ifacesOut==I6.resultTypes.toList.any (jP.ifacesRec ·))=true:=by kernel_rfl
theorem BK6:(jc.loopsOut==I6.resultTypes.toList.any (jP.loopsFrom ·))=true:=by kernel_rfl
theorem BK7:(jc.plainKeys==jP.plainKeys)=true:=by kernel_rfl
theorem BK8:jc.shortTexts.isNone=true:=by kernel_rfl
theorem BK9:jP.stopsHeard=true:=by kernel_rfl
theorem BL0:jP.mayEnter=true:=by kernel_rfl
theorem BL1:(jc.lifted==jP.liftsFinal)=true:=by kernel_rfl
theorem BL2:(jP.make==some jc.make)=true:=by kernel_rfl
theorem BL3:(jc.kinds==(if jc.domain.isEmpty then []else I6.params.toList.map λ t=>match jP.underlying t with|some (.int k)=>some k|_=>none))=true:=by kernel_rfl
theorem BL4:(jc.pinned==jc.pinnedBy)=true:=by kernel_rfl
theorem BL5:(jc.veiled==(I6.params.toList++js.plain.varTypes jP++I6.resultTypes.toList).any (jP.veiledRec ·))=true:=by kernel_rfl
theorem BL6:jc.veiledFits jP I6.params.toList (I6.params.toList++js.plain.varTypes jP++I6.resultTypes.toList)=true:=by kernel_rfl
theorem DY{a b:Bool}(h:a=true)(e:b=true):(a&&b)=true:=by rw[h,e];rfl
theorem jV:joinedFacts jP jf I6 js jc=true:=(DY (DY (DY (DY (DY (DY (DY (DY (DY (DY (DY (DY (DY (DY (DY (DY (DY (DY (DY (DY (DY (DY (DY (DY (DY (DY (DY (DY (DY (DY (DY jk0 jk1) jk2) jk3) jk4) jk5) jk6) jk7) jk8) jk9) BJ5) BJ6) BJ7) BJ8) BJ9) BK0) BK1) BK2) BK3) BK4) BK5) BK6) BK7) BK8) BK9) BL0) BL1) BL2) BL3) BL4) BL5) BL6)
end Go.Proofs.YtnoegalemkbbbaaGreatDoor.checkSelect
