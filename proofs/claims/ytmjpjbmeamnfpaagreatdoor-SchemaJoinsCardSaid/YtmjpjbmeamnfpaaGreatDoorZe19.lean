/-
  Parts Qa L4, put together and made short by wip/py/merge.py (mini.py).
-/
import Derived.Test.YtmjpjbmeamnfpaaGreatDoorZe18
import Derived.Test.YtmjpjbmeamnfpaaGreatDoorZe12
import Derived.Test.YtmjpjbmeamnfpaaGreatDoorZe7
import Derived.Test.YtmjpjbmeamnfpaaGreatDoorZe15
import Derived.Test.YtmjpjbmeamnfpaaGreatDoorZe4
import Derived.Laws.BitsLemmas
import Derived.Test.YtmjpjbmeamnfpaaGreatDoorZe3
import Derived.Test.YtmjpjbmeamnfpaaGreatDoorProg
import Derived.Test.YtmjpjbmeamnfpaaGreatDoorZe14
import Derived.Test.YtmjpjbmeamnfpaaGreatDoorZe0
set_option linter.unusedVariables false
set_option linter.unusedSimpArgs false
set_option maxRecDepth 100000
namespace Go.Proofs.YtmjpjbmeamnfpaaGreatDoor
open Go.Eng
theorem vU{P:Program}{f:FuncId}{args:Array Value}{w:World}{u:Value}(h:Calls P f args w λ e w'=>e= .returned u/\w'=w):Calls P f args w λ e w'=>e= .returned u/\Ext w w':=h.mono λ e w' ⟨h1,h2⟩=>⟨h1,by rw[h2];exact .refl _⟩
theorem mix:Tryz.prog.follows .mixedOrders=true:=by kernel_rfl
theorem vV(neg:Bool)(s:A1)(x:Int)(w:World)(hg:Gl w)(hb:len s<=1099511627776):
   Calls Tryz.prog 121 [.bool neg,str s,i64 x].toArray w λ e w'=>e= .returned (.tuple #[MB (EG neg s x).1,i64 (EG neg s x).2])/\Ext w w':=by
 have hl5:=eA s
 have hl1:=e9 s
 have hl2:=qV (AZ s)
 have hl3:=A8 (AZ s)
 have hl4:=A8 (CY (AZ s))
 refine B3 AX Tryz.func121 U Tryz.ntmps121 [] [] [.v (.bool neg),.v (str s),I x] U (GG w) AA (λ B hB=>?_) U
 refine CL 1 U (A0 U) (by omega) Tryz.zeroValue46 U λ bb=>?_
 refine BE U (A0 U) (by omega) Tryz.call158 U U (A0 U) (λ _ w M hX=>gK s w (hg.low hX.st.low) (by omega)) U ?_
 refine AB U (A0 U) (by omega) (λ h1=>?_) (λ h1=>?_)<;>simp only[zb]at h1
 ·exact AH hB U U (A0 U) (by omega) U (A0 U) λ w M hX=>⟨by unfold EG;rw[h1];rfl,hX.st.low⟩
 refine BE (u:=str (AZ s)) U (A0 U) (by omega) Tryz.call47 U U (A0 U) (λ _ w M hX=>T1 s [48] w (by decide) (RD (by decide))) U ?_
 refine AB (b:=AZ s==[]) U (A0 U) (by omega) (λ h2=>?_) (λ h2=>?_)
 ·exact AH hB U U (A0 U) (by omega) U (A0 U) λ w M hX=>⟨by unfold EG;rw[if_pos h1,if_pos h2];rfl,hX.st.low⟩
 have h2': ¬(AZ s==[])=true:=by rw[h2];decide
 refine AB U (A0 U) (by omega) (λ h3=>?_) (λ h3=>?_)
 ·exact AH hB U U (A0 U) (by omega) U (A0 U) λ w M hX=>⟨by unfold EG;rw[if_pos h1,if_neg h2',if_pos h3];rfl,hX.st.low⟩
 have h3':=Bool.eq_false_iff.1 h3
 simp only[zb]at h3
 refine BE (u:=str (CY (AZ s))) U (A0 U) (by omega) Tryz.call159 U U (A0 U) (λ _ w M hX=>oM (AZ s) [48] w (by omega) (by decide) (RD (by decide))) U ?_
 refine BE (u:=.bool (decide (-1000<=x+(len (AZ s)-len (CY (AZ s))))&&decide (x+(len (AZ s)-len (CY (AZ s)))<=1000)&&decide (len (CY (AZ s))+(x+(len (AZ s)-len (CY (AZ s))))<=1000))) U (A0 U) (by show _/\_;simp only[zb]<;>omega) Tryz.call160 U U (A0 U) (λ _ w M hX=>vU (gL (len (CY (AZ s))) (x+(len (AZ s)-len (CY (AZ s)))) w (by omega))) U ?_
 have hz5:=hl5
 refine AB U (A0 U) (by omega) (λ h4=>?_) (λ h4=>?_)<;>simp only[zb]at h4
 ·exact AH hB U U (A0 U) (by omega) U (A0 U) λ w M hX=>⟨by unfold EG;rw[if_pos h1,if_neg h2',if_neg h3',if_pos (by simp only[zb];have:=hz5 (by simpa using h2);omega)];rfl,hX.st.low⟩
 ·exact AH hB U U (A0 U) (by omega) U (A0 U) λ w M hX=>⟨by unfold EG;rw[if_pos h1,if_neg h2',if_neg h3',if_neg (by simp only[zb];omega)];rfl,hX.st.low⟩
theorem Z2{w wv:World}{M0 M:Mem}{Rs:List HO}(s:A1)(p:Int)(bp bs:Nat)(hS:St w M0 wv M ([.box bp [i64 p] 3,.box bs [str s] 9]++Rs))(h0:0<=p)(h1:p<=len s)(hb:len s<=9223372036854775807):
  Calls Tryz.prog 116 [.pointer (some ⟨bp,0,none⟩),.pointer (some ⟨bs,0,none⟩)].toArray wv (CX w M0 M Rs (λ _:Unit=>str (Eng.sub s p (AJ s p))) (λ _=>True) (λ _=>[]) λ _=>[.box bp [i64 (AJ s p)] 3,.box bs [str s] 9]):=
 (uJ s p bp bs hS h0 h1 hb).mono λ e w' ⟨v,he,hv,hs⟩=>⟨(),M,by rw[he,hv],trivial,λ _ _ _ h=>h,hs,AA⟩
theorem RE{w wv:World}{M0 M:Mem}{Rs:List HO}(s signs:A1)(p:Int)(bp bs:Nat)(hS:St w M0 wv M ([.box bp [i64 p] 3,.box bs [str s] 9]++Rs))(h0:0<=p)(h1:p<=len s)(hb:len s<9223372036854775807):
  Calls Tryz.prog 118 [str signs,.pointer (some ⟨bp,0,none⟩),.pointer (some ⟨bs,0,none⟩)].toArray wv (CX w M0 M Rs (λ _:Unit=>.bool (BV s signs p)) (λ _=>True) (λ _=>[]) λ _=>[.box bp [i64 (B4 s signs p)] 3,.box bs [str s] 9]):=
 (uK s signs p bp bs hS h0 h1 hb).mono λ e w' ⟨v,he,hv,hs⟩=>⟨(),M,by rw[he,hv],trivial,λ _ _ _ h=>h,hs,AA⟩
theorem gV(s:A1)(w:World)(hg:Gl w)(hb:len s<=1099511627776):
    Calls Tryz.prog 80 [str s].toArray w λ e w'=>e= .returned (.tuple #[MB (BY s).1,i64 (BY s).2.1,i64 (BY s).2.2])/\Ext w w':=by
 have hl0:=A8 s
 refine B3 AX Tryz.func80 U Tryz.ntmps80 [] [] [.v (str s)] U (GG w) AA (λ B hB=>?_) U
 refine F6 1 U (A0 U) (by omega) U U (A0 U) λ b1=>?_
 refine CL 2 U (A0 U) (by omega) Tryz.zeroValue46 U λ b2=>?_
 refine CL 5 U (A0 U) (by omega) Tryz.zeroValue3 U λ b5=>?_
 refine DT (.v (.func (.func 116) #[] #[.pointer (some ⟨b5,0,none⟩),.pointer (some ⟨b1,0,none⟩)])) U (A0 U) (by omega) U (λ w M hX=>PV.makeFunc (xs:=[]) (ys:=[.tmp 5,.tmp 1]) (vs:=[]) (us:=[.pointer (some ⟨b5,0,none⟩),.pointer (some ⟨b1,0,none⟩)]) trivial ⟨AT (v:=.bx 5 b5 0) (E:=[]) U (A0 U),AT (v:=.bx 1 b1 0) (E:=[]) U (A0 U),trivial⟩) ?_
 refine DT (.v (.func (.func 118) #[] #[.pointer (some ⟨b5,0,none⟩),.pointer (some ⟨b1,0,none⟩)])) U (A0 U) (by omega) U (λ w M hX=>PV.makeFunc (xs:=[]) (ys:=[.tmp 5,.tmp 1]) (vs:=[]) (us:=[.pointer (some ⟨b5,0,none⟩),.pointer (some ⟨b1,0,none⟩)]) trivial ⟨AT (v:=.bx 5 b5 0) (E:=[]) U (A0 U),AT (v:=.bx 1 b1 0) (E:=[]) U (A0 U),trivial⟩) ?_
 obtain⟨neg,hneg⟩: ∃n,n=BV s [45] 0:=⟨_,rfl⟩
 obtain⟨a0,ha0⟩: ∃a,a=B4 s [45] 0:=⟨_,rfl⟩
 have ha:=LI s [45] 0 hl0
 refine B9 [5,1] (λ _=>.v (.bool neg)) [] (λ _=>[(5,.box b5 [I a0] 3),(1,.box b1 [.v (str s)] 9)]) U (A0 U) (by omega) U Tryz.call118 U U (A0 U) U (λ w M hS hF=>RE s [45] 0 b5 b1 hS (by omega) (by omega) (by omega)) (λ _=>by rw[hneg];rfl) (λ _=>by rw[ha0];rfl) λ _ _=>?_
 rw[<-ha0]at ha
 obtain⟨b0,hb0⟩: ∃b,b=AJ s a0:=⟨_,rfl⟩
 have hbb:=IY s a0 (by omega) (by omega)
 refine B9 [5,1] (λ _=>.v (str (Eng.sub s a0 b0))) [] (λ _=>[(5,.box b5 [I b0] 3),(1,.box b1 [.v (str s)] 9)]) U (A0 U) (by omega) U Tryz.call116 U U (A0 U) U (λ w M hS hF=>Z2 s a0 b5 b1 hS (by omega) (by omega) (by omega)) (λ _=>by rw[hb0];rfl) (λ _=>by rw[hb0];rfl) λ _ _=>?_
 rw[<-hb0]at hbb
 have hfl:=FX (s:=s) (i:=a0) (j:=b0) (by omega) (by omega) (by omega)
 have hR:BY s=(if 1<len (Eng.sub s a0 b0)/\A2 (Eng.sub s a0 b0) 0=48 then(AY,a0+1,1)else if Eng.sub s a0 b0=[]then(AY,b0,1)else if BV s [46] b0 then(if Eng.sub s (B4 s [46] b0) (AJ s (B4 s [46] b0))=[]then(AY,AJ s (B4 s [46] b0),1)else GH s neg (Eng.sub s a0 b0++Eng.sub s (B4 s [46] b0) (AJ s (B4 s [46] b0))) (-(len (Eng.sub s (B4 s [46] b0) (AJ s (B4 s [46] b0))))) (AJ s (B4 s [46] b0)))else GH s neg (Eng.sub s a0 b0) 0 (B4 s [46] b0)):=by rw[hneg,hb0,ha0];rfl
 refine AB U (A0 U) (by simp only[zb]<;>omega) (λ h1=>?_) (λ h1=>?_)
 ·simp only[zb]at h1
  refine AH hB U U (A0 U) (by omega) U (A0 U) λ w M hX=>⟨?_,hX.st.low⟩
  rw[hR,if_pos h1];rfl
 have h1': ¬(1<len (Eng.sub s a0 b0)/\A2 (Eng.sub s a0 b0) 0=48):=by simp only[zb]at h1;omega
 rw[if_neg h1']at hR
 refine gU 14 (λ st=> ∃(bad:Bool) (fg:A1) (x q:Int),0<=q/\q<=len s/\len fg<=len s/\ -(len s)<=x/\x<=0/\BY s=(if bad=true then(AY,q,1)else GH s neg fg x q)/\st=⟨[],[(5,.box b5 [I q] 3),(1,.box b1 [.v (str s)] 9),(2,.box b2 [I 0,I 0,.v (str []),.v (str []),.v (.bool false),I 0] 46)],[Z 1 (.bx 1 b1 0),Z 2 (.bx 2 b2 0),Z 5 (.bx 5 b5 0),Z 6 (.v (.func (.func 116) #[] #[.pointer (some ⟨b5,0,none⟩),.pointer (some ⟨b1,0,none⟩)])),Z 7 (.v (.func (.func 118) #[] #[.pointer (some ⟨b5,0,none⟩),.pointer (some ⟨b1,0,none⟩)])),Z 8 (.v (.bool neg)),Z 10 (.v (str fg)),Z 11 (.v (.bool bad)),Z 12 (I x)]⟩) U (A0 U) (by simp only[zb]<;>omega) ?_ ?_
 ·refine IX (.v (.bool false)) U (A0 U) (by omega) U (λ h2=>?_) (λ h2=>?_)
  ·have hne: ¬Eng.sub s a0 b0=[]:=by simpa using h2
   rw[if_neg hne]at hR
   obtain⟨p0,hp0⟩: ∃p,p=B4 s [46] b0:=⟨_,rfl⟩
   have hpb:=LI s [46] b0 (by omega)
   refine B9 [5,1] (λ _=>.v (.bool (BV s [46] b0))) [] (λ _=>[(5,.box b5 [I p0] 3),(1,.box b1 [.v (str s)] 9)]) U (A0 U) (by omega) U Tryz.call118 U U (OE h2 U) U (λ w M hS hF=>RE s [46] b0 b5 b1 hS (by omega) (by omega) (by omega)) (λ _=>rfl) (λ _=>by rw[hp0];rfl) λ _ _=>?_
   rw[<-hp0]at hpb hR
   refine AB U (A0 U) (by omega) (λ h3=>?_) (λ h3=>?_)
   ·have h3':BV s [46] b0=true:=by simpa[hne]using h3
    rw[if_pos h3']at hR
    obtain⟨q0,hq0⟩: ∃q,q=AJ s p0:=⟨_,rfl⟩
    have hqb:=IY s p0 (by omega) (by omega)
    refine B9 [5,1] (λ _=>.v (str (Eng.sub s p0 q0))) [] (λ _=>[(5,.box b5 [I q0] 3),(1,.box b1 [.v (str s)] 9)]) U (A0 U) (by omega) U Tryz.call116 U U (A0 U) U (λ w M hS hF=>Z2 s p0 b5 b1 hS (by omega) (by omega) (by omega)) (λ _=>by rw[hq0];rfl) (λ _=>by rw[hq0];rfl) λ _ _=>?_
    rw[<-hq0]at hqb hR
    have hpl:=FX (s:=s) (i:=p0) (j:=q0) (by omega) (by omega) (by omega)
    refine BF _ U (A0 U) (by omega) U ⟨(Eng.sub s p0 q0==[]),Eng.sub s a0 b0++Eng.sub s p0 q0,-(len (Eng.sub s p0 q0)),q0,by omega,by omega,by rw[AG];omega,by omega,by omega,?_,rfl⟩
    rw[hR];simp only[beq_iff_eq]
   ·have h3': ¬BV s [46] b0=true:=by simpa[hne]using h3
    rw[if_neg h3']at hR
    have hpe:p0=b0:=by rw[hp0];exact MQ (by simpa using h3')
    exact BF _ U (A0 U) (by omega) U ⟨(Eng.sub s a0 b0==[]),Eng.sub s a0 b0,0,p0,by omega,by omega,by omega,by omega,by omega,by rw[hR,if_neg (by simpa using hne)],rfl⟩
  ·have he:Eng.sub s a0 b0=[]:=by simpa using h2
   rw[if_pos he]at hR
   refine AB U (A0 U) (by omega) (λ h3=>?_) (λ h3=>?_)
   ·simp at h3
   ·exact BF _ U (A0 U) (by omega) U ⟨_,_,0,b0,by omega,by omega,by omega,by omega,by omega,by rw[hR,he];rfl,rfl⟩
 rintro _ ⟨bad,fg,x,q,hq0,hq1,hfg,hx0,hx1,hR1,rfl⟩
 refine gU 6 (λ st=> ∃(bad:Bool) (pw:A1) (sd q:Int),0<=q/\q<=len s/\len pw<=len s/\(∀b∈pw,DP b=true)/\(sd=1\/sd= -1)/\BY s=(if bad=true\/q<len s then(AY,q,1)else IZ neg fg x pw sd)/\st=⟨[],[(5,.box b5 [I q] 3),(1,.box b1 [.v (str s)] 9),(2,.box b2 [I 0,I 0,.v (str []),.v (str []),.v (.bool false),I 0] 46)],[Z 1 (.bx 1 b1 0),Z 2 (.bx 2 b2 0),Z 5 (.bx 5 b5 0),Z 6 (.v (.func (.func 116) #[] #[.pointer (some ⟨b5,0,none⟩),.pointer (some ⟨b1,0,none⟩)])),Z 7 (.v (.func (.func 118) #[] #[.pointer (some ⟨b5,0,none⟩),.pointer (some ⟨b1,0,none⟩)])),Z 8 (.v (.bool neg)),Z 10 (.v (str fg)),Z 11 (.v (.bool bad)),Z 12 (I x),Z 14 (.v (str pw)),Z 15 (I sd)]⟩) U (A0 U) (by simp only[zb]<;>omega) ?_ ?_
 ·refine IX (.v (.bool false)) U (A0 U) (by omega) U (λ h2=>?_) (λ h2=>?_)
  ·have hbf:bad=false:=by simpa using h2
   subst hbf
   rw[if_neg (by decide)]at hR1
   obtain⟨c0,hc0⟩: ∃c,c=B4 s [101,69] q:=⟨_,rfl⟩
   have hcb:=LI s [101,69] q (by omega)
   refine B9 [5,1] (λ _=>.v (.bool (BV s [101,69] q))) [] (λ _=>[(5,.box b5 [I c0] 3),(1,.box b1 [.v (str s)] 9)]) U (A0 U) (by omega) U Tryz.call118 U U (A0 U) U (λ w M hS hF=>RE s [101,69] q b5 b1 hS (by omega) (by omega) (by omega)) (λ _=>rfl) (λ _=>by rw[hc0];rfl) λ _ _=>?_
   rw[<-hc0]at hcb
   refine AB U (A0 U) (by omega) (λ h3=>?_) (λ h3=>?_)
   ·have h3':BV s [101,69] q=true:=by simpa using h3
    have hR2:BY s=MR s neg fg x c0:=by rw[hR1,hc0];unfold GH;rw[if_pos h3']
    obtain⟨c1,hc1⟩: ∃c,c=B4 s [45] c0:=⟨_,rfl⟩
    have hcb1:=LI s [45] c0 (by omega)
    refine B9 [5,1] (λ _=>.v (.bool (BV s [45] c0))) [] (λ _=>[(5,.box b5 [I c1] 3),(1,.box b1 [.v (str s)] 9)]) U (A0 U) (by omega) U Tryz.call118 U U (A0 U) U (λ w M hS hF=>RE s [45] c0 b5 b1 hS (by omega) (by omega) (by omega)) (λ _=>rfl) (λ _=>by rw[hc1];rfl) λ _ _=>?_
    rw[<-hc1]at hcb1
    refine HH 0 (λ st=> ∃(sd c:Int),0<=c/\c<=len s/\(sd=1\/sd= -1)/\MR s neg fg x c0=(if Eng.sub s c (AJ s c)=[]\/AJ s c<len s then(AY,AJ s c,1)else IZ neg fg x (Eng.sub s c (AJ s c)) sd)/\st=⟨[],[(5,.box b5 [I c] 3),(1,.box b1 [.v (str s)] 9),(2,.box b2 [I 0,I 0,.v (str []),.v (str []),.v (.bool false),I 0] 46)],[Z 1 (.bx 1 b1 0),Z 2 (.bx 2 b2 0),Z 5 (.bx 5 b5 0),Z 6 (.v (.func (.func 116) #[] #[.pointer (some ⟨b5,0,none⟩),.pointer (some ⟨b1,0,none⟩)])),Z 7 (.v (.func (.func 118) #[] #[.pointer (some ⟨b5,0,none⟩),.pointer (some ⟨b1,0,none⟩)])),Z 8 (.v (.bool neg)),Z 10 (.v (str fg)),Z 12 (I x),Z 15 (I sd)]⟩) U (A0 U) (by omega) U (λ h4=>?_) (λ h4=>?_) ?_
    ·exact BF _ U (A0 U) (by omega) U ⟨-1,c1,by omega,by omega,.inr U,by unfold MR;dsimp only;rw[h4,<-hc1];rfl,rfl⟩
    ·obtain⟨c2,hc2⟩: ∃c,c=B4 s [43] c1:=⟨_,rfl⟩
     have hcb2:=LI s [43] c1 (by omega)
     refine B9 [5,1] (λ _=>.v (.bool (BV s [43] c1))) [] (λ _=>[(5,.box b5 [I c2] 3),(1,.box b1 [.v (str s)] 9)]) U (A0 U) (by omega) U Tryz.call118 U U (A0 U) U (λ w M hS hF=>RE s [43] c1 b5 b1 hS (by omega) (by omega) (by omega)) (λ _=>rfl) (λ _=>by rw[hc2];rfl) λ _ _=>?_
     rw[<-hc2]at hcb2
     exact BF _ U (A0 U) (by omega) U ⟨1,c2,by omega,by omega,.inl U,by unfold MR;dsimp only;rw[h4,<-hc1,<-hc2];rfl,rfl⟩
    rintro _ ⟨sd,c,hd0,hd1,hsd,hex,rfl⟩
    obtain⟨q2,hq2⟩: ∃q,q=AJ s c:=⟨_,rfl⟩
    have hqb:=IY s c (by omega) (by omega)
    have hpf:=QM (s:=s) (i:=c) (by omega)
    refine B9 [5,1] (λ _=>.v (str (Eng.sub s c q2))) [] (λ _=>[(5,.box b5 [I q2] 3),(1,.box b1 [.v (str s)] 9)]) U (A0 U) (by omega) U Tryz.call116 U U (A0 U) U (λ w M hS hF=>Z2 s c b5 b1 hS (by omega) (by omega) (by omega)) (λ _=>by rw[hq2];rfl) (λ _=>by rw[hq2];rfl) λ _ _=>?_
    rw[<-hq2]at hqb hpf hex
    have hpl:=FX (s:=s) (i:=c) (j:=q2) (by omega) (by omega) (by omega)
    exact BF _ U (A0 U) (by omega) U ⟨(Eng.sub s c q2==[]),Eng.sub s c q2,sd,q2,by omega,by omega,by omega,hpf,hsd,by rw[hR2,hex];simp only[beq_iff_eq],rfl⟩
   ·have h3': ¬BV s [101,69] q=true:=by simpa using h3
    have hce:c0=q:=by rw[hc0];exact MQ (by simpa using h3')
    refine BF _ rfl (A0 rfl) (by omega) rfl ⟨false,[],1,c0,by omega,by omega,by rw[len_nil];omega,(λ b hb=>by cases hb),.inl rfl,?_,rfl⟩
    rw[hR1];unfold GH;rw[if_neg h3',<-hc0];simp
  ·have hbt:bad=true:=by simpa using h2
   subst hbt
   refine AB U (A0 U) (by omega) (λ h3=>?_) (λ h3=>?_)
   ·simp at h3
   ·exact BF _ rfl (A0 rfl) (by omega) rfl ⟨true,[],1,q,by omega,by omega,by rw[len_nil];omega,(λ b hb=>by cases hb),.inl rfl,by rw[hR1];simp,rfl⟩
 clear hR1 hq0 hq1
 rintro _ ⟨bad,pw,sd,q,hq0,hq1,hpl,hpf,hsd,hR1,rfl⟩
 have hdz:=e9 pw
 refine AB U (A0 U) (by simp only[zb]<;>omega) (λ h5=>?_) (λ h5=>?_)
 ·have h5':bad=true\/q<len s:=by simp only[zb]at h5;exact h5
  rw[if_pos h5']at hR1
  refine KN [2] 2 (λ _ _ _ _ _ h=>h) U (A0 U) (by omega) mix (by decide+kernel) ?_
  refine CS 2 U (A0 U) (by omega) U U ?_
  refine CE U (A0 U) (by omega) ?_
  refine HQ U (A0 U) (by omega) U U ?_
  refine AH hB U U (A0 U) (by omega) U (A0 U) λ w M hX=>⟨?_,hX.st.low⟩
  rw[hR1];rfl
 have h5': ¬(bad=true\/q<len s):=by simp only[zb]at h5;rintro(h|h);rw[h]at h5;cases h5.1;omega
 rw[if_neg h5']at hR1
 refine BE (u:=str (AZ pw)) U (A0 U) (by omega) Tryz.call47 U U (A0 U) (λ _ w M hX=>T1 pw [48] w (by decide) (RD (by decide))) U ?_
 refine AB (b:=decide (6<len (AZ pw))) U (A0 U) (by omega) (λ h6=>?_) (λ h6=>?_)<;>simp only[zb]at h6
 ·refine AH hB U U (A0 U) (by omega) U (A0 U) λ w M hX=>⟨?_,hX.st.low⟩
  rw[hR1];unfold IZ;rw[if_pos h6];rfl
 have hat:=qY (l:=AZ pw) (eE hpf) (by omega)
 refine BE U (A0 U) (by show len ([48]:A1)+len (AZ pw)<=_/\_;rw[AK,len_nil];exact⟨by omega,rfl⟩) Tryz.call120 U U (A0 U) (λ _ w M hX=>WC ([48]++AZ pw) (D9 (AZ pw)) w (by rw[AG,AK,len_nil];omega) hat.1) U ?_
 refine BE rfl (A0 rfl) (by rcases hsd with rfl|rfl<;>omega) Tryz.call121 rfl rfl (A0 rfl) (λ _ w M hX=>vV neg fg (x+sd*D9 (AZ pw)) w (hg.low hX.st.low) (by omega)) rfl ?_
 refine CL 18 U (A0 U) (by omega) Tryz.zeroValue46 U λ b18=>?_
 refine AH hB U U (A0 U) (by omega) U (A0 U) λ w M hX=>⟨?_,hX.st.low⟩
 rw[hR1];unfold IZ;rw[if_neg h6];rfl
end Go.Proofs.YtmjpjbmeamnfpaaGreatDoor
set_option maxRecDepth 100000
namespace Go.Proofs.YtmjpjbmeamnfpaaGreatDoor
open Go.Eng
theorem gW(s:A1)(w:World):Calls Tryz.prog 47 [str s,str [48,49,50,51,52,53,54,55,56,57,43,45,46,101,69]].toArray w λ e w'=>e= .returned (str (CJ s))/\Ext w w':=T1 s _ w (by decide) (RD (by decide))
theorem gX(s:A1)(w:World):Calls Tryz.prog 47 [str s,str [32,9,10,13]].toArray w λ e w'=>e= .returned (str (MV s))/\Ext w w':=T1 s _ w (by decide) (RD (by decide))
theorem vW{w wv:World}{M0 M:Mem}{Rs:List HO}(b:Nat)(cs:List Value)(X:HO)(s:A1)(hS:St w M0 wv M (.box b cs 104::X::Rs))(hm:K1 M cs X)(hg:Gl w)(h0:0<len s)(hb:len s<=1099511627776):
  Calls Tryz.prog 48 [(.pointer (some ⟨b,0,none⟩)),(str s)].toArray wv λ e w'=> ∃v,e= .returned v/\ ∃cs' X' M',v= .tuple #[.agg (Tk.cells (A7 s).1).toArray,i64 (A7 s).2.1,i64 (A7 s).2.2]/\K1 M' cs' X'/\St w M0 w' M' (.box b cs' 104::X'::Rs)/\M.le M':=by
 refine CW.C4 Tryz.func48 U Tryz.ntmps48 (Nat.le_of_ble_eq_true U) λ Q hE=>?_
 have hf1:=MP s 1
 have hfl:=CN s 1 (by omega) (by omega)
 have hw1:=QP (A3 s 1)
 have hu1:=KG (A3 s 1)
 have hsb:=QK s 0 (len s-len (CJ s))
 have hdn:=rR s
 have hrn:Eng.sub s 0 (len s-len (CJ s))=Eng.runN s:=rfl
 have hisf:C7 (A2 s 0)=true↔(48<=A2 s 0/\A2 s 0<=57):=by unfold C7;simp
 refine CW.weaken [0,1] (L':=[Y 0 (.pointer (some ⟨b,0,none⟩)),Y 1 (str s)]) ?_ U
 refine CW.sr ?_
 refine RL.alloc hS Tryz.zeroValue63 U (λ w1 b2 hS3=>?_)
 refine RL.u (.assign .c) U (RL.u (.assign .c) U (RL.nil (CW.id ?_)))
 refine CW.seq (CW.sr (RL.m U U (RL.u (.E9 (.t U) .c Tryz.underlying9 (λ _=>by omega)) U (RL.u (.eql (.t U) .c) U (RL.nil (CW.id ?_))))))
 refine CW.cond rfl ?_ ?_<;>intro hb1<;>try simp only[zb]at hb1
 ·refine CW.seq (CW.sr (RL.m U U (RL.u (.JJ (.t U) .c Tryz.underlying9 (λ _=>by omega)) U ?_)))
  refine RL.DZ hS3 .none Tryz.call76 (.cons (.t U) .nil) (λ _=>(YA (Eng.A3 s 1) _ (by omega))) U (λ w4 hS5=>?_)
  refine RL.a U U ?_
  refine RL.nil (CW.at [Y 0 (.pointer (some ⟨b,0,none⟩)),Y 1 (str s),Y 4 (.pointer (some ⟨b2,0,none⟩)),Y 7 (str (B1 (Eng.A3 s 1)))] U (CW.sr (RL.m U U (RL.u (.M6 (.t U) .c) U (RL.nil (CW.id ?_))))))
  refine CW.cond rfl ?_ ?_<;>intro hb2<;>try simp only[zb]at hb2
  ·refine CW.sr (RL.m U U (RL.u (.build (vs:=[(0,(i64 3)),(1,(str (B1 (Eng.A3 s 1))))]) (v:=(.agg #[(i64 3),(str (B1 (Eng.A3 s 1))),(i64 0),(i64 0),(str []),(str []),(.bool false),(i64 0),(i64 0)])) (.cons .c (.cons (.t U) .nil)) (λ w=>by kernel_rfl)) U (RL.m U U (RL.u (.DD (.t U) Tryz.underlying9) U (RL.u (.add .c (.t U) (λ _=>by omega)) U ?_)))))
   refine RL.st hS5 (i:=0) U (.t U) (.t U) Tryz.sizeOf63 U U U U U (λ w6 hS7=>?_)
   refine RL.a U U (RL.u (.assign .c) U (RL.nil (CW.id ?_)))
   refine CW.ret (hE.R3 U (.GR hS7 (i:=0) U U Tryz.isAgg63 Tryz.sizeOf63) (show RV _ _ _ (.tmp _) _ from rfl) (show RV _ _ _ (.tmp _) _ from rfl) ?_)
   replace hS7:St w M0 w6 M (.box b cs 104::X::Rs):=hS7.erase 0 U
   clear hE
   have hq:A7 s=((⟨3,B1 (Eng.A3 s 1),⟨0,0,[],[],false,0⟩,0⟩:Tk),1+(len (B1 (Eng.A3 s 1))),0):=by
    unfold A7
    rw[if_pos (by first|assumption|omega|(simp_all;done)|grind)]
    try rfl
   exact⟨_,rfl,_,_,_,by rw[hq];rfl,hm,hS7,(Mem.le.refl _)⟩
  ·refine CW.skip (CW.id (CW.sr (RL.m U U (RL.u (.JJ (.t U) .c Tryz.underlying9 (λ _=>by omega)) U ?_))))
   refine RL.FG .none Tryz.call77 (.cons (.t U) (.cons .c .nil)) (λ _=>(MC (Eng.A3 s 1) [34] _)) U ?_
   refine RL.nil (CW.at [Y 0 (.pointer (some ⟨b,0,none⟩)),Y 1 (str s),Y 4 (.pointer (some ⟨b2,0,none⟩)),Y 36 (.bool (Lib.hasPrefix (Eng.A3 s 1) [34]))] U ?_)
   refine CW.cond rfl ?_ ?_<;>intro hb3<;>try simp only[zb]at hb3
   ·refine CW.sr (RL.m U U (RL.u (.JJ (.t U) .c Tryz.underlying9 (λ _=>by omega)) U ?_))
    refine RL.DZ hS5 .none Tryz.call78 (.cons (.t U) .nil) (λ _=>(UO (Eng.A3 s 1) _ (hg.low hS5.low) (by first|omega|exact Int.le_trans (MP _ _).2 (by omega)))) U (λ w8 hS9=>?_)
    refine RL.m U U (RL.u (.ex (.t U) U) U (RL.u (.ex (.t U) U) U (RL.u (.ex (.t U) U) U (RL.a U U (RL.a U U ?_)))))
    refine RL.a U U ?_
    refine RL.nil (CW.at [Y 4 (.pointer (some ⟨b2,0,none⟩)),Y 8 (str ((AM (Eng.A3 s 1)).1)),Y 9 (i64 ((AM (Eng.A3 s 1)).2.1)),Y 10 (i64 ((AM (Eng.A3 s 1)).2.2))] U (CW.sr (RL.m U U (RL.u (.build (vs:=[(0,(i64 3)),(1,(str ((AM (Eng.A3 s 1)).1)))]) (v:=(.agg #[(i64 3),(str ((AM (Eng.A3 s 1)).1)),(i64 0),(i64 0),(str []),(str []),(.bool false),(i64 0),(i64 0)])) (.cons .c (.cons (.t U) .nil)) (λ w=>by kernel_rfl)) U (RL.m U U (RL.u (.add .c (.t U) (λ _=>by omega)) U (RL.m U U ?_)))))))
    refine RL.st hS9 (i:=0) U (.t U) (.t U) Tryz.sizeOf63 U U U U U (λ w10 hS11=>?_)
    refine RL.a U U (RL.a U U (RL.nil (CW.id ?_)))
    refine CW.ret (hE.R3 U (.GR hS11 (i:=0) U U Tryz.isAgg63 Tryz.sizeOf63) (show RV _ _ _ (.tmp _) _ from rfl) (show RV _ _ _ (.tmp _) _ from rfl) ?_)
    replace hS11:St w M0 w10 M (.box b cs 104::X::Rs):=hS11.erase 0 U
    clear hE
    have hq:A7 s=((⟨3,(AM (Eng.A3 s 1)).1,⟨0,0,[],[],false,0⟩,0⟩:Tk),1+((AM (Eng.A3 s 1)).2.1),(AM (Eng.A3 s 1)).2.2):=by
     unfold A7
     rw[if_neg (by first|assumption|omega|(simp_all;done)|grind),if_pos (by first|assumption|omega|(simp_all;done)|grind)]
     try rfl
    exact⟨_,rfl,_,_,_,by rw[hq];rfl,hm,hS11,(Mem.le.refl _)⟩
   ·refine CW.skip (CW.id (CW.seq (CW.sr (RL.m U U (RL.m U U ?_)))))
    replace hS5:St w M0 w4 M (.box b cs 104::X:: .box b2 [(i64 0),(str []),(i64 0),(i64 0),(str []),(str []),(.bool false),(i64 0),(i64 0)] 63::Rs):=(hS5.front 2 U U).front 2 U U
    refine RL.CU Tryz.call79 (.cons (.t U) (.cons (.t U) .nil)) (gE (Rs:=(.box b2 [(i64 0),(str []),(i64 0),(i64 0),(str []),(str []),(.bool false),(i64 0),(i64 0)] 63::Rs)) b cs X s hS5 (by assumption) hg (by omega) (by omega)) U ?_
    rintro v15 w16 ⟨cs12,X13,M17,rfl,hm14,hS18,hle19⟩
    replace hS18:St w M0 w16 M17 (.box b cs12 104::X13:: .box b2 [(i64 0),(str []),(i64 0),(i64 0),(str []),(str []),(.bool false),(i64 0),(i64 0)] 63::Rs):=hS18
    refine RL.a U U ?_
    refine RL.nil (CW.at [Y 1 (str s),Y 4 (.pointer (some ⟨b2,0,none⟩)),Y 11 (str (BK s))] U (CW.sr (RL.m U U (RL.u (.M6 (.t U) .c) U (RL.nil (CW.id ?_))))))
    refine CW.cond rfl ?_ ?_<;>intro hb4<;>try simp only[zb]at hb4
    ·refine CW.sr (RL.m U U (RL.u (.build (vs:=[(0,(i64 1)),(1,(str (BK s)))]) (v:=(.agg #[(i64 1),(str (BK s)),(i64 0),(i64 0),(str []),(str []),(.bool false),(i64 0),(i64 0)])) (.cons .c (.cons (.t U) .nil)) (λ w=>by kernel_rfl)) U (RL.m U U (RL.u (.DD (.t U) Tryz.underlying9) U ?_))))
     refine RL.st hS18 (i:=2) U (.t U) (.t U) Tryz.sizeOf63 U U U U U (λ w20 hS21=>?_)
     refine RL.a U U (RL.u (.assign .c) U (RL.nil (CW.id ?_)))
     refine CW.ret (hE.R3 U (.GR hS21 (i:=2) U U Tryz.isAgg63 Tryz.sizeOf63) (show RV _ _ _ (.tmp _) _ from rfl) (show RV _ _ _ (.tmp _) _ from rfl) ?_)
     replace hS21:St w M0 w20 M17 (.box b cs12 104::X13::Rs):=hS21.erase 2 U
     clear hE
     have hq:A7 s=((⟨1,BK s,⟨0,0,[],[],false,0⟩,0⟩:Tk),len (BK s),0):=by
      unfold A7
      rw[if_neg (by first|assumption|omega|(simp_all;done)|grind),if_neg (by first|assumption|omega|(simp_all;done)|grind),if_pos (by first|assumption|omega|(simp_all;done)|grind)]
      try rfl
     exact⟨_,rfl,_,_,_,by rw[hq];rfl,hm14,hS21,hle19⟩
    ·refine CW.skip (CW.id (CW.seq (CW.sr (RL.m U U ?_))))
     refine RL.DZ hS18 .none Tryz.call76 (.cons (.t U) .nil) (λ _=>(YA s _ (by omega))) U (λ w22 hS23=>?_)
     refine RL.a U U ?_
     refine RL.nil (CW.at [Y 1 (str s),Y 4 (.pointer (some ⟨b2,0,none⟩)),Y 12 (str (B1 s))] U (CW.sr (RL.m U U (RL.u (.M6 (.t U) .c) U (RL.nil (CW.id ?_))))))
     refine CW.cond rfl ?_ ?_<;>intro hb5<;>try simp only[zb]at hb5
     ·refine CW.sr (RL.m U U (RL.u (.build (vs:=[(0,(i64 2)),(1,(str (B1 s)))]) (v:=(.agg #[(i64 2),(str (B1 s)),(i64 0),(i64 0),(str []),(str []),(.bool false),(i64 0),(i64 0)])) (.cons .c (.cons (.t U) .nil)) (λ w=>by kernel_rfl)) U (RL.m U U (RL.u (.DD (.t U) Tryz.underlying9) U ?_))))
      refine RL.st hS23 (i:=2) U (.t U) (.t U) Tryz.sizeOf63 U U U U U (λ w24 hS25=>?_)
      refine RL.a U U (RL.u (.assign .c) U (RL.nil (CW.id ?_)))
      refine CW.ret (hE.R3 U (.GR hS25 (i:=2) U U Tryz.isAgg63 Tryz.sizeOf63) (show RV _ _ _ (.tmp _) _ from rfl) (show RV _ _ _ (.tmp _) _ from rfl) ?_)
      replace hS25:St w M0 w24 M17 (.box b cs12 104::X13::Rs):=hS25.erase 2 U
      clear hE
      have hq:A7 s=((⟨2,B1 s,⟨0,0,[],[],false,0⟩,0⟩:Tk),len (B1 s),0):=by
       unfold A7
       rw[if_neg (by first|assumption|omega|(simp_all;done)|grind),if_neg (by first|assumption|omega|(simp_all;done)|grind),if_neg (by first|assumption|omega|(simp_all;done)|grind),if_pos (by first|assumption|omega|(simp_all;done)|grind)]
       try rfl
      exact⟨_,rfl,_,_,_,by rw[hq];rfl,hm14,hS25,hle19⟩
     ·refine CW.skip (CW.id (CW.seq (CW.sr (RL.m U U (RL.u (.E9 (.t U) .c Tryz.underlying9 (λ _=>by omega)) U (RL.a U U (RL.nil (CW.id ?_))))))))
      refine CW.block (CW.sr (RL.m U U (RL.u (.eql (.t U) .c) U (RL.a U U (RL.nil (CW.id ?_))))))
      refine CW.cond rfl ?_ ?_<;>intro hb6<;>try simp only[zb]at hb6
      ·refine CW.sr (RL.m U U ?_)
       refine RL.DZ hS23 .none Tryz.call78 (.cons (.t U) .nil) (λ _=>(UO s _ (hg.low hS23.low) (by first|omega|exact Int.le_trans (MP _ _).2 (by omega)))) U (λ w26 hS27=>?_)
       refine RL.m U U (RL.u (.ex (.t U) U) U (RL.u (.ex (.t U) U) U (RL.u (.ex (.t U) U) U (RL.a U U (RL.a U U ?_)))))
       refine RL.a U U ?_
       refine RL.nil (CW.at [Y 4 (.pointer (some ⟨b2,0,none⟩)),Y 14 (str ((AM s).1)),Y 15 (i64 ((AM s).2.1)),Y 16 (i64 ((AM s).2.2))] U (CW.sr (RL.m U U (RL.u (.build (vs:=[(0,(i64 4)),(1,(str ((AM s).1)))]) (v:=(.agg #[(i64 4),(str ((AM s).1)),(i64 0),(i64 0),(str []),(str []),(.bool false),(i64 0),(i64 0)])) (.cons .c (.cons (.t U) .nil)) (λ w=>by kernel_rfl)) U (RL.m U U (RL.m U U ?_))))))
       refine RL.st hS27 (i:=2) U (.t U) (.t U) Tryz.sizeOf63 U U U U U (λ w28 hS29=>?_)
       refine RL.a U U (RL.a U U (RL.nil (CW.id ?_)))
       refine CW.ret (hE.R3 U (.GR hS29 (i:=2) U U Tryz.isAgg63 Tryz.sizeOf63) (show RV _ _ _ (.tmp _) _ from rfl) (show RV _ _ _ (.tmp _) _ from rfl) ?_)
       replace hS29:St w M0 w28 M17 (.box b cs12 104::X13::Rs):=hS29.erase 2 U
       clear hE
       have hq:A7 s=((⟨4,(AM s).1,⟨0,0,[],[],false,0⟩,0⟩:Tk),(AM s).2.1,(AM s).2.2):=by
        unfold A7
        rw[if_neg (by first|assumption|omega|(simp_all;done)|grind),if_neg (by first|assumption|omega|(simp_all;done)|grind),if_neg (by first|assumption|omega|(simp_all;done)|grind),if_neg (by first|assumption|omega|(simp_all;done)|grind),if_pos (by first|assumption|omega|(simp_all;done)|grind)]
        try rfl
       exact⟨_,rfl,_,_,_,by rw[hq];rfl,hm14,hS29,hle19⟩
      ·refine CW.sr (RL.m U U (RL.u (.eql (.t U) .c) U (RL.m U U (RL.v (.neg U U) (.move (.t U)) U (RL.v (.neg U U) (.geq (.g U (λ h=>h)) .c) U (RL.v (.neg U U) (.move (.g U (λ h=>h))) U (RL.v (.GQ U U) (.move (.t U)) U (RL.v (.GQ U U) (.leq (.g U (λ h=>h)) .c) U (RL.v (.neg U U) (.and (.g U (λ h=>h)) (.g U (λ h=>h))) U (RL.u (.or (.t U) (.g U (λ h=>h))) U (RL.a U U (RL.nil (CW.id ?_)))))))))))))
       refine CW.cond rfl ?_ ?_<;>intro hb7<;>try simp only[zb]at hb7
       ·refine CW.sr (RL.m U U (RL.m U U (RL.u (.DD (.t U) Tryz.underlying9) U (RL.m U U ?_))))
        refine RL.DZ hS23 .none Tryz.call47 (.cons (.t U) (.cons .c .nil)) (λ _=>(gW s _)) U (λ w30 hS31=>?_)
        refine RL.u (.DD (.t U) Tryz.underlying9) U (RL.u (.sub (.t U) (.t U) (λ _=>by omega)) U (RL.u (.SG (.t U) (.t U) Tryz.underlying9 (λ _=>by omega)) U (RL.a U U ?_)))
        refine RL.nil (CW.at [Y 4 (.pointer (some ⟨b2,0,none⟩)),Y 17 (str (Eng.sub s 0 ((len s)-(len (CJ s)))))] U (CW.sr (RL.m U U ?_)))
        refine RL.DZ hS31 .none Tryz.call80 (.cons (.t U) .nil) (λ _=>(gV (Eng.sub s 0 ((len s)-(len (CJ s)))) _ (hg.low hS31.low) (by omega))) U (λ w32 hS33=>?_)
        refine RL.m U U (RL.u (.ex (.t U) U) U (RL.u (.ex (.t U) U) U (RL.u (.ex (.t U) U) U ?_)))
        refine RL.alloc hS33 Tryz.zeroValue46 U (λ w34 b35 hS36=>?_)
        refine RL.st hS36 (i:=0) U (.t U) (.t U) Tryz.sizeOf46 U U U U U (λ w37 hS38=>?_)
        refine RL.a U U (RL.a U U ?_)
        refine RL.nil (CW.at [Y 4 (.pointer (some ⟨b2,0,none⟩)),Y 17 (str (Eng.sub s 0 ((len s)-(len (CJ s))))),Y 18 (.pointer (some ⟨b35,0,none⟩)),Y 19 (i64 ((BY (Eng.sub s 0 ((len s)-(len (CJ s))))).2.1)),Y 20 (i64 ((BY (Eng.sub s 0 ((len s)-(len (CJ s))))).2.2))] U (CW.seq (CW.sr (RL.m U U (RL.u (.neq (.t U) .c) U (RL.nil (CW.id ?_)))))))
        refine CW.cond rfl ?_ ?_<;>intro hb8<;>try simp only[zb]at hb8
        ·rw[hrn]at hb8
         refine CW.sr (RL.u (.build (vs:=[]) (v:=(.agg #[(i64 0),(str []),(i64 0),(i64 0),(str []),(str []),(.bool false),(i64 0),(i64 0)])) .nil (λ w=>by kernel_rfl)) U (RL.m U U (RL.m U U ?_)))
         refine RL.st hS38 (i:=3) U (.t U) (.t U) Tryz.sizeOf63 U U U U U (λ w39 hS40=>?_)
         refine RL.a U U (RL.a U U (RL.nil (CW.id ?_)))
         refine CW.ret (hE.R3 U (.GR hS40 (i:=3) U U Tryz.isAgg63 Tryz.sizeOf63) (show RV _ _ _ (.tmp _) _ from rfl) (show RV _ _ _ (.tmp _) _ from rfl) ?_)
         replace hS40:St w M0 w39 M17 (.box b cs12 104::X13::Rs):=(hS40.erase 3 U).erase 0 U
         clear hE
         have hq:A7 s=((⟨0,[],⟨0,0,[],[],false,0⟩,0⟩:Tk),(BY (Eng.sub s 0 ((len s)-(len (CJ s))))).2.1,(BY (Eng.sub s 0 ((len s)-(len (CJ s))))).2.2):=by
          unfold A7
          rw[if_neg (by first|assumption|omega|(simp_all;done)|grind),if_neg (by first|assumption|omega|(simp_all;done)|grind),if_neg (by first|assumption|omega|(simp_all;done)|grind),if_neg (by first|assumption|omega|(simp_all;done)|grind),if_neg (by first|assumption|omega|(simp_all;done)|grind),if_pos (by first|assumption|omega|(simp_all;done)|grind),if_pos (by first|assumption|omega|(simp_all;done)|grind)]
          try rfl
         exact⟨_,rfl,_,_,_,by rw[hq];rfl,hm14,hS40,hle19⟩
        ·rw[hrn]at hb8
         refine CW.skip (CW.id (CW.sr (RL.u (.SK (vs:=(L5 ((BY (Eng.sub s 0 ((len s)-(len (CJ s))))).1) [])) hS38 BG (i:=0) U (.t U) Tryz.isAgg46 Tryz.sizeOf46 U U) U (RL.u (.build (vs:=[(0,(i64 5)),(2,(MB ((BY (Eng.sub s 0 ((len s)-(len (CJ s))))).1)))]) (v:=(.agg ⟨((i64 5)::((str [])::(L5 ((BY (Eng.sub s 0 ((len s)-(len (CJ s))))).1) ((i64 0)::[]))))⟩)) (.cons .c (.cons (.t U) .nil)) (λ w=>by kernel_rfl)) U (RL.m U U (RL.u (.DD (.t U) Tryz.underlying9) U ?_))))))
         refine RL.st hS38 (i:=3) U (.t U) (.t U) Tryz.sizeOf63 U U U U U (λ w41 hS42=>?_)
         refine RL.a U U (RL.u (.assign .c) U (RL.nil (CW.id ?_)))
         refine CW.ret (hE.R3 U (.GR hS42 (i:=3) U U Tryz.isAgg63 Tryz.sizeOf63) (show RV _ _ _ (.tmp _) _ from rfl) (show RV _ _ _ (.tmp _) _ from rfl) ?_)
         replace hS42:St w M0 w41 M17 (.box b cs12 104::X13::Rs):=(hS42.erase 3 U).erase 0 U
         clear hE
         have hq:A7 s=((⟨5,[],(BY (Eng.sub s 0 ((len s)-(len (CJ s))))).1,0⟩:Tk),len (Eng.sub s 0 ((len s)-(len (CJ s)))),0):=by
          unfold A7
          rw[if_neg (by first|assumption|omega|(simp_all;done)|grind),if_neg (by first|assumption|omega|(simp_all;done)|grind),if_neg (by first|assumption|omega|(simp_all;done)|grind),if_neg (by first|assumption|omega|(simp_all;done)|grind),if_neg (by first|assumption|omega|(simp_all;done)|grind),if_pos (by first|assumption|omega|(simp_all;done)|grind),if_neg (by first|assumption|omega|(simp_all;done)|grind)]
          try rfl
         exact⟨_,rfl,_,_,_,by rw[hq];rfl,hm14,hS42,hle19⟩
       ·refine CW.skip (CW.id (CW.sr (RL.u (.build (vs:=[]) (v:=(.agg #[(i64 0),(str []),(i64 0),(i64 0),(str []),(str []),(.bool false),(i64 0),(i64 0)])) .nil (λ w=>by kernel_rfl)) U ?_)))
        refine RL.st hS23 (i:=2) U (.t U) (.t U) Tryz.sizeOf63 U U U U U (λ w43 hS44=>?_)
        refine RL.u (.assign .c) U (RL.u (.assign .c) U (RL.nil (CW.id ?_)))
        refine CW.ret (hE.R3 U (.GR hS44 (i:=2) U U Tryz.isAgg63 Tryz.sizeOf63) (show RV _ _ _ (.tmp _) _ from rfl) (show RV _ _ _ (.tmp _) _ from rfl) ?_)
        replace hS44:St w M0 w43 M17 (.box b cs12 104::X13::Rs):=hS44.erase 2 U
        clear hE
        have hq:A7 s=((⟨0,[],⟨0,0,[],[],false,0⟩,0⟩:Tk),0,1):=by
         unfold A7
         rw[if_neg (by first|assumption|omega|(simp_all;done)|grind),if_neg (by first|assumption|omega|(simp_all;done)|grind),if_neg (by first|assumption|omega|(simp_all;done)|grind),if_neg (by first|assumption|omega|(simp_all;done)|grind),if_neg (by first|assumption|omega|(simp_all;done)|grind),if_neg (by first|assumption|omega|(simp_all;done)|grind)]
         try rfl
        exact⟨_,rfl,_,_,_,by rw[hq];rfl,hm14,hS44,hle19⟩
 ·refine CW.skip (CW.id (CW.seq (CW.sr (RL.m U U (RL.m U U ?_)))))
  replace hS3:St w M0 w1 M (.box b cs 104::X:: .box b2 [(i64 0),(str []),(i64 0),(i64 0),(str []),(str []),(.bool false),(i64 0),(i64 0)] 63::Rs):=(hS3.front 2 U U).front 2 U U
  refine RL.CU Tryz.call79 (.cons (.t U) (.cons (.t U) .nil)) (gE (Rs:=(.box b2 [(i64 0),(str []),(i64 0),(i64 0),(str []),(str []),(.bool false),(i64 0),(i64 0)] 63::Rs)) b cs X s hS3 (by assumption) hg (by omega) (by omega)) U ?_
  rintro v48 w49 ⟨cs45,X46,M50,rfl,hm47,hS51,hle52⟩
  replace hS51:St w M0 w49 M50 (.box b cs45 104::X46:: .box b2 [(i64 0),(str []),(i64 0),(i64 0),(str []),(str []),(.bool false),(i64 0),(i64 0)] 63::Rs):=hS51
  refine RL.a U U ?_
  refine RL.nil (CW.at [Y 1 (str s),Y 4 (.pointer (some ⟨b2,0,none⟩)),Y 11 (str (BK s))] U (CW.sr (RL.m U U (RL.u (.M6 (.t U) .c) U (RL.nil (CW.id ?_))))))
  refine CW.cond rfl ?_ ?_<;>intro hb9<;>try simp only[zb]at hb9
  ·refine CW.sr (RL.m U U (RL.u (.build (vs:=[(0,(i64 1)),(1,(str (BK s)))]) (v:=(.agg #[(i64 1),(str (BK s)),(i64 0),(i64 0),(str []),(str []),(.bool false),(i64 0),(i64 0)])) (.cons .c (.cons (.t U) .nil)) (λ w=>by kernel_rfl)) U (RL.m U U (RL.u (.DD (.t U) Tryz.underlying9) U ?_))))
   refine RL.st hS51 (i:=2) U (.t U) (.t U) Tryz.sizeOf63 U U U U U (λ w53 hS54=>?_)
   refine RL.a U U (RL.u (.assign .c) U (RL.nil (CW.id ?_)))
   refine CW.ret (hE.R3 U (.GR hS54 (i:=2) U U Tryz.isAgg63 Tryz.sizeOf63) (show RV _ _ _ (.tmp _) _ from rfl) (show RV _ _ _ (.tmp _) _ from rfl) ?_)
   replace hS54:St w M0 w53 M50 (.box b cs45 104::X46::Rs):=hS54.erase 2 U
   clear hE
   have hq:A7 s=((⟨1,BK s,⟨0,0,[],[],false,0⟩,0⟩:Tk),len (BK s),0):=by
    unfold A7
    rw[if_neg (by first|assumption|omega|(simp_all;done)|grind),if_neg (by first|assumption|omega|(simp_all;done)|grind),if_pos (by first|assumption|omega|(simp_all;done)|grind)]
    try rfl
   exact⟨_,rfl,_,_,_,by rw[hq];rfl,hm47,hS54,hle52⟩
  ·refine CW.skip (CW.id (CW.seq (CW.sr (RL.m U U ?_))))
   refine RL.DZ hS51 .none Tryz.call76 (.cons (.t U) .nil) (λ _=>(YA s _ (by omega))) U (λ w55 hS56=>?_)
   refine RL.a U U ?_
   refine RL.nil (CW.at [Y 1 (str s),Y 4 (.pointer (some ⟨b2,0,none⟩)),Y 12 (str (B1 s))] U (CW.sr (RL.m U U (RL.u (.M6 (.t U) .c) U (RL.nil (CW.id ?_))))))
   refine CW.cond rfl ?_ ?_<;>intro hb10<;>try simp only[zb]at hb10
   ·refine CW.sr (RL.m U U (RL.u (.build (vs:=[(0,(i64 2)),(1,(str (B1 s)))]) (v:=(.agg #[(i64 2),(str (B1 s)),(i64 0),(i64 0),(str []),(str []),(.bool false),(i64 0),(i64 0)])) (.cons .c (.cons (.t U) .nil)) (λ w=>by kernel_rfl)) U (RL.m U U (RL.u (.DD (.t U) Tryz.underlying9) U ?_))))
    refine RL.st hS56 (i:=2) U (.t U) (.t U) Tryz.sizeOf63 U U U U U (λ w57 hS58=>?_)
    refine RL.a U U (RL.u (.assign .c) U (RL.nil (CW.id ?_)))
    refine CW.ret (hE.R3 U (.GR hS58 (i:=2) U U Tryz.isAgg63 Tryz.sizeOf63) (show RV _ _ _ (.tmp _) _ from rfl) (show RV _ _ _ (.tmp _) _ from rfl) ?_)
    replace hS58:St w M0 w57 M50 (.box b cs45 104::X46::Rs):=hS58.erase 2 U
    clear hE
    have hq:A7 s=((⟨2,B1 s,⟨0,0,[],[],false,0⟩,0⟩:Tk),len (B1 s),0):=by
     unfold A7
     rw[if_neg (by first|assumption|omega|(simp_all;done)|grind),if_neg (by first|assumption|omega|(simp_all;done)|grind),if_neg (by first|assumption|omega|(simp_all;done)|grind),if_pos (by first|assumption|omega|(simp_all;done)|grind)]
     try rfl
    exact⟨_,rfl,_,_,_,by rw[hq];rfl,hm47,hS58,hle52⟩
   ·refine CW.skip (CW.id (CW.seq (CW.sr (RL.m U U (RL.u (.E9 (.t U) .c Tryz.underlying9 (λ _=>by omega)) U (RL.a U U (RL.nil (CW.id ?_))))))))
    refine CW.block (CW.sr (RL.m U U (RL.u (.eql (.t U) .c) U (RL.a U U (RL.nil (CW.id ?_))))))
    refine CW.cond rfl ?_ ?_<;>intro hb11<;>try simp only[zb]at hb11
    ·refine CW.sr (RL.m U U ?_)
     refine RL.DZ hS56 .none Tryz.call78 (.cons (.t U) .nil) (λ _=>(UO s _ (hg.low hS56.low) (by first|omega|exact Int.le_trans (MP _ _).2 (by omega)))) U (λ w59 hS60=>?_)
     refine RL.m U U (RL.u (.ex (.t U) U) U (RL.u (.ex (.t U) U) U (RL.u (.ex (.t U) U) U (RL.a U U (RL.a U U ?_)))))
     refine RL.a U U ?_
     refine RL.nil (CW.at [Y 4 (.pointer (some ⟨b2,0,none⟩)),Y 14 (str ((AM s).1)),Y 15 (i64 ((AM s).2.1)),Y 16 (i64 ((AM s).2.2))] U (CW.sr (RL.m U U (RL.u (.build (vs:=[(0,(i64 4)),(1,(str ((AM s).1)))]) (v:=(.agg #[(i64 4),(str ((AM s).1)),(i64 0),(i64 0),(str []),(str []),(.bool false),(i64 0),(i64 0)])) (.cons .c (.cons (.t U) .nil)) (λ w=>by kernel_rfl)) U (RL.m U U (RL.m U U ?_))))))
     refine RL.st hS60 (i:=2) U (.t U) (.t U) Tryz.sizeOf63 U U U U U (λ w61 hS62=>?_)
     refine RL.a U U (RL.a U U (RL.nil (CW.id ?_)))
     refine CW.ret (hE.R3 U (.GR hS62 (i:=2) U U Tryz.isAgg63 Tryz.sizeOf63) (show RV _ _ _ (.tmp _) _ from rfl) (show RV _ _ _ (.tmp _) _ from rfl) ?_)
     replace hS62:St w M0 w61 M50 (.box b cs45 104::X46::Rs):=hS62.erase 2 U
     clear hE
     have hq:A7 s=((⟨4,(AM s).1,⟨0,0,[],[],false,0⟩,0⟩:Tk),(AM s).2.1,(AM s).2.2):=by
      unfold A7
      rw[if_neg (by first|assumption|omega|(simp_all;done)|grind),if_neg (by first|assumption|omega|(simp_all;done)|grind),if_neg (by first|assumption|omega|(simp_all;done)|grind),if_neg (by first|assumption|omega|(simp_all;done)|grind),if_pos (by first|assumption|omega|(simp_all;done)|grind)]
      try rfl
     exact⟨_,rfl,_,_,_,by rw[hq];rfl,hm47,hS62,hle52⟩
    ·refine CW.sr (RL.m U U (RL.u (.eql (.t U) .c) U (RL.m U U (RL.v (.neg U U) (.move (.t U)) U (RL.v (.neg U U) (.geq (.g U (λ h=>h)) .c) U (RL.v (.neg U U) (.move (.g U (λ h=>h))) U (RL.v (.GQ U U) (.move (.t U)) U (RL.v (.GQ U U) (.leq (.g U (λ h=>h)) .c) U (RL.v (.neg U U) (.and (.g U (λ h=>h)) (.g U (λ h=>h))) U (RL.u (.or (.t U) (.g U (λ h=>h))) U (RL.a U U (RL.nil (CW.id ?_)))))))))))))
     refine CW.cond rfl ?_ ?_<;>intro hb12<;>try simp only[zb]at hb12
     ·refine CW.sr (RL.m U U (RL.m U U (RL.u (.DD (.t U) Tryz.underlying9) U (RL.m U U ?_))))
      refine RL.DZ hS56 .none Tryz.call47 (.cons (.t U) (.cons .c .nil)) (λ _=>(gW s _)) U (λ w63 hS64=>?_)
      refine RL.u (.DD (.t U) Tryz.underlying9) U (RL.u (.sub (.t U) (.t U) (λ _=>by omega)) U (RL.u (.SG (.t U) (.t U) Tryz.underlying9 (λ _=>by omega)) U (RL.a U U ?_)))
      refine RL.nil (CW.at [Y 4 (.pointer (some ⟨b2,0,none⟩)),Y 17 (str (Eng.sub s 0 ((len s)-(len (CJ s)))))] U (CW.sr (RL.m U U ?_)))
      refine RL.DZ hS64 .none Tryz.call80 (.cons (.t U) .nil) (λ _=>(gV (Eng.sub s 0 ((len s)-(len (CJ s)))) _ (hg.low hS64.low) (by omega))) U (λ w65 hS66=>?_)
      refine RL.m U U (RL.u (.ex (.t U) U) U (RL.u (.ex (.t U) U) U (RL.u (.ex (.t U) U) U ?_)))
      refine RL.alloc hS66 Tryz.zeroValue46 U (λ w67 b68 hS69=>?_)
      refine RL.st hS69 (i:=0) U (.t U) (.t U) Tryz.sizeOf46 U U U U U (λ w70 hS71=>?_)
      refine RL.a U U (RL.a U U ?_)
      refine RL.nil (CW.at [Y 4 (.pointer (some ⟨b2,0,none⟩)),Y 17 (str (Eng.sub s 0 ((len s)-(len (CJ s))))),Y 18 (.pointer (some ⟨b68,0,none⟩)),Y 19 (i64 ((BY (Eng.sub s 0 ((len s)-(len (CJ s))))).2.1)),Y 20 (i64 ((BY (Eng.sub s 0 ((len s)-(len (CJ s))))).2.2))] U (CW.seq (CW.sr (RL.m U U (RL.u (.neq (.t U) .c) U (RL.nil (CW.id ?_)))))))
      refine CW.cond rfl ?_ ?_<;>intro hb13<;>try simp only[zb]at hb13
      ·rw[hrn]at hb13
       refine CW.sr (RL.u (.build (vs:=[]) (v:=(.agg #[(i64 0),(str []),(i64 0),(i64 0),(str []),(str []),(.bool false),(i64 0),(i64 0)])) .nil (λ w=>by kernel_rfl)) U (RL.m U U (RL.m U U ?_)))
       refine RL.st hS71 (i:=3) U (.t U) (.t U) Tryz.sizeOf63 U U U U U (λ w72 hS73=>?_)
       refine RL.a U U (RL.a U U (RL.nil (CW.id ?_)))
       refine CW.ret (hE.R3 U (.GR hS73 (i:=3) U U Tryz.isAgg63 Tryz.sizeOf63) (show RV _ _ _ (.tmp _) _ from rfl) (show RV _ _ _ (.tmp _) _ from rfl) ?_)
       replace hS73:St w M0 w72 M50 (.box b cs45 104::X46::Rs):=(hS73.erase 3 U).erase 0 U
       clear hE
       have hq:A7 s=((⟨0,[],⟨0,0,[],[],false,0⟩,0⟩:Tk),(BY (Eng.sub s 0 ((len s)-(len (CJ s))))).2.1,(BY (Eng.sub s 0 ((len s)-(len (CJ s))))).2.2):=by
        unfold A7
        rw[if_neg (by first|assumption|omega|(simp_all;done)|grind),if_neg (by first|assumption|omega|(simp_all;done)|grind),if_neg (by first|assumption|omega|(simp_all;done)|grind),if_neg (by first|assumption|omega|(simp_all;done)|grind),if_neg (by first|assumption|omega|(simp_all;done)|grind),if_pos (by first|assumption|omega|(simp_all;done)|grind),if_pos (by first|assumption|omega|(simp_all;done)|grind)]
        try rfl
       exact⟨_,rfl,_,_,_,by rw[hq];rfl,hm47,hS73,hle52⟩
      ·rw[hrn]at hb13
       refine CW.skip (CW.id (CW.sr (RL.u (.SK (vs:=(L5 ((BY (Eng.sub s 0 ((len s)-(len (CJ s))))).1) [])) hS71 BG (i:=0) U (.t U) Tryz.isAgg46 Tryz.sizeOf46 U U) U (RL.u (.build (vs:=[(0,(i64 5)),(2,(MB ((BY (Eng.sub s 0 ((len s)-(len (CJ s))))).1)))]) (v:=(.agg ⟨((i64 5)::((str [])::(L5 ((BY (Eng.sub s 0 ((len s)-(len (CJ s))))).1) ((i64 0)::[]))))⟩)) (.cons .c (.cons (.t U) .nil)) (λ w=>by kernel_rfl)) U (RL.m U U (RL.u (.DD (.t U) Tryz.underlying9) U ?_))))))
       refine RL.st hS71 (i:=3) U (.t U) (.t U) Tryz.sizeOf63 U U U U U (λ w74 hS75=>?_)
       refine RL.a U U (RL.u (.assign .c) U (RL.nil (CW.id ?_)))
       refine CW.ret (hE.R3 U (.GR hS75 (i:=3) U U Tryz.isAgg63 Tryz.sizeOf63) (show RV _ _ _ (.tmp _) _ from rfl) (show RV _ _ _ (.tmp _) _ from rfl) ?_)
       replace hS75:St w M0 w74 M50 (.box b cs45 104::X46::Rs):=(hS75.erase 3 U).erase 0 U
       clear hE
       have hq:A7 s=((⟨5,[],(BY (Eng.sub s 0 ((len s)-(len (CJ s))))).1,0⟩:Tk),len (Eng.sub s 0 ((len s)-(len (CJ s)))),0):=by
        unfold A7
        rw[if_neg (by first|assumption|omega|(simp_all;done)|grind),if_neg (by first|assumption|omega|(simp_all;done)|grind),if_neg (by first|assumption|omega|(simp_all;done)|grind),if_neg (by first|assumption|omega|(simp_all;done)|grind),if_neg (by first|assumption|omega|(simp_all;done)|grind),if_pos (by first|assumption|omega|(simp_all;done)|grind),if_neg (by first|assumption|omega|(simp_all;done)|grind)]
        try rfl
       exact⟨_,rfl,_,_,_,by rw[hq];rfl,hm47,hS75,hle52⟩
     ·refine CW.skip (CW.id (CW.sr (RL.u (.build (vs:=[]) (v:=(.agg #[(i64 0),(str []),(i64 0),(i64 0),(str []),(str []),(.bool false),(i64 0),(i64 0)])) .nil (λ w=>by kernel_rfl)) U ?_)))
      refine RL.st hS56 (i:=2) U (.t U) (.t U) Tryz.sizeOf63 U U U U U (λ w76 hS77=>?_)
      refine RL.u (.assign .c) U (RL.u (.assign .c) U (RL.nil (CW.id ?_)))
      refine CW.ret (hE.R3 U (.GR hS77 (i:=2) U U Tryz.isAgg63 Tryz.sizeOf63) (show RV _ _ _ (.tmp _) _ from rfl) (show RV _ _ _ (.tmp _) _ from rfl) ?_)
      replace hS77:St w M0 w76 M50 (.box b cs45 104::X46::Rs):=hS77.erase 2 U
      clear hE
      have hq:A7 s=((⟨0,[],⟨0,0,[],[],false,0⟩,0⟩:Tk),0,1):=by
       unfold A7
       rw[if_neg (by first|assumption|omega|(simp_all;done)|grind),if_neg (by first|assumption|omega|(simp_all;done)|grind),if_neg (by first|assumption|omega|(simp_all;done)|grind),if_neg (by first|assumption|omega|(simp_all;done)|grind),if_neg (by first|assumption|omega|(simp_all;done)|grind),if_neg (by first|assumption|omega|(simp_all;done)|grind)]
       try rfl
      exact⟨_,rfl,_,_,_,by rw[hq];rfl,hm47,hS77,hle52⟩
end Go.Proofs.YtmjpjbmeamnfpaaGreatDoor
