/-
  Parts Rg Rh Ke, put together and made short by wip/py/merge.py (mini.py).
-/
import Derived.Test.YtmjpjbmeamnfpaaGreatDoorZc28
import Derived.Test.YtmjpjbmeamnfpaaGreatDoorZc30
import Derived.Test.YtmjpjbmeamnfpaaGreatDoorZc0
set_option linter.unusedVariables false
set_option linter.unusedSimpArgs false
set_option maxRecDepth 100000
namespace Go.Proofs.YtmjpjbmeamnfpaaGreatDoor
open Go.Eng
def TN(x:Tf):Prop:= ∀(v:Value) (w:World) (M:Mem),Sat w M->Sl M 11 x.flat.length v (x.flat.flatMap Tm.cells)->Calls Tryz.prog 12 [v].toArray w λ e w'=>e= .returned (str (B4 x))/\Ext w w'
theorem nH(x:Tf)(ht:TN x)(hb:len (B4 x)<=1099511627776)(v:Value)(w:World)(M:Mem)(hM:Sat w M)(hv:Sl M 11 x.flat.length v (x.flat.flatMap Tm.cells)):
   Calls Tryz.prog 29 [v].toArray w λ e w'=>e= .returned (str (FW x.t.op (B4 x)))/\Ext w w':=by
 have hpos:=Tf.GN x
 have hop:(A2 x.flat 0).op=x.t.op:=by rw[x.IG];rfl
 have hl0:=AA (B4 x)
 refine B8 (Hr:=[]) B3 Tryz.func29 U Tryz.ntmps29 [(0,BD v x.flat)] [] [.sl 0 v] U (St.start hM) (fc 0 hv Tm.BI AF) (λ B hB=>?_) U
 refine AE U (A0 U) (by simp only[zb]<;>omega) (λ h1=>?_) (λ h1=>?_)<;>simp only[zb]at h1<;>rw[hop]at h1
 ·have hn:GR x.t.op=true:=by unfold GR;simp only[zb];exact h1
  refine B7 U (A0 U) (by omega) Tryz.call12 U U (A0 U) (λ _ w M hX=>ht v w M hX.st.sat (hX.sl 0 U)) U ?_
  refine AD hB U U (A0 U) (by simp only[A5,A7,len_nil];exact⟨by omega,by omega,trivial⟩) U (A0 U) λ w M hX=>⟨?_,hX.st.low⟩
  unfold FW;rw[hn];rfl
 ·have hn:GR x.t.op=false:=by unfold GR;simp only[Bool.or_eq_false_iff,beq_eq_false_iff_ne];omega
  refine B7 U (A0 U) (by omega) Tryz.call12 U U (A0 U) (λ _ w M hX=>ht v w M hX.st.sat (hX.sl 0 U)) U ?_
  refine AD hB U U (A0 U) (by omega) U (A0 U) λ w M hX=>⟨?_,hX.st.low⟩
  unfold FW;rw[hn];rfl
theorem AM0{α:Type}[Inhabited α]{l:List α}{k:Nat}(h:k<l.length):l.take (k+1)=l.take k++[A2 l (k:Int)]:=by
 obtain⟨h1,h2⟩:=FG l (i:=(k:Int)) (by omega) (by unfold len;omega)
 rw[h2,List.take_add_one];simp[h]
theorem TO{x:Tf}{k:Nat}(h:k<x.ps.length):A2 (F0 x) (k:Int)=((A2 x.ps (k:Int)).named []).flat:=by
 obtain⟨h1,h2⟩:=FG x.ps (i:=(k:Int)) (by omega) (by unfold len;omega)
 obtain⟨h3,h4⟩:=FG (F0 x) (i:=(k:Int)) (by omega) (by unfold len;simp[F0];omega)
 rw[h2,h4];simp[F0]
theorem AM1{x:Tf}{k:Nat}(h:k<x.ps.length):A2 (FX x) (k:Int)=(A2 x.ps (k:Int)).t.name:=by
 obtain⟨h1,h2⟩:=FG x.ps (i:=(k:Int)) (by omega) (by unfold len;omega)
 obtain⟨h3,h4⟩:=FG (FX x) (i:=(k:Int)) (by omega) (by unfold len;simp[FX];omega)
 rw[h2,h4];simp[FX]
theorem WX(x:Tf)(bt:A1)(hbt:len bt<=5)(ht: ∀y∈x.ps,TN (y.named [])/\IL y/\len y.t.name<=100)(hb:len x.flat<=1048576)(v:Value)(w:World)(M:Mem)(hM:Sat w M)(hv:Sl M 11 x.flat.length v (x.flat.flatMap Tm.cells)):
    Calls Tryz.prog 31 [v,str bt].toArray w λ e w'=>e= .returned (str (D3 (x.t.op==8) bt true x.ps))/\Ext w w':=by
 have hpos:=Tf.GN x
 have hop:(A2 x.flat 0).op=x.t.op:=by rw[x.IG];rfl
 have hlp:len x.ps=(x.ps.length:Int):=rfl
 have hpl:=QW x.ps
 have hfl:len x.flat=1+AQ x.ps:=by unfold len;rw[Tf.E5,Tf.size_eq];omega
 have hnl:len (FX x)=len x.ps:=by unfold len;simp[FX]
 have hbl:=AA bt
 refine B8 (Hr:=[]) B3 Tryz.func31 U Tryz.ntmps31 [(0,BD v x.flat)] [] [.sl 0 v,.v (str bt)] U (St.start hM) (fc 0 hv Tm.BI AF) (λ B hB=>?_) U
 refine J5 (λ g:Value×List AJ=>.sl 5 g.1) [5] U (A0 U) (by omega) U Tryz.call30 U U (A0 U) (λ w M hX=>TG x v w M hX.st.sat (hX.sl 0 U) hb) (λ _=>rfl) λ g hgl=>?_
 obtain⟨pv,hs⟩:=g
 have hgl:len hs=len x.ps:=hgl
 refine J5 (λ u:Value=>.sl 6 u) [6] U (A0 U) (by omega) U Tryz.call55 U U (A0 U) (λ w M hX=>AF6 x v w M hX.st.sat (hX.sl 0 U) hb) (λ _=>rfl) λ u _=>?_
 refine DI (σ:=Nat×A1) (λ(k,s)=>⟨[(0,BD v x.flat),(5,F4 pv hs (F0 x)),(6,kn u 1 (FX x) B9)],[],[Z 0 (.sl 0 v),Z 1 (.v (str bt)),Z 5 (.sl 5 pv),Z 6 (.sl 6 u),Z 7 (.v (str s)),Z 8 (I k)]⟩) (λ(k,s)=>k<=x.ps.length/\s=D3 (x.t.op==8) bt true (x.ps.take k)) (λ(k,s)=>x.ps.length-k) (0,[]) U (A0 U) (by omega) U ⟨by omega,by rw[List.take_zero,D3]⟩ ?_
 rintro⟨k,s⟩ ⟨hk,hs0⟩
 have hsl:len s<=2500*AQ x.ps:=by
  have h1:=MD (nm:=x.t.op==8) hbt (x.ps.take k) true λ y hy=>(ht y (List.mem_of_mem_take hy)).2
  have h2:=AC9 x.ps k
  rw[hs0];omega
 have hs1:=AA s
 refine AE U (A0 U) (by omega) (λ h1=>?_) (λ h1=>?_)<;>simp only[zb]at h1
 ·have hkl:k<x.ps.length:=by omega
  obtain⟨y,hy⟩: ∃y,y=A2 x.ps (k:Int):=⟨_,rfl⟩
  have hym:y∈x.ps:=by rw[hy];exact at_mem (by omega) (by omega)
  obtain⟨t1,t2,t3⟩:=ht y hym
  have hyn:=AM1 hkl
  rw[<-hy]at hyn
  have hyz:=MB hym
  have hn7:=aB y.t.name
  unfold IL at t2
  have hil:=WW y.t.op (B4 y)
  have hi0:=AA (FW y.t.op (B4 y))
  refine G8 0 (λ st=> ∃s2,s2=s++(if k=0 then []else bt)/\st=⟨[(0,BD v x.flat),(5,F4 pv hs (F0 x)),(6,kn u 1 (FX x) B9)],[],[Z 0 (.sl 0 v),Z 1 (.v (str bt)),Z 5 (.sl 5 pv),Z 6 (.sl 6 u),Z 7 (.v (str s2)),Z 8 (I k)]⟩) U (A0 U) (by omega) U (λ h2=>?_) (λ h2=>?_) ?_
  ·simp only[zb]at h2
   exact BO _ U (A0 U) (by omega) U ⟨_,by rw[if_neg (by omega)],rfl⟩
  ·simp only[zb]at h2
   exact BO _ U (A0 U) (by omega) U ⟨_,by rw[if_pos (by omega),List.append_nil],rfl⟩
  rintro _ ⟨s2,hs2,rfl⟩
  have hl2:len s2<=len s+5:=by rw[hs2,A5];split;rw[len_nil];omega;omega
  have hl20:=AA s2
  refine G8 0 (λ st=> ∃s3,s3=s2++(if(x.t.op==8)=true then DE y.t.name++[58,32]else [])/\st=⟨[(0,BD v x.flat),(5,F4 pv hs (F0 x)),(6,kn u 1 (FX x) B9)],[],[Z 0 (.sl 0 v),Z 1 (.v (str bt)),Z 5 (.sl 5 pv),Z 6 (.sl 6 u),Z 7 (.v (str s3)),Z 8 (I k)]⟩) U (A0 U) (by omega) U (λ h3=>?_) (λ h3=>?_) ?_
  ·rw[hop]at h3
   refine B7 U (A0 U) (by omega) Tryz.call56 U U (A0 U) (λ _ w M hX=>by have:=AA6 (A2 (FX x) (k:Int)) w (by rw[hyn];omega);exact this) U ?_
   refine BO _ U (A0 U) (by rw[hyn];simp only[A5,A7,len_nil];and_intros<;>first|omega|trivial) U ⟨_,by rw[if_pos h3,hyn,<-List.append_assoc],rfl⟩
  ·rw[hop]at h3
   exact BO _ U (A0 U) (by omega) U ⟨_,by rw[if_neg (by rw[h3];decide),List.append_nil],rfl⟩
  rintro _ ⟨s3,hs3,rfl⟩
  have hl3:len s3<=len s2+700:=by
   rw[hs3,A5];split
   ·rw[A5,A7,A7,len_nil];omega
   ·rw[len_nil];omega
  have hl30:=AA s3
  have hin:FW (y.named []).t.op (B4 (y.named []))=FW y.t.op (B4 y):=by rw[NA,Tf.cH]
  refine CI U (A0 U) (by omega) ?_
  refine FM 9 (BD (A2 hs (k:Int)).v ((y.named []).flat)) (λ w M hX=>by have:=N4 (hX.f.get (k:=5) U) (k:=(k:Int)) (by omega) (by omega);rw[TO hkl,<-hy]at this;exact this) (NW 41 9 U ?_)
  refine B7 U (A0 U) (by omega) Tryz.call29 U U (A0 U) (λ _ w M hX=>nH (y.named []) t1 (by rw[NA];omega) _ w M hX.st.sat (hX.sl 9 U)) U ?_
  refine CS (k+1,s3++FW (y.named []).t.op (B4 (y.named []))) U (A0 U) (by rw[hin];omega) U ⟨by omega,?_⟩ (by show x.ps.length-(k+1)<x.ps.length-k;omega)
  rw[hin,AM0 hkl,<-hy,nE,hs3,hs2,hs0]
  have he:(true&&(x.ps.take k).isEmpty)=decide (k=0):=by
   cases k with
   |zero=>simp
   |succ k=>simp;intro e;rw[e]at hkl;simp at hkl
  rw[he]
  simp only[List.append_assoc,decide_eq_true_eq]
 ·refine AD hB U U (A0 U) (by omega) U (A0 U) λ w M hX=>⟨?_,hX.st.low⟩
  rw[hs0,List.take_of_length_le (by omega)];rfl
end Go.Proofs.YtmjpjbmeamnfpaaGreatDoor
set_option maxRecDepth 100000
namespace Go.Proofs.YtmjpjbmeamnfpaaGreatDoor
open Go.Eng
abbrev WY:List A1:=[[109,97,112],[109,97,112,95,118,97,108,117,101,115],[115,101,108,101,99,116],[],[],[],[],[103,114,111,117,112,95,98,121],[115,111,114,116,95,98,121],[],[100,101,108]]
theorem AM2(x:Tf)(hc:R5 x.t.op)(ht: ∀y∈x.ps,TN (y.named [])/\IL y)(hs:len x.t.s<=100)(hb:len x.flat<=1048576)(v:Value)(w:World)(M:Mem)(hM:Sat w M)(hv:Sl M 11 x.flat.length v (x.flat.flatMap Tm.cells)):
    Calls Tryz.prog 33 [v].toArray w λ e w'=>e= .returned (str (C6 x.t.op++[40]++(if len x.ps=1 then KZ x.ps else x.t.s)++[41]))/\Ext w w':=by
 have hpos:=Tf.GN x
 have hop:(A2 x.flat 0).op=x.t.op:=by rw[x.IG];rfl
 have hss:(A2 x.flat 0).s=x.t.s:=by rw[x.IG];rfl
 have hmm:(A2 x.flat 0).many=len x.ps:=by rw[x.IG];rfl
 have hlp:len x.ps=(x.ps.length:Int):=rfl
 have hpl:=QW x.ps
 have hfl:len x.flat=1+AQ x.ps:=by unfold len;rw[Tf.E5,Tf.size_eq];omega
 have hr:5<=x.t.op/\x.t.op<=15:=by unfold R5 at hc;omega
 have hol:=P6 x.t.op
 have hlen:len (if len x.ps=1 then KZ x.ps else x.t.s)<=2500*AQ x.ps+100:=by
  split
  ·rename_i h
   obtain⟨a,ha⟩:=cE h
   have:=(ht a (by rw[ha];simp)).2
   unfold IL at this
   rw[ha,KZ,AQ,AQ];omega
  ·omega
 refine B8 (Hr:=[]) B3 Tryz.func33 U Tryz.ntmps33 [(0,BD v x.flat)] [] [.sl 0 v] U (St.start hM) (fc 0 hv Tm.BI AF) (λ B hB=>?_) U
 refine D2 1 WY B9 1 9 DO U (A0 U) (by omega) U (A0 U) (λ w=>by kernel_rfl) U λ u=>?_
 refine G8 0 (λ st=> ∃s2,s2=(if len x.ps=1 then KZ x.ps else x.t.s)/\st=⟨[(0,BD v x.flat),(1,kn u 1 WY B9)],[],[Z 0 (.sl 0 v),Z 3 (.sl 1 u),Z 4 (.v (str s2))]⟩) U (A0 U) (by omega) U (λ h1=>?_) (λ h1=>?_) ?_
 ·simp only[zb]at h1
  rw[hmm]at h1
  obtain⟨a,ha⟩:=cE h1
  have hta:=(ht a (by rw[ha];simp)).1
  have hk:0<x.ps.length:=by omega
  have hat:A2 x.ps ((0:Nat):Int)=a:=by rw[ha];rfl
  refine J5 (λ g:Value×List AJ=>.sl 5 g.1) [5] U (A0 U) (by omega) U Tryz.call30 U U (A0 U) (λ w M hX=>TG x v w M hX.st.sat (hX.sl 0 U) hb) (λ _=>rfl) λ g hgl=>?_
  obtain⟨pv,hs'⟩:=g
  have hgl:len hs'=len x.ps:=hgl
  refine CI U (A0 U) (by omega) ?_
  refine FM 9 (BD (A2 hs' 0).v ((a.named []).flat)) (λ w M hX=>by have:=N4 (hX.f.get (k:=5) U) (k:=((0:Nat):Int)) (by omega) (by omega);rw[TO hk,hat]at this;exact this) (NW 18 9 U ?_)
  refine B7 U (A0 U) (by omega) Tryz.call12 U U (A0 U) (λ _ w M hX=>hta _ w M hX.st.sat (hX.sl 9 U)) U ?_
  exact BO _ U (A0 U) (by omega) U ⟨_,by rw[if_pos h1,ha,KZ,NA],rfl⟩
 ·simp only[zb]at h1
  rw[hmm]at h1
  exact BO _ U (A0 U) (by omega) U ⟨_,by rw[if_neg h1,hss],rfl⟩
 rintro _ ⟨s2,hs2,rfl⟩
 rw[<-hs2]at hlen
 have h20:=AA s2
 have hw:A2 WY (x.t.op-5)=C6 x.t.op:=rfl
 have hwl:len WY=11:=rfl
 refine AD hB U U (A0 U) (by rw[hop,hw];simp only[A5,A7,len_nil];and_intros<;>first|omega|trivial) U (A0 U) λ w M hX=>⟨?_,hX.st.low⟩
 rw[hop,hw,hs2];rfl
theorem AM3: ∀(n:Nat) (x:Tf),x.size<=n->x.BP->L1 x.flat->len x.flat<=100000->TN x:=by
 intro n
 induction n with
 |zero=>intro x h;have:=x.size_pos;omega
 |succ n ih=>
 intro x hn hg hsh hb0 v w M hM hv
 have hb:len x.flat<=1048576:=by omega
 have hkids:=hg.kids
 have hview:=K3 hg
 have hroot:=hsh.root
 have hpos:=Tf.GN x
 have hop:(A2 x.flat 0).op=x.t.op:=by rw[x.IG];rfl
 have hss:(A2 x.flat 0).s=x.t.s:=by rw[x.IG];rfl
 have hnn:(A2 x.flat 0).n=x.t.n:=by rw[x.IG];rfl
 have hcc:(A2 x.flat 0).c=x.t.c:=by rw[x.IG];rfl
 have hlp:len x.ps=(x.ps.length:Int):=rfl
 have hfl:len x.flat=1+AQ x.ps:=by unfold len;rw[Tf.E5,Tf.size_eq];omega
 have hK: ∀y∈x.ps,TN (y.named [])/\IL y/\len y.t.name<=100:=λ y hy=>by
  have hz:=MB hy
  rw[Tf.size_eq]at hn
  have hyl:len (y.named []).flat=y.size:=by unfold len;rw[Tf.AC4,Tf.E5]
  exact⟨ih (y.named []) (by rw[Tf.AC6];omega) ((hkids y hy).named []) (hsh.IK hy).named (by omega),nD y.size y (Nat.le_refl _) (hkids y hy) (hsh.IK hy),(hsh.IK hy).root.2.1⟩
 refine B8 (Hr:=[]) B3 Tryz.func12 U Tryz.ntmps12 [(0,BD v x.flat)] [] [.sl 0 v] U (St.start hM) (fc 0 hv Tm.BI AF) (λ B hB=>?_) U
 refine CY 1 U (A0 U) (by omega) Tryz.zeroValue51 U λ bb=>?_
 refine AE U (A0 U) (by omega) (λ h0=>?_) (λ h0=>?_)<;>simp only[zb]at h0<;>rw[hop]at h0
 ·refine AD hB U U (A0 U) (by omega) U (A0 U) λ w M hX=>⟨?_,hX.st.low⟩
  rw[AK2 h0];rfl
 refine AE U (A0 U) (by omega) (λ h1=>?_) (λ h1=>?_)<;>simp only[zb]at h1<;>rw[hop]at h1
 ·refine D2 2 [(⟨false,(A2 x.flat 0).s,0⟩:Sp)] Sp.cells 3 68 Sp.BI U (A0 U) (by omega) U (A0 U) (λ w=>by kernel_rfl) U λ v2=>?_
  refine B7 U (A0 U) (by omega) Tryz.call27 U U (A0 U) (λ _ w M hX=>AF7 (A2 x.flat 0).s v2 w M hX.st.sat (hX.sl 2 U) (by rw[hss];omega)) U ?_
  refine AD hB U U (A0 U) (by omega) U (A0 U) λ w M hX=>⟨?_,hX.st.low⟩
  rw[AK3 h1,hss];rfl
 refine AE U (A0 U) (by omega) (λ h2=>?_) (λ h2=>?_)<;>simp only[zb]at h2<;>rw[hop]at h2
 ·have hnr:=nG hview (by omega)
  have hit:=LA (A2 x.flat 0).n
  refine B7 U (A0 U) (by omega) Tryz.call28 U U (A0 U) (λ _ w M hX=>lQ (A2 x.flat 0).n w (by omega) (by omega)) U ?_
  refine AD hB U U (A0 U) (by simp only[A5,A7,len_nil];and_intros<;>first|omega|trivial) U (A0 U) λ w M hX=>⟨?_,hX.st.low⟩
  rw[AK4 h2,hnn];rfl
 refine AE U (A0 U) (by omega) (λ h3=>?_) (λ h3=>?_)<;>simp only[zb]at h3<;>rw[hop]at h3
 ·have hnr:=nG hview (by omega)
  have hit:=LA (A2 x.flat 0).n
  refine B7 U (A0 U) (by omega) Tryz.call28 U U (A0 U) (λ _ w M hX=>lQ (A2 x.flat 0).n w (by omega) (by omega)) U ?_
  refine AD hB U U (A0 U) (by simp only[A5,A7,len_nil];and_intros<;>first|omega|trivial) U (A0 U) λ w M hX=>⟨?_,hX.st.low⟩
  rw[AK5 h3,hnn];rfl
 refine AE U (A0 U) (by omega) (λ h4=>?_) (λ h4=>?_)<;>simp only[zb]at h4<;>rw[hop]at h4
 ·obtain⟨a,b,hps⟩:=AL6 hview h4
  have hp2:x.ps.length=2:=by rw[hps];rfl
  obtain⟨ta,la,_⟩:=hK a (by rw[hps];simp)
  obtain⟨tb,lb,_⟩:=hK b (by rw[hps];simp)
  have hza:a.size<=100000/\b.size<=100000:=by rw[hps,AQ,AQ,AQ]at hfl;omega
  unfold IL at la lb
  have hil:=WW a.t.op (B4 a)
  have hin:FW (a.named []).t.op (B4 (a.named []))=FW a.t.op (B4 a):=by rw[NA,Tf.cH]
  refine J5 (λ g:Value×List AJ=>.sl 5 g.1) [5] U (A0 U) (by omega) U Tryz.call30 U U (A0 U) (λ w M hX=>TG x v w M hX.st.sat (hX.sl 0 U) hb) (λ _=>rfl) λ g5 hg5=>?_
  obtain⟨pv5,hs5⟩:=g5
  have hg5:len hs5=len x.ps:=hg5
  refine CI U (A0 U) (by omega) ?_
  refine FM 9 (BD (A2 hs5 0).v ((a.named []).flat)) (λ w M hX=>by have:=N4 (hX.f.get (k:=5) U) (k:=((0:Nat):Int)) (by omega) (by omega);rw[TO (by omega),show A2 x.ps ((0:Nat):Int)=a from by rw[hps];rfl]at this;exact this) (NW 37 9 U ?_)
  refine B7 U (A0 U) (by omega) Tryz.call29 U U (A0 U) (λ _ w M hX=>nH (a.named []) ta (by rw[NA];omega) _ w M hX.st.sat (hX.sl 9 U)) U ?_
  refine J5 (λ g:Value×List AJ=>.sl 6 g.1) [6] U (A0 U) (by rw[hin];simp only[A5,A7,len_nil];and_intros<;>first|omega|trivial) U Tryz.call30 U U (A0 U) (λ w M hX=>TG x v w M hX.st.sat (hX.sl 0 U) hb) (λ _=>rfl) λ g6 hg6=>?_
  obtain⟨pv6,hs6⟩:=g6
  have hg6:len hs6=len x.ps:=hg6
  refine CI U (A0 U) (by omega) ?_
  refine FM 10 (BD (A2 hs6 1).v ((b.named []).flat)) (λ w M hX=>by have:=N4 (hX.f.get (k:=6) U) (k:=((1:Nat):Int)) (by omega) (by omega);rw[TO (by omega),show A2 x.ps ((1:Nat):Int)=b from by rw[hps];rfl]at this;exact this) (NW 43 10 U ?_)
  refine B7 U (A0 U) (by omega) Tryz.call12 U U (A0 U) (λ _ w M hX=>tb _ w M hX.st.sat (hX.sl 10 U)) U ?_
  refine AD hB U U (A0 U) (by rw[hin,NA];simp only[A5,A7,len_nil];and_intros<;>first|omega|trivial) U (A0 U) λ w M hX=>⟨?_,hX.st.low⟩
  rw[AK6 h4,hps,bZ,mA,hin,NA];rfl
 refine AE U (A0 U) (by omega) (λ h8=>?_) (λ h8=>?_)<;>simp only[zb]at h8<;>rw[hop]at h8
 ·have hjl:=MD (nm:=x.t.op==8) (bt:=[44,32]) (by decide) x.ps true λ y hy=>(hK y hy).2
  refine B7 U (A0 U) (by omega) Tryz.call31 U U (A0 U) (λ _ w M hX=>WX x [44,32] (by decide) hK hb v w M hX.st.sat (hX.sl 0 U)) U ?_
  refine AD hB U U (A0 U) (by simp only[A5,A7,len_nil];and_intros<;>first|omega|trivial) U (A0 U) λ w M hX=>⟨?_,hX.st.low⟩
  rw[AK7 h8,show(x.t.op==8)=true from by rw[h8];rfl];rfl
 refine AE U (A0 U) (by omega) (λ h9=>?_) (λ h9=>?_)<;>simp only[zb]at h9<;>rw[hop]at h9
 ·have hjl:=MD (nm:=x.t.op==8) (bt:=[44,32]) (by decide) x.ps true λ y hy=>(hK y hy).2
  refine B7 U (A0 U) (by omega) Tryz.call31 U U (A0 U) (λ _ w M hX=>WX x [44,32] (by decide) hK hb v w M hX.st.sat (hX.sl 0 U)) U ?_
  refine AD hB U U (A0 U) (by simp only[A5,A7,len_nil];and_intros<;>first|omega|trivial) U (A0 U) λ w M hX=>⟨?_,hX.st.low⟩
  rw[AK8 h9,show(x.t.op==8)=false from by rw[h9];rfl];rfl
 refine AE U (A0 U) (by omega) (λ h10=>?_) (λ h10=>?_)<;>simp only[zb]at h10<;>rw[hop]at h10
 ·refine AD hB U U (A0 U) (by omega) U (A0 U) λ w M hX=>⟨?_,hX.st.low⟩
  rw[AK9 h10];rfl
 refine AE U (A0 U) (by omega) (λ h11=>?_) (λ h11=>?_)<;>simp only[zb]at h11<;>rw[hop]at h11
 ·refine AD hB U U (A0 U) (by omega) U (A0 U) λ w M hX=>⟨?_,hX.st.low⟩
  rw[AL0 h11];rfl
 refine AE U (A0 U) (by omega) (λ h14=>?_) (λ h14=>?_)<;>simp only[zb]at h14<;>rw[hop]at h14
 ·refine AD hB U U (A0 U) (by omega) U (A0 U) λ w M hX=>⟨?_,hX.st.low⟩
  rw[AL1 h14];rfl
 refine AE U (A0 U) (by omega) (λ h16=>?_) (λ h16=>?_)<;>simp only[zb]at h16<;>rw[hop]at h16
 ·obtain⟨hn0,hn5,hsc⟩:=AL7 hview h16
  have hsl:=nC hsc hroot.2.2
  have hse:=nA hsc
  have hml:len (A2 CH (A2 x.flat 0).n)<=2:=by
   rw[hnn]
   have:x.t.n=0\/x.t.n=1\/x.t.n=2\/x.t.n=3\/x.t.n=4\/x.t.n=5:=by omega
   rcases this with h|h|h|h|h|h<;>rw[h]<;>decide
  have hlg:len CH=6:=rfl
  have hs0:=AA (A2 x.flat 0).s
  have hm0:=AA (A2 CH (A2 x.flat 0).n)
  have hc0:=AA (H9 (A2 x.flat 0).c)
  have hcs:len (H9 (A2 x.flat 0).c)<=1300:=by rw[hcc];exact hsl
  have hsS:len (A2 x.flat 0).s<=100:=by rw[hss];exact hroot.1
  have hnS:0<=(A2 x.flat 0).n/\(A2 x.flat 0).n<6:=by rw[hnn];omega
  refine N2 [3,12,14] 4 (λ _ _ _ _ _ h=>h) U (A0 U) (by omega) IA (by decide+kernel) ?_
  refine iL 3 12 U (A0 U) (by simp only[A5,A7,len_nil];and_intros<;>first|omega|trivial) U U ?_ ?_
  ·refine D2 2 CH B9 1 9 DO U (A0 U) (by omega) U (A0 U) (λ w=>by kernel_rfl) U λ v2=>?_
   refine DB U (A0 U) (by omega) ?_
   refine E8 12 U (A0 U) (by simp only[A5,A7,len_nil];and_intros<;>first|omega|trivial) U U ?_
   refine B7 U (A0 U) (by omega) Tryz.call32 U U (A0 U) (λ _ w M hX=>mH (A2 x.flat 0).c w (by rw[hcc];omega) (by rw[hcc];omega)) U ?_
   refine DB U (A0 U) (by omega) ?_
   refine E8 14 U (A0 U) (by simp only[A5,A7,len_nil];and_intros<;>first|omega|trivial) U U ?_
   refine DB U (A0 U) (by omega) ?_
   refine KP U (A0 U) (by omega) U U ?_
   refine AD hB U U (A0 U) (by omega) U (A0 U) λ w M hX=>⟨?_,hX.st.low⟩
   rw[nF h16,hss,hnn,hcc];rfl
  ·refine B7 U (A0 U) (by omega) Tryz.call32 U U (A0 U) (λ _ w M hX=>mH (A2 x.flat 0).c w (by rw[hcc];omega) (by rw[hcc];omega)) U ?_
   refine DB U (A0 U) (by omega) ?_
   refine E8 3 U (A0 U) (by simp only[A5,A7,len_nil];and_intros<;>first|omega|trivial) U U ?_
   refine D2 2 CH B9 1 9 DO U (A0 U) (by omega) U (A0 U) (λ w=>by kernel_rfl) U λ v2=>?_
   refine DB U (A0 U) (by omega) ?_
   refine E8 14 U (A0 U) (by simp only[A5,A7,len_nil];and_intros<;>first|omega|trivial) U U ?_
   refine DB U (A0 U) (by omega) ?_
   refine KP U (A0 U) (by omega) U U ?_
   refine AD hB U U (A0 U) (by omega) U (A0 U) λ w M hX=>⟨?_,hX.st.low⟩
   rw[nF h16,hss,hnn,hcc];rfl
 refine AE U (A0 U) (by omega) (λ h17=>?_) (λ h17=>?_)<;>simp only[zb]at h17<;>rw[hop]at h17
 ·have hjl:=MD (nm:=x.t.op==8) (bt:=[32,97,110,100,32]) (by decide) x.ps true λ y hy=>(hK y hy).2
  refine B7 U (A0 U) (by omega) Tryz.call31 U U (A0 U) (λ _ w M hX=>WX x [32,97,110,100,32] (by decide) hK hb v w M hX.st.sat (hX.sl 0 U)) U ?_
  refine AD hB U U (A0 U) (by omega) U (A0 U) λ w M hX=>⟨?_,hX.st.low⟩
  rw[AL2 h17,show(x.t.op==8)=false from by rw[h17];rfl];rfl
 refine AE U (A0 U) (by omega) (λ h18=>?_) (λ h18=>?_)<;>simp only[zb]at h18<;>rw[hop]at h18
 ·have hjl:=MD (nm:=x.t.op==8) (bt:=[32,111,114,32]) (by decide) x.ps true λ y hy=>(hK y hy).2
  refine B7 U (A0 U) (by omega) Tryz.call31 U U (A0 U) (λ _ w M hX=>WX x [32,111,114,32] (by decide) hK hb v w M hX.st.sat (hX.sl 0 U)) U ?_
  refine AD hB U U (A0 U) (by omega) U (A0 U) λ w M hX=>⟨?_,hX.st.low⟩
  rw[AL3 h18,show(x.t.op==8)=false from by rw[h18];rfl];rfl
 refine AE U (A0 U) (by omega) (λ h19=>?_) (λ h19=>?_)<;>simp only[zb]at h19<;>rw[hop]at h19
 ·obtain⟨a,hps⟩:=AL8 hview h19
  have hp1:x.ps.length=1:=by rw[hps];rfl
  obtain⟨ta,la,_⟩:=hK a (by rw[hps];simp)
  have hza:a.size<=100000:=by rw[hps,AQ,AQ]at hfl;omega
  unfold IL at la
  refine J5 (λ g:Value×List AJ=>.sl 5 g.1) [5] U (A0 U) (by omega) U Tryz.call30 U U (A0 U) (λ w M hX=>TG x v w M hX.st.sat (hX.sl 0 U) hb) (λ _=>rfl) λ g5 hg5=>?_
  obtain⟨pv5,hs5⟩:=g5
  have hg5:len hs5=len x.ps:=hg5
  refine CI U (A0 U) (by omega) ?_
  refine FM 9 (BD (A2 hs5 0).v ((a.named []).flat)) (λ w M hX=>by have:=N4 (hX.f.get (k:=5) U) (k:=((0:Nat):Int)) (by omega) (by omega);rw[TO (by omega),show A2 x.ps ((0:Nat):Int)=a from by rw[hps];rfl]at this;exact this) (NW 93 9 U ?_)
  refine B7 U (A0 U) (by omega) Tryz.call12 U U (A0 U) (λ _ w M hX=>ta _ w M hX.st.sat (hX.sl 9 U)) U ?_
  refine AD hB U U (A0 U) (by rw[NA];simp only[A5,A7,len_nil];and_intros<;>first|omega|trivial) U (A0 U) λ w M hX=>⟨?_,hX.st.low⟩
  rw[AL4 h19,hps,KZ,NA];rfl
 have hco:R5 x.t.op:=AL9 hview (by omega)
 refine B7 U (A0 U) (by omega) Tryz.call33 U U (A0 U) (λ _ w M hX=>AM2 x hco (λ y hy=>⟨(hK y hy).1,(hK y hy).2.1⟩) hroot.1 hb v w M hX.st.sat (hX.sl 0 U)) U ?_
 refine AD hB U U (A0 U) (by omega) U (A0 U) λ w M hX=>⟨?_,hX.st.low⟩
 rw[AL5 hco];rfl
end Go.Proofs.YtmjpjbmeamnfpaaGreatDoor
set_option maxRecDepth 100000
namespace Go.Proofs.YtmjpjbmeamnfpaaGreatDoor
open Go.Eng
theorem BD.shape {M:Mem}{v:Value}{x:Fl}(h:(BD v x).ok M): ∃s:AJ,v=s.v:=by
 obtain⟨a,c,hv⟩:=h.sl.shape
 exact⟨⟨a,_,c⟩,hv⟩
theorem nI: ∀(n:Nat) (x g:Tf) {w0 wv:World} {M0 M:Mem} {Rs:List HO} (v0 v1:AJ),x.flat.length<=n->DJ x->St w0 M0 wv M Rs->(BD v0.v x.flat).ok M->(BD v1.v g.flat).ok M->len x.flat+len g.flat<=549755813888->
   Calls Tryz.prog 84 [v0.v,v1.v].toArray wv (LU w0 M0 M Rs (EL x g).flat)
 |0,x,g,_,_,_,_,_,v0,v1,hn,_,_,_,_,_=>by have:=x.GN;unfold len at this;omega
 |n+1,x,g,w0,wv,M0,M,Rs,v0,v1,hn,hP,hS,h0,h1,hb=>by
  have hpos:=x.GN
  have hgp:=g.GN
  refine B8 (Hr:=Rs) B3 Tryz.func84 U Tryz.ntmps84 [(0,BD v0.v x.flat),(1,BD v1.v g.flat)] [] [.sl 0 v0.v,.sl 1 v1.v] U hS (CA h0 (CA h1 AF)) (λ B hB=>?_) U
  refine G8 0 (λ s=> ∃(u0 u1:AJ) (f0 f1:Fl),(EL x g).flat= { AH 4 with many:=2}::(f0++f1)/\s=⟨[(0,BD u0.v f0),(1,BD u1.v f1)],[],[Z 0 (.sl 0 u0.v),Z 1 (.sl 1 u1.v)]⟩) U (A0 U) (by simp only[zb]<;>omega) U (λ hb1=>?_) (λ hb1=>?_) ?_
  ·have ho:x.t.op=4:=by simp only[zb]at hb1;rw[Tf.jY]at hb1;exact hb1
   obtain⟨a,b,e,na,nb,hB2,hp⟩:=hP.two ho
   have hpn:F0 x=[a.flat,b.flat]:=by unfold F0;rw[e];show [(a.named []).flat,(b.named []).flat]=_;rw[Tf.aY na,Tf.aY nb]
   have hxl:x.flat.length=1+(a.flat.length+b.flat.length):=by rw[e,Tf.OZ];simp;omega
   have hlb:=W0 _ b g (Nat.le_refl _) hB2
   have hps2:len x.ps=2:=by rw[e];rfl
   have hal:A2 (F0 x) 0=a.flat:=by rw[hpn];rfl
   have hbl:A2 (F0 x) 1=b.flat:=by rw[hpn];rfl
   refine AU [] (λ g:Value×List AJ=>.sl 2 g.1) [2] (λ _=>[]) U (A0 U) (by omega) U Tryz.call130 U U (A0 U) U (λ w M hS hF=>AF4 hS (hF.get (k:=0) U) (by omega)) (λ _=>rfl) (λ _=>rfl) λ gg hg=>?_
   refine N2 [7,8,9] 4 (λ _ _ _ _ _ h=>h) U (A0 U) (by omega) IA (by decide+kernel) ?_
   refine E8 7 U (A0 U) (by omega) U U ?_
   refine AU [] (λ h:AJ=>.sl 1 h.v) [] (λ h=>[(1,B6 h.v (EL b g).flat)]) U (A0 U) (by omega) U Tryz.call84 U U (A0 U) U (λ w M hS hF=>nI n b g (A2 gg.2 1) v1 (by omega) hB2 hS (by have:=N4 (hF.get (k:=2) U) (k:=1) (by omega) (by omega);rw[hbl]at this;exact this) (hF.get (k:=1) U) (by unfold len at*;omega)) (λ _=>rfl) (λ _=>rfl) λ h1 _=>?_
   refine EW 1 U ?_
   refine DB U (A0 U) (by omega) ?_
   refine E8 8 U (A0 U) (by omega) U U ?_
   refine DB U (A0 U) (by omega) ?_
   refine E8 9 U (A0 U) (by omega) U U ?_
   refine DB U (A0 U) (by omega) ?_
   refine KP U (A0 U) (by omega) U U ?_
   refine FM 0 (BD (A2 gg.2 0).v a.flat) (λ w M hX=>by have:=N4 (hX.f.get (k:=2) U) (k:=0) (by omega) (by omega);rw[hal]at this;exact this) (NW 0 0 U ?_)
   exact BO _ U (A0 U) (by omega) U ⟨A2 gg.2 0,h1,a.flat,(EL b g).flat,by rw[hp,Tf.OZ],rfl⟩
  ·have ho:x.t.op≠4:=by simp only[zb]at hb1;rw[Tf.jY]at hb1;exact hb1
   refine BO _ U (A0 U) (by omega) U ⟨v0,v1,x.flat,g.flat,by rw[VZ ho,Tf.OZ],rfl⟩
  ·rintro s ⟨u0,u1,f0,f1,hf,rfl⟩
   have hfl:len f0+len f1<=1099511627770:=by
    have:=congrArg len hf
    rw[W0 _ x g (Nat.le_refl _) hP,A7,A5]at this
    omega
   refine SF 2 [{ AH 4 with many:=2}] Tm.cells 11 51 Tm.BI U (A0 U) (by omega) U (A0 U) (λ w=>by kernel_rfl) U λ v2=>?_
   refine EW 2 U ?_
   refine iM 2 U λ a2 c2 e2=>?_
   subst e2
   refine D2 3 [⟨a2,1,c2⟩,u0,u1] BS 1 23 CL U (A0 U) (by omega) U (A0 U) (λ w=>by kernel_rfl) U λ v3=>?_
   refine FM 4 (F4 v3 [⟨a2,1,c2⟩,u0,u1] [[{ AH 4 with many:=2}],f0,f1]) (λ w M hX=>⟨hX.sl 3 U,CL,hX.sl 2 U,hX.sl 0 U,hX.sl 1 U,trivial⟩) ?_
   refine AU [] (λ h:AJ=>.sl 5 h.v) [] (λ h=>[(5,B6 h.v ([[{ AH 4 with many:=2}],f0,f1].flatten))]) U (A0 U) (by omega) U Tryz.call131 U U (A0 U) U (λ w M hS hF=>ZR v3 _ [[{ AH 4 with many:=2}],f0,f1] hS (hF.get (k:=4) U) (by simp only[List.flatten_cons,List.flatten_nil,A5,A7,len_nil];omega) (by simp only[A7,len_nil];omega)) (λ _=>rfl) (λ _=>rfl) λ h5 _=>?_
   refine AD hB U U (A0 U) (by omega) U (A0 U) λ w M' hX=>⟨h5,M',rfl,trivial,hX.le,?_,AF⟩
   have e:(EL x g).flat=[[{ AH 4 with many:=2}],f0,f1].flatten:=by rw[hf];simp
   rw[e]
   exact hX.st.drop _ ((List.sublist_cons_self _ _).cons_cons _)
abbrev GG(hs:List AJ)(xs:List Fl):Kn:=⟨.slice none 0 0,1,([]:List A1),B9,λ M=>CM M 11 Tm.cells hs xs,λ _ _ hm h=>CM.mono hm h⟩
theorem cT{w0 wv:World}{M0 M:Mem}{Rs:List HO}(v:Value)(hs:List AJ)(h:AJ)(xs:List Tf)(x:Tf)(hS:St w0 M0 wv M (VM h.v x.flat::Rs))(hu:Sl M 1 (hs++[h]).length v ((hs++[h]).flatMap BS))(hr:CM M 11 Tm.cells hs (xs.map Tf.flat))
    (hok: ∀y∈xs++[x],DJ y) (hb:len (B1 (xs++[x]))<=137438953472):
    Calls Tryz.prog 51 [v].toArray wv (LU w0 M0 M Rs (DW (xs++[x])).flat):=by
 have hlx:hs.length=xs.length:=by have:=CM.len hr;simpa using this
 have hlh:len (hs++[h])=len hs+1:=by rw[A5];rfl
 have hxl:=T3 (xs++[x])
 have hxl2:len (xs++[x])=len hs+1:=by rw[A5];unfold len;simp[hlx]
 have hln:len hs=(hs.length:Int):=rfl
 have hlast:A2 (hs++[h]) (len (hs++[h])-1)=h:=k8 hs h (by omega)
 refine iC (Hr:=Rs) B3 Tryz.func51 U Tryz.ntmps51 [(0,kn v 1 (hs++[h]) BS),(8,GG hs (xs.map Tf.flat))] [(1,B6 h.v x.flat)] [.sl 0 v] U hS (fc 0 hu CL (CA ⟨Sl.nil M 1,DO,hr⟩ AF)) (λ B hB=>?_) U
 refine CY 3 U (A0 U) (by omega) Tryz.zeroValue23 U λ b3=>?_
 refine CI U (A0 U) (by omega) ?_
 refine N3 ⟨_,[(3,.box b3 [.sl 1 h.v] 23),(1,B6 h.v x.flat)],_⟩ U (by rw[hlast];rfl) U ?_
 refine ZD (gd:=none) 5 0 (len (hs++[h])-1) U (A0 U) (by omega) U (A0 U) U U ⟨.i64,_,rfl,A0 U⟩ Tryz.underlying72 Tryz.sizeOf23 (by omega) U U λ v5=>?_
 rw[yK]
 refine AU [] (λ b:Nat=>.v (.func (.func 129) #[] #[.pointer (some ⟨b,0,none⟩)])) [] (λ b=>[(2,.box b [.sl 5 v5] 72)]) U (A0 U) (by omega) U Tryz.call83 U U (A0 U) U (λ w M hS hF=>AF1 hS (hF.get (k:=5) U).sl) (λ _=>rfl) (λ _=>rfl) λ b2 _=>?_
 refine iF [2] U U ?_
 refine iB (σ:=AJ×Tf) (τ:=Unit) (λ g=>⟨[(8,GG hs (xs.map Tf.flat)),(5,kn v5 1 hs BS)],[(3,.box b3 [.sl 1 g.1.v] 23),(1,B6 g.1.v g.2.flat)],[Z 3 (.bx 3 b3 0)]⟩) (λ k g=>g.2=DW ((xs++[x]).drop (xs.length-k))) (h,x) (λ k g y=>⟨[(8,GG hs (xs.map Tf.flat)),(5,kn v5 1 hs BS)],[(3,.box b3 [.sl 1 g.1.v] 23),(1,B6 g.1.v g.2.flat)],[Z 5 (.v (A2 hs (len hs-1-k)).v),Z 3 (.bx 3 b3 0)]⟩)
   (λ _ _ _ _ h=>h) U (A0 U) (by omega) U (A0 U) Tryz.call129 U (by simp;rfl) (λ _=>rfl) ⟨_,_,λ _=>rfl⟩ (λ w M l D r w' hX=>AF0 (hX.f.get (k:=5) U).sl (by show len hs<=_;omega)) (λ _ _=>rfl)
   (λ k g y l D r M hk hI hp=>?_) U (λ k g y l D r M hk hI hp=>?_) U (λ D g a w hI=>?_)
 ·exact BO _ U (A0 U) (by omega) U U
 ·obtain⟨u,z⟩:=g
  replace hk:k<hs.length:=hk
  dsimp only at hI
  have hj:(len hs-1-k:Int)=((xs.length-(k+1):Nat):Int):=by omega
  have hat:A2 (xs++[x]) (len hs-1-k)=A2 xs (len hs-1-k):=yI xs [x] (by omega) (by unfold len at*;omega)
  have hmem:A2 (xs++[x]) (len hs-1-k)∈xs++[x]:=at_mem (by omega) (by omega)
  have hnext:DW ((xs++[x]).drop (xs.length-(k+1)))=EL (A2 xs (len hs-1-k)) z:=by
   rw[yH (by simp;omega),<-hj,hat,hI,show xs.length-(k+1)+1=xs.length-k by omega]
  have hzl:len z.flat<=2*len (B1 (xs++[x])):=by
   rw[hI]
   have h1:=(W3 (xs:=(xs++[x]).drop (xs.length-k)) (by intro h0;have:=congrArg List.length h0;simp at this;omega) λ y hy=>hok y (List.mem_of_mem_drop hy)).1
   have h2:=yL (xs++[x]) (xs.length-k)
   omega
  have hyl:=k7 hmem
  rw[hat]at hyl
  refine EW 1 U ?_
  refine AU [] (λ h:AJ=>.sl 4 h.v) [] (λ h=>[(4,B6 h.v (EL (A2 xs (len hs-1-k)) z).flat)]) U (A0 U) (by omega) U Tryz.call84 U U (A0 U) U (λ w M hS hF=>nI _ (A2 xs (len hs-1-k)) z (A2 hs (len hs-1-k)) u (Nat.le_refl _) (by rw[<-hat];exact hok _ hmem) hS (by have:=CM.at (k:=len hs-1-k) (hF.get (k:=8) U).more (by omega) (by omega);rw[yJ Tf.flat xs (by omega) (by unfold len at*;omega)]at this;exact⟨this,Tm.BI,trivial⟩) (hF.get (k:=1) U) (by omega)) (λ _=>rfl) (λ _=>rfl) λ h1 _=>?_
  refine CI U (A0 U) (by omega) (N3 ⟨_,[(1,B6 h1.v (EL (A2 xs (len hs-1-k)) z).flat),(3,.box b3 [.sl 1 h1.v] 23)],_⟩ U U U ?_)
  exact BO _ U (A0 U) (by omega) U ⟨(h1,EL (A2 xs (len hs-1-k)) z),rfl,hnext.symm⟩
 ·obtain⟨u,z⟩:=g
  dsimp only at hI
  rw[show xs.length-hs.length=0 by omega,List.drop_zero]at hI
  subst hI
  refine iD 9 (λ _ _ _ _ h=>h) U (s:=⟨[(8,GG hs (xs.map Tf.flat)),(5,kn v5 1 hs BS)],[(3,.box b3 [.sl 1 u.v] 23),(1,B6 u.v (DW (xs++[x])).flat)],[Z 3 (.bx 3 b3 0)]⟩) ?_ a w
  refine AD (hB.CZ U D) U U (A0 U) (by omega) U (A0 U) λ w M hX=>?_
  obtain⟨h1,h2⟩:=hX.shut
  exact⟨by simp,h1,u,M,rfl,trivial,hX.le,h2.drop _ (List.Sublist.cons _ ((List.sublist_cons_self _ _).cons_cons _)),AF⟩
end Go.Proofs.YtmjpjbmeamnfpaaGreatDoor
