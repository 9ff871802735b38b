/-
  Parts Re Xy Kb Kd Rf Plc, put together and made short by wip/py/merge.py (mini.py).
-/
import Derived.Test.YtmjpjbmeamnfpaaGreatDoorZc27
import Derived.Test.YtmjpjbmeamnfpaaGreatDoorZc12
import Derived.Test.YtmjpjbmeamnfpaaGreatDoorZc13
import Derived.Test.YtmjpjbmeamnfpaaGreatDoorZc14
import Derived.Test.YtmjpjbmeamnfpaaGreatDoorZc21
import Derived.Test.YtmjpjbmeamnfpaaGreatDoorZc6
import Derived.Test.YtmjpjbmeamnfpaaGreatDoorZc0
set_option linter.unusedVariables false
set_option linter.unusedSimpArgs false
set_option maxRecDepth 100000
namespace Go.Proofs.YtmjpjbmeamnfpaaGreatDoor
open Go.Eng
theorem AE4(t:Tm)(w:World)(hs:len t.s<=1048576)(hcs:len t.c.s<=1048576):Calls Tryz.prog 70 [mB t].toArray w λ e w'=>e= .returned (.bool (EP t))/\Ext w w':=by
 refine B8 B3 Tryz.func70 U Tryz.ntmps70 [] [] [GF t] U (H3 w) AF (λ B hB=>?_) U
 refine JU 1 U (A0 U) (by omega) U U (A0 U) λ b1=>?_
 refine CY 2 U (A0 U) (by omega) Tryz.zeroValue51 U λ b2=>?_
 refine G8 0 (λ s=> ∃b:Bool,(b=true↔(t.op=0\/t.op=10\/t.op=11\/t.op=14))/\s=⟨[],[(1,.box b1 [I t.op,I t.many,.v (str t.name),.v (str t.s),I t.n,I t.c.kind,I t.c.many,.v (str t.c.name),.v (str t.c.s),.v (.bool t.c.neg),I t.c.e] 51),(2,.box b2 [I t.op,I t.many,.v (str t.name),.v (str []),I 0,I 0,I 0,.v (str []),.v (str []),.v (.bool false),I 0] 51)],[Z 1 (.bx 1 b1 0),Z 3 (.bx 2 b2 0),Z 12 (I t.op),Z 13 (.v (.bool b))]⟩) U (A0 U) (by omega) U (λ h0=>?_) (λ h0=>?_) ?_
 ·exact BO _ U (A0 U) (by omega) U ⟨_,by simp only[zb]at h0 ⊢;omega,rfl⟩
 ·refine AE U (A0 U) (by omega) (λ h1=>?_) (λ h1=>?_)
  ·exact BO _ U (A0 U) (by omega) U ⟨_,by simp only[zb]at h1 ⊢;omega,rfl⟩
  ·refine AE U (A0 U) (by omega) (λ h2=>?_) (λ h2=>?_)
   ·exact BO _ U (A0 U) (by omega) U ⟨_,by simp only[zb]at h2 ⊢;omega,rfl⟩
   ·exact BO _ U (A0 U) (by omega) U ⟨_,by simp only[zb]at h0 h1 h2 ⊢;omega,rfl⟩
 rintro _ ⟨b,hbk,rfl⟩
 refine AE U (A0 U) (by omega) (λ hf=>?_) (λ hf=>?_)
 ·refine CX (.v (.bool (decide (t=(EJ t))))) U (A0 U) (by omega) U (λ w M hX=>PV.bin (AT (v:=GF t) U (A0 U)) (AT (v:=GF (EJ t)) U (A0 U)) (λ _ w _=>MP _ _ _ _ w)) ?_
  refine AD hB U U (A0 U) (by omega) U (A0 U) λ w M hX=>⟨?_,hX.st.low⟩
  unfold EP;rw[if_pos (hbk.1 hf)];rfl
 have n13: ¬(t.op=0\/t.op=10\/t.op=11\/t.op=14):=λ e=>by have:=hbk.2 e;rw[hf]at this;cases this
 clear hbk
 refine AE U (A0 U) (by omega) (λ hf=>?_) (λ hf=>?_)
 ·have hp26:t.op=1:=by simp only[zb]at hf;exact hf
  refine CX (.v (.bool (decide (t= { EJ t with s:=t.s})))) U (A0 U) (by omega) U (λ w M hX=>PV.bin (AT (v:=GF t) U (A0 U)) (AT (v:=GF { EJ t with s:=t.s}) U (A0 U)) (λ _ w _=>MP _ _ _ _ w)) ?_
  refine B7 U (A0 U) (by simp only[zb]<;>omega) Tryz.call59 U U (A0 U) (λ _ w M hX=>QU (Y0 t.s w (by omega))) U ?_
  refine AD hB U U (A0 U) (by omega) U (A0 U) λ w M hX=>⟨?_,hX.st.low⟩
  unfold EP;rw[if_neg n13,if_pos (hp26)];rfl
 have n26: ¬(t.op=1):=by simp only[zb]at hf;exact hf
 refine G8 0 (λ s=> ∃b:Bool,(b=true↔(t.op=2\/t.op=3))/\s=⟨[],[(1,.box b1 [I t.op,I t.many,.v (str t.name),.v (str t.s),I t.n,I t.c.kind,I t.c.many,.v (str t.c.name),.v (str t.c.s),.v (.bool t.c.neg),I t.c.e] 51),(2,.box b2 [I t.op,I t.many,.v (str t.name),.v (str []),I 0,I 0,I 0,.v (str []),.v (str []),.v (.bool false),I 0] 51)],[Z 1 (.bx 1 b1 0),Z 3 (.bx 2 b2 0),Z 12 (I t.op),Z 44 (.v (.bool b))]⟩) U (A0 U) (by omega) U (λ h0=>?_) (λ h0=>?_) ?_
 ·exact BO _ U (A0 U) (by omega) U ⟨_,by simp only[zb]at h0 ⊢;omega,rfl⟩
 ·exact BO _ U (A0 U) (by omega) U ⟨_,by simp only[zb]at h0 ⊢;omega,rfl⟩
 rintro _ ⟨b,hbk,rfl⟩
 refine AE U (A0 U) (by omega) (λ hf=>?_) (λ hf=>?_)
 ·refine CX (.v (.bool (decide (t= { EJ t with n:=t.n})))) U (A0 U) (by omega) U (λ w M hX=>PV.bin (AT (v:=GF t) U (A0 U)) (AT (v:=GF { EJ t with n:=t.n}) U (A0 U)) (λ _ w _=>MP _ _ _ _ w)) ?_
  refine AD hB U U (A0 U) (by omega) U (A0 U) λ w M hX=>⟨?_,hX.st.low⟩
  unfold EP;rw[if_neg n13,if_neg n26,if_pos (hbk.1 hf)];rfl
 have n44: ¬(t.op=2\/t.op=3):=λ e=>by have:=hbk.2 e;rw[hf]at this;cases this
 clear hbk
 refine G8 0 (λ s=> ∃b:Bool,(b=true↔(t.op=4\/t.op=17\/t.op=18))/\s=⟨[],[(1,.box b1 [I t.op,I t.many,.v (str t.name),.v (str t.s),I t.n,I t.c.kind,I t.c.many,.v (str t.c.name),.v (str t.c.s),.v (.bool t.c.neg),I t.c.e] 51),(2,.box b2 [I t.op,I t.many,.v (str t.name),.v (str []),I 0,I 0,I 0,.v (str []),.v (str []),.v (.bool false),I 0] 51)],[Z 1 (.bx 1 b1 0),Z 3 (.bx 2 b2 0),Z 12 (I t.op),Z 68 (.v (.bool b))]⟩) U (A0 U) (by omega) U (λ h0=>?_) (λ h0=>?_) ?_
 ·exact BO _ U (A0 U) (by omega) U ⟨_,by simp only[zb]at h0 ⊢;omega,rfl⟩
 ·refine AE U (A0 U) (by omega) (λ h1=>?_) (λ h1=>?_)
  ·exact BO _ U (A0 U) (by omega) U ⟨_,by simp only[zb]at h1 ⊢;omega,rfl⟩
  ·exact BO _ U (A0 U) (by omega) U ⟨_,by simp only[zb]at h0 h1 ⊢;omega,rfl⟩
 rintro _ ⟨b,hbk,rfl⟩
 refine AE U (A0 U) (by omega) (λ hf=>?_) (λ hf=>?_)
 ·refine CX (.v (.bool (decide (t=(EJ t))))) U (A0 U) (by omega) U (λ w M hX=>PV.bin (AT (v:=GF t) U (A0 U)) (AT (v:=GF (EJ t)) U (A0 U)) (λ _ w _=>MP _ _ _ _ w)) ?_
  refine AD hB U U (A0 U) (by omega) U (A0 U) λ w M hX=>⟨?_,hX.st.low⟩
  unfold EP;rw[if_neg n13,if_neg n26,if_neg n44,if_pos (hbk.1 hf)];rfl
 have n68: ¬(t.op=4\/t.op=17\/t.op=18):=λ e=>by have:=hbk.2 e;rw[hf]at this;cases this
 clear hbk
 refine G8 0 (λ s=> ∃b:Bool,(b=true↔(t.op=5\/t.op=6\/t.op=7\/t.op=19))/\s=⟨[],[(1,.box b1 [I t.op,I t.many,.v (str t.name),.v (str t.s),I t.n,I t.c.kind,I t.c.many,.v (str t.c.name),.v (str t.c.s),.v (.bool t.c.neg),I t.c.e] 51),(2,.box b2 [I t.op,I t.many,.v (str t.name),.v (str []),I 0,I 0,I 0,.v (str []),.v (str []),.v (.bool false),I 0] 51)],[Z 1 (.bx 1 b1 0),Z 3 (.bx 2 b2 0),Z 12 (I t.op),Z 80 (.v (.bool b))]⟩) U (A0 U) (by omega) U (λ h0=>?_) (λ h0=>?_) ?_
 ·exact BO _ U (A0 U) (by omega) U ⟨_,by simp only[zb]at h0 ⊢;omega,rfl⟩
 ·refine AE U (A0 U) (by omega) (λ h1=>?_) (λ h1=>?_)
  ·exact BO _ U (A0 U) (by omega) U ⟨_,by simp only[zb]at h1 ⊢;omega,rfl⟩
  ·refine AE U (A0 U) (by omega) (λ h2=>?_) (λ h2=>?_)
   ·exact BO _ U (A0 U) (by omega) U ⟨_,by simp only[zb]at h2 ⊢;omega,rfl⟩
   ·exact BO _ U (A0 U) (by omega) U ⟨_,by simp only[zb]at h0 h1 h2 ⊢;omega,rfl⟩
 rintro _ ⟨b,hbk,rfl⟩
 refine AE U (A0 U) (by omega) (λ hf=>?_) (λ hf=>?_)
 ·refine CX (.v (.bool (decide (t=(EJ t))))) U (A0 U) (by omega) U (λ w M hX=>PV.bin (AT (v:=GF t) U (A0 U)) (AT (v:=GF (EJ t)) U (A0 U)) (λ _ w _=>MP _ _ _ _ w)) ?_
  refine AD hB U U (A0 U) (by omega) U (A0 U) λ w M hX=>⟨?_,hX.st.low⟩
  unfold EP;rw[if_neg n13,if_neg n26,if_neg n44,if_neg n68,if_pos (hbk.1 hf)];rfl
 have n80: ¬(t.op=5\/t.op=6\/t.op=7\/t.op=19):=λ e=>by have:=hbk.2 e;rw[hf]at this;cases this
 clear hbk
 refine G8 0 (λ s=> ∃b:Bool,(b=true↔(t.op=8\/t.op=9))/\s=⟨[],[(1,.box b1 [I t.op,I t.many,.v (str t.name),.v (str t.s),I t.n,I t.c.kind,I t.c.many,.v (str t.c.name),.v (str t.c.s),.v (.bool t.c.neg),I t.c.e] 51),(2,.box b2 [I t.op,I t.many,.v (str t.name),.v (str []),I 0,I 0,I 0,.v (str []),.v (str []),.v (.bool false),I 0] 51)],[Z 1 (.bx 1 b1 0),Z 3 (.bx 2 b2 0),Z 12 (I t.op),Z 93 (.v (.bool b))]⟩) U (A0 U) (by omega) U (λ h0=>?_) (λ h0=>?_) ?_
 ·exact BO _ U (A0 U) (by omega) U ⟨_,by simp only[zb]at h0 ⊢;omega,rfl⟩
 ·exact BO _ U (A0 U) (by omega) U ⟨_,by simp only[zb]at h0 ⊢;omega,rfl⟩
 rintro _ ⟨b,hbk,rfl⟩
 refine AE U (A0 U) (by omega) (λ hf=>?_) (λ hf=>?_)
 ·refine CX (.v (.bool (decide (t=(EJ t))))) U (A0 U) (by omega) U (λ w M hX=>PV.bin (AT (v:=GF t) U (A0 U)) (AT (v:=GF (EJ t)) U (A0 U)) (λ _ w _=>MP _ _ _ _ w)) ?_
  refine AD hB U U (A0 U) (by omega) U (A0 U) λ w M hX=>⟨?_,hX.st.low⟩
  unfold EP;rw[if_neg n13,if_neg n26,if_neg n44,if_neg n68,if_neg n80,if_pos (hbk.1 hf)];rfl
 have n93: ¬(t.op=8\/t.op=9):=λ e=>by have:=hbk.2 e;rw[hf]at this;cases this
 clear hbk
 refine G8 0 (λ s=> ∃b:Bool,(b=true↔(t.op=12\/t.op=13\/t.op=15))/\s=⟨[],[(1,.box b1 [I t.op,I t.many,.v (str t.name),.v (str t.s),I t.n,I t.c.kind,I t.c.many,.v (str t.c.name),.v (str t.c.s),.v (.bool t.c.neg),I t.c.e] 51),(2,.box b2 [I t.op,I t.many,.v (str t.name),.v (str []),I 0,I 0,I 0,.v (str []),.v (str []),.v (.bool false),I 0] 51)],[Z 1 (.bx 1 b1 0),Z 3 (.bx 2 b2 0),Z 12 (I t.op),Z 104 (.v (.bool b))]⟩) U (A0 U) (by omega) U (λ h0=>?_) (λ h0=>?_) ?_
 ·exact BO _ U (A0 U) (by omega) U ⟨_,by simp only[zb]at h0 ⊢;omega,rfl⟩
 ·refine AE U (A0 U) (by omega) (λ h1=>?_) (λ h1=>?_)
  ·exact BO _ U (A0 U) (by omega) U ⟨_,by simp only[zb]at h1 ⊢;omega,rfl⟩
  ·exact BO _ U (A0 U) (by omega) U ⟨_,by simp only[zb]at h0 h1 ⊢;omega,rfl⟩
 rintro _ ⟨b,hbk,rfl⟩
 refine AE U (A0 U) (by omega) (λ hf=>?_) (λ hf=>?_)
 ·refine CX (.v (.bool (decide (t= { EJ t with s:=t.s})))) U (A0 U) (by omega) U (λ w M hX=>PV.bin (AT (v:=GF t) U (A0 U)) (AT (v:=GF { EJ t with s:=t.s}) U (A0 U)) (λ _ w _=>MP _ _ _ _ w)) ?_
  refine B7 U (A0 U) (by simp only[zb]<;>omega) Tryz.call102 U U (A0 U) (λ _ w M hX=>lT t.s w hs) U ?_
  refine AD hB U U (A0 U) (by omega) U (A0 U) λ w M hX=>⟨?_,hX.st.low⟩
  unfold EP;rw[if_neg n13,if_neg n26,if_neg n44,if_neg n68,if_neg n80,if_neg n93,if_pos (hbk.1 hf)];rfl
 have n104: ¬(t.op=12\/t.op=13\/t.op=15):=λ e=>by have:=hbk.2 e;rw[hf]at this;cases this
 clear hbk
 refine AE U (A0 U) (by omega) (λ hf=>?_) (λ hf=>?_)
 ·have hp124:t.op=16:=by simp only[zb]at hf;exact hf
  refine CX (.v (.bool (decide (t= { EJ t with s:=t.s,n:=t.n,c:=t.c})))) U (A0 U) (by omega) U (λ w M hX=>PV.bin (AT (v:=GF t) U (A0 U)) (AT (v:=GF { EJ t with s:=t.s,n:=t.n,c:=t.c}) U (A0 U)) (λ _ w _=>MP _ _ _ _ w)) ?_
  refine B7 U (A0 U) (by simp only[zb]<;>omega) Tryz.call102 U U (A0 U) (λ _ w M hX=>lT t.s w hs) U ?_
  refine SL (.v (.slice none 0 0)) U (A0 U) (by simp only[zb]<;>omega) U (λ hg=>?_) (λ hg=>?_)
  ·refine D2 3 [t.c] Nd.cells 6 46 Nd.BI U (A0 U) (by simp only[zb]<;>omega) U (VE hg U) (λ w=>by kernel_rfl) U λ v=>?_
   refine B7 U (A0 U) (by simp only[zb]<;>omega) Tryz.call103 U U (A0 U) (λ _ w M hX=>AE1 t.c v M w hX.st.sat (hX.sl 3 U) (by omega)) U ?_
   refine AD hB U U (A0 U) (by omega) U (A0 U) λ w M hX=>⟨?_,hX.st.low⟩
   unfold EP J9;rw[if_neg n13,if_neg n26,if_neg n44,if_neg n68,if_neg n80,if_neg n93,if_neg n104,if_pos (hp124)]
   show Ending.returned (.bool _)=_
   simp only[Bool.and_assoc];rfl
  ·refine B7 (u:=.bool (decide (t.c.name=[])&&decide (t.c.many=0)&&II t.c)) U (A0 U) (by simp only[zb]<;>omega) Tryz.call103 U U (A0 U) (λ hW w M hX=>absurd (hW.symm.trans hg) (by decide)) U ?_
   refine AD hB U U (A0 U) (by omega) U (A0 U) λ w M hX=>⟨?_,hX.st.low⟩
   unfold EP J9;rw[if_neg n13,if_neg n26,if_neg n44,if_neg n68,if_neg n80,if_neg n93,if_neg n104,if_pos (hp124)]
   show Ending.returned (.bool _)=_
   simp only[Bool.and_assoc];rfl
 have n124: ¬(t.op=16):=by simp only[zb]at hf;exact hf
 refine AD hB U U (A0 U) (by omega) U (A0 U) λ w M hX=>⟨?_,hX.st.low⟩
 unfold EP;rw[if_neg n13,if_neg n26,if_neg n44,if_neg n68,if_neg n80,if_neg n93,if_neg n104,if_neg n124];rfl
theorem AE5(f:Fl)(v:Value)(M:Mem)(w:World)(hM:Sat w M)(hv:Sl M 11 f.length v (f.flatMap Tm.cells))(hb:len f<=1048576)(hst: ∀t∈f,len t.s<=1048576/\len t.name<=1048576/\len t.c.s<=1048576):
    Calls Tryz.prog 45 [v].toArray w λ e w'=>e= .returned (.bool (KY f))/\Ext w w':=by
 have hl0:=AA f
 refine B8 (Hr:=[]) B3 Tryz.func45 U Tryz.ntmps45 [(0,BD v f)] [] [.sl 0 v] U (St.start hM) (fc 0 hv Tm.BI AF) (λ B hB=>?_) U
 refine B7 U (A0 U) (by simp only[zb]<;>omega) Tryz.call54 U U (A0 U) (λ _ w M hX=>TF f v 0 M w hX.st.sat (hX.sl 0 U) hb (by omega) (by omega)) U ?_
 refine AE U (A0 U) (by simp only[zb]<;>omega) (λ h1=>?_) (λ h1=>?_)<;>simp only[zb]at h1
 ·refine AD hB U U (A0 U) (by omega) U (A0 U) λ w M hX=>⟨?_,hX.st.low⟩
  rw[lZ (by rcases h1 with(h1|h1)|h1;exact .inl (QV h1);exact .inr (.inl h1);exact .inr (.inr h1))];rfl
 obtain⟨x,hz,hfx⟩:=AC2 h1.2 (λ e=>h1.1.1 (by rw[e];rfl))
 have hn:x.t.name=[]:=by have:=h1.1.2;rw[hfx,x.IG]at this;exact this
 have hwb:KY f=x.IJ:=by rw[hfx];exact AD6 hz hn
 have hsz:len f=x.size:=by rw[hfx];unfold len;rw[Tf.E5]
 refine DI (σ:=List Tf×Int) (λ(td,i)=>⟨[(0,BD v f)],[],[Z 0 (.sl 0 v),Z 3 (I i)]⟩) (λ(td,i)=>C5 f i td/\i+AQ td=len f/\x.IJ=GQ td) (λ(td,i)=>(len f-i).toNat) ([x],0) U (A0 U) (by omega) U ⟨by rw[hfx];exact C5.top x,by rw[AQ,AQ];omega,by rw[GQ,GQ,Bool.and_true]⟩ ?_
 rintro⟨td,i⟩ ⟨hs,hi,hg⟩
 refine AE U (A0 U) (by omega) (λ h2=>?_) (λ h2=>?_)<;>simp only[zb]at h2
 ·cases td with
  |nil=>rw[AQ]at hi;omega
  |cons y td=>
   have hy:=hs.node
   have hyl:=hst _ (at_mem hy.1 hy.2.1)
   rw[AQ,Tf.size_eq]at hi
   refine B7 U (A0 U) (by simp only[zb]<;>omega) Tryz.call70 U U (A0 U) (λ _ w M hX=>AE4 (A2 f i) w (by omega) (by omega)) U ?_
   refine B7 U (A0 U) (by simp only[zb]<;>omega) Tryz.call71 U U (A0 U) (λ _ w M hX=>AE3 f v i y td M w hX.st.sat (hX.sl 0 U) hb hs (λ t ht=>(hst t ht).2.1)) U ?_
   have hgy:GQ (y::td)=((EP (A2 f i)&&FC y.t [] y.ps)&&GQ (y.ps++td)):=by
    rw[hy.2.2,GQ,AD2]
    obtain⟨t,ps⟩:=y
    rw[Tf.IJ,Bool.and_assoc];rfl
   refine AE U (A0 U) (by simp only[zb]<;>omega) (λ h3=>?_) (λ h3=>?_)
   ·refine AD hB U U (A0 U) (by omega) U (A0 U) λ w M hX=>⟨?_,hX.st.low⟩
    have:(EP (A2 f i)&&FC y.t [] y.ps)=false:=by
     cases h4:EP (A2 f i)<;>cases h5:FC y.t [] y.ps<;>rw[h4,h5]at h3<;>first|rfl|cases h3
    rw[hwb,hg,hgy,this];rfl
   ·have:(EP (A2 f i)&&FC y.t [] y.ps)=true:=by
     cases h4:EP (A2 f i)<;>cases h5:FC y.t [] y.ps<;>rw[h4,h5]at h3<;>first|rfl|cases h3
    exact CS (y.ps++td,i+1) U (A0 U) (by omega) U ⟨hs.bW,by rw[MA];omega,by rw[hg,hgy,this];rfl⟩ (by show Int.toNat _<Int.toNat _;omega)
 ·have htd:td=[]:=by
   cases td with
   |nil=>rfl
   |cons y td=>rw[AQ]at hi;have:=y.size_pos;omega
  subst htd
  refine AD hB U U (A0 U) (by omega) U (A0 U) λ w M hX=>⟨?_,hX.st.low⟩
  rw[hwb,hg];rfl
theorem AE6(f:Fl)(v:Value)(M:Mem)(w:World)(hM:Sat w M)(hv:Sl M 11 f.length v (f.flatMap Tm.cells))(hb:len f<=1048576)(hst: ∀t∈f,len t.s<=1048576/\len t.name<=1048576/\len t.c.s<=1048576):
    Calls Tryz.prog 21 [v].toArray w λ e w'=>e= .returned (.bool (bY f))/\Ext w w':=by
 refine B8 (Hr:=[]) B3 Tryz.func21 U Tryz.ntmps21 [(0,BD v f)] [] [.sl 0 v] U (St.start hM) (fc 0 hv Tm.BI AF) (λ B hB=>?_) U
 refine B7 U (A0 U) (by omega) Tryz.call45 U U (A0 U) (λ _ w M hX=>AE5 f v M w hX.st.sat (hX.sl 0 U) hb hst) U ?_
 have hne:KY f=true->0<len f:=λ h=>by
  rcases Int.lt_or_le 0 (len f)with h2|h2
  ·exact h2
  ·have:=lZ (v:=f) (.inl (QV (by have:=AA f;omega)))
   rw[h]at this;cases this
 refine B7 U (A0 U) (by
   have hor:KY f=false\/0<len f:=by
    cases hw:KY f
    ·exact .inl U
    ·exact .inr (hne hw)
   rcases hor with h|h<;>simp[h]) Tryz.call46 rfl rfl (A0 rfl) (λ _ w M hX=>cA (A2 f 0) w) rfl ?_
 exact AD hB U U (A0 U) (by omega) U (A0 U) λ w M hX=>⟨rfl,hX.st.low⟩
theorem AE7(f:Fl)(v:Value)(m:Int)(M:Mem)(w:World)(hM:Sat w M)(hv:Sl M 11 f.length v (f.flatMap Tm.cells))(hm:m<=1048576):
    Calls Tryz.prog 9 [v,i64 m].toArray w λ e w'=>e= .returned (.bool (QX f m))/\Ext w w':=by
 have hl0:=AA f
 have hle:len f<=9223372036854775807:=hv.le
 refine B8 (Hr:=[]) B3 Tryz.func9 U Tryz.ntmps9 [(0,BD v f)] [] [.sl 0 v,I m] U (St.start hM) (fc 0 hv Tm.BI AF) (λ B hB=>?_) U
 refine AE U (A0 U) (by omega) (λ h1=>?_) (λ h1=>?_)<;>simp only[zb]at h1
 ·refine AD hB U U (A0 U) (by omega) U (A0 U) λ w M hX=>⟨?_,hX.st.low⟩
  unfold QX;rw[decide_eq_false (by omega)];rfl
 refine DI (σ:=Int) (λ i=>⟨[(0,BD v f)],[],[Z 0 (.sl 0 v),Z 5 (I i)]⟩) (λ i=>0<=i/\i<=len f/\(Eng.sub f 0 i).all OA=true) (λ i=>(len f-i).toNat) 0 U (A0 U) (by omega) U ⟨by omega,by omega,rfl⟩ ?_
 rintro i ⟨hi0,hi1,hia⟩
 refine AE U (A0 U) (by omega) (λ h2=>?_) (λ h2=>?_)<;>simp only[zb]at h2
 ·refine AE U (A0 U) (by simp only[zb]<;>omega) (λ h3=>?_) (λ h3=>?_)<;>simp only[zb]at h3
  ·have hno:f.all OA=false:=by
    rw[<-Bool.not_eq_true,List.all_eq_true]
    intro h
    have:=h _ (at_mem hi0 h2)
    unfold OA at this
    simp only[Bool.and_eq_true,decide_eq_true_eq]at this
    omega
   refine AD hB U U (A0 U) (by omega) U (A0 U) λ w M hX=>⟨?_,hX.st.low⟩
   unfold QX;rw[hno,Bool.and_false];rfl
  ·have hsh:OA (A2 f i)=true:=by
    unfold OA
    simp only[Bool.and_eq_true,decide_eq_true_eq]
    omega
   exact CS (i+1) U (A0 U) (by omega) U ⟨by omega,by omega,by rw[iP hi0 h2,List.all_append,hia];simp[hsh]⟩ (by show Int.toNat _<Int.toNat _;omega)
 ·rw[ZQ (by omega)]at hia
  have hst: ∀t∈f,len t.s<=1048576/\len t.name<=1048576/\len t.c.s<=1048576:=λ t ht=>by
   have:=List.all_eq_true.1 hia t ht
   unfold OA at this
   simp only[Bool.and_eq_true,decide_eq_true_eq]at this
   omega
  refine B7 U (A0 U) (by omega) Tryz.call21 U U (A0 U) (λ _ w M hX=>AE6 f v M w hX.st.sat (hX.sl 0 U) (by omega) hst) U ?_
  refine AD hB U U (A0 U) (by omega) U (A0 U) λ w M hX=>⟨?_,hX.st.low⟩
  unfold QX;rw[hia,decide_eq_true (by omega)];rfl
end Go.Proofs.YtmjpjbmeamnfpaaGreatDoor
namespace Go.Eng
open Go.RowKit
theorem mC{P:Program}{N:Nat}{w0 w:World}{M0 M:Mem}{Hr:List HO}{T:TT}(hT:EN P T){f:FuncId}{fn:Func}{x:Code}{R:Ending->World->Prop}(hf:P.funcs[f]? =some fn)(hb:fn.body=some x)(hn:fn.ntmps=N)(hst:DH x=true)(ho: ∀w,¬R .outgrown w)
  (F:List (Nat×Kn)) (H:List (Nat×HX)) (vs:List XV) (hl:Nat.ble vs.length N=true) (hS:St w0 M0 w M (HD H++Hr)) (hF:BJ M F)
  (h: ∀B,Ends P fn R B->XG ⟨P,N,w0,M0,M,Hr,T,hT,.VH P none 1⟩ B [] (.code x) ⟨F,H,MU 0 vs⟩) {av:List Value} (ha:vs.map XV.d=av):Calls P f av.toArray w R:=by
 subst ha
 refine(callsIn_wide (n:=1)).1 (callsIn_of_wp_marks hf hb trivial ?_ U)
 rw[hn]
 have hs:=AK.enter (vs.map XV.d) N (by rw[List.length_map];exact Nat.le_of_ble_eq_true hl)
 have hE:QF P fn R (bodyPostM Fence.wide 1 P fn R):=⟨λ _ _ _ h=>h⟩
 have:=h _ hE.ends _ w ⟨by rw[<-Q7]at hs;exact hs,M,hS,hF,Mem.le.refl _⟩
 exact this (λ⟨a,w,q⟩=>ho w q) hst
theorem AE8{P:Program}{w:World}{L:Env}{W:Bool}{l:Nat}{x:Operand}{xs:List Operand}{vs:List Value}(hf:A8 L W x (.func (.yield l) #[] #[]))(hx:EH L W xs vs){a:Act}{N:Nat}(hs:AK a N L)(hW:W=true){d:Option Tmp}{tys:Array TypeId}{ty:TypeId}{ps:String}{af:Array Edge}{gd:Option (Nat×Bool)}:
  (execOp a.eval ⟨d,.call ⟨.value x,xs.toArray,tys⟩,ty,ps,af,gd⟩).run P w=(Instr.yield l vs.toArray).run P w:=by
 have e:xs.toArray.map a.eval=vs.toArray:=by rw[List.map_toArray,EH.map hs hW xs vs hx]
 simp only[execOp,resolve,e,hf a N hs hW,Deferred.ofValue,invoke,Sem.run_bind,Sem.run_pure,Result.andThen_ok]
 simp
theorem mD{P:Program}{N:Nat}{w0:World}{M0 M1:Mem}{Hr:List HO}{T:TT}{hT:EN P T}{B:Exit->Act->World->Prop}{k k':List Fr}{m:Md}{s s':XS}{O:Prop}{E:List Ck}{all:Array Oper}{rest:List Oper}{d:Nat}{ty:TypeId}{ps:String}{af:Array Edge}
  {γ:Type} (Hx:γ->List (Nat×HX)) (ids:List Nat) {pu:γ->Prop} {Fg:γ->List (Nat×Kn)} {Hg:γ->List HO} {l:Nat} {xf:Operand} {E1 E2:List Ck} {xs:List Operand} {tys:Array TypeId} {vs:List XV} {A R:List (Nat×HX)} (ks:List Nat)
  (h:run T N k m s=⟨k',.ops all (⟨some d,.call ⟨.value xf,⟨xs⟩,tys⟩,ty,ps,af,none⟩::rest),s',O,E⟩) (hE:AG E) (hO:O) (hf:C9 s'.L .t xf=some (.v (.func (.yield l) #[] #[]),E1)) (hE1:AG E1) (hd:Nat.blt d N=true) (hx:JT s'.L .t xs=some (vs,E2)) (hE2:AG E2)
  (hA:LP ids s'.H=some (A,R)) (hc: ∀w M,St w0 M0 w M (HD A++(HD R++Hr))->BJ M s'.F->M1.le M->hY P l (vs.map XV.d).toArray w (DQ w0 M0 M (HD R++Hr) (λ _:γ=>.bool true) pu Fg Hg)) (hH: ∀g,HD (Hx g)=Hg g)
  (hn: ∀g,pu g->XG ⟨P,N,w0,M0,M1,Hr,T,hT,.VH P none 1⟩ B k' (.ops all rest) ⟨SJ ks (Fg g)++s'.F,Hx g++R,(d,.t,.v (.bool true))::s'.L⟩):XG ⟨P,N,w0,M0,M1,Hr,T,hT,.VH P none 1⟩ B k m s:=by
 refine CI h hE hO λ a w ⟨hs,M,hX⟩ hl hst=>?_
 rw[List.all_cons,Bool.and_eq_true]at hst
 have hSt:St w0 M0 w M (HD A++(HD R++Hr)):=hX.st.perm (by rw[<-List.append_assoc];exact(NX hA).append_right _)
 obtain⟨fn,tmps,assign,body,hy,hr⟩:=hc w M hSt hX.f hX.le
 unfold wpListIn
 rw[if_pos (show Region.wanted ⟨some d,.call ⟨.value xf,⟨xs⟩,tys⟩,ty,ps,af,none⟩ (yielded all a.tmps)=true from rfl)]
 refine⟨λ _ _=>trivial,?_⟩
 have key:=AE8 (P:=P) (w:=w) (AT hf hE1) (MX hx hE2) hs U (d:=some d) (tys:=tys) (ty:=ty) (ps:=ps) (af:=af) (gd:=none)
 rw[show(FR none).round=none from rfl,show ∀(o:Oper),Oper.semAt none a.eval o=execOp a.eval o from λ _=>rfl]
 have e1:(⟨xs⟩:Array Operand)=xs.toArray:=rfl
 rw[e1,key,hy]
 refine⟨(λ h=>by cases h),RoundIn.mono (R:=DQ w0 M0 M (HD R++Hr) (λ _:γ=>.bool true) pu Fg Hg) hr λ e w' he=>?_⟩
 obtain⟨g,M',rfl,hp,hle,hS,hF⟩:=he
 have hs2:=SK hs hd (.v (.bool true))
 have e2:HD (Hx g++R)++Hr=Hg g++(HD R++Hr):=by rw[<-hH];unfold HD;rw[List.map_append,List.append_assoc]
 exact hn g hp _ w' ⟨hs2,M',by rw[e2];exact hS,(VD hF).app (hX.f.mono hle),hX.le.trans hle⟩ hl hst.2
end Go.Eng
set_option maxRecDepth 100000
namespace Go.Proofs.YtmjpjbmeamnfpaaGreatDoor
open Go.Eng
abbrev K2(F:List (Nat×Kn)):Kn:=⟨.slice none 0 0,1,([]:List A1),B9,λ M=>BJ M F,λ _ _ hm h=>h.mono hm⟩
theorem AE9{γ:Type}{w0:World}{M0 M:Mem}{Rs:List HO}{u:γ->Value}{pu:γ->Prop}{Fg:γ->List (Nat×Kn)}{Hg:γ->List HO}{e:Ending}{w:World}(h:DQ w0 M0 M Rs u pu Fg Hg e w):DQ w0 M0 M Rs u pu (λ g=>[(9,K2 (Fg g))]) Hg e w:=by
 obtain⟨g,M2,h1,h2,h3,h4,h5⟩:=h
 exact⟨g,M2,h1,h2,h3,h4,CA ⟨Sl.nil M2 1,DO,h5⟩ AF⟩
theorem AF0{w0 w:World}{M0 M:Mem}{y1 y2:HO}{Rs:List HO}{b:Nat}{v:Value}{hs:List AJ}(hl:Sl M 1 hs.length v (hs.flatMap BS))(hb:len hs<=1099511627776):
    ZJ Tryz.prog 129 [.pointer (some ⟨b,0,none⟩)] hs.length w0 M0 (y1::y2:: .box b [v] 72::Rs)
     (λ k (_:Unit)=>[I (len hs-1-k),.v (A2 hs (len hs-1-k)).v]) (λ _ _=>True) (λ _ _=>[]) w M:=by
 intro σ I' Hy Fy l g0 ⟨x1,x2,hx⟩ hS hF hI hy
 have hS2:St w0 M0 w M (.box b [v] 72::x1 g0::x2 g0::(y1::y2::Rs)):=by
  rw[hx]at hS
  exact hS.perm (List.perm_middle (l₁:=[x1 g0,x2 g0,y1,y2])).symm
 refine mC (Hr:=y1::y2::Rs) B3 Tryz.func129 rfl Tryz.ntmps129 rfl (λ w h=>by obtain⟨g,M',h,_⟩:=h;cases h) [(0,kn v 1 hs BS),(9,K2 (Fy g0))] [(0,.box b [.sl 0 v] 72),(1,.ho (x1 g0)),(2,.ho (x2 g0))] [.v (.func (.yield l) #[] #[]),.bx 0 b 0] rfl hS2 (fc 0 hl CL (CA ⟨Sl.nil M 1,DO,hF⟩ AF)) (λ B hB=>?_) rfl
 have hln:len hs=(hs.length:Int):=rfl
 refine DI (σ:=Int×Nat×σ) (λ(i,k,g)=>⟨[(0,kn v 1 hs BS),(9,K2 (Fy g))],[(0,.box b [.sl 0 v] 72),(1,.ho (x1 g)),(2,.ho (x2 g))],[Z 0 (.v (.func (.yield l) #[] #[])),Z 1 (.bx 0 b 0),Z 3 (I i)]⟩) (λ(i,k,g)=>i=len hs-1-k/\k<=hs.length/\I' k g) (λ(i,k,g)=>hs.length-k) (len hs-1,0,g0) U (A0 U) (by simp only[zb]<;>omega) U ⟨by show len hs-1=len hs-1-((0:Nat):Int);omega,Nat.zero_le _,hI⟩ ?_
 rintro⟨i,k,g⟩ ⟨hi,hk,hIk⟩
 refine AE U (A0 U) (by simp only[zb]<;>omega) (λ hb1=>?_) (λ hb1=>?_)
 ·simp only[zb]at hb1
  have hk2:k<hs.length:=by omega
  refine mD (λ g'=>[(1,.ho (x1 g')),(2,.ho (x2 g'))]) [1,2] (γ:=σ) (pu:=I' (k+1)) (Fg:=λ g'=>[(9,K2 (Fy g'))]) (Hg:=Hy) [9] U (A0 U) (by simp only[zb]<;>omega) U (A0 U) U U (A0 U) U (λ w' M' hS' hF' hle=>?_) (λ g'=>by rw[hx];rfl) λ g' hg'=>?_
  ·subst hi
   have hp:(Hy g++(y1::y2:: .box b [v] 72::Rs)).Perm (x1 g::x2 g:: .box b [v] 72::y1::y2::Rs):=by
    rw[hx]
    exact((List.perm_middle (l₁:=[y1,y2])).cons _).cons _
   obtain⟨fn,tt',asg,bd,e1,e2⟩:=hy k g () w' M' hk2 hIk trivial (hS'.perm hp) hle (λ x h=>by cases h) (hF'.get (k:=9) rfl).more
   refine⟨fn,tt',asg,bd,e1,e2.mono λ e w2 h=>?_⟩
   obtain⟨g',M2,q1,q2,q3,q4,q5⟩:=h
   refine⟨g',M2,q1,q2,q3,?_,CA ⟨Sl.nil M2 1,DO,q5⟩ AF⟩
   refine q4.perm (List.Perm.append_left _ ?_)
   exact(List.perm_middle (l₁:=[y1,y2])).symm
  ·refine AE U (A0 U) (by omega) (λ hb2=>?_) (λ hb2=>?_)
   ·cases hb2
   ·exact CS (i-1,k+1,g') U (A0 U) (by simp only[zb]<;>omega) U ⟨by show i-1=len hs-1-((k+1:Nat):Int);omega,hk2,hg'⟩ (by show hs.length-(k+1)<hs.length-k;omega)
 ·simp only[zb]at hb1
  have hk3:k=hs.length:=by omega
  refine NY hB U U (A0 U) (by omega) λ w' M' hX=>⟨g,M',rfl,by rw[<-hk3];exact hIk,hX.le,?_,(hX.f.get (k:=9) U).more⟩
  refine hX.st.perm ?_
  rw[hx]
  exact List.perm_middle (l₁:=[x1 g,x2 g,y1,y2])
theorem AF1{w0 wv:World}{M0 M:Mem}{Rs:List HO}{v:Value}{hs:List AJ}(hS:St w0 M0 wv M Rs)(hl:Sl M 1 hs.length v (hs.flatMap BS)):
  Calls Tryz.prog 83 [v].toArray wv (DQ w0 M0 M Rs (λ b:Nat=>.func (.func 129) #[] #[.pointer (some ⟨b,0,none⟩)]) (λ _=>True) (λ _=>[]) λ b=>[.box b [v] 72]):=by
 refine B8 (Hr:=Rs) B3 Tryz.func83 U Tryz.ntmps83 [(0,kn v 1 hs BS)] [] [.sl 0 v] U hS (fc 0 hl CL AF) (λ B hB=>?_) U
 refine JU 1 U (A0 U) (by omega) U U (A0 U) λ b=>?_
 refine CX (.v (.func (.func 129) #[] #[.pointer (some ⟨b,0,none⟩)])) U (A0 U) (by omega) U (λ w M hX=>PV.makeFunc (xs:=[]) (ys:=[.tmp 1]) (vs:=[]) (us:=[.pointer (some ⟨b,0,none⟩)]) trivial ⟨AT (v:=.bx 1 b 0) (E:=[]) U (A0 U),trivial⟩) ?_
 exact AD hB rfl rfl (A0 rfl) (by omega) rfl (A0 rfl) λ w' M' hX=>⟨b,M',rfl,trivial,hX.le,hX.st,λ x h=>by cases h⟩
end Go.Proofs.YtmjpjbmeamnfpaaGreatDoor
set_option maxRecDepth 100000
namespace Go.Proofs.YtmjpjbmeamnfpaaGreatDoor
open Go.Eng
theorem AF2{w0 w:World}{M0 M:Mem}{y1 y2:HO}{Rs:List HO}{b:Nat}{v:Value}{t:Tf}(hl:(BD v t.flat).ok M)(hb:len t.flat<=1099511627776):
    ZJ Tryz.prog 220 [.pointer (some ⟨b,0,none⟩)] t.ps.length w0 M0 (y1::y2:: .box b [v] 23::Rs)
      (λ k (y:AJ)=>[.v (str (A2 t.ps k).t.name),.sl 5 y.v]) (λ _ _=>True) (λ k y=>[(5,BD y.v ((A2 t.ps k).named []).flat)]) w M:=by
 intro σ I' Hy Fy l g0 ⟨x1,x2,hx⟩ hS hF hI hy
 have hS2:St w0 M0 w M (.box b [v] 23::x1 g0::x2 g0::(y1::y2::Rs)):=by
  rw[hx]at hS
  exact hS.perm (List.perm_middle (l₁:=[x1 g0,x2 g0,y1,y2])).symm
 have hmny:=t.yF
 have hpos:=t.GN
 have hps:=T3 t.ps
 have hpl:len t.flat=1+len (B1 t.ps):=by rw[Tf.N7,A7];omega
 have hln:len t.ps=(t.ps.length:Int):=rfl
 refine mC (Hr:=y1::y2::Rs) B3 Tryz.func220 rfl Tryz.ntmps220 rfl (λ w h=>by obtain⟨g,M',h,_⟩:=h;cases h) [(0,BD v t.flat),(9,K2 (Fy g0))] [(0,.box b [.sl 0 v] 23),(1,.ho (x1 g0)),(2,.ho (x2 g0))] [.v (.func (.yield l) #[] #[]),.bx 0 b 0] rfl hS2 (CA hl (CA ⟨Sl.nil M 1,DO,hF⟩ AF)) (λ B hB=>?_) rfl
 refine DI (σ:=Int×Nat×σ) (λ(i,k,g)=>⟨[(0,BD v t.flat),(9,K2 (Fy g))],[(0,.box b [.sl 0 v] 23),(1,.ho (x1 g)),(2,.ho (x2 g))],[Z 0 (.v (.func (.yield l) #[] #[])),Z 1 (.bx 0 b 0),Z 3 (I i),Z 10 (I (A2 t.flat 0).many),Z 11 (I k)]⟩) (λ(i,k,g)=>H5 t.flat i (t.ps.drop k) []/\k<=t.ps.length/\I' k g) (λ(i,k,g)=>t.ps.length-k) (1,0,g0) U (A0 U) (by simp only[zb]<;>omega) U ⟨H5.root t,Nat.zero_le _,hI⟩ ?_
 rintro⟨i,k,g⟩ ⟨hi,hk,hIk⟩
 refine AE U (A0 U) (by simp only[zb]<;>omega) (λ hb1=>?_) (λ hb1=>?_)<;>simp only[zb]at hb1
 ·have hk2:k<t.ps.length:=by omega
  have hi1:=hi.next hk2
  have hi2:=hi1.step.1
  have hi0:=hi.1
  have hst:=hi1.step.2.1
  refine DI (σ:=Int×Int×List Tf) (λ(tz,lf,st)=>⟨[(0,BD v t.flat),(9,K2 (Fy g))],[(0,.box b [.sl 0 v] 23),(1,.ho (x1 g)),(2,.ho (x2 g))],[Z 0 (.v (.func (.yield l) #[] #[])),Z 1 (.bx 0 b 0),Z 3 (I i),Z 10 (I (A2 t.flat 0).many),Z 11 (I k),Z 4 (I tz),Z 5 (I lf)]⟩) (λ(tz,lf,st)=>H5 t.flat tz st (B1 (t.ps.drop (k+1)))/\lf=len st/\i<=tz/\tz<=len t.flat/\(tz=i->st=[A2 t.ps (k:Int)])) (λ(tz,lf,st)=>(len t.flat-tz).toNat) (i,1,[A2 t.ps (k:Int)]) U (A0 U) (by omega) U ⟨hi1,rfl,by omega,by omega,λ _=>rfl⟩ ?_
  rintro⟨tz,lf,st⟩ ⟨hto,hlf,hit,htl,hne⟩
  refine AE U (A0 U) (by omega) (λ hb2=>?_) (λ hb2=>?_)<;>simp only[zb]at hb2
  ·cases st with
   |nil=>rw[len_nil]at hlf;omega
   |cons u st=>
    obtain⟨q1,q2,q3⟩:=hto.step
    have q4:=q3.aU (by omega)
    have q5:=T3 (u.ps++st)
    have q6:=AA (B1 (t.ps.drop (k+1)))
    have q7:(A2 t.flat tz).many=len u.ps:=by rw[q2]
    rw[A5]at q5
    rw[A7]at hlf
    have q8:=AA u.ps
    have q9:=AA st
    have q0:=hto.1
    exact CS (tz+1,lf+((A2 t.flat tz).many-1),u.ps++st) U (A0 U) (by simp only[zb]<;>omega) U ⟨q3,by rw[A5];omega,by omega,by omega,λ h=>by omega⟩ (by show Int.toNat _<Int.toNat _;omega)
  have hse:st=[]:=by
   have:=AA st
   cases st with
   |nil=>rfl
   |cons u st=>have:=AA st;rw[A7]at hlf;omega
  subst hse
  have hlt:i<tz:=by
   rcases Int.lt_or_eq_of_le hit with h|h
   · exact h
   · cases hne h.symm
  have hpart:=hi1.part hto hit htl
  have hpp:=Tf.GN (A2 t.ps (k:Int))
  have hpl2:len (A2 t.ps (k:Int)).flat<=len t.flat:=by rw[<-hpart,EV (by omega) hit htl];omega
  refine ZD (gd:=none) 4 i tz U (A0 U) (by omega) U (A0 U) U ⟨.i64,_,rfl,A0 U⟩ ⟨.i64,_,rfl,A0 U⟩ Tryz.underlying23 Tryz.sizeOf51 (by omega) U U λ v4=>?_
  rw[hpart]
  refine AU [] (λ u:AJ=>.sl 5 u.v) [] (λ u=>[(5,B6 u.v (A2 t.ps (k:Int)).flat)]) U (A0 U) (by omega) U Tryz.call221 U U (A0 U) U (λ w M hS hF=>vG v4 _ hS (hF.get (k:=4) U) (Tf.jZ _) (by omega)) (λ _=>rfl) (λ _=>rfl) λ h5 _=>?_
  obtain⟨v5,hv5⟩: ∃v5,v5=h5.v:=⟨_,rfl⟩
  rw[<-hv5]
  clear hv5 h5
  refine ZE { A2 (A2 t.ps (k:Int)).flat 0 with name:=[]} rfl (A0 U) (by omega) U (A0 U) U Tryz.sizeOf9 U U U (by omega) λ x5 hx5=>?_
  rw[show((0:Int).toNat)=0 from rfl,Tf.aV]at hx5
  subst hx5
  refine EW 5 U ?_
  have hnm:(A2 t.flat i).name=(A2 t.ps (k:Int)).t.name:=by rw[hst]
  refine mD (λ g'=>[(1,.ho (x1 g')),(2,.ho (x2 g'))]) [1,2] (γ:=σ) (pu:=I' (k+1)) (Fg:=λ g'=>[(9,K2 (Fy g'))]) (Hg:=Hy) [9] U (A0 U) (by simp only[zb]<;>omega) U (A0 U) U U (A0 U) U (λ w' M' hS' hF' hle=>?_) (λ g'=>by rw[hx];rfl) λ g' hg'=>?_
  ·have h5:=hF'.get (k:=5) U
   have h6:Sl M' 11 ((A2 t.ps (k:Int)).named []).flat.length v5 (((A2 t.ps (k:Int)).named []).flat.flatMap Tm.cells):=h5.sl
   obtain⟨a,c,hv⟩:=h6.shape
   have hp:(Hy g++(y1::y2:: .box b [v] 23::Rs)).Perm (x1 g::x2 g:: .box b [v] 23::y1::y2::Rs):=by
    rw[hx]
    exact((List.perm_middle (l₁:=[y1,y2])).cons _).cons _
   replace hv:v5=AJ.v ⟨a,((A2 t.ps (k:Int)).named []).flat.length,c⟩:=hv
   subst hv
   obtain⟨fn,tt',asg,bd,e1,e2⟩:=hy k g ⟨a,_,c⟩ w' M' hk2 hIk trivial (hS'.perm hp) hle (CA h5 AF) (hF'.get (k:=9) rfl).more
   dsimp only at e1
   rw[<-hnm]at e1
   refine⟨fn,tt',asg,bd,e1,e2.mono λ e w2 h=>?_⟩
   obtain⟨g',M2,r1,r2,r3,r4,r5⟩:=h
   refine⟨g',M2,r1,r2,r3,?_,CA ⟨Sl.nil M2 1,DO,r5⟩ AF⟩
   refine r4.perm (List.Perm.append_left _ ?_)
   exact(List.perm_middle (l₁:=[y1,y2])).symm
  ·refine AE U (A0 U) (by omega) (λ hb3=>?_) (λ hb3=>?_)
   ·cases hb3
   ·refine CS (tz,k+1,g') U (A0 U) (by simp only[zb]<;>omega) U ⟨⟨hto.1,?_⟩,hk2,hg'⟩ (by show t.ps.length-(k+1)<t.ps.length-k;omega)
    rw[hto.2];simp[B1]
 ·have hk3:k=t.ps.length:=by omega
  refine NY hB U U (A0 U) (by omega) λ w' M' hX=>⟨g,M',rfl,by rw[<-hk3];exact hIk,hX.le,?_,(hX.f.get (k:=9) U).more⟩
  refine hX.st.perm ?_
  rw[hx]
  exact List.perm_middle (l₁:=[x1 g,x2 g,y1,y2])
theorem AF3{w0 wv:World}{M0 M:Mem}{Rs:List HO}{v:Value}{t:Tf}(hS:St w0 M0 wv M Rs)(hl:(BD v t.flat).ok M):
  Calls Tryz.prog 170 [v].toArray wv (DQ w0 M0 M Rs (λ b:Nat=>.func (.func 220) #[] #[.pointer (some ⟨b,0,none⟩)]) (λ _=>True) (λ _=>[]) λ b=>[.box b [v] 23]):=by
 refine B8 (Hr:=Rs) B3 Tryz.func170 U Tryz.ntmps170 [(0,BD v t.flat)] [] [.sl 0 v] U hS (CA hl AF) (λ B hB=>?_) U
 refine JU 1 U (A0 U) (by omega) U U (A0 U) λ b=>?_
 refine CX (.v (.func (.func 220) #[] #[.pointer (some ⟨b,0,none⟩)])) U (A0 U) (by omega) U (λ w M hX=>PV.makeFunc (xs:=[]) (ys:=[.tmp 1]) (vs:=[]) (us:=[.pointer (some ⟨b,0,none⟩)]) trivial ⟨AT (v:=.bx 1 b 0) (E:=[]) U (A0 U),trivial⟩) ?_
 exact AD hB rfl rfl (A0 rfl) (by omega) rfl (A0 rfl) λ w' M' hX=>⟨b,M',rfl,trivial,hX.le,hX.st,λ x h=>by cases h⟩
abbrev DM(v:Value)(hs:List AJ):HO:=.own 23 1 v hs.length (hs.flatMap BS)
abbrev F0(t:Tf):List Fl:=t.ps.map λ x=>(x.named []).flat
theorem mE{t:Tf}{k:Nat}(hk:k<t.ps.length):(F0 t).take (k+1)=(F0 t).take k++[((A2 t.ps (k:Int)).named []).flat]:=by
 obtain⟨h1,h2⟩:=FG t.ps (i:=(k:Int)) (by omega) (by unfold len;omega)
 rw[h2,List.take_add_one]
 simp[F0,hk]
theorem QY{α:Type}{a b:α}{l:List α}:l.Sublist (a::b::l):=List.sublist_append_right [a,b] l
theorem mF{α:Type}{a b c:α}{l:List α}:l.Sublist (a::b::c::l):=List.sublist_append_right [a,b,c] l
theorem QZ{α:Type}{a b c d:α}{l:List α}:l.Sublist (a::b::c::d::l):=List.sublist_append_right [a,b,c,d] l
theorem AF4{w0 wv:World}{M0 M:Mem}{Rs:List HO}{v:Value}{t:Tf}(hS:St w0 M0 wv M Rs)(hl:(BD v t.flat).ok M)(hb:len t.flat<=1099511627776):
    Calls Tryz.prog 130 [v].toArray wv (DQ w0 M0 M Rs (λ g:Value×List AJ=>g.1) (λ g=>len g.2=len t.ps) (λ g=>[(0,F4 g.1 g.2 (F0 t))]) λ _=>[]):=by
 have hps:=T3 t.ps
 have hpl:len t.flat=1+len (B1 t.ps):=by rw[Tf.N7,A7];omega
 have hln:len t.ps=(t.ps.length:Int):=rfl
 refine iC (Hr:=Rs) B3 Tryz.func130 U Tryz.ntmps130 [(0,BD v t.flat)] [] [.sl 0 v] U hS (CA hl AF) (λ B hB=>?_) U
 refine CY 1 U (A0 U) (by omega) Tryz.zeroValue72 U λ b3=>?_
 refine AU [] (λ b:Nat=>.v (.func (.func 220) #[] #[.pointer (some ⟨b,0,none⟩)])) [] (λ b=>[(2,.box b [.sl 0 v] 23)]) U (A0 U) (by omega) U Tryz.call170 U U (A0 U) U (λ w M hS hF=>AF3 hS (hF.get (k:=0) U)) (λ _=>rfl) (λ _=>rfl) λ b2 _=>?_
 refine iF [2] U U ?_
 refine QJ 6 23 1 BS CL ?_
 refine FM 9 (F4 (.slice none 0 0) [] []) (λ w M hX=>⟨Sl.nil M 1,CL,trivial⟩) ?_
 refine N3 ⟨_,[(6,.ho (DM (.slice none 0 0) [])),(1,.box b3 [.sl 6 (.slice none 0 0)] 72)],_⟩ U U U ?_
 refine iB (σ:=Value×List AJ×List Fl) (τ:=AJ) (λ g=>⟨[(0,BD v t.flat),(6,kn g.1 1 g.2.1 BS),(9,F4 g.1 g.2.1 g.2.2)],[(1,.box b3 [.sl 6 g.1] 72),(6,.ho (DM g.1 g.2.1))],[Z 3 (.bx 1 b3 0)]⟩) (λ k g=>g.2.2=(F0 t).take k/\g.2.1.length=k) (.slice none 0 0,[],[]) (λ k g y=>⟨[(5,BD y.v ((A2 t.ps (k:Int)).named []).flat),(0,BD v t.flat),(6,kn g.1 1 g.2.1 BS),(9,F4 g.1 g.2.1 g.2.2)],[(1,.box b3 [.sl 6 g.1] 72),(6,.ho (DM g.1 g.2.1))],[Z 5 (.sl 5 y.v),Z 3 (.bx 1 b3 0)]⟩)
   (λ _ _ _ _ h=>h) U (A0 U) (by omega) U (A0 U) Tryz.call220 U ⟨rfl,rfl⟩ (λ _=>rfl) ⟨_,_,λ _=>rfl⟩ (λ w M l D r w' hX=>AF2 (hX.f.get (k:=0) U) hb) (λ _ _=>rfl)
   (λ k g y l D r M hk hI hp=>?_) U (λ k g y l D r M hk hI hp=>?_) U (λ D g a w hI=>?_)
 ·exact BO _ U (A0 U) (by omega) U U
 ·obtain⟨vv,hs,xs⟩:=g
  obtain⟨hI1,hI2⟩:=hI
  refine D2 7 [y] BS 1 23 CL U (A0 U) (by omega) U (A0 U) (λ w=>by kernel_rfl) U λ v7=>?_
  refine KN 24 U (A0 U) (by omega) U (A0 U) U Tryz.underlying72 Tryz.type23 U U OX (by simp only[A7,len_nil];unfold len at*;dsimp only at hI2;omega) λ v'=>?_
  refine FM 9 (F4 v' (hs++[y]) (xs++[((A2 t.ps (k:Int)).named []).flat])) (λ w M hX=>⟨hX.sl 6 U,CL,CM.snoc (hX.sl 5 U) (hX.f.get (k:=9) U).more⟩) ?_
  exact BO _ U (A0 U) (by omega) U ⟨(v',hs++[y],xs++[((A2 t.ps (k:Int)).named []).flat]),rfl,by dsimp only at hI1 ⊢;rw[hI1,mE hk],by dsimp only at hI2 ⊢;rw[List.length_append,hI2];rfl⟩
 ·obtain⟨vv,hs,xs⟩:=g
  obtain⟨hI1,hI2⟩:=hI
  dsimp only at hI1
  rw[List.take_of_length_le (by simp[F0])]at hI1
  subst hI1
  refine iD 8 (λ _ _ _ _ h=>h) U (s:=⟨[(0,BD v t.flat),(6,kn vv 1 hs BS),(9,F4 vv hs (F0 t))],[(1,.box b3 [.sl 6 vv] 72),(6,.ho (DM vv hs))],[Z 3 (.bx 1 b3 0)]⟩) ?_ a w
  refine AD (hB.CZ U D) U U (A0 U) (by omega) U (A0 U) λ w M hX=>?_
  obtain⟨h1,h2⟩:=hX.shut
  exact⟨by simp,h1,(vv,hs),M,rfl,by show(hs.length:Int)=_;rw[hI2];rfl,hX.le,h2.drop _ mF,CA (hX.f.get (k:=9) U) AF⟩
end Go.Proofs.YtmjpjbmeamnfpaaGreatDoor
set_option maxRecDepth 100000
namespace Go.Proofs.YtmjpjbmeamnfpaaGreatDoor
open Go.Eng
theorem drop_at{α:Type}[Inhabited α]{l:List α}{k:Nat}(h:k<l.length):l.drop k=A2 l (k:Int)::l.drop (k+1):=by
 obtain⟨h1,h2⟩:=FG l (i:=(k:Int)) (by omega) (by unfold len;omega)
 rw[h2,List.drop_eq_getElem_cons h];simp
theorem mG{x:Tf}{k:Nat}{i:Int}(hk:k<x.ps.length)(hs:C5 x.flat i (x.ps.drop k)):C5 x.flat i (A2 x.ps (k:Int)::x.ps.drop (k+1)):=by rw[<-drop_at hk];exact hs
theorem TG(x:Tf)(v:Value)(w:World)(M:Mem)(hM:Sat w M)(hv:Sl M 11 x.flat.length v (x.flat.flatMap Tm.cells))(hb:len x.flat<=1048576):
   Calls Tryz.prog 30 [v].toArray w (QA w M (λ g:Value×List AJ=>g.1) (λ g=>len g.2=len x.ps) (λ g=>[(0,F4 g.1 g.2 (F0 x))])):=by
 have hm0:(A2 x.flat 0).many=len x.ps:=by rw[x.IG];rfl
 have hpos:=Tf.GN x
 have hlp:len x.ps=(x.ps.length:Int):=rfl
 have hpl:=QW x.ps
 have hfl:len x.flat=1+AQ x.ps:=by unfold len;rw[Tf.E5,Tf.size_eq];omega
 refine B8 (Hr:=[]) B3 Tryz.func30 U Tryz.ntmps30 [(0,BD v x.flat)] [] [.sl 0 v] U (St.start hM) (fc 0 hv Tm.BI AF) (λ B hB=>?_) U
 refine D2 1 [] BS 1 23 CL U (A0 U) (by omega) U (A0 U) (λ w=>by kernel_rfl) U λ u=>?_
 refine CI U (A0 U) (by omega) (FM 6 (F4 u [] ((F0 x).take 0)) (λ w M hX=>⟨hX.sl 1 U,CL,trivial⟩) ?_)
 refine DI (σ:=Nat×Int×Value×List AJ) (λ(k,i,u,hs)=>⟨[(0,BD v x.flat),(1,kn u 1 hs BS),(6,F4 u hs ((F0 x).take k))],[(1,.ho (DM u hs))],[Z 0 (.sl 0 v),Z 3 (.sl 1 u),Z 4 (I i),Z 5 (I k)]⟩) (λ(k,i,u,hs)=>k<=x.ps.length/\C5 x.flat i (x.ps.drop k)/\len hs=k) (λ(k,i,u,hs)=>x.ps.length-k) (0,1,u,[]) U (A0 U) (by omega) U ⟨by omega,x.lU,rfl⟩ ?_
 rintro⟨k,i,u,hs⟩ ⟨hk,hsg,hlk⟩
 refine AE U (A0 U) (by omega) (λ h1=>?_) (λ h1=>?_)<;>simp only[zb]at h1
 ·have hkl:k<x.ps.length:=by omega
  have hsy:=mG hkl hsg
  obtain⟨y,hy⟩: ∃y,y=A2 x.ps (k:Int):=⟨_,rfl⟩
  rw[<-hy]at hsy
  have hnx:=TE hsy
  have hle:=hsy.le
  have hnode:=hsy.node
  have hys:=y.size_pos
  rw[AQ]at hle
  have hsub:=AB9 hsy
  rw[<-hnx]at hsub
  have hyl:len y.flat=y.size:=by unfold len;rw[Tf.E5]
  refine B7 U (A0 U) (by omega) Tryz.call54 U U (A0 U) (λ _ w M hX=>TF x.flat v i M w hX.st.sat (hX.sl 0 U) hb (by omega) (by omega)) U ?_
  refine SF 3 ([]:List Tm) Tm.cells 11 51 Tm.BI U (A0 U) (by omega) U (A0 U) (λ w=>by kernel_rfl) U λ v3=>?_
  refine ZD (gd:=none) 4 i (J7 x.flat i) U (A0 U) (by omega) U (A0 U) U ⟨.i64,_,rfl,A0 U⟩ ⟨.i64,_,rfl,A0 U⟩ Tryz.underlying23 Tryz.sizeOf51 (by omega) U U λ v4=>?_
  rw[hsub]
  refine SG 120 U (A0 U) (by omega) U (A0 U) U Tryz.underlying23 Tryz.type51 U U Tm.cells_one (by rw[len_nil];omega) λ v5=>?_
  rw[List.nil_append]
  refine CY 5 U (A0 U) (by omega) Tryz.zeroValue51 U λ b5=>?_
  refine ZE { A2 y.flat 0 with name:=[]} rfl (A0 U) (by omega) U (A0 U) U Tryz.sizeOf51 U U U (by omega) λ x5 hx5=>?_
  rw[show((0:Int).toNat)=0 from rfl,Tf.aV]at hx5
  subst hx5
  refine EW 3 U ?_
  refine iM 3 U λ a q hq=>?_
  obtain⟨h3,hh3⟩: ∃h3:AJ,v5=h3.v:=⟨⟨a,_,q⟩,hq⟩
  subst hh3
  refine D2 7 [h3] BS 1 23 CL U (A0 U) (by omega) U (A0 U) (λ w=>by kernel_rfl) U λ v7=>?_
  refine KN 24 U (A0 U) (by omega) U (A0 U) U Tryz.underlying72 Tryz.type23 U U OX (by simp only[A7,len_nil];omega) λ v'=>?_
  refine CI U (A0 U) (by omega) (FM 6 (F4 v' (hs++[h3]) ((F0 x).take (k+1))) (λ w M hX=>⟨hX.sl 1 U,CL,by rw[mE hkl,<-hy];exact CM.snoc (hX.sl 3 U) (hX.f.get (k:=6) U).more⟩) ?_)
  exact CS (k+1,J7 x.flat i,v',hs++[h3]) U (A0 U) (by omega) U ⟨by omega,by rw[hnx];exact hsy.rest,by rw[A5,hlk];rfl⟩ (by show x.ps.length-(k+1)<x.ps.length-k;omega)
 ·refine AD hB U U (A0 U) (by omega) U (A0 U) λ w M hX=>⟨(u,hs),M,rfl,by show len hs=_;omega,hX.st.done,CA ?_ AF⟩
  have:=hX.f.get (k:=6) U
  rw[List.take_of_length_le (by simp[F0];omega)]at this
  exact this
abbrev FX(x:Tf):List A1:=x.ps.map λ y=>y.t.name
theorem AF5{x:Tf}{k:Nat}(hk:k<x.ps.length):(FX x).take (k+1)=(FX x).take k++[(A2 x.ps (k:Int)).t.name]:=by
 obtain⟨h1,h2⟩:=FG x.ps (i:=(k:Int)) (by omega) (by unfold len;omega)
 rw[h2,List.take_add_one]
 simp[FX,hk]
theorem AF6(x:Tf)(v:Value)(w:World)(M:Mem)(hM:Sat w M)(hv:Sl M 11 x.flat.length v (x.flat.flatMap Tm.cells))(hb:len x.flat<=1048576):
   Calls Tryz.prog 55 [v].toArray w (QA w M (λ u:Value=>u) (λ _=>True) (λ u=>[(0,kn u 1 (FX x) B9)])):=by
 have hm0:(A2 x.flat 0).many=len x.ps:=by rw[x.IG];rfl
 have hpos:=Tf.GN x
 have hlp:len x.ps=(x.ps.length:Int):=rfl
 have hpl:=QW x.ps
 have hfl:len x.flat=1+AQ x.ps:=by unfold len;rw[Tf.E5,Tf.size_eq];omega
 refine B8 (Hr:=[]) B3 Tryz.func55 U Tryz.ntmps55 [(0,BD v x.flat)] [] [.sl 0 v] U (St.start hM) (fc 0 hv Tm.BI AF) (λ B hB=>?_) U
 refine D2 1 [] B9 1 9 DO U (A0 U) (by omega) U (A0 U) (λ w=>by kernel_rfl) U λ u=>?_
 refine DI (σ:=Nat×Int×Value) (λ(k,i,u)=>⟨[(0,BD v x.flat),(1,kn u 1 ((FX x).take k) B9)],[(1,.ho (.own 9 1 u ((FX x).take k).length (((FX x).take k).flatMap B9)))],[Z 0 (.sl 0 v),Z 3 (.sl 1 u),Z 4 (I i),Z 5 (I k)]⟩) (λ(k,i,u)=>k<=x.ps.length/\C5 x.flat i (x.ps.drop k)) (λ(k,i,u)=>x.ps.length-k) (0,1,u) U (A0 U) (by omega) U ⟨by omega,x.lU⟩ ?_
 rintro⟨k,i,u⟩ ⟨hk,hsg⟩
 refine AE U (A0 U) (by omega) (λ h1=>?_) (λ h1=>?_)<;>simp only[zb]at h1
 ·have hkl:k<x.ps.length:=by omega
  have hsy:=mG hkl hsg
  obtain⟨y,hy⟩: ∃y,y=A2 x.ps (k:Int):=⟨_,rfl⟩
  rw[<-hy]at hsy
  have hnx:=TE hsy
  have hle:=hsy.le
  have hnode:=hsy.node
  have hys:=y.size_pos
  rw[AQ]at hle
  have hyn:(A2 x.flat i).name=y.t.name:=by rw[hnode.2.2];rfl
  have hlt:len ((FX x).take k)<=1048576:=by unfold len at*;rw[List.length_take];omega
  refine D2 3 [(A2 x.flat i).name] B9 1 9 DO U (A0 U) (by omega) U (A0 U) (λ w=>by kernel_rfl) U λ v3=>?_
  refine KN 16 U (A0 U) (by omega) U (A0 U) U Tryz.underlying32 Tryz.type9 U U dS (by simp only[A7,len_nil];omega) λ v'=>?_
  refine B7 U (A0 U) (by omega) Tryz.call54 U U (A0 U) (λ _ w M hX=>TF x.flat v i M w hX.st.sat (hX.sl 0 U) hb (by omega) (by omega)) U ?_
  exact CS (k+1,J7 x.flat i,v') U (A0 U) (by omega) (by dsimp only;rw[AF5 hkl,<-hy,<-hyn];rfl) ⟨by omega,by rw[hnx];exact hsy.rest⟩ (by show x.ps.length-(k+1)<x.ps.length-k;omega)
 ·refine AD hB U U (A0 U) (by omega) U (A0 U) λ w M hX=>⟨u,M,rfl,trivial,hX.st.done,?_⟩
  have:=hX.sl 1 U
  rw[List.take_of_length_le (by simp[FX];omega)]at this
  exact fc 0 this DO AF
theorem AF7(s:A1)(v:Value)(w:World)(M:Mem)(hM:Sat w M)(hv:Sl M 3 [(⟨false,s,0⟩:Sp)].length v ([(⟨false,s,0⟩:Sp)].flatMap Sp.cells))(hb:len s<=1048576):
    Calls Tryz.prog 27 [v].toArray w λ e w'=>e= .returned (str ([46]++DE s))/\Ext w w':=by
 have hl:len [(⟨false,s,0⟩:Sp)]=1:=rfl
 have hq:=aA s
 have hsl:=AA s
 refine B8 (Hr:=[]) B3 Tryz.func27 U Tryz.ntmps27 [(0,kn v 3 [(⟨false,s,0⟩:Sp)] Sp.cells)] [] [.sl 0 v] U (St.start hM) (fc 0 hv Sp.BI AF) (λ B hB=>?_) U
 refine AE U (A0 U) (by omega) (λ h1=>?_) (λ h1=>?_)<;>simp only[zb]at h1
 ·omega
 refine DI (σ:=Int×A1) (λ(i,o)=>⟨[(0,kn v 3 [(⟨false,s,0⟩:Sp)] Sp.cells)],[],[Z 0 (.sl 0 v),Z 3 (.v (str o)),Z 4 (I i)]⟩) (λ(i,o)=>(i=0/\o=[])\/(i=1/\o=[46]++DE s)) (λ(i,o)=>(1-i).toNat) (0,[]) U (A0 U) (by omega) U (.inl ⟨rfl,rfl⟩) ?_
 rintro⟨i,o⟩ hio
 refine AE U (A0 U) (by omega) (λ h2=>?_) (λ h2=>?_)<;>simp only[zb]at h2
 ·obtain⟨rfl,rfl⟩:i=0/\o=[]:=by rcases hio with h|h;exact h;omega
  refine AE U (A0 U) (by omega) (λ h3=>?_) (λ h3=>?_)
  ·cases h3
  refine B7 U (A0 U) (by omega) Tryz.call52 U U (A0 U) (λ _ w M hX=>QU (UG s w (by omega))) U ?_
  refine AE U (A0 U) (by omega) (λ h4=>?_) (λ h4=>?_)
  ·refine CS (1,[46]++DE s) U (A0 U) (by
     have e:(A2 [(⟨false,s,0⟩:Sp)] 0).name=s:=rfl
     simp only[e,A5,A7,len_nil];exact⟨by omega,by omega,by omega,by omega,by omega,trivial⟩) ?_ (.inr ⟨rfl,rfl⟩) (by show Int.toNat _<Int.toNat _;omega)
   unfold DE;rw[if_pos h4];rfl
  ·refine B7 U (A0 U) (by simp[len]) Tryz.call53 U U (A0 U) (λ _ w M hX=>WO s w (by omega)) U ?_
   refine CS (1,[46]++DE s) U (A0 U) (by simp[len]<;>(unfold len at*;omega)) ?_ (.inr ⟨rfl,rfl⟩) (by show Int.toNat _<Int.toNat _;omega)
   unfold DE;rw[if_neg (by rw[h4];decide)];rfl
 ·obtain⟨rfl,rfl⟩:i=1/\o=[46]++DE s:=by rcases hio with h|h;omega;exact h
  exact AD hB U U (A0 U) (by omega) U (A0 U) λ w M hX=>⟨rfl,hX.st.low⟩
theorem mH(c:Nd)(w:World)(hb:len c.s<=1048576)(he: -1000000<=c.e/\c.e<=1000000):Calls Tryz.prog 32 [JF c].toArray w λ e w'=>e= .returned (str (H9 c))/\Ext w w':=by
 refine B8 B3 Tryz.func32 U Tryz.ntmps32 [] [] [OB c] U (H3 w) AF (λ B hB=>?_) U
 refine JU 1 U (A0 U) (by omega) U U (A0 U) λ bb=>?_
 refine AE U (A0 U) (by omega) (λ h1=>?_) (λ h1=>?_)<;>simp only[zb]at h1
 ·exact AD hB U U (A0 U) (by omega) U (A0 U) λ w M hX=>⟨by unfold H9;rw[if_pos h1];rfl,hX.st.low⟩
 refine AE U (A0 U) (by omega) (λ h2=>?_) (λ h2=>?_)<;>simp only[zb]at h2
 ·exact AD hB U U (A0 U) (by omega) U (A0 U) λ w M hX=>⟨by unfold H9;rw[if_neg h1,if_pos h2];rfl,hX.st.low⟩
 refine AE U (A0 U) (by omega) (λ h3=>?_) (λ h3=>?_)<;>simp only[zb]at h3
 ·exact AD hB U U (A0 U) (by omega) U (A0 U) λ w M hX=>⟨by unfold H9;rw[if_neg h1,if_neg h2,if_pos h3];rfl,hX.st.low⟩
 refine AE U (A0 U) (by omega) (λ h4=>?_) (λ h4=>?_)<;>simp only[zb]at h4
 ·refine B7 U (A0 U) (by omega) Tryz.call57 U U (A0 U) (λ _ w M hX=>AA5 c w (by omega) he) U ?_
  exact AD hB U U (A0 U) (by omega) U (A0 U) λ w M hX=>⟨by unfold H9;rw[if_neg h1,if_neg h2,if_neg h3,if_pos h4];rfl,hX.st.low⟩
 ·refine B7 U (A0 U) (by omega) Tryz.call53 U U (A0 U) (λ _ w M hX=>WO c.s w (by omega)) U ?_
  exact AD hB U U (A0 U) (by omega) U (A0 U) λ w M hX=>⟨by unfold H9;rw[if_neg h1,if_neg h2,if_neg h3,if_neg h4];rfl,hX.st.low⟩
end Go.Proofs.YtmjpjbmeamnfpaaGreatDoor
namespace Go.Eng
open Go.RowKit
def At(s:A1)(i:Int)(u:A1):Prop:=0<=i/\i<=len s/\A4 s i=u
theorem At.add {s:A1}{i:Int}{u r:A1}(h:At s i (u++r)):At s (i+len u) r:=by
 obtain⟨h0,h1,h2⟩:=h
 have hl:=DV s i h0 h1
 rw[h2,A5]at hl
 have h3:=AA u;have h4:=AA r
 refine⟨by omega,by omega,?_⟩
 rw[<-KH s i (len u) h0 h3,h2]
 unfold A4 len;simp
theorem At.one {s:A1}{i:Int}{c:UInt8}{r:A1}(h:At s i (c::r)):At s (i+1) r:=At.add (u:=[c]) h
theorem At.lt {s:A1}{i:Int}{c:UInt8}{r:A1}(h:At s i (c::r)):i<len s:=by
 have hl:=DV s i h.1 h.2.1
 rw[h.2.2,A7]at hl
 have:=AA r;omega
theorem At.byte {s:A1}{i:Int}{c:UInt8}{r:A1}(h:At s i (c::r)):A3 s i=(c.toNat:Int):=by
 obtain⟨b,h1,h2⟩:=IS s i h.1 h.lt
 rw[h.2.2]at h1
 rw[h2,(List.cons.inj h1).1]
def P3(r:A1):Prop:= ∀c r',r=c::r'->GW c=false
theorem At.blank {s:A1}{i:Int}{b r:A1}(h:At s i (b++r))(hb: ∀c∈b,GW c=true)(hr:P3 r):DD s i=i+len b:=by
 unfold DD
 rw[h.2.2]
 have:(b++r).takeWhile GW=b:=by
  induction b with
  |nil=>
   cases r with
   |nil=>rfl
   |cons c r=>rw[List.nil_append,List.takeWhile_cons,hr c r U];rfl
  |cons a b ih=>
   rw[List.cons_append,List.takeWhile_cons,hb a List.mem_cons_self]
   show a::_=_
   have key: ∀(b r:A1),(∀c∈b,GW c=true)->P3 r->(b++r).takeWhile GW=b:=by
    intro b
    induction b with
    |nil=>intro r _ hr;cases r with|nil=>rfl|cons c r=>rw[List.nil_append,List.takeWhile_cons,hr c r rfl];rfl
    |cons a b ih2=>intro r hb2 hr;rw[List.cons_append,List.takeWhile_cons,hb2 a List.mem_cons_self,if_pos rfl,ih2 r (λ c hc=>hb2 c (List.mem_cons_of_mem _ hc)) hr]
   rw[key b r (λ c hc=>hb c (List.mem_cons_of_mem _ hc)) hr]
 rw[this]
theorem At.mI {s:A1}{i:Int}{r:A1}(h:At s i r)(hr:P3 r):DD s i=i:=by
 have:=At.blank (b:=[]) h (λ c hc=>by cases hc) hr
 rw[len_nil]at this;omega
end Go.Eng
