/- Lemmas for the card. -/
import Derived.Test.YtnoegalemkbbbaaGreatDoorKp19
set_option linter.unusedVariables false
set_option linter.unusedSimpArgs false
set_option maxRecDepth 100000
set_option maxRecDepth 100000
namespace Go.Proofs.YtnoegalemkbbbaaGreatDoor
open Go.Proofs.Tryz
open Go.Eng
theorem Ax8(t:Tm)(w:World)(hs:len t.s<=1048576)(G:len t.c.s<=1048576):Calls prog 163 [vL t].toArray w λ e w'=>e= .returned (.bool (CU t))/\Ext w w':=by
 refine AH AF func163 U ntmps163 [] [] [HP t] U (BD w) A4 (λ B C=>BP 1 U U U λ q=>BA 2 U zeroValue48 U λ y=>CP 0 (λ s=> ∃b:Bool,(b=true↔(t.op=0\/t.op=10\/t.op=11\/t.op=14))/\s=⟨[],[(1,.box q [I t.op,I t.many,.v (str t.name),.v (str t.s),I t.n,I t.c.kind,I t.c.many,.v (str t.c.name),.v (str t.c.s),.v (.bool t.c.neg),I t.c.e] 48),(2,.box y [I t.op,I t.many,.v (str t.name),.v (str []),I 0,I 0,I 0,.v (str []),.v (str []),.v (.bool false),I 0] 48)],[Z 1 (.bx 1 q 0),Z 3 (.bx 2 y 0),Z 12 (I t.op),Z 13 (.v (.bool b))]⟩) U U (λ h0=>?_) (λ h0=>?_) ?_) U
 ·exact AW _ U U ⟨_,by simp only[zb]at h0 ⊢;omega,rfl⟩
 ·exact A1 U (λ h1=>AW _ U U ⟨_,by simp only[zb]at h1 ⊢;omega,rfl⟩) (λ h1=>A1 U (λ E=>AW _ U U ⟨_,by simp only[zb]at E ⊢;omega,rfl⟩) (λ E=>AW _ U U ⟨_,by simp only[zb]at h0 h1 E ⊢;omega,rfl⟩))
 rintro _ ⟨b,h,rfl⟩
 refine A1 U (λ i=>?_) (λ i=>?_)
 ·refine AU (.v (.bool (decide (t=(F0 t))))) U U (λ w M j=>PV.bin (A8 (v:=HP t) U) (A8 (v:=HP (F0 t)) U) (λ _ w _=>MD _ _ _ _ w)) <|A2 C U U U λ w M j=>⟨?_,j.st.low⟩
  unfold CU;rw[if_pos (h.1 i)];rfl
 have n13: ¬(t.op=0\/t.op=10\/t.op=11\/t.op=14):=λ e=>by have:=h.2 e;rw[i]at this;cases this
 clear h
 refine A1 U (λ i=>?_) (λ i=>?_)
 ·have F:t.op=1:=by simp only[zb]at i;exact i
  refine AU (.v (.bool (decide (t= { F0 t with s:=t.s})))) U U (λ w M j=>PV.bin (A8 (v:=HP t) U) (A8 (v:=HP { F0 t with s:=t.s}) U) (λ _ w _=>MD _ _ _ _ w)) <|AJ U call125 U U (λ _ w M j=>XJ t.s w Aa) U <|A2 C U U U λ w M j=>⟨?_,j.st.low⟩
  unfold CU;rw[if_neg n13,if_pos (F)];rfl
 have n26: ¬(t.op=1):=by simp only[zb]at i;exact i
 refine CP 0 (λ s=> ∃b:Bool,(b=true↔(t.op=2\/t.op=3))/\s=⟨[],[(1,.box q [I t.op,I t.many,.v (str t.name),.v (str t.s),I t.n,I t.c.kind,I t.c.many,.v (str t.c.name),.v (str t.c.s),.v (.bool t.c.neg),I t.c.e] 48),(2,.box y [I t.op,I t.many,.v (str t.name),.v (str []),I 0,I 0,I 0,.v (str []),.v (str []),.v (.bool false),I 0] 48)],[Z 1 (.bx 1 q 0),Z 3 (.bx 2 y 0),Z 12 (I t.op),Z 44 (.v (.bool b))]⟩) U U (λ h0=>?_) (λ h0=>?_) ?_
 ·exact AW _ U U ⟨_,by simp only[zb]at h0 ⊢;omega,rfl⟩
 ·exact AW _ U U ⟨_,by simp only[zb]at h0 ⊢;omega,rfl⟩
 rintro _ ⟨b,h,rfl⟩
 refine A1 U (λ i=>?_) (λ i=>?_)
 ·refine AU (.v (.bool (decide (t= { F0 t with n:=t.n})))) U U (λ w M j=>PV.bin (A8 (v:=HP t) U) (A8 (v:=HP { F0 t with n:=t.n}) U) (λ _ w _=>MD _ _ _ _ w)) <|A2 C U U U λ w M j=>⟨?_,j.st.low⟩
  unfold CU;rw[if_neg n13,if_neg n26,if_pos (h.1 i)];rfl
 have k: ¬(t.op=2\/t.op=3):=λ e=>by have:=h.2 e;rw[i]at this;cases this
 clear h
 refine CP 0 (λ s=> ∃b:Bool,(b=true↔(t.op=4\/t.op=17\/t.op=18))/\s=⟨[],[(1,.box q [I t.op,I t.many,.v (str t.name),.v (str t.s),I t.n,I t.c.kind,I t.c.many,.v (str t.c.name),.v (str t.c.s),.v (.bool t.c.neg),I t.c.e] 48),(2,.box y [I t.op,I t.many,.v (str t.name),.v (str []),I 0,I 0,I 0,.v (str []),.v (str []),.v (.bool false),I 0] 48)],[Z 1 (.bx 1 q 0),Z 3 (.bx 2 y 0),Z 12 (I t.op),Z 68 (.v (.bool b))]⟩) U U (λ h0=>?_) (λ h0=>?_) ?_
 ·exact AW _ U U ⟨_,by simp only[zb]at h0 ⊢;omega,rfl⟩
 ·exact A1 U (λ h1=>AW _ U U ⟨_,by simp only[zb]at h1 ⊢;omega,rfl⟩) (λ h1=>AW _ U U ⟨_,by simp only[zb]at h0 h1 ⊢;omega,rfl⟩)
 rintro _ ⟨b,h,rfl⟩
 refine A1 U (λ i=>?_) (λ i=>?_)
 ·refine AU (.v (.bool (decide (t=(F0 t))))) U U (λ w M j=>PV.bin (A8 (v:=HP t) U) (A8 (v:=HP (F0 t)) U) (λ _ w _=>MD _ _ _ _ w)) <|A2 C U U U λ w M j=>⟨?_,j.st.low⟩
  unfold CU;rw[if_neg n13,if_neg n26,if_neg k,if_pos (h.1 i)];rfl
 have l: ¬(t.op=4\/t.op=17\/t.op=18):=λ e=>by have:=h.2 e;rw[i]at this;cases this
 clear h
 refine CP 0 (λ s=> ∃b:Bool,(b=true↔(t.op=5\/t.op=6\/t.op=7\/t.op=19))/\s=⟨[],[(1,.box q [I t.op,I t.many,.v (str t.name),.v (str t.s),I t.n,I t.c.kind,I t.c.many,.v (str t.c.name),.v (str t.c.s),.v (.bool t.c.neg),I t.c.e] 48),(2,.box y [I t.op,I t.many,.v (str t.name),.v (str []),I 0,I 0,I 0,.v (str []),.v (str []),.v (.bool false),I 0] 48)],[Z 1 (.bx 1 q 0),Z 3 (.bx 2 y 0),Z 12 (I t.op),Z 80 (.v (.bool b))]⟩) U U (λ h0=>?_) (λ h0=>?_) ?_
 ·exact AW _ U U ⟨_,by simp only[zb]at h0 ⊢;omega,rfl⟩
 ·exact A1 U (λ h1=>AW _ U U ⟨_,by simp only[zb]at h1 ⊢;omega,rfl⟩) (λ h1=>A1 U (λ E=>AW _ U U ⟨_,by simp only[zb]at E ⊢;omega,rfl⟩) (λ E=>AW _ U U ⟨_,by simp only[zb]at h0 h1 E ⊢;omega,rfl⟩))
 rintro _ ⟨b,h,rfl⟩
 refine A1 U (λ i=>?_) (λ i=>?_)
 ·refine AU (.v (.bool (decide (t=(F0 t))))) U U (λ w M j=>PV.bin (A8 (v:=HP t) U) (A8 (v:=HP (F0 t)) U) (λ _ w _=>MD _ _ _ _ w)) <|A2 C U U U λ w M j=>⟨?_,j.st.low⟩
  unfold CU;rw[if_neg n13,if_neg n26,if_neg k,if_neg l,if_pos (h.1 i)];rfl
 have z: ¬(t.op=5\/t.op=6\/t.op=7\/t.op=19):=λ e=>by have:=h.2 e;rw[i]at this;cases this
 clear h
 refine CP 0 (λ s=> ∃b:Bool,(b=true↔(t.op=8\/t.op=9))/\s=⟨[],[(1,.box q [I t.op,I t.many,.v (str t.name),.v (str t.s),I t.n,I t.c.kind,I t.c.many,.v (str t.c.name),.v (str t.c.s),.v (.bool t.c.neg),I t.c.e] 48),(2,.box y [I t.op,I t.many,.v (str t.name),.v (str []),I 0,I 0,I 0,.v (str []),.v (str []),.v (.bool false),I 0] 48)],[Z 1 (.bx 1 q 0),Z 3 (.bx 2 y 0),Z 12 (I t.op),Z 93 (.v (.bool b))]⟩) U U (λ h0=>?_) (λ h0=>?_) ?_
 ·exact AW _ U U ⟨_,by simp only[zb]at h0 ⊢;omega,rfl⟩
 ·exact AW _ U U ⟨_,by simp only[zb]at h0 ⊢;omega,rfl⟩
 rintro _ ⟨b,h,rfl⟩
 refine A1 U (λ i=>?_) (λ i=>?_)
 ·refine AU (.v (.bool (decide (t=(F0 t))))) U U (λ w M j=>PV.bin (A8 (v:=HP t) U) (A8 (v:=HP (F0 t)) U) (λ _ w _=>MD _ _ _ _ w)) <|A2 C U U U λ w M j=>⟨?_,j.st.low⟩
  unfold CU;rw[if_neg n13,if_neg n26,if_neg k,if_neg l,if_neg z,if_pos (h.1 i)];rfl
 have D: ¬(t.op=8\/t.op=9):=λ e=>by have:=h.2 e;rw[i]at this;cases this
 clear h
 refine CP 0 (λ s=> ∃b:Bool,(b=true↔(t.op=12\/t.op=13\/t.op=15))/\s=⟨[],[(1,.box q [I t.op,I t.many,.v (str t.name),.v (str t.s),I t.n,I t.c.kind,I t.c.many,.v (str t.c.name),.v (str t.c.s),.v (.bool t.c.neg),I t.c.e] 48),(2,.box y [I t.op,I t.many,.v (str t.name),.v (str []),I 0,I 0,I 0,.v (str []),.v (str []),.v (.bool false),I 0] 48)],[Z 1 (.bx 1 q 0),Z 3 (.bx 2 y 0),Z 12 (I t.op),Z 104 (.v (.bool b))]⟩) U U (λ h0=>?_) (λ h0=>?_) ?_
 ·exact AW _ U U ⟨_,by simp only[zb]at h0 ⊢;omega,rfl⟩
 ·exact A1 U (λ h1=>AW _ U U ⟨_,by simp only[zb]at h1 ⊢;omega,rfl⟩) (λ h1=>AW _ U U ⟨_,by simp only[zb]at h0 h1 ⊢;omega,rfl⟩)
 rintro _ ⟨b,h,rfl⟩
 refine A1 U (λ i=>?_) (λ i=>?_)
 ·refine AU (.v (.bool (decide (t= { F0 t with s:=t.s})))) U U (λ w M j=>PV.bin (A8 (v:=HP t) U) (A8 (v:=HP { F0 t with s:=t.s}) U) (λ _ w _=>MD _ _ _ _ w)) <|AJ U call188 U U (λ _ w M j=>qQ t.s w hs) U <|A2 C U U U λ w M j=>⟨?_,j.st.low⟩
  unfold CU;rw[if_neg n13,if_neg n26,if_neg k,if_neg l,if_neg z,if_neg D,if_pos (h.1 i)];rfl
 have n104: ¬(t.op=12\/t.op=13\/t.op=15):=λ e=>by have:=h.2 e;rw[i]at this;cases this
 clear h
 refine A1 U (λ i=>?_) (λ i=>?_)
 ·have A:t.op=16:=by simp only[zb]at i;exact i
  refine AU (.v (.bool (decide (t= { F0 t with s:=t.s,n:=t.n,c:=t.c})))) U U (λ w M j=>PV.bin (A8 (v:=HP t) U) (A8 (v:=HP { F0 t with s:=t.s,n:=t.n,c:=t.c}) U) (λ _ w _=>MD _ _ _ _ w)) <|AJ U call188 U U (λ _ w M j=>qQ t.s w hs) U <|EX (.v (.slice none 0 0)) U U (λ hg=>?_) (λ hg=>?_)
  ·refine BF 3 [t.c] Nd.cells 6 46 Nd.AV U U (hE1:=M6 hg U) Ah U λ v=>AJ U call37 U U (λ _ w M j=>qX t.c v M w j.st.sat (j.sl 3 U) Aa) U <|A2 C U U U λ w M j=>⟨?_,j.st.low⟩
   unfold CU Z3;rw[if_neg n13,if_neg n26,if_neg k,if_neg l,if_neg z,if_neg D,if_neg n104,if_pos (A)]
   show Ending.returned (.bool _)=_
   simp only[Bool.and_assoc];rfl
  ·refine AJ (u:=.bool (decide (t.c.name=[])&&decide (t.c.many=0)&&GA t.c)) U call37 U U (λ H w M j=>absurd (H.symm.trans hg) Ab) U <|A2 C U U U λ w M j=>⟨?_,j.st.low⟩
   unfold CU Z3;rw[if_neg n13,if_neg n26,if_neg k,if_neg l,if_neg z,if_neg D,if_neg n104,if_pos (A)]
   show Ending.returned (.bool _)=_
   simp only[Bool.and_assoc];rfl
 have n124: ¬(t.op=16):=by simp only[zb]at i;exact i
 refine A2 C U U U λ w M j=>⟨?_,j.st.low⟩
 unfold CU;rw[if_neg n13,if_neg n26,if_neg k,if_neg l,if_neg z,if_neg D,if_neg n104,if_neg n124];rfl
theorem Ax9(f:Fl)(v:Value)(M:Mem)(w:World)(F:Sat w M)(G:Sl M 11 f.length v (f.flatMap Tm.cells))(D:len f<=1048576)(k: ∀t∈f,len t.s<=1048576/\len t.name<=1048576/\len t.c.s<=1048576):
    Calls prog 131 [v].toArray w λ e w'=>e= .returned (.bool (L5 f))/\Ext w w':=by
 have H:=A9 f
 refine AH (Hr:=[]) AF func131 U ntmps131 [(0,A7 v f)] [] [.sl 0 v] U (Aj F) (fc 0 G Tm.AV A4) (λ B z=>AJ U call112 U U (λ _ w M h=>aA f v 0 M w h.st.sat (h.sl 0 U) D Aa Aa) U ?_) U
 refine A1 U (λ h1=>?_) (λ h1=>?_)<;>simp only[zb]at h1
 ·refine A2 z U U U λ w M h=>⟨?_,h.st.low⟩
  rw[qW (by rcases h1 with(h1|h1)|h1;exact .inl (SM h1);exact .inr (.inl h1);exact .inr (.inr h1))];rfl
 obtain⟨x,J,j⟩:=qT h1.2 (λ e=>h1.1.1 (by rw[e];rfl))
 have K:x.t.name=[]:=by have:=h1.1.2;rw[j,x.DA]at this;exact this
 have l:L5 f=x.IX:=by rw[j];exact Aa0 J K
 have L:len f=x.size:=by rw[j];unfold len;rw[Tf.DC]
 refine B5 (σ:=List Tf×Int) (λ(b,i)=>⟨[(0,A7 v f)],[],[Z 0 (.sl 0 v),Z 3 (I i)]⟩) (λ(b,i)=>BW f i b/\i+A6 b=len f/\x.IX=H0 b) (λ(b,i)=>(len f-i).toNat) ([x],0) U U ⟨by rw[j];exact BW.top x,by rw[A6,A6];omega,by rw[H0,H0,Bool.and_true]⟩ ?_
 rintro⟨b,i⟩ ⟨hs,hi,hg⟩
 refine A1 U (λ E=>?_) (λ E=>?_)<;>simp only[zb]at E
 ·cases b with
  |nil=>rw[A6]at hi;omega
  |cons y b=>
   have A:=hs.node
   have N:=k _ (at_mem A.1 A.2.1)
   rw[A6,Tf.size_eq]at hi
   refine AJ U call163 U U (λ _ w M h=>Ax8 (at' f i) w Aa Aa) U ?_
   refine AJ U call164 U U (λ _ w M h=>Ax7 f v i y b M w h.st.sat (h.sl 0 U) D hs (λ t O=>(k t O).2.1)) U ?_
   have n:H0 (y::b)=((CU (at' f i)&&EM y.t [] y.ps)&&H0 (y.ps++b)):=by
    rw[A.2.2,H0,AZ6]
    obtain⟨t,ps⟩:=y
    rw[Tf.IX,Bool.and_assoc];rfl
   refine A1 U (λ q=>?_) (λ q=>?_)
   ·refine A2 z U U U λ w M h=>⟨?_,h.st.low⟩
    have:(CU (at' f i)&&EM y.t [] y.ps)=false:=by
     cases h4:CU (at' f i)<;>cases h5:EM y.t [] y.ps<;>rw[h4,h5]at q<;>first|rfl|cases q
    rw[l,hg,n,this];rfl
   ·have:(CU (at' f i)&&EM y.t [] y.ps)=true:=by
     cases h4:CU (at' f i)<;>cases h5:EM y.t [] y.ps<;>rw[h4,h5]at q<;>first|rfl|cases q
    exact AX (y.ps++b,i+1) U U ⟨hs.SO,by rw[IG];omega,by rw[hg,n,this];rfl⟩ Ag
 ·have C:b=[]:=by
   cases b with
   |nil=>rfl
   |cons y b=>rw[A6]at hi;have:=y.size_pos;omega
  subst C
  refine A2 z U U U λ w M h=>⟨?_,h.st.low⟩
  rw[l,hg];rfl
theorem Ay0(f:Fl)(v:Value)(M:Mem)(w:World)(n:Sat w M)(q:Sl M 11 f.length v (f.flatMap Tm.cells))(y:len f<=1048576)(i: ∀t∈f,len t.s<=1048576/\len t.name<=1048576/\len t.c.s<=1048576):
    Calls prog 72 [v].toArray w λ e w'=>e= .returned (.bool (fX f))/\Ext w w':=by
 refine AH (Hr:=[]) AF func72 U ntmps72 [(0,A7 v f)] [] [.sl 0 v] U (Aj n) (fc 0 q Tm.AV A4) (λ B z=>AJ U call131 U U (λ _ w M b=>Ax9 f v M w b.st.sat (b.sl 0 U) y i) U ?_) U
 have j:L5 f=true->0<len f:=λ h=>by
  rcases Int.lt_or_le 0 (len f)with l|l
  ·exact l
  ·have:=qW (v:=f) (.inl (SM (by have:=A9 f;omega)))
   rw[h]at this;cases this
 refine AJ U (hO:=by
   have k:L5 f=false\/0<len f:=by
    cases hw:L5 f
    ·exact .inl U
    ·exact .inr (j hw)
   rcases k with h|h<;>simp[h]) call132 rfl rfl (λ _ w M b=>iO (at' f 0) w) rfl ?_
 exact A2 z U U U λ w M b=>⟨rfl,b.st.low⟩
theorem iP(f:Fl)(v:Value)(m:Int)(M:Mem)(w:World)(D:Sat w M)(A:Sl M 11 f.length v (f.flatMap Tm.cells))(hm:m<=1048576):
    Calls prog 22 [v,i64 m].toArray w λ e w'=>e= .returned (.bool (OU f m))/\Ext w w':=by
 have E:=A9 f
 have hle:len f<=9223372036854775807:=A.le
 refine AH (Hr:=[]) AF func22 U ntmps22 [(0,A7 v f)] [] [.sl 0 v,I m] U (Aj D) (fc 0 A Tm.AV A4) (λ B n=>?_) U
 refine A1 U (λ h1=>?_) (λ h1=>?_)<;>simp only[zb]at h1
 ·refine A2 n U U U λ w M j=>⟨?_,j.st.low⟩
  unfold OU;rw[decide_eq_false Aa];rfl
 refine B5 (σ:=Int) (λ i=>⟨[(0,A7 v f)],[],[Z 0 (.sl 0 v),Z 5 (I i)]⟩) (λ i=>0<=i/\i<=len f/\(Eng.sub f 0 i).all OT=true) (λ i=>(len f-i).toNat) 0 U U ⟨Aa,Aa,rfl⟩ ?_
 rintro i ⟨k,F,b⟩
 refine A1 U (λ l=>?_) (λ l=>?_)<;>simp only[zb]at l
 ·refine A1 U (λ C=>?_) (λ C=>?_)<;>simp only[zb]at C
  ·have q:f.all OT=false:=by
    rw[<-Bool.not_eq_true,List.all_eq_true]
    intro h
    have:=h _ (at_mem k l)
    unfold OT at this
    simp only[Bool.and_eq_true,decide_eq_true_eq]at this
    omega
   refine A2 n U U U λ w M j=>⟨?_,j.st.low⟩
   unfold OU;rw[q,Bool.and_false];rfl
  ·have y:OT (at' f i)=true:=by
    unfold OT
    simp only[Bool.and_eq_true,decide_eq_true_eq]
    omega
   exact AX (i+1) U U ⟨Aa,Aa,by rw[FT k l,List.all_append,b];simp[y]⟩ Ag
 ·rw[G7 Aa]at b
  have z: ∀t∈f,len t.s<=1048576/\len t.name<=1048576/\len t.c.s<=1048576:=λ t G=>by
   have:=List.all_eq_true.1 b t G
   unfold OT at this
   simp only[Bool.and_eq_true,decide_eq_true_eq]at this
   omega
  refine AJ U call72 U U (λ _ w M j=>Ay0 f v M w j.st.sat (j.sl 0 U) Aa z) U <|A2 n U U U λ w M j=>⟨?_,j.st.low⟩
  unfold OU;rw[b,decide_eq_true Aa];rfl
end Go.Proofs.YtnoegalemkbbbaaGreatDoor
namespace Go.Eng
open Go.RowKit
section pv
variable {P:Program} {C:World->Prop} {L:Env} {W:Bool} {d:Option Tmp} {ty:TypeId} {ps:String} {af:Array Edge} {gd:Option (Nat×Bool)}
theorem PV.min2 {ts:Array TypeId}{x y:Operand}{k k':IntKind}{a b:Int}(hx:AB L W x (.int k a))(h:AB L W y (.int k' b)):PV P C L W ⟨d,.call ⟨.builtin .min,#[x,y],ts⟩,ty,ps,af,gd⟩ (.int k (if b<a then b else a)):=by
 intro ac N hs e w _
 have:=run_min_int2 (P:=P) (w:=w) ts ty k k' a b
 simp only[execOp,resolve,invoke,builtin,List.map_toArray,List.map_cons,List.map_nil,hx ac N hs e,h ac N hs e,Sem.run_bind,Sem.run_pure,Result.andThen_ok,this]
end pv
def QZ(n:Nd)(p:Int):Int:=if len n.s-1-(p-n.e)<0\/len n.s<=len n.s-1-(p-n.e)then 0 else A3 n.s (len n.s-1-(p-n.e))-48
def NU(a b:Nd)(sd:Int):Nat->Int->Int
 |0,_=>0
 |f+1,p=>if QZ a p<QZ b p then-sd else if QZ b p<QZ a p then sd else NU a b sd f (p-1)
def LI(a:Nd):Int:=if a.neg=true then-1 else 1
def K4(a b:Nd):Int:=if len b.s+b.e>len a.s+a.e then len b.s+b.e else len a.s+a.e
def NV(a b:Nd):Int:=if b.e<a.e then b.e else a.e
def NW(a b:Nd):Int:=if a.neg≠b.neg then LI a else NU a b (LI a) (K4 a b-NV a b+1).toNat (K4 a b)
theorem vM(a b:Nd)(x y:A0)(e:Int): ∀(f:Nat) (p:Int),NU { a with name:=x} { b with name:=y} e f p=NU a b e f p
 |0,_=>rfl
 |f+1,p=>by rw[NU,NU,vM a b x y e f];rfl
theorem vN(a b:Nd)(x y:A0):NW { a with name:=x} { b with name:=y}=NW a b:=by
 unfold NW;rw[vM];rfl
def TC(less same:Bool):Int:=if same=true then 0 else if less=true then-1 else 1
def NX(a b:Nd):Int:=if a.kind≠b.kind then TC (decide (a.kind<b.kind)) false else if a.kind=3 then NW a b else if a.kind=4 then TC (Op.bytesLess a.s b.s) (a.s==b.s)else 0
def W7(a:Tm)(x:Nd):Bool:=J0 a.n (NX x a.c)
def P8(c:Nd):Bool:=decide (c.kind<5)&&(decide (c.name=[])&&decide (c.many=0)&&GA c)
def TE(mask:Int)(l:List Tm)(x:Nd):Bool:=P8 x&&IY mask x.kind.toNat&&l.all λ a=>W7 a x
structure LK (a:Nd):Prop where
 b:QS a
 f:a.kind=3->H4 a.s
theorem Ay1{x:Nd}(h:GA x=true):0<=x.kind/\x.kind<=6:=by
 unfold GA at h
 repeat' split at h
 all_goals first|omega|(cases h)
end Go.Eng
namespace Go.Proofs.YtnoegalemkbbbaaGreatDoor
open Go.Proofs.Tryz
open Go.Eng
theorem vO(n:Nd)(p:Int)(w:World)(j:J1 n)(k:H4 n.s)(hp: -4194304<=p/\p<=4194304):Calls prog 162 [EV n,i64 p].toArray w λ e w'=>e= .returned (i64 (QZ n p))/\Ext w w':=by
 have l:=A9 n.s
 obtain⟨q,y,z⟩:=j
 refine AH AF func162 U ntmps162 [] [] [D3 n,I p] U (BD w) A4 (λ B h=>BP 2 U U U λ C=>?_) U
 refine A1 U (λ h1=>?_) (λ h1=>?_)<;>simp only[zb]at h1
 ·exact A2 h U U U λ w M b=>⟨by unfold QZ;rw[if_pos Aa];rfl,b.st.low⟩
 have A:=k.at (i:=len n.s-1-(p-n.e)) Aa Aa
 exact A2 h U U U λ w M b=>⟨by unfold QZ;rw[if_neg Aa];rfl,b.st.low⟩
theorem vP(a b:Nd)(w:World)(P:J1 a)(Q:J1 b)(n:H4 a.s)(y:H4 b.s):
    Calls prog 128 [EV a,EV b].toArray w λ e w'=>e= .returned (i64 (NW a b))/\Ext w w':=by
 have R:=A9 a.s
 have S:=A9 b.s
 obtain⟨z,A,C⟩:=P
 obtain⟨D,F,G⟩:=Q
 refine AH AF func128 U ntmps128 [] [] [D3 a,D3 b] U (BD w) A4 (λ B j=>BP 2 U U U λ k=>BP 3 U U U λ l=>CP 0 (λ s=>s=⟨[],[(2,EN k a),(3,EN l b)],[Z 2 (.bx 2 k 0),Z 3 (.bx 3 l 0),Z 4 (I 0),Z 5 (I (LI a))]⟩) U U (λ h1=>?_) (λ h1=>?_) ?_) U
 ·exact AW _ U U (by unfold LI;rw[if_pos h1])
 ·exact AW _ U U (by unfold LI;rw[if_neg (by rw[h1];decide)])
 rintro _ rfl
 have T:LI a=1\/LI a= -1:=by unfold LI;split<;>simp
 refine A1 U (λ h1=>?_) (λ h1=>?_)
 ·exact A2 j U U U λ w M h=>⟨by unfold NW;rw[if_pos (by simpa using h1)];rfl,h.st.low⟩
 have H: ¬(a.neg≠b.neg):=by simpa using h1
 have V: -1048576<=K4 a b/\K4 a b<=2097152:=by unfold K4;split<;>omega
 have W: -1048576<=NV a b/\NV a b<=1048576/\NV a b<=K4 a b:=by unfold NV K4;split<;>split<;>omega
 have J:NW a b=NU a b (LI a) (K4 a b-NV a b+1).toNat (K4 a b):=by unfold NW;rw[if_neg H]
 refine AU (I (K4 a b)) U U (λ w M h=>PV.max2 (A8 (v:=I (len a.s+a.e)) (E:=[]) U) (A8 (v:=I (len b.s+b.e)) (E:=[]) U)) <|B5 (σ:=Nat×Int) (λ(f,p)=>⟨[],[(2,EN k a),(3,EN l b)],[Z 2 (.bx 2 k 0),Z 3 (.bx 3 l 0),Z 4 (I 0),Z 5 (I (LI a)),Z 7 (I p)]⟩) (λ(f,p)=>(f:Int)=p-NV a b+1/\p<=K4 a b/\NW a b=NU a b (LI a) f p) (λ(f,p)=>f) ((K4 a b-NV a b+1).toNat,K4 a b) U U ⟨Aa,Aa,J⟩ ?_
 rintro⟨f,p⟩ ⟨hf,X,i⟩
 refine AU (I (NV a b)) U U (λ w M h=>PV.min2 (A8 (v:=I a.e) (E:=[]) U) (A8 (v:=I b.e) (E:=[]) U)) ?_
 refine A1 U (λ O=>?_) (λ O=>?_)<;>simp only[zb]at O
 ·obtain⟨f,rfl⟩: ∃q,f=q+1:=⟨f-1,Aa⟩
  refine G4 U BM Ac <|HB U call162 U U (λ _ w M h=>vO a p w ⟨z,A,C⟩ n Aa) U <|HB U call162 U U (λ _ w M h=>vO b p w ⟨D,F,G⟩ y Aa) U <|G5 U ?_
  rw[NU]at i
  refine A1 U (λ K=>?_) (λ K=>?_)<;>simp only[zb]at K
  ·exact A2 j U U U λ w M h=>⟨by rw[i,if_pos K];rfl,h.st.low⟩
  refine A1 U (λ L=>?_) (λ L=>?_)<;>simp only[zb]at L
  ·exact A2 j U U U λ w M h=>⟨by rw[i,if_neg Aa,if_pos L];rfl,h.st.low⟩
  exact AX (f,p-1) U U ⟨Aa,Aa,by rw[i,if_neg Aa,if_neg Aa]⟩ (by show f<f+1;omega)
 ·have N:f=0:=by omega
  subst N
  exact A2 j U U U λ w M h=>⟨by rw[i];rfl,h.st.low⟩
theorem vQ(x y:Bool)(w:World):Calls prog 127 [.bool x,.bool y].toArray w λ e w'=>e= .returned (i64 (TC x y))/\Ext w w':=by
 refine AH AF func127 U ntmps127 [] [] [.v (.bool x),.v (.bool y)] U (BD w) A4 (λ B h=>A1 U (λ h1=>?_) (λ h1=>?_)) U
 ·exact A2 h U U U λ w M b=>⟨by unfold TC;rw[if_pos h1];rfl,b.st.low⟩
 refine A1 U (λ i=>?_) (λ i=>?_)
 ·exact A2 h U U U λ w M b=>⟨by unfold TC;rw[if_neg (by rw[h1];decide),if_pos i];rfl,b.st.low⟩
 exact A2 h U U U λ w M b=>⟨by unfold TC;rw[if_neg (by rw[h1];decide),if_neg (by rw[i];decide)];rfl,b.st.low⟩
theorem vR(a b:Nd)(v u:Value)(w:World)(M:Mem)(D:Sat w M)(E:(kn v 6 [a] Nd.cells).ok M)(hu:(kn u 6 [b] Nd.cells).ok M)(q:LK a)(y:LK b)(L:a.kind<5):
    Calls prog 71 [v,u].toArray w λ e w'=>e= .returned (i64 (NX a b))/\Ext w w':=by
 refine AH (Hr:=[]) AF func71 U ntmps71 [(0,kn v 6 [a] Nd.cells),(1,kn u 6 [b] Nd.cells)] [] [.sl 0 v,.sl 1 u] U (Aj D) (AG E (AG hu A4)) (λ B l=>?_) U
 have F:len [a]=1:=rfl
 have G:len [b]=1:=rfl
 have j:at' [a] 0=a:=rfl
 have z:at' [b] 0=b:=rfl
 refine G4 U BM Ac <|G5 U ?_
 refine A1 U (λ h1=>?_) (λ h1=>?_)<;>simp only[zb]at h1<;>rw[j,z]at h1
 ·exact AJ U call127 U U (λ _ w M i=>vQ (decide (a.kind<b.kind)) false w) U <|A2 l U U U λ w M i=>⟨by unfold NX;rw[if_pos h1];rfl,i.st.low⟩
 have H:a.kind=b.kind:=by omega
 refine A1 U (λ k=>?_) (λ k=>?_)<;>simp only[zb]at k<;>rw[j]at k
 ·refine DI [6,7,8,9] 5 (λ _ _ _ _ _ h=>h) U BM Ac <|G6 6 7 U U U ?_ ?_
  ·exact BA 7 U zeroValue46 U λ J=>AD U <|AK 7 U U U <|BA 8 U zeroValue46 U λ K=>AD U <|AK 8 U U U <|AD U <|AK 9 U U U <|AD U <|BN U U U <|AJ U call128 U U (λ _ w M i=>vP { a with name:=[]} { b with name:=[]} w q.b y.b (q.f k) (y.f Aa)) U <|A2 l U U U λ w M i=>⟨by unfold NX;rw[if_neg Aa,if_pos k,<-vN a b [] []];rfl,i.st.low⟩
  ·exact BA 8 U zeroValue46 U λ K=>AD U <|AK 6 U U U <|BA 7 U zeroValue46 U λ J=>AD U <|AK 8 U U U <|AD U <|AK 9 U U U <|AD U <|BN U U U <|AJ U call128 U U (λ _ w M i=>vP { a with name:=[]} { b with name:=[]} w q.b y.b (q.f k) (y.f Aa)) U <|A2 l U U U λ w M i=>⟨by unfold NX;rw[if_neg Aa,if_pos k,<-vN a b [] []];rfl,i.st.low⟩
 refine A1 U (λ n=>?_) (λ n=>?_)<;>simp only[zb]at n<;>rw[j]at n
 ·exact G4 U BM Ac <|HB U call127 U U (λ _ w M i=>vQ (Op.bytesLess a.s b.s) (a.s==b.s) w) U <|G5 U <|A2 l U U U λ w M i=>⟨by unfold NX;rw[if_neg Aa,if_neg k,if_pos n];rfl,i.st.low⟩
 refine A1 U (λ A=>?_) (λ A=>?_)<;>simp only[zb]at A<;>rw[j]at A
 ·omega
 refine A1 U (λ C=>?_) (λ C=>?_)<;>simp only[zb]at C<;>rw[j]at C
 ·omega
 exact A2 l U U U λ w M i=>⟨by unfold NX;rw[if_neg Aa,if_neg k,if_neg n];rfl,i.st.low⟩
theorem vS(n x:Int)(w:World):Calls prog 70 [i64 n,i64 x].toArray w λ e w'=>e= .returned (.bool (J0 n x))/\Ext w w':=by
 refine AH AF func70 U ntmps70 [] [] [I n,I x] U (BD w) A4 (λ B i=>?_) U
 refine A1 U (λ h1=>?_) (λ h1=>?_)<;>simp only[zb]at h1
 ·exact A2 i U U U λ w M b=>⟨by unfold J0;rw[if_pos h1];rfl,b.st.low⟩
 refine A1 U (λ h=>?_) (λ h=>?_)<;>simp only[zb]at h
 ·exact A2 i U U U λ w M b=>⟨by unfold J0;rw[if_neg h1,if_pos h];rw[<-sN];rfl,b.st.low⟩
 refine A1 U (λ j=>?_) (λ j=>?_)<;>simp only[zb]at j
 ·exact A2 i U U U λ w M b=>⟨by unfold J0;rw[if_neg h1,if_neg h,if_pos j];rfl,b.st.low⟩
 refine A1 U (λ k=>?_) (λ k=>?_)<;>simp only[zb]at k
 ·exact A2 i U U U λ w M b=>⟨by unfold J0;rw[if_neg h1,if_neg h,if_neg j,if_pos k];rfl,b.st.low⟩
 refine A1 U (λ l=>?_) (λ l=>?_)<;>simp only[zb]at l
 ·exact A2 i U U U λ w M b=>⟨by unfold J0;rw[if_neg h1,if_neg h,if_neg j,if_neg k,if_pos l];rfl,b.st.low⟩
 exact A2 i U U U λ w M b=>⟨by unfold J0;rw[if_neg h1,if_neg h,if_neg j,if_neg k,if_neg l];rfl,b.st.low⟩
theorem Ay2(a:Tm)(x:Nd)(w:World)(M:Mem)(s:Sat w M)(j:LK a.c)(hx:LK x)(l:x.kind<5):
   Calls prog 101 [VS a,EV x].toArray w λ e w'=>e= .returned (.bool (W7 a x))/\Ext w w':=by
 refine AH (Hr:=[]) AF func101 U ntmps101 [] [] [gS a,D3 x] U (Aj s) A4 (λ B q=>BP 2 U U U λ y=>BP 3 U U U λ z=>DI [3,6,7,8,9] 6 (λ _ _ _ _ _ h=>h) U BM Ac <|G6 3 6 U U U ?_ ?_) U
 ·exact BF 8 [x] Nd.cells 6 46 Nd.AV U U Ah U λ i=>AD U <|AK 6 U U U <|BF 11 [a.c] Nd.cells 6 46 Nd.AV U U Ah U λ v11=>AD U <|AK 7 U U U <|AJ U call71 U U (λ _ w M b=>vR x a.c i v11 w M b.st.sat (b.f.get (k:=8) U) (b.f.get (k:=11) U) hx j l) U <|AD U <|AK 8 U U U <|AJ U call70 U U (λ _ w M b=>vS a.n (NX x a.c) w) U <|AD U <|AK 9 U U U <|AD U <|BN U U U <|A2 q U U U λ w M b=>⟨rfl,b.st.low⟩
 ·exact BF 11 [a.c] Nd.cells 6 46 Nd.AV U U Ah U λ v11=>AD U <|AK 3 U U U <|BF 8 [x] Nd.cells 6 46 Nd.AV U U Ah U λ i=>AD U <|AK 7 U U U <|AJ U call71 U U (λ _ w M b=>vR x a.c i v11 w M b.st.sat (b.f.get (k:=8) U) (b.f.get (k:=11) U) hx j l) U <|AD U <|AK 8 U U U <|AJ U call70 U U (λ _ w M b=>vS a.n (NX x a.c) w) U <|AD U <|AK 9 U U U <|AD U <|BN U U U <|A2 q U U U λ w M b=>⟨rfl,b.st.low⟩
theorem Ay3(mask:Int)(v:Value)(l:List Tm)(x:Nd)(w:World)(M:Mem)(H:Sat w M)(hl:(kn v 7 l C5).ok M)(L:len l<=1099511627776)(J: ∀a∈l,LK a.c)(hx:LK x)(hm:0<=mask/\mask<=31):
    Calls prog 42 [i64 mask,v,EV x].toArray w λ e w'=>e= .returned (.bool (TE mask l x))/\Ext w w':=by
 have K:=A9 l
 refine AH (Hr:=[]) AF func42 U ntmps42 [(1,kn v 7 l C5)] [] [I mask,.sl 1 v,D3 x] U (Aj H) (AG hl A4) (λ B C=>BP 5 U U U λ b=>AJ U call99 U U (λ _ w M j=>sI x w M j.st.sat hx.b.1) U <|EX (.v (.bool false)) U U (λ D=>?_) (λ D=>?_)) U
 ·have n:P8 x=true:=by unfold P8;simpa using D
  have G:x.kind<5/\(GA x=true):=by unfold P8 at n;simp only[Bool.and_eq_true,decide_eq_true_eq]at n;exact⟨n.1,n.2.2⟩
  have N:=Ay1 G.2
  have E:x.kind=((x.kind.toNat:Nat):Int):=by omega
  have A:TE mask l x=(IY mask x.kind.toNat&&l.all λ a=>W7 a x):=by unfold TE;rw[n,Bool.true_and]
  refine AJ U call100 U U (hE2:=MJ D (by simp)) (λ _ w M j=>by show Calls prog 100 [i64 mask,i64 x.kind].toArray w _;rw[E];exact Aj7 mask x.kind.toNat w hm.1 Aa Aa) U <|A1 U (λ h=>?_) (λ h=>?_)
  ·have F:IY mask x.kind.toNat=false:=by
    cases hq:IY mask x.kind.toNat with
    |false=>rfl
    |true=>unfold P8 at n;rw[hq,n]at h;simp at h
   exact A2 C U U U λ w M j=>⟨by rw[A,F];rfl,j.st.low⟩
  have F:IY mask x.kind.toNat=true:=by
   cases hq:IY mask x.kind.toNat with
   |true=>rfl
   |false=>rw[hq]at h;simp at h
  refine B5 (σ:=Int) (λ k=>⟨[(1,kn v 7 l C5)],[(5,EN b x)],[Z 1 (.sl 1 v),Z 5 (.bx 5 b 0),Z 7 (I k)]⟩) (λ k=>0<=k/\k<=len l/\ ∀a∈Eng.sub l 0 k,W7 a x=true) (λ k=>(len l-k).toNat) 0 rfl rfl ⟨Aa,Aa,λ x hx=>by cases hx⟩ ?_
  intro k ⟨h0,h1,s⟩
  refine A1 U (λ y=>?_) (λ y=>?_)<;>simp only[zb]at y
  ·refine G4 U BM Ac <|HB U call101 U U (λ _ w M j=>Ay2 (at' l k) x w M j.st.sat (J _ (at_mem h0 y)) hx G.1) U <|G5 U <|A1 U (λ z=>?_) (λ z=>?_)
   ·refine A2 C U U U λ w M j=>⟨?_,j.st.low⟩
    have e:(l.all λ a=>W7 a x)=false:=by
     rw[<-Bool.not_eq_true,List.all_eq_true]
     intro q
     have:=q _ (at_mem h0 y)
     rw[this]at z;cases z
    rw[A,e,Bool.and_false];rfl
   ·exact AX (k+1) U U ⟨Aa,Aa,λ a i=>by
     rw[FT h0 y]at i
     rcases List.mem_append.1 i with i|i
     ·exact s a i
     ·rw[List.mem_singleton.1 i];simpa using z⟩ Ag
  ·rw[G7 Aa]at s
   exact A2 C U U U λ w M j=>⟨by rw[A,F,List.all_eq_true.2 s];rfl,j.st.low⟩
 ·have n:P8 x=false:=by unfold P8;simpa using D
  refine A1 U (λ h=>?_) (λ h=>?_)
  ·exact A2 C U U U λ w M j=>⟨by unfold TE;rw[n];rfl,j.st.low⟩
  ·exfalso
   unfold P8 at n
   rw[n]at h;simp at h
end Go.Proofs.YtnoegalemkbbbaaGreatDoor
namespace Go.Eng
open Go.RowKit
section
variable {c:Cx} {B:Exit->Act->World->Prop} {k k':List Fr} {m:Md} {s s':XS} {O:Prop} {E:List Ck} {all:Array Oper} {rest:List Oper} {d:Nat} {ty:TypeId} {ps:String} {af:Array Edge}
theorem vT(kk:Nat){t u e:TypeId}{x:Operand}{a:A0}{E1:List Ck}(h:run c.T c.N k m s=⟨k',.ops all (⟨some d,.convert t u x,ty,ps,af,none⟩::rest),s',O,E⟩)(hx:B8 s'.L .t x=some (.v (str a),E1))
  (j:c.P.underlying t=some .string) (hu:c.P.underlying u=some (.slice e)) (he:c.P.underlying e=some (.int .u8))
  (l: ∀b cap sp,XG c B k' (.ops all rest) ⟨s'.F,(kk,.ho (.raw b (FQ e (ints a) sp)))::s'.H,(d,.t,.v (.slice (some ⟨b,0,none⟩) a.length cap))::s'.L⟩) (hE:AA E:=by exact Ad) (hO:O:=by exact Af) (hE1:AA E1:=by exact Ad) (hd:Nat.blt d c.N=true:=by exact rfl):XG c B k m s:=
 DF h (hE:=hE) (hO:=hO) λ w M i=>RL.dZ i.st (A8 hx (hE:=hE1)) j hu he hd λ b cap sp w' hS=>DH (l b cap sp) ⟨hS,i.f,i.le⟩ U
theorem aB(kk j:Nat){t e:TypeId}{x y:Operand}{b:Nat}{u:Int}{l:List Int}{sp:List Value}{E1 E2:List Ck}(h:run c.T c.N k m s=⟨k',.ops all (⟨none,.store t x y,ty,ps,af,none⟩::rest),s',O,E⟩)
  (hx:B8 s'.L .t x=some (.v (.pointer (some ⟨b,j,none⟩)),E1)) (z:B8 s'.L .t y=some (.v (.int .u8 u),E2)) (A:D0 s'.H kk=some (.ho (.raw b (FQ e l sp)))) (C: ∀w,(sizeOf t).run c.P w= .ok 1 w) (D:j<l.length)
  (G:XG c B k' (.ops all rest) ⟨s'.F,CB s'.H kk (.ho (.raw b (FQ e (l.set j u) sp))),s'.L⟩) (hE:AA E:=by exact Ad) (hO:O:=by exact Af) (hE1:AA (E1++E2):=by exact Ad):XG c B k m s:=by
 refine DF h (hE:=hE) (hO:=hO) λ w M n=>?_
 obtain⟨q,J,i⟩:=DP (Hr:=c.Hr) A
 exact RL.AI0 n.st J (A8 hx (hE:=hE1.app.1)) (A8 z (hE:=hE1.app.2)) C D (Hs':=HD (CB s'.H kk (.ho (.raw b (FQ e (l.set j u) sp))))++c.Hr) (i (.ho (.raw b (FQ e (l.set j u) sp)))).symm λ w' hS=>DH G ⟨hS,n.f,n.le⟩ U
theorem aC(kk j:Nat){t e:TypeId}{x:Operand}{b:Nat}{l:List Int}{sp:List Value}{E1:List Ck}(h:run c.T c.N k m s=⟨k',.ops all (⟨some d,.load t x,ty,ps,af,none⟩::rest),s',O,E⟩)
  (hx:B8 s'.L .t x=some (.v (.pointer (some ⟨b,j,none⟩)),E1)) (i:D0 s'.H kk=some (.ho (.raw b (FQ e l sp)))) (n: ∀w,(isAgg t).run c.P w= .ok false w) (y:j<l.length)
  (z:XG c B k' (.ops all rest) ⟨s'.F,s'.H,(d,.t,.v (.int .u8 (at' l (j:Int))))::s'.L⟩) (hE:AA E:=by exact Ad) (hO:O:=by exact Af) (hE1:AA E1:=by exact Ad) (hd:Nat.blt d c.N=true:=by exact rfl):XG c B k m s:=by
 refine AU (.v (.int .u8 (at' l (j:Int)))) h (hE:=hE) (hO:=hO) (W:=.t) (by rw[hd];rfl) (λ w M A=>?_) z
 obtain⟨q,C,_⟩:=DP (Hr:=c.Hr) i
 exact PV.AH8 A.st H8 C (A8 hx (hE:=hE1)) n λ _=>y
theorem vU(kk:Nat){t u e i:TypeId}{x:Operand}{b n cap:Nat}{l:List Int}{sp:List Value}{E1:List Ck}(h:run c.T c.N k m s=⟨k',.ops all (⟨some d,.convert t u x,ty,ps,af,none⟩::rest),s',O,E⟩)
  (hx:B8 s'.L .t x=some (.v (.slice (some ⟨b,0,none⟩) n cap),E1)) (j:D0 s'.H kk=some (.ho (.raw b (FQ e l sp)))) (hl:n=l.length) (y:c.P.underlying t=some (.slice i)) (he:c.P.underlying i=some (.int .u8)) (hu:c.P.underlying u=some .string)
  (z:XG c B k' (.ops all rest) ⟨s'.F,s'.H,(d,.t,.v (str (toStr l)))::s'.L⟩) (hE:AA E:=by exact Ad) (hO:O:=by exact Af) (hE1:AA E1:=by exact Ad) (hd:Nat.blt d c.N=true:=by exact rfl):XG c B k m s:=by
 refine AU (.v (str (toStr l))) h (hE:=hE) (hO:=hO) (W:=.t) (by rw[hd];rfl) (λ w M A=>?_) z
 obtain⟨q,C,_⟩:=DP (Hr:=c.Hr) j
 exact PV.AH9 A.st H8 C (A8 hx (hE:=hE1)) hl y he hu
end
def P9:Nat->List Int->Int->List Int
 |0,l,_=>l
 |f+1,l,i=>if at' l i=57 then P9 f (l.set i.toNat 48) (i-1)else l.set i.toNat (at' l i+1)
def PA:Nat->List Int->Int->List Int
 |0,l,_=>l
 |f+1,l,i=>if at' l i=48 then PA f (l.set i.toNat 57) (i-1)else l.set i.toNat (at' l i-1)
def PB(s:A0):A0:=toStr (P9 (s.length+1) (ints (48::s)) (len s))
def PC(s:A0):A0:=toStr (PA s.length (ints s) (len s-1))
theorem vV{s:A0}(h:H4 s){x:Int}(hx:x∈ints s):48<=x/\x<=57:=by
 unfold ints at hx
 obtain⟨y,b,rfl⟩:=List.mem_map.1 hx
 have:=h y b;omega
theorem aD{l:List Int}{i j:Int}{u:Int}(hi:0<=i/\i<len l)(b:0<=j):at' (l.set i.toNat u) j=if i=j then u else at' l j:=by
 unfold at'
 rw[List.getD_eq_getElem?_getD,List.getD_eq_getElem?_getD,List.getElem?_set]
 by_cases h:i=j
 ·subst h
  rw[if_pos U,if_pos U,if_pos (by unfold len at hi;omega)];rfl
 ·rw[if_neg Aa,if_neg h]
end Go.Eng
namespace Go.Proofs.YtnoegalemkbbbaaGreatDoor
open Go.Proofs.Tryz
open Go.Eng
theorem Ay4(n:Nd)(x:Int)(w:World)(y:len n.s<=1048576)(he: -1048576<=n.e/\n.e<=1048576)(hx: -1048576<=x/\x<=n.e):Calls prog 183 [EV n,i64 x].toArray w λ e w'=>e= .returned (str (n.s++BB (n.e-x)))/\Ext w w':=by
 have k:=A9 n.s
 refine AH AF func183 U ntmps183 [] [] [D3 n,I x] U (BD w) A4 (λ B l=>BP 2 U U U λ h=>B5 (σ:=Int) (λ i=>⟨[],[(2,EN h n)],[Z 2 (.bx 2 h 0),Z 5 (.v (str (n.s++BB (i-x)))),Z 6 (I i)]⟩) (λ i=>x<=i/\i<=n.e) (λ i=>(n.e-i).toNat) x U (by rw[Int.sub_self,XL (Int.le_refl _),List.append_nil];rfl) ⟨Aa,hx.2⟩ ?_) U
 rintro i ⟨h0,h1⟩
 have z:=OD (i-x) Aa
 refine A1 U (λ j=>?_) (λ j=>?_)<;>simp only[zb]at j
 ·have b:n.s++BB (i-x)++[48]=n.s++BB (i+1-x):=by
   unfold BB
   rw[show(i+1-x).toNat=(i-x).toNat+1 by omega,List.replicate_succ',List.append_assoc]
  exact AX (i+1) U (hO:=by simp only[AQ,AM,len_nil];and_intros<;>first|omega|trivial) (by rw[<-b];rfl) ⟨Aa,Aa⟩ Ag
 ·have e:i=n.e:=by omega
  subst e
  exact A2 l U U U λ w M q=>⟨rfl,q.st.low⟩
theorem Ay5(s:A0)(w:World)(W:H4 s)(K:len s<=4194304):Calls prog 184 [str s].toArray w λ e w'=>e= .returned (str (PB s))/\Ext w w':=by
 have X:=A9 s
 have hls:len s=(s.length:Int):=rfl
 obtain⟨h,k⟩: ∃h,h=ints (48::s):=⟨_,rfl⟩
 have C:h.length=s.length+1:=by rw[k];unfold ints;simp
 have hln:len h=(h.length:Int):=rfl
 have L:H4 (48::s):=λ b K=>by
   rcases List.mem_cons.1 K with rfl|K
   ·decide
   ·exact W b K
 have N: ∀j,0<=j->j<len h->48<=at' h j/\at' h j<=57:=λ j h0 h1=>vV L (by rw[<-k];exact R2 h0 h1)
 have hex: ∃j,0<=j/\j<len h/\at' h j≠57:=⟨0,Aa,Aa,by rw[k];show((48:UInt8).toNat:Int)≠57;decide⟩
 have D:PB s=toStr (P9 h.length h (len h-1)):=by unfold PB;rw[k];rw[<-k,C,show len h-1=len s by omega]
 obtain⟨R,V⟩: ∃R,R=P9 h.length h (len h-1):=⟨_,rfl⟩
 rw[<-V]at D
 obtain⟨j0,O,hj1,P⟩:=hex
 refine AH AF func184 U ntmps184 [] [] [.v (str s)] U (BD w) A4 (λ B hB=>vT 3 (a:=48::s) U (hO:=by simp only[AM,len_nil];and_intros<;>first|omega|trivial) U underlying9 underlying216 underlying5 λ b cap sp=>?_) U
 rw[<-k,show(48::s).length=h.length by simp[C]]
 refine AU (I (h.length:Nat)) U U (λ w M A=>PV.e8 (A8 (v:=.v (.slice (some ⟨b,0,none⟩) h.length cap)) (E:=[]) U) underlying216) <|B5 (σ:=Nat×List Int×Int) (λ(f,l,i)=>⟨[],[(3,.ho (.raw b (FQ 5 l sp)))],[Z 3 (.v (.slice (some ⟨b,0,none⟩) h.length cap)),Z 4 (I i)]⟩) (λ(f,l,i)=>0<=i/\i<len h/\l.length=h.length/\(∀j,0<=j->j<len h->48<=at' l j/\at' l j<=57)/\(∃j,0<=j/\j<=i/\at' l j≠57)/\P9 f l i=R/\i+1<=f) (λ(f,l,i)=>f) (h.length,h,(h.length:Int)-1) U U ⟨Aa,Aa,rfl,N,⟨j0,O,Aa,P⟩,V.symm,Aa⟩ ?_
 rintro⟨f,l,i⟩ ⟨n,Q,hl,F,⟨j,G,hjb,H⟩,hg,hfu⟩
 have hit:((i.toNat:Nat):Int)=i:=by omega
 have z:i.toNat<l.length:=by omega
 have hbi:=F i n Q
 obtain⟨f,rfl⟩: ∃q,f=q+1:=⟨f-1,Aa⟩
 refine AU (.v (.pointer (some ⟨b,i.toNat,none⟩))) U U (λ w M A=>PV.OJ (A8 (v:=.v (.slice (some ⟨b,0,none⟩) h.length cap)) (E:=[]) U) (A8 (v:=I i) (E:=[]) U) underlying216 sizeOf5 λ _=>⟨n,Aa⟩) <|aC 3 i.toNat U U U isAgg5 z ?_
 rw[hit]
 rw[P9]at hg
 refine A1 U (λ y=>?_) (λ y=>?_)<;>simp only[zb]at y
 ·rw[if_pos y]at hg
  have S:i≠j:=λ e=>by subst e;exact H y
  refine AU (.v (.pointer (some ⟨b,i.toNat,none⟩))) U U (λ w M A=>PV.OJ (A8 (v:=.v (.slice (some ⟨b,0,none⟩) h.length cap)) (E:=[]) U) (A8 (v:=I i) (E:=[]) U) underlying216 sizeOf5 λ _=>⟨n,Aa⟩) <|aB 3 i.toNat (u:=48) U U U U sizeOf5 z <|AX (f,l.set i.toNat 48,i-1) U U ⟨Aa,Aa,by rw[List.length_set];exact hl,λ q J T=>?_,⟨j,G,Aa,?_⟩,hg,Aa⟩ (by show f<f+1;omega)
  ·rw[aD ⟨n,by unfold len at*;omega⟩ J]
   split
   ·omega
   ·exact F q J T
  ·rw[aD ⟨n,by unfold len at*;omega⟩ G,if_neg S];exact H
 ·rw[if_neg y]at hg
  refine AU (.v (.pointer (some ⟨b,i.toNat,none⟩))) U U (λ w M A=>PV.OJ (A8 (v:=.v (.slice (some ⟨b,0,none⟩) h.length cap)) (E:=[]) U) (A8 (v:=I i) (E:=[]) U) underlying216 sizeOf5 λ _=>⟨n,Aa⟩) <|aC 3 i.toNat U U U isAgg5 z ?_
  rw[hit]
  exact AU (.v (.pointer (some ⟨b,i.toNat,none⟩))) U U (λ w M A=>PV.OJ (A8 (v:=.v (.slice (some ⟨b,0,none⟩) h.length cap)) (E:=[]) U) (A8 (v:=I i) (E:=[]) U) underlying216 sizeOf5 λ _=>⟨n,Aa⟩) <|aB 3 i.toNat (u:=at' l i+1) U U U U sizeOf5 z <|vU 3 U U U (by rw[List.length_set];exact hl.symm) underlying216 underlying5 underlying9 <|A2 hB U U U λ w M A=>⟨by rw[D,<-hg];rfl,A.st.low⟩
theorem Ay6(s:A0)(w:World)(W:H4 s)(T:len s<=4194304)(hx: ∃b∈s,b.toNat≠48):Calls prog 185 [str s].toArray w λ e w'=>e= .returned (str (PC s))/\Ext w w':=by
 have X:=A9 s
 have hls:len s=(s.length:Int):=rfl
 obtain⟨h,k⟩: ∃h,h=ints (s):=⟨_,rfl⟩
 have C:h.length=s.length:=by rw[k];unfold ints;simp
 have hln:len h=(h.length:Int):=rfl
 have K:H4 (s):=W
 have L: ∀j,0<=j->j<len h->48<=at' h j/\at' h j<=57:=λ j h0 h1=>vV K (by rw[<-k];exact R2 h0 h1)
 have hex: ∃j,0<=j/\j<len h/\at' h j≠48:=by
  obtain⟨b,T,hb2⟩:=hx
  obtain⟨j,hj,e⟩:=List.getElem_of_mem T
  refine⟨j,Aa,Aa,?_⟩
  rw[k,ints_at Aa Aa]
  unfold A3
  rw[Int.toNat_natCast,List.getD_eq_getElem?_getD,List.getElem?_eq_getElem hj,e]
  show(b.toNat:Int)≠48
  omega
 have D:PC s=toStr (PA h.length h (len h-1)):=by unfold PC;rw[k];rw[<-k,C,show len h-1=len s-1 by omega]
 obtain⟨R,V⟩: ∃R,R=PA h.length h (len h-1):=⟨_,rfl⟩
 rw[<-V]at D
 obtain⟨j0,N,hj1,O⟩:=hex
 refine AH AF func185 U ntmps185 [] [] [.v (str s)] U (BD w) A4 (λ B hB=>vT 3 (a:=s) U U underlying9 underlying216 underlying5 λ b cap sp=>?_) U
 rw[<-k,show(s).length=h.length by simp[C]]
 refine AU (I (h.length:Nat)) U U (λ w M A=>PV.e8 (A8 (v:=.v (.slice (some ⟨b,0,none⟩) h.length cap)) (E:=[]) U) underlying216) <|B5 (σ:=Nat×List Int×Int) (λ(f,l,i)=>⟨[],[(3,.ho (.raw b (FQ 5 l sp)))],[Z 3 (.v (.slice (some ⟨b,0,none⟩) h.length cap)),Z 4 (I i)]⟩) (λ(f,l,i)=>0<=i/\i<len h/\l.length=h.length/\(∀j,0<=j->j<len h->48<=at' l j/\at' l j<=57)/\(∃j,0<=j/\j<=i/\at' l j≠48)/\PA f l i=R/\i+1<=f) (λ(f,l,i)=>f) (h.length,h,(h.length:Int)-1) U U ⟨Aa,Aa,rfl,L,⟨j0,N,Aa,O⟩,V.symm,Aa⟩ ?_
 rintro⟨f,l,i⟩ ⟨n,P,hl,F,⟨j,G,hjb,H⟩,hg,hfu⟩
 have hit:((i.toNat:Nat):Int)=i:=by omega
 have z:i.toNat<l.length:=by omega
 have hbi:=F i n P
 obtain⟨f,rfl⟩: ∃q,f=q+1:=⟨f-1,Aa⟩
 refine AU (.v (.pointer (some ⟨b,i.toNat,none⟩))) U U (λ w M A=>PV.OJ (A8 (v:=.v (.slice (some ⟨b,0,none⟩) h.length cap)) (E:=[]) U) (A8 (v:=I i) (E:=[]) U) underlying216 sizeOf5 λ _=>⟨n,Aa⟩) <|aC 3 i.toNat U U U isAgg5 z ?_
 rw[hit]
 rw[PA]at hg
 refine A1 U (λ y=>?_) (λ y=>?_)<;>simp only[zb]at y
 ·rw[if_pos y]at hg
  have Q:i≠j:=λ e=>by subst e;exact H y
  refine AU (.v (.pointer (some ⟨b,i.toNat,none⟩))) U U (λ w M A=>PV.OJ (A8 (v:=.v (.slice (some ⟨b,0,none⟩) h.length cap)) (E:=[]) U) (A8 (v:=I i) (E:=[]) U) underlying216 sizeOf5 λ _=>⟨n,Aa⟩) <|aB 3 i.toNat (u:=57) U U U U sizeOf5 z <|AX (f,l.set i.toNat 57,i-1) U U ⟨Aa,Aa,by rw[List.length_set];exact hl,λ q J S=>?_,⟨j,G,Aa,?_⟩,hg,Aa⟩ (by show f<f+1;omega)
  ·rw[aD ⟨n,by unfold len at*;omega⟩ J]
   split
   ·omega
   ·exact F q J S
  ·rw[aD ⟨n,by unfold len at*;omega⟩ G,if_neg Q];exact H
 ·rw[if_neg y]at hg
  refine AU (.v (.pointer (some ⟨b,i.toNat,none⟩))) U U (λ w M A=>PV.OJ (A8 (v:=.v (.slice (some ⟨b,0,none⟩) h.length cap)) (E:=[]) U) (A8 (v:=I i) (E:=[]) U) underlying216 sizeOf5 λ _=>⟨n,Aa⟩) <|aC 3 i.toNat U U U isAgg5 z ?_
  rw[hit]
  exact AU (.v (.pointer (some ⟨b,i.toNat,none⟩))) U U (λ w M A=>PV.OJ (A8 (v:=.v (.slice (some ⟨b,0,none⟩) h.length cap)) (E:=[]) U) (A8 (v:=I i) (E:=[]) U) underlying216 sizeOf5 λ _=>⟨n,Aa⟩) <|aB 3 i.toNat (u:=at' l i-1) U U U U sizeOf5 z <|vU 3 U U U (by rw[List.length_set];exact hl.symm) underlying216 underlying5 underlying9 <|A2 hB U U U λ w M A=>⟨by rw[D,<-hg];rfl,A.st.low⟩
end Go.Proofs.YtnoegalemkbbbaaGreatDoor
namespace Go.Eng
open Go.RowKit
theorem vW: ∀(f:Nat) (l:List Int) (i:Int),(P9 f l i).length=l.length
 |0,_,_=>rfl
 |f+1,l,i=>by
  rw[P9];split
  ·rw[vW f,List.length_set]
  ·rw[List.length_set]
theorem vX: ∀(f:Nat) (l:List Int) (i:Int),(PA f l i).length=l.length
 |0,_,_=>rfl
 |f+1,l,i=>by
  rw[PA];split
  ·rw[vX f,List.length_set]
  ·rw[List.length_set]
theorem Ay7(s:A0):len (PB s)=len s+1:=by
 unfold PB toStr len;rw[List.length_map,vW];unfold ints;simp
theorem Ay8(s:A0):len (PC s)=len s:=by
 unfold PC toStr len;rw[List.length_map,vX];unfold ints;simp
theorem Ay9{s:A0}(hs:s≠[])(h:Lib.trimB s 48=s)(k:Int): ∃b∈s++BB k,b.toNat≠48:=by
 refine Decidable.byContradiction λ l=>?_
 have j:=tE hs h k
 have:BE (s++BB k)=[]:=by
  unfold BE Lib.trimRightS
  rw[gX λ x hx=>?_];rfl
  have e:x∈s++BB k:=List.mem_reverse.1 hx
  have i:x.toNat=48:=Decidable.byContradiction λ q=>l ⟨x,e,q⟩
  have:x=48:=UInt8.toNat_inj.1 (by rw[i];rfl)
  rw[this];decide
 rw[this]at j;simp[len]at j
def aE(n:Nd)(above:Bool):Nd×Int:=CI n.neg ((if n.neg=above then PC else PB) (n.s++BB (n.e-P4 n above))) (P4 n above)
def K5(n:Nd)(above:Bool):Nd×Bool:=
 if n.s=[]then(⟨3,0,[],[49], !above,-1000⟩,true)
 else if(aE n above).2≠0 then(DB 0,false)else((aE n above).1,true)
def J7(n:Nd)(above:Bool):List Nd:=if(K5 n above).2=true then [(K5 n above).1]else []
def LM(a:Tm):List Nd:=if a.c.kind=3 then [a.c]++J7 a.c true++J7 a.c false else []
def H7(l:List Tm):List Nd:=I5++l.flatMap LM++[DB 4]++l.flatMap HM
theorem iQ(l:List Tm):H7 l=I5++l.flatMap LM++[DB 4]++l.flatMap HM:=rfl
def TF(mask:Int)(l:List Tm):Nd×Bool:=match(H7 l).find? (TE mask l)with
 |some x=>(x,true)
 |none=>(DB 0,false)
theorem iR{α β:Type}{f:α->List β}{n:Int}(h: ∀x,len (f x)<=n): ∀l:List α,len (l.flatMap f)<=n*len l
 |[]=>by show(0:Int)<=n*0;omega
 |x::l=>by
  rw[List.flatMap_cons,AQ,AM,Int.mul_add,Int.mul_one]
  have:=iR h l
  have:=h x
  omega
theorem vY(n:Nd)(b:Bool):len (J7 n b)<=1:=by unfold J7;split<;>simp only[AM,len_nil]<;>omega
theorem Az0(a:Tm):len (LM a)<=3:=by
 have h1:=vY a.c true
 have b:=vY a.c false
 unfold LM;split
 ·simp only[AQ,AM,len_nil];omega
 ·show(0:Int)<=3;decide
theorem Az1(l:List Tm):len (H7 l)<=5+5*len l:=by
 have h1:=iR Az0 l
 have b:=iR An0 l
 rw[iQ,AQ,AQ,AQ]
 have e:len I5=4:=rfl
 have h:len [DB 4]=1:=rfl
 omega
structure AtR (a:Tm):Prop where
 num:a.c.kind=3->QQ a.c
 s:len a.c.s<=1000000
 e: -1048576<=a.c.e/\a.c.e<=1048576
theorem Az2(neg:Bool)(s:A0)(e:Int):H4 (CI neg s e).1.s:=by
 unfold CI
 split
 ·rename_i j
  split
  ·intro b h;cases h
  ·split
   ·intro b h;cases h
   ·split
    ·intro b h;cases h
    ·intro b h
     have h1:=tD j
     have k:b∈AY s:=by
      have i:b∈BE (AY s):=h
      unfold BE Lib.trimRightS at i
      exact List.mem_reverse.1 ((List.dropWhile_sublist _).subset (List.mem_reverse.1 i))
     exact h1 b ((List.dropWhile_sublist _).subset k)
 ·intro b h;cases h
theorem Az3{l:List Tm}(q: ∀a∈l,AtR a): ∀x∈H7 l,LK x:=by
 have z: ∀k,LK (DB k):=λ k=>⟨⟨by show len ([]:A0)<=_;decide,by show(-1048576:Int)<=0;decide,by show(0:Int)<=_;decide⟩,λ _ b y=>by cases y⟩
 have own: ∀a∈l,LK a.c:=λ a h=>⟨⟨by have:=(q a h).s;omega,(q a h).e.1,(q a h).e.2⟩,λ A=>((q a h).num A).fig⟩
 have n: ∀(c:Nd) (i:Bool),∀x∈J7 c i,LK x:=λ c i x hx=>by
  unfold J7 at hx
  split at hx
  ·rename_i w
   rw[List.mem_singleton.1 hx]
   unfold K5 at w ⊢
   split at w
   ·rw[if_pos (by assumption)];exact⟨⟨by show len ([49]:A0)<=_;decide,by show(-1048576:Int)<= -1000;decide,by show(-1000:Int)<=_;decide⟩,λ _ b y=>by rw[List.mem_singleton.1 y];decide⟩
   ·rw[if_neg (by assumption)]
    split at w
    ·cases w
    ·rename_i h0
     rw[if_neg h0]
     exact⟨hY _ _ _ (Decidable.not_not.1 h0),λ _=>Az2 _ _ _⟩
  ·cases hx
 intro x hx
 rw[iQ,I5]at hx
 simp only[List.mem_append,List.mem_cons,List.not_mem_nil,or_false,List.mem_flatMap]at hx
 rcases hx with((hx|⟨a,j,hx⟩)|hx)|⟨a,j,hx⟩
 ·rcases hx with rfl|rfl|rfl|rfl<;>exact z _
 ·unfold LM at hx
  split at hx
  ·simp only[List.mem_append,List.mem_singleton]at hx
   rcases hx with(rfl|hx)|hx
   ·exact own a j
   ·exact n _ _ _ hx
   ·exact n _ _ _ hx
  ·cases hx
 ·rw[hx];exact z _
 ·unfold HM at hx
  split at hx
  ·simp only[List.mem_cons,List.not_mem_nil,or_false]at hx
   rcases hx with rfl|rfl
   ·exact own a j
   ·have:=(q a j).s
    exact⟨⟨by show len (a.c.s++[0])<=_;rw[AQ];simp only[AM,len_nil];omega,by show(-1048576:Int)<=0;decide,by show(0:Int)<=_;decide⟩,λ A=>by cases A⟩
  ·cases hx
end Go.Eng
namespace Go.Proofs.YtnoegalemkbbbaaGreatDoor
open Go.Proofs.Tryz
open Go.Eng
theorem vZ(c:Nd)(b:Bool)(w:World)(C:QQ c):Calls prog 157 [EV c,.bool b].toArray w λ e w'=>e= .returned (.tuple #[EV (K5 c b).1,.bool (K5 c b).2])/\Ext w w':=by
 have N:=A9 c.s
 have O:=C.len
 have P:=C.e
 refine AH AF func157 U ntmps157 [] [] [D3 c,.v (.bool b)] U (BD w) A4 (λ B G=>BP 2 U U U λ D=>BA 4 U zeroValue46 U λ F=>?_) U
 refine A1 U (λ h1=>?_) (λ h1=>?_)<;>simp only[zb]at h1
 ·refine A2 G U U U λ w M j=>⟨?_,j.st.low⟩
  unfold K5;rw[if_pos h1];rfl
 refine CP 0 (λ s=> ∃top:Int,top=len c.s+c.e-(if c.neg=b/\c.s=[49]then 1 else 0)/\
   s=⟨[],[(2,EN D c),(4,EN F (DB 0))],[Z 2 (.bx 2 D 0),Z 4 (.bx 4 F 0),Z 5 (.v (.bool false)),Z 6 (I top),Z 7 (.v (.bool (c.neg != b)))]⟩) U U (λ h=>?_) (λ h=>?_) ?_
 ·exact AW _ U U ⟨_,by rw[if_pos (by simpa using h)],rfl⟩
 ·exact AW _ U U ⟨_,by rw[if_neg (by simpa using h),Int.sub_zero],rfl⟩
 rintro _ ⟨top,i,rfl⟩
 have Q: -1001<=top/\top<=1000:=by rw[i];split<;>omega
 have k:=tG i
 obtain⟨z,K⟩: ∃z,z=P4 c b:=⟨_,rfl⟩
 rw[<-K]at k
 have R: -1000<=z/\z<=c.e:=by rw[<-k,i];split<;>split<;>omega
 have H:=OD (c.e-z) Aa
 obtain⟨y,n⟩: ∃y,y=c.s++BB (c.e-z):=⟨_,rfl⟩
 have S:len y<=10000:=by rw[n,AQ,H];omega
 have A:H4 y:=by rw[n];exact gY C.fig _
 have l:aE c b=CI c.neg ((if c.neg=b then PC else PB) y) z:=by unfold aE;rw[n,K]
 refine AU (I z) U U (λ w M j=>by rw[<-k];exact PV.max2 (A8 (v:=I (top-100)) (E:=[]) U) (A8 (v:=I (-1000)) (E:=[]) U)) <|AJ (u:=str y) U call183 U U (λ _ w M j=>by rw[n];exact Ay4 c z w Aa Aa Aa) U <|CP 0 (λ s=> ∃q:A0,q=(if c.neg=b then PC else PB) y/\s=⟨[],[(2,EN D c),(4,EN F (DB 0))],[Z 2 (.bx 2 D 0),Z 4 (.bx 4 F 0),Z 5 (.v (.bool false)),Z 8 (I z),Z 9 (.v (str q))]⟩) U U (λ h=>?_) (λ h=>?_) ?_
 ·have J: ¬c.neg=b:=by simpa using h
  exact AJ U call184 U U (λ _ w M j=>Ay5 y w A Aa) U <|AW _ U U ⟨_,by rw[if_neg J],rfl⟩
 ·have J:c.neg=b:=by simpa using h
  exact AJ U call185 U U (λ _ w M j=>Ay6 y w A Aa (by rw[n];exact Ay9 h1 (C.trim h1) _)) U <|AW _ U U ⟨_,by rw[if_pos J],rfl⟩
 rintro _ ⟨q,L,rfl⟩
 have T:len q<=10001:=by rw[L];split;rw[Ay8];omega;rw[Ay7];omega
 rw[<-L]at l
 refine AJ U call186 U U (λ _ w M j=>AW8 c.neg q z w Aa) U <|BA 10 U zeroValue46 U λ V=>?_
 refine A1 U (λ h=>?_) (λ h=>?_)<;>simp only[zb]at h
 ·refine A2 G U U U λ w M j=>⟨?_,j.st.low⟩
  unfold K5;rw[if_neg h1,l,if_pos h];rfl
 ·refine A2 G U U U λ w M j=>⟨?_,j.st.low⟩
  unfold K5;rw[if_neg h1,l,if_neg Aa];rfl
theorem Az4{w:World}{M:Mem}(v:Value)(l:List Tm)(P:Sat w M)(hl:(kn v 7 l C5).ok M)(hb:len l<=1048576)(Q: ∀a∈l,a.c.kind=3->QQ a.c)(hs: ∀a∈l,len a.c.s<=1048575):
    Calls prog 98 [v].toArray w (N5 w M (λ u:Value=>u) (λ _=>True) (λ u=>[(0,kn u 6 (H7 l) Nd.cells)])):=by
 have R:=A9 l
 refine AH (Hr:=[]) AF func98 U ntmps98 [(10,kn v 7 l C5)] [] [.sl 10 v] U (Aj P) (AG hl A4) (λ B S=>BF 13 I5 Nd.cells 6 46 Nd.AV U U Ah U λ T=>?_) U
 refine B5 (σ:=Int×Value×List Nd) (λ(k,u,y)=>⟨[(10,kn v 7 l C5),(13,kn u 6 y Nd.cells)],[(13,.ho (.own 46 6 u y.length (y.flatMap Nd.cells)))],[Z 0 (.sl 10 v),Z 3 (.sl 13 u),Z 4 (I k)]⟩)
  (λ(k,u,y)=>0<=k/\k<=len l/\y=I5++(Eng.sub l 0 k).flatMap LM/\len y<=4+3*k) (λ(k,u,y)=>(len l-k).toNat) (0,T,I5) U U ⟨Aa,Aa,by show I5=I5++[];rw[List.append_nil],Ab⟩ ?_
 rintro⟨k,u,y⟩ ⟨h0,h1,q,V⟩
 refine A1 U (λ e=>?_) (λ e=>?_)<;>simp only[zb]at e
 ·obtain⟨a,i⟩: ∃a,a=at' l k:=⟨_,rfl⟩
  have D:a∈l:=by rw[i];exact at_mem h0 e
  have j:=FT h0 e
  rw[<-i]at j
  refine A1 U (λ b=>?_) (λ b=>?_)<;>simp only[zb]at b<;>rw[<-i]at b
  ·refine AX (k+1,u,y) U U ⟨Aa,Aa,?_,Aa⟩ Ag
   rw[j,LA,show LM a=[]from by unfold LM;rw[if_neg b],List.append_nil];exact q
  have F:a.c.kind=3:=by omega
  have G:=Q a D F
  refine BF 32 [(at' l k).c] Nd.cells 6 46 Nd.AV U U Ah U λ v32=>F5 64 U U U underlying32 type46 U U Nd.cells_one (by simp only[AM,len_nil];omega) λ v1=>AJ U call157 U U (λ _ w M K=>vZ (at' l k).c true w (by rw[<-i];exact G)) U <|BA 5 U zeroValue46 U λ b5=>CP 0 (λ s=> ∃(u:Value) (z:List Nd),z=y++[a.c]++J7 a.c true/\len z<=len y+2/\s=⟨[(10,kn v 7 l C5),(13,kn u 6 z Nd.cells)],[(13,.ho (.own 46 6 u z.length (z.flatMap Nd.cells)))],[Z 0 (.sl 10 v),Z 3 (.sl 13 u),Z 4 (I k)]⟩) U U (λ A=>?_) (λ A=>?_) ?_
  ·exact BF 51 [(K5 (at' l k).c true).1] Nd.cells 6 46 Nd.AV U U Ah U λ v50=>F5 64 U U U underlying32 type46 U U Nd.cells_one (by simp only[AQ,AM,len_nil];omega) λ v2=>AW _ U U ⟨v2,y++[(at' l k).c]++[(K5 (at' l k).c true).1],by rw[<-i]at A ⊢;unfold J7;rw[if_pos A],by simp only[AQ,AM,len_nil];omega,rfl⟩
  ·exact AW _ U U ⟨v1,y++[(at' l k).c],by rw[<-i]at A ⊢;unfold J7;rw[if_neg (by rw[A];decide),List.append_nil],by simp only[AQ,AM,len_nil];omega,rfl⟩
  rintro _ ⟨W,O,n,L,rfl⟩
  refine AJ U call157 U U (λ _ w M K=>vZ (at' l k).c false w (by rw[<-i];exact G)) U <|BA 7 U zeroValue46 U λ b7=>?_
  have H:LM a=[a.c]++J7 a.c true++J7 a.c false:=by unfold LM;rw[if_pos F]
  refine A1 U (λ C=>?_) (λ C=>?_)
  ·refine BF 61 [(K5 (at' l k).c false).1] Nd.cells 6 46 Nd.AV U U Ah U λ v60=>F5 64 U U U underlying32 type46 U U Nd.cells_one (by simp only[AQ,AM,len_nil];omega) λ v3=>AX (k+1,v3,O++[(K5 (at' l k).c false).1]) U U ⟨Aa,Aa,?_,by simp only[AQ,AM,len_nil];omega⟩ Ag
   rw[<-i]at C
   rw[j,LA,H,<-List.append_assoc,<-q,<-i,n,show J7 a.c false=[(K5 a.c false).1]from by unfold J7;rw[if_pos C]]
   simp
  ·refine AX (k+1,W,O) U U ⟨Aa,Aa,?_,Aa⟩ Ag
   rw[<-i]at C
   rw[j,LA,H,<-List.append_assoc,<-q,n,show J7 a.c false=[]from by unfold J7;rw[if_neg (by rw[C];decide)]]
   simp
 have E:k=len l:=by omega
 subst E
 rw[G7 (Int.le_refl _)]at q
 refine BF 56 [DB 4] Nd.cells 6 46 Nd.AV U U Ah U λ X=>F5 64 U U U underlying32 type46 U U Nd.cells_one (by simp only[AM,len_nil];omega) λ N=>?_
 refine B5 (σ:=Int×Value×List Nd) (λ(k,u,z)=>⟨[(10,kn v 7 l C5),(13,kn u 6 z Nd.cells)],[(13,.ho (.own 46 6 u z.length (z.flatMap Nd.cells)))],[Z 0 (.sl 10 v),Z 3 (.sl 13 u),Z 9 (I k)]⟩)
  (λ(k,u,z)=>0<=k/\k<=len l/\z=I5++l.flatMap LM++[DB 4]++(Eng.sub l 0 k).flatMap HM/\len z<=5+3*len l+2*k) (λ(k,u,z)=>(len l-k).toNat) (0,N,y++[DB 4]) U U ⟨Aa,Aa,by rw[q];simp[Eng.sub],by rw[AQ];simp only[AM,len_nil];omega⟩ ?_
 rintro⟨k,u,z⟩ ⟨J,hk1,n,L⟩
 refine A1 U (λ e=>?_) (λ e=>?_)<;>simp only[zb]at e
 ·obtain⟨a,i⟩: ∃a,a=at' l k:=⟨_,rfl⟩
  have D:a∈l:=by rw[i];exact at_mem J e
  have j:=FT J e
  rw[<-i]at j
  have hsa:=hs a D
  refine A1 U (λ b=>?_) (λ b=>?_)<;>simp only[zb]at b<;>rw[<-i]at b
  ·refine DI [14,15,16] 4 (λ _ _ _ _ _ h=>h) U BM Ac <|AK 14 U (hO:=by first|omega|(rw[<-i];simp only[AM,len_nil];and_intros<;>first|omega|trivial)) U U <|BF 76 [(at' l k).c,⟨4,0,[],(at' l k).c.s++[0],false,0⟩] Nd.cells 6 46 Nd.AV U U Ah U λ v76=>AD U <|AK 15 U (hO:=by first|omega|(rw[<-i];simp only[AM,len_nil];and_intros<;>first|omega|trivial)) U U <|F5 64 U U U underlying32 type46 U U Nd.cells_one (by simp only[AM,len_nil];omega) λ v77=>AD U <|AK 16 U (hO:=by first|omega|(rw[<-i];simp only[AM,len_nil];and_intros<;>first|omega|trivial)) U U <|AD U <|BN U (hO:=by first|omega|(rw[<-i];simp only[AM,len_nil];and_intros<;>first|omega|trivial)) U U <|AX (k+1,v77,z++[(at' l k).c,⟨4,0,[],(at' l k).c.s++[0],false,0⟩]) U U ⟨Aa,Aa,?_,by rw[AQ];simp only[AM,len_nil];omega⟩ Ag
   rw[j,LA,<-List.append_assoc,<-n,<-i,show HM a=[a.c,⟨4,0,[],a.c.s++[0],false,0⟩]from by unfold HM;rw[if_pos b]]
  ·refine AX (k+1,u,z) U U ⟨Aa,Aa,?_,Aa⟩ Ag
   rw[j,LA,show HM a=[]from by unfold HM;rw[if_neg b],List.append_nil];exact n
 have E:k=len l:=by omega
 subst E
 rw[G7 (Int.le_refl _),<-iQ]at n
 subst n
 exact A2 S U U U λ w M K=>⟨u,M,rfl,trivial,K.st.done,AG (K.f.get (k:=13) U) A4⟩
theorem iS{w:World}{M:Mem}(mask:Int)(v:Value)(l:List Tm)(G:Sat w M)(hl:(kn v 7 l C5).ok M)(H:len l<=1048576)(i: ∀a∈l,AtR a)(hm:0<=mask/\mask<=31):
    Calls prog 40 [i64 mask,v].toArray w λ e w'=>e= .returned (.tuple #[EV (TF mask l).1,.bool (TF mask l).2])/\Ext w w':=by
 have z:=Az3 i
 have J: ∀a∈l,LK a.c:=λ a h=>⟨⟨by have:=(i a h).s;omega,(i a h).e.1,(i a h).e.2⟩,λ D=>((i a h).num D).fig⟩
 refine AH (Hr:=[]) AF func40 U ntmps40 [(1,kn v 7 l C5)] [] [I mask,.sl 1 v] U (Aj G) (AG hl A4) (λ B E=>BA 4 U zeroValue46 U λ F=>EW (λ u:Value=>.sl 6 u) [6] (Fg:=λ u=>[(0,kn u 6 (H7 l) Nd.cells)]) (pu:=λ _=>True) U U call98 U (λ w M b=>Az4 v l b.st.sat (b.f.get (k:=1) U) H (λ a h=>(i a h).num) (λ a h=>by have:=(i a h).s;omega)) λ u _=>?_) U
 have K:len (H7 l)=((H7 l).length:Int):=rfl
 have L:=Az1 l
 have N:=A9 l
 refine B5 (σ:=Nat) (λ k=>⟨[(1,kn v 7 l C5),(6,kn u 6 (H7 l) Nd.cells)],[(4,EN F (DB 0))],[Z 0 (I mask),Z 1 (.sl 1 v),Z 4 (.bx 4 F 0),Z 5 (.v (.bool false)),Z 6 (.sl 6 u),Z 7 (I k)]⟩) (λ k=>k<=(H7 l).length/\ ∀x∈(H7 l).take k,TE mask l x=false) (λ k=>(H7 l).length-k) 0 U U ⟨Nat.zero_le _,λ x hx=>by simp at hx⟩ ?_
 rintro k ⟨D,j⟩
 refine A1 U (λ y=>?_) (λ y=>?_)<;>simp only[zb]at y
 ·have n:k<(H7 l).length:=by omega
  have A:at' (H7 l) (k:Int)∈H7 l:=at_mem Aa Aa
  refine AJ U call42 U U (λ _ w M b=>Ay3 mask v l (at' (H7 l) (k:Int)) w M b.st.sat (b.f.get (k:=1) U) Aa J (z _ A) hm) U <|A1 U (λ q=>?_) (λ q=>?_)
  ·refine A2 E U U U λ w M b=>⟨?_,b.st.low⟩
   unfold TF;rw[tI n j q];rfl
  ·exact AX (k+1) U U ⟨n,tK n j q⟩ (by show(H7 l).length-(k+1)<(H7 l).length-k;omega)
 ·have C:k=(H7 l).length:=by omega
  refine A2 E U U U λ w M b=>⟨?_,b.st.low⟩
  unfold TF;rw[tJ (by rw[<-C];exact j)];rfl
theorem drop_at{α:Type}[Inhabited α]{l:List α}{k:Nat}(h:k<l.length):l.drop k=at' l (k:Int)::l.drop (k+1):=by
 obtain⟨h1,b⟩:=CG l (i:=(k:Int)) Aa (by unfold len;omega)
 rw[b,List.drop_eq_getElem_cons h];simp
theorem Az5{x:Tf}{k:Nat}{i:Int}(b:k<x.ps.length)(hs:BW x.flat i (x.ps.drop k)):BW x.flat i (at' x.ps (k:Int)::x.ps.drop (k+1)):=by rw[<-drop_at b];exact hs
theorem Az6(x:Tf)(v:Value)(w:World)(M:Mem)(G:Sat w M)(H:Sl M 11 x.flat.length v (x.flat.flatMap Tm.cells))(J:len x.flat<=1048576):
   Calls prog 56 [v].toArray w (N5 w M (λ g:Value×List AI=>g.1) (λ g=>len g.2=len x.ps) (λ g=>[(0,C6 g.1 g.2 (DU x))])):=by
 have K:(at' x.flat 0).many=len x.ps:=by rw[x.DA];rfl
 have E:=Tf.EE x
 have L:len x.ps=(x.ps.length:Int):=rfl
 have N:=MI x.ps
 have O:len x.flat=1+A6 x.ps:=by unfold len;rw[Tf.DC,Tf.size_eq];omega
 refine AH (Hr:=[]) AF func56 U ntmps56 [(0,A7 v x.flat)] [] [.sl 0 v] U (Aj G) (fc 0 H Tm.AV A4) (λ B P=>BF 1 [] BR 1 23 CR U U Ah U λ u=>CH U Ad Aa (DS 6 (C6 u [] ((DU x).take 0)) (λ w M e=>⟨e.sl 1 U,CR,trivial⟩) ?_)) U
 refine B5 (σ:=Nat×Int×Value×List AI) (λ(k,i,u,hs)=>⟨[(0,A7 v x.flat),(1,kn u 1 hs BR),(6,C6 u hs ((DU x).take k))],[(1,.ho (V7 u hs))],[Z 0 (.sl 0 v),Z 3 (.sl 1 u),Z 4 (I i),Z 5 (I k)]⟩) (λ(k,i,u,hs)=>k<=x.ps.length/\BW x.flat i (x.ps.drop k)/\len hs=k) (λ(k,i,u,hs)=>x.ps.length-k) (0,1,u,[]) U U ⟨Aa,x.AY8,rfl⟩ ?_
 rintro⟨k,i,u,hs⟩ ⟨T,z,A⟩
 refine A1 U (λ h1=>?_) (λ h1=>?_)<;>simp only[zb]at h1
 ·have j:k<x.ps.length:=by omega
  have b:=Az5 j z
  obtain⟨y,F⟩: ∃y,y=at' x.ps (k:Int):=⟨_,rfl⟩
  rw[<-F]at b
  have l:=SP b
  have hle:=b.le
  have C:=b.node
  have Q:=y.size_pos
  rw[A6]at hle
  have h:=AY9 b
  rw[<-l]at h
  have R:len y.flat=y.size:=by unfold len;rw[Tf.DC]
  refine AJ U call112 U U (λ _ w M e=>aA x.flat v i M w e.st.sat (e.sl 0 U) J Aa Aa) U <|IM 3 ([]:List Tm) Tm.cells 11 48 Tm.AV U U Ah U λ v3=>FO (gd:=none) 4 i (GZ x.flat i) U U U ⟨.i64,_,rfl,AE U⟩ ⟨.i64,_,rfl,AE U⟩ underlying23 sizeOf48 Aa U λ v4=>?_
  rw[h]
  refine IB 120 U U U underlying23 type48 U U Tm.cells_one (by rw[len_nil];omega) λ v5=>?_
  rw[List.nil_append]
  refine BA 5 U zeroValue48 U λ V=>HU { at' y.flat 0 with name:=[]} rfl U U sizeOf48 U U U Aa λ W n=>?_
  rw[show((0:Int).toNat)=0 from rfl,Tf.YC]at n
  subst n
  refine C2 3 U <|UT 3 U λ a q S=>?_
  obtain⟨s,D⟩: ∃s:AI,v5=s.v:=⟨⟨a,_,q⟩,S⟩
  subst D
  refine BF 7 [s] BR 1 23 CR U U Ah U λ X=>F5 24 U U U underlying55 type23 U U ON (by simp only[AM,len_nil];omega) λ v'=>CH U Ad Aa (DS 6 (C6 v' (hs++[s]) ((DU x).take (k+1))) (λ w M e=>⟨e.sl 1 U,CR,by rw[nR j,<-F];exact B3.snoc (e.sl 3 U) (e.f.get (k:=6) U).more⟩) ?_)
  exact AX (k+1,GZ x.flat i,v',hs++[s]) U U ⟨Aa,by rw[l];exact b.rest,by rw[AQ,A];rfl⟩ (by show x.ps.length-(k+1)<x.ps.length-k;omega)
 ·refine A2 P U U U λ w M e=>⟨(u,hs),M,rfl,by show len hs=_;omega,e.st.done,AG ?_ A4⟩
  have:=e.f.get (k:=6) U
  rw[List.take_of_length_le (by simp[DU];omega)]at this
  exact this
end Go.Proofs.YtnoegalemkbbbaaGreatDoor
namespace Go.Eng
def TG(n:Int):Nat->A0
 |0=>[]
 |k+1=>if IY n k=true then(if TG n k=[]then []else TG n k++[124])++at' S5 (k:Int)else TG n k
end Go.Eng
namespace Go.Proofs.YtnoegalemkbbbaaGreatDoor
open Go.Proofs.Tryz
open Go.Eng
end Go.Proofs.YtnoegalemkbbbaaGreatDoor
namespace Go.Eng
theorem w4: ∀ {l:List Tf},I3 l=true-> ∀x∈l,ML x=true
 |[],_,x,h=>by cases h
 |y::l,h,x,hx=>by
  rw[I3,Bool.and_eq_true]at h
  rcases List.mem_cons.1 hx with rfl|hx
  ·exact h.1
  ·exact w4 h.2 x hx
theorem w6{x:Tf}(h:ML x=true):H3 x.node=true/\ES x.t.op none x.ps=true/\P0 x.t x.ps=true/\I3 x.ps=true:=by
 rw[sK]at h
 simp only[Bool.and_eq_true]at h
 exact⟨h.1.1.1,h.1.1.2,h.1.2,h.2⟩
end Go.Eng
namespace Go.Proofs.YtnoegalemkbbbaaGreatDoor
open Go.Proofs.Tryz
open Go.Eng
end Go.Proofs.YtnoegalemkbbbaaGreatDoor
namespace Go.Eng
open Go.RowKit
theorem LS.Az7 {s r:A0}{u:List Tk}(hs:FM s=true)(b: ∀c r',r=c::r'->CK (c.toNat:Int) false=false)(hl:LS r u):LS (s++r) (VP s 0::u):=by
 obtain⟨h1,e⟩:=ZI hs
 cases s with
 |nil=>exact absurd U h1
 |cons c w=>exact .tok (by simp) (Ah0 e b) hl
def aF(n:Int):Nat->List Tk
 |0=>[]
 |k+1=>if IY n k=true then(if TG n k=[]then []else aF n k++[iE [124]])++[ZJ (at' S5 (k:Int))]else aF n k
theorem Az8{k:Nat}(h:k<5):FM (at' S5 (k:Int))=true:=by
 rcases(by omega:k=0\/k=1\/k=2\/k=3\/k=4)with rfl|rfl|rfl|rfl|rfl<;>decide+kernel
theorem LS.mask (n:Int): ∀(k:Nat) {r:A0} {u:List Tk},k<=5->(∀c r',r=c::r'->CK (c.toNat:Int) false=false)->LS r u->LS (TG n k++r) (aF n k++u)
 |0,r,u,_,_,hl=>hl
 |k+1,r,u,h,b,hl=>by
  have hw:=LS.Az7 (Az8 (k:=k) Aa) b hl
  rw[TG,aF]
  split
  ·split
   ·exact hw
   ·simp only[List.append_assoc]
    exact LS.mask n k Aa (λ c r' e=>by rw[<-(List.cons.inj e).1];decide) (.mark Ab hw)
  ·exact LS.mask n k Aa b hl
theorem Az9{x:Tf}(h:ML x=true)(ho:x.t.op=7\/x.t.op=8): ∃p:List Sp,p.length<=20/\(∀y∈p,y.AR)/\x.t.s=JU p/\(ER x.t.s).1=p/\(∀y∈p,y.part=false):=by
 have hp:=(w6 h).1
 unfold H3 JY at hp
 have e:x.node.op=x.t.op:=rfl
 have es:x.node.s=x.t.s:=rfl
 rw[if_neg Aa,if_neg Aa,if_neg Aa,if_neg Aa,if_neg Aa,if_neg Aa,if_pos Aa]at hp
 simp only[Bool.and_eq_true]at hp
 have b:=hp.2.2
 unfold I2 at b
 simp only[Bool.and_eq_true,es]at b
 obtain⟨p,p1,p2,p3,p4⟩:=AW2 (s:=x.t.s) b.1
 refine⟨p,p1,p2,p3,p4,λ y j=>?_⟩
 have i:=b.2
 rw[p4]at i
 cases hyp:y.part with
 |false=>rfl
 |true=>
  have:p.any (λ x=>x.part)=true:=List.any_eq_true.2 ⟨y,j,hyp⟩
  rw[this]at i;cases i
theorem BA0(s:A0)(i:Int)(h0:0<=i):((Lib.decodeL (A5 s i)).1:Int)=B2 s i/\((Lib.decodeL (A5 s i)).2:Int)=runeLen s i:=by
 have h:Lib.decodeL (A5 s i)=Utf8.decode ⟨⟨s⟩⟩ i.toNat:=(RY s i h0).symm
 rw[h];exact⟨rfl,rfl⟩
theorem BA1(s:A0): ∀(n:Nat) (i:Int),0<=i->(len s-i).toNat<=n->GU s i=true->Lib.validD (A5 s i)=true:=by
 intro n
 induction n with
 |zero=>
  intro i h0 k _
  have:A5 s i=[]:=by unfold A5;exact List.drop_eq_nil_of_le (by unfold len at k;omega)
  rw[this];rfl
 |succ n l=>
  intro i h0 k hu
  by_cases h1:i<len s
  ·have b:A5 s i≠[]:=by
    intro e
    have:(A5 s i).length=0:=by rw[e];rfl
    unfold A5 at this;rw[List.length_drop]at this;unfold len at h1;omega
   unfold GU at hu
   rw[dif_pos ⟨h0,h1⟩]at hu
   obtain⟨d1,d2⟩:=BA0 s i h0
   rcases MA h0 h1 with⟨q,_⟩|⟨q,hl,j,_⟩
   ·rw[dif_neg Aa]at hu;cases hu
   ·rw[dif_pos Aa]at hu
    rw[Lib.validD_step _ b,if_neg (by intro h;exact j ⟨Aa,Aa⟩)]
    have e:(A5 s i).drop (Lib.decodeL (A5 s i)).2=A5 s (i+rune s i):=by
     rw[<-KE s i (rune s i) h0 Aa]
     show _=(A5 s i).drop (rune s i).toNat
     rw[show(Lib.decodeL (A5 s i)).2=(rune s i).toNat by omega]
    rw[e]
    exact l _ Aa Aa hu
  ·have:A5 s i=[]:=by unfold A5;exact List.drop_eq_nil_of_le (by unfold len at h1;omega)
   rw[this];rfl
theorem w8{s:A0}(h:DO s=true):Lib.validD s=true:=by
 have:=BA1 s (len s-0).toNat 0 Aa (Nat.le_refl _) h
 simpa[A5]using this
end Go.Eng
