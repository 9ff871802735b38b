/- Lemmas for the card. -/
import Derived.Test.YtmjpjbmeamnfpaaGreatDoorZf20
set_option linter.unusedVariables false
set_option linter.unusedSimpArgs false
namespace Go.Eng
def Er{α:Type}(r:PR α):Prop:= ∀c p,r= .er c p->c≠0
theorem Er.ok {α:Type}{x:α}{j:Int}:Er (.ok x j):=λ c p e=>by cases e
theorem Er.fail {α:Type}{l:List Tk}{i e:Int}(he:e≠0):Er (D0 l i e:PR α):=λ c p h=>by cases h;exact he
theorem Er.bind {α β:Type}{r:PR α}{k:α->Int->PR β}(h:Er r)(hk: ∀x j,Er (k x j)):Er (r.bind k):=by
 cases r with
 |er c p=>exact λ c' p' e=>by cases e;exact h c p rfl
 |ok x j=>exact hk x j
theorem Er.FX {l:List Tk}{i:Int}{m:A1}:Er (B6 l i m):=by unfold B6;split;exact .ok;exact .fail (by decide)
theorem Er.op {l:List Tk}{d i:Int}{m:A1}:Er (EA l d i m):=by unfold EA;split;exact .fail (by decide);exact .FX
theorem Er.whole {l:List Tk}{i:Int}:Er (EZ l i):=by unfold EZ;split;exact .fail (by decide);split;exact .fail (by decide);exact .ok
theorem AZ3{α:Type}[Inhabited α](A B:List α){i:Int}(h0:0<=i):at' (A++B) (i+len A)=at' B i:=by
 have hA:(i+len A).toNat=i.toNat+A.length:=by unfold len;omega
 unfold at'
 rw[List.getD_eq_getElem?_getD,List.getD_eq_getElem?_getD,hA,List.getElem?_append_right (by omega),Nat.add_sub_cancel]
section
variable {rt:Tf->Bool} {L B:List Tk} {n m:Int} {e:Tk} {p0 p1 p2 p3 p4 p5 p6 p7:Int}
end
section
variable {rt:Tf->Bool}
theorem TA.part (A l r:List Tk):TA (A++(l++r)) (len A+len l) r:=by
 have h1:TA (A++(l++r)) 0 (A++(l++r)):=⟨Int.le_refl 0,rfl⟩
 have h2:=(TA.add h1).add
 rw[Int.zero_add]at h2;exact h2
end
set_option maxRecDepth 100000
end Go.Eng
namespace Go.Proofs.YtmjpjbmeamnfpaaGreatDoor
open Go.Proofs.Tryz
open Go.Eng
theorem pY{α:Type}[Inhabited α](a:List α){k:Int}(h0:0<=k)(h1:k<len a):Eng.sub a 0 (k+1)=Eng.sub a 0 k++[at' a k]:=sub_succ a k h0 h1
theorem AZ4(M:Mem)(a b:Fl)(va vb:Value)(w:World)(hM:Sat w M)(ha:Sl M 11 a.length va (a.flatMap Tm.cells))(hb:Sl M 11 b.length vb (b.flatMap Tm.cells)):
    Calls prog 19 [va,vb].toArray w λ e w'=>e= .returned (.bool (decide (a=b)))/\Ext w w':=by
 have hla:len a<=9223372036854775807:=ha.le
 refine AU (Hr:=[]) AP func19 U ntmps19 [(0,B7 va a),(1,B7 vb b)] [] [.sl 0 va,.sl 1 vb] U (Ak hM) (fc 0 ha Tm.B4 (fc 1 hb Tm.B4 AA)) (λ B hB=>?_) U
 refine A7 U (A0 U) U (λ hb1=>?_) (λ hb1=>?_)<;>simp only[zb]at hb1
 ·exact A9 hB U U (A0 U) U U (A0 U) λ w M hX=>⟨by rw[decide_eq_false (λ e=>hb1 (by rw[e]))];rfl,hX.st.low⟩
 refine CD (λ k:Int=>⟨[(0,B7 va a),(1,B7 vb b)],[],[Z 0 (.sl 0 va),Z 1 (.sl 1 vb),Z 5 (I k)]⟩) (λ k=>0<=k/\k<=len a/\Eng.sub a 0 k=Eng.sub b 0 k) (λ k=>(len a-k).toNat) 0 U (A0 U) U U ⟨by omega,by have:=A4 a;omega,rfl⟩ ?_
 rintro k ⟨hk0,hk1,hke⟩
 refine A7 U (A0 U) U (λ hb2=>?_) (λ hb2=>?_)<;>simp only[zb]at hb2
 ·have hkb:k<len b:=by omega
  refine MK [8] 2 (λ _ _ _ _ _ h=>h) U (A0 U) U EM (by decide+kernel) ?_
  refine D2 8 U (A0 U) (by omega) U U ?_
  refine CY (.v (.bool (!decide (at' a k=at' b k)))) U (A0 U) U U (λ w M hX=>PV.bin (AN (v:=FW (at' a k)) U (A0 U)) (AN (v:=FW (at' b k)) U (A0 U)) (λ _ w _=>vV _ _ _ _ w)) ?_
  refine CL U (A0 U) U ?_
  refine IP U (A0 U) (by omega) U U ?_
  refine A7 U (A0 U) U (λ hb3=>?_) (λ hb3=>?_)
  ·have hne: ¬at' a k=at' b k:=by simpa[zb]using hb3
   exact A9 hB U U (A0 U) U U (A0 U) λ w M hX=>⟨by rw[decide_eq_false (λ e=>hne (by rw[e]))];rfl,hX.st.low⟩
  ·have heq:at' a k=at' b k:=by simpa[zb]using hb3
   exact C7 (k+1) U (A0 U) (by omega) U ⟨by omega,by omega,by rw[pY a hk0 hb2,pY b hk0 hkb,hke,heq]⟩ (by show Int.toNat _<Int.toNat _;omega)
 ·have hab:a=b:=by rw[JW a k (by omega),JW b k (by omega)]at hke;exact hke
  exact A9 hB U U (A0 U) U U (A0 U) λ w M hX=>⟨by rw[decide_eq_true hab];rfl,hX.st.low⟩
theorem AZ5{x y:Fl}(h:x=y)(M:Mem)(va vb:Value)(w:World)(hM:Sat w M)(ha:Sl M 11 x.length va (x.flatMap Tm.cells))(hb:Sl M 11 y.length vb (y.flatMap Tm.cells)):
  Calls prog 19 [va,vb].toArray w λ e w'=>e= .returned (.bool true)/\Ext w w':=
 (AZ4 M x y va vb w hM ha hb).mono λ e w' q=>by rw[decide_eq_true h]at q;exact q
end Go.Proofs.YtmjpjbmeamnfpaaGreatDoor
set_option maxRecDepth 100000
namespace Go.Eng
def H6(s:A1):List Sp×Bool:=((DI s).1,(DI s).2.2==0&& !((DI s).1.any λ x=>x.part))
def NT(n:Int)(c:Nd):Bool:=decide (0<=n)&&decide (n<=5)&&(decide (c.kind<5)&&(decide (c.name=[])&&decide (c.many=0)&&H5 c))
def FY(t:Tm):Bool×Tm:=
 if t.op=0 then(t.many==0,BX t)
 else if t.op=1 then(decide (0<=t.many)&&decide (1<=t.n)&&decide (t.n<=31),{ BX t with n:=t.n})
 else if t.op=9 then(t.many==0&&NT t.n t.c,{ BX t with n:=t.n,c:=t.c})
 else if t.op=2 then(decide (0<=t.many)&&(t.n==0||t.n==1),{ BX t with n:=t.n})
 else if t.op=4 then(decide (0<=t.many),BX t)
 else if t.op=3\/t.op=5\/t.op=6 then(t.many==1,BX t)
 else if t.op=7\/t.op=8 then(t.many==1&&(H6 t.s).2,{ BX t with s:=t.s})
 else(false,BX t)
def D5(t:Tm):Bool:=decide (t=(FY t).2)&&(FY t).1
def QB(m:Int)(f:Fl):Bool:=decide (len f<=m)&&f.all λ t=>decide (len t.s<=100)&&decide (len t.name<=100)&&decide (len t.c.s<=100)
end Go.Eng
namespace Go.Proofs.YtmjpjbmeamnfpaaGreatDoor
open Go.Proofs.Tryz
open Go.Eng
theorem UH(f:Fl)(v:Value)(i:Int)(M:Mem)(w:World)(hM:Sat w M)(hv:Sl M 11 f.length v (f.flatMap Tm.cells))(hb:len f<=1048576)(h0:0<=i)(h1:i<=1048576):
    Calls prog 34 [v,i64 i].toArray w λ e w'=>e= .returned (i64 (JK f i))/\Ext w w':=by
 have hl0:=A4 f
 refine AU (Hr:=[]) AP func34 U ntmps34 [(0,B7 v f)] [] [.sl 0 v,I i] U (Ak hM) (fc 0 hv Tm.B4 AA) (λ B hB=>?_) U
 refine CD (σ:=Nat×Int×Int) (λ(g,o,j)=>⟨[(0,B7 v f)],[],[Z 0 (.sl 0 v),Z 1 (I j),Z 5 (I o)]⟩) (λ(g,o,j)=>IU g f o j=JK f i/\len f+2<=g+j/\i<=j/\(o=1/\j=i\/j<=len f)/\o<=1+(j-i)*1048576/\0<=o) (λ(g,o,j)=>(len f-j).toNat) (f.length+2,1,i) U (A0 U) U U ⟨rfl,by unfold len;omega,by omega,.inl ⟨rfl,rfl⟩,by omega,by omega⟩ ?_
 rintro⟨g,o,j⟩ ⟨hg,hgj,hj,hoj,ho,ho0⟩
 refine A7 U (A0 U) U (λ h2=>?_) (λ h2=>?_)<;>simp only[zb]at h2
 ·refine A7 U (A0 U) (by simp only[zb]<;>omega) (λ h3=>?_) (λ h3=>?_)<;>simp only[zb]at h3
  ·have hr:JK f i= -1:=by
    rw[<-hg]
    cases g with
    |zero=>rfl
    |succ g=>rw[IU,if_neg (by omega),if_pos (by omega)]
   refine A9 hB U U (A0 U) U U (A0 U) λ w M hX=>⟨?_,hX.st.low⟩
   rw[hr];rfl
  ·obtain⟨g,rfl⟩: ∃q,g=q+1:=⟨g-1,by omega⟩
   rw[IU,if_neg (by omega),if_neg (by omega)]at hg
   exact C7 (g,o-1+(at' f j).many,j+1) U (A0 U) (by omega) U ⟨hg,by omega,by omega,.inr (by omega),by omega,by omega⟩ (by show Int.toNat _<Int.toNat _;omega)
 ·obtain⟨g,rfl⟩: ∃q,g=q+1:=⟨g-1,by omega⟩
  rw[pB (by omega)]at hg
  refine A9 hB U U (A0 U) U U (A0 U) λ w M hX=>⟨?_,hX.st.low⟩
  rw[<-hg];rfl
theorem AZ6(l:List Sp)(v:Value)(M:Mem)(w:World)(hM:Sat w M)(hl:Sl M 3 l.length v (l.flatMap Sp.cells))(hb:len l<=1099511627776):
    Calls prog 61 [v].toArray w λ e w'=>e= .returned (.bool (!(l.any λ x=>x.part)))/\Ext w w':=by
 have hl0:=A4 l
 refine AU (Hr:=[]) AP func61 U ntmps61 [(0,kn v 3 l Sp.cells)] [] [.sl 0 v] U (Ak hM) (fc 0 hl Sp.B4 AA) (λ B hB=>?_) U
 refine CD (σ:=Int) (λ k=>⟨[(0,kn v 3 l Sp.cells)],[],[Z 0 (.sl 0 v),Z 3 (I k)]⟩) (λ k=>0<=k/\k<=len l/\ ∀x∈Eng.sub l 0 k,x.part≠true) (λ k=>(len l-k).toNat) 0 rfl (A0 rfl) U rfl ⟨by omega,by omega,λ x hx=>by cases hx⟩ ?_
 intro k ⟨h0,h1,hno⟩
 refine A7 U (A0 U) U (λ hb1=>?_) (λ hb1=>?_)<;>simp only[zb]at hb1
 ·refine A7 U (A0 U) (by omega) (λ hb2=>?_) (λ hb2=>?_)
  ·refine A9 hB U U (A0 U) U U (A0 U) λ w M hX=>⟨?_,hX.st.low⟩
   rw[List.any_eq_true.2 ⟨at' l k,at_mem h0 hb1,hb2⟩];rfl
  ·exact C7 (k+1) U (A0 U) (by omega) U ⟨by omega,by omega,λ x hx=>by
    rw[NJ h0 hb1]at hx
    rcases List.mem_append.1 hx with hx|hx
    ·exact hno x hx
    ·rw[List.mem_singleton.1 hx,hb2];decide⟩ (by omega)
 ·rw[L7 (by omega)]at hno
  refine A9 hB U U (A0 U) U U (A0 U) λ w M hX=>⟨?_,hX.st.low⟩
  have e:(l.any λ x=>x.part)=false:=by
   rw[List.any_eq_false];intro x hx;exact hno x hx
  rw[e];rfl
theorem pZ: ∀(f:Nat) (s:A1) (p:List Sp) (i:Int),len (FV f s p i).1<=len p+f
 |0,s,p,i=>by rw[FV];show len p<=_;omega
 |f+1,s,p,i=>by
  rw[FV]
  split
  ·show len p<=_;omega
  ·have:=pZ f s (p++[(D3 s i p.isEmpty).1]) (D3 s i p.isEmpty).2
   rw[A5,A6,len_nil]at this
   push_cast;omega
theorem qA(s:A1):len (DI s).1<=20:=by
 have h:=pZ 20 s [] 0
 rw[len_nil]at h
 have hb:len (EP s 0).1<=20:=by
  unfold EP
  split
  ·show len ([]:List Sp)<=20;decide
  ·omega
 unfold DI
 split
 ·exact hb
 split
 ·show len ([]:List Sp)<=20;decide
 split
 ·show len ([]:List Sp)<=20;decide
 ·exact hb
theorem qB{wv:World}{M:Mem}(s:A1)(hS:Sat wv M)(hb:len s<=1048576):
  Calls prog 37 [str s].toArray wv (ND wv M (λ v:Value=>.tuple #[v,.bool (H6 s).2]) (λ _=>True) (λ v=>[(0,kn v 3 (H6 s).1 Sp.cells)])):=by
 have hl:=qA s
 refine AU AP func37 U ntmps37 [] [] [.v (str s)] U (Ak hS) AA (λ B hB=>?_) U
 refine IL (λ v:Value=>.tu [.sl 1 v,I (DI s).2.1,I (DI s).2.2]) [1] U (A0 U) U U call60 U U (A0 U) (λ w M hX=>AS7 s hX.st.sat hb) (λ _=>rfl) λ v _=>?_
 refine AY U (A0 U) U call61 U U (A0 U) (λ _ w M hX=>AZ6 (DI s).1 v M w hX.st.sat (hX.sl 1 U) (by omega)) U ?_
 exact A9 hB U U (A0 U) U U (A0 U) λ w M hX=>⟨v,M,rfl,trivial,hX.st.done,fc 0 (hX.sl 1 U) Sp.B4 AA⟩
theorem AZ7(c:Nd)(w:World)(M:Mem)(hM:Sat w M)(hb:len c.s<=1048576):
   Calls prog 87 [H9 c].toArray w λ e w'=>e= .returned (.bool (decide (c.kind<5)&&(decide (c.name=[])&&decide (c.many=0)&&H5 c)))/\Ext w w':=by
 refine AU (Hr:=[]) AP func87 U ntmps87 [] [] [GW c] U (Ak hM) AA (λ B hB=>?_) U
 refine F0 1 U (A0 U) U U U (A0 U) λ bb=>?_
 refine L3 (.v (.slice none 0 0)) U (A0 U) U U (λ hb1=>?_) (λ hb1=>?_)
 ·refine DS 2 [c] Nd.cells 6 46 Nd.B4 U (A0 U) U U (OK hb1 U) (λ w=>by kernel_rfl) U λ v2=>?_
  refine AY U (A0 U) U call103 U U (A0 U) (λ _ w M hX=>AU2 c v2 M w hX.st.sat (hX.sl 2 U) (by omega)) U ?_
  exact A9 hB U U (A0 U) U U (A0 U) λ w M hX=>⟨rfl,hX.st.low⟩
 ·refine L3 (.v (.bool false)) U (A0 U) U U (λ h=>absurd (hb1.symm.trans h) (by decide)) (λ _=>?_)
  exact A9 hB U U (A0 U) U U (A0 U) λ w M hX=>⟨by rw[hb1];rfl,hX.st.low⟩
theorem AZ8(n:Int)(c:Nd)(w:World)(M:Mem)(hM:Sat w M)(hb:len c.s<=1048576):
  Calls prog 58 [.agg (i64 n::c.cells).toArray].toArray w λ e w'=>e= .returned (.bool (NT n c))/\Ext w w':=by
 refine AU (Hr:=[]) AP func58 U ntmps58 [] [] [.ag [I n,I c.kind,I c.many,.v (str c.name),.v (str c.s),.v (.bool c.neg),I c.e]] U (Ak hM) AA (λ B hB=>?_) U
 refine F0 1 U (A0 U) U U U (A0 U) λ bb=>?_
 refine AY U (A0 U) U call87 U U (A0 U) (λ _ w M hX=>AZ7 c w M hX.st.sat hb) U ?_
 exact A9 hB U U (A0 U) U U (A0 U) λ w M hX=>⟨rfl,hX.st.low⟩
theorem AZ9(t:Tm)(w:World)(M:Mem)(hM:Sat w M)(hs1:len t.s<=1048576)(hc1:len t.c.s<=1048576):Calls prog 35 [pQ t].toArray w λ e w'=>e= .returned (.bool (D5 t))/\Ext w w':=by
 refine AU (Hr:=[]) AP func35 U ntmps35 [] [] [FW t] U (Ak hM) AA (λ B hB=>?_) U
 refine F0 1 U (A0 U) U U U (A0 U) λ b1=>?_
 refine CU 3 U (A0 U) U zeroValue48 U λ b3=>?_
 refine A7 U (A0 U) U (λ h0=>?_) (λ h0=>?_)<;>simp only[zb]at h0
 ·refine CY (.v (.bool (decide (t=BX t)))) U (A0 U) U U (λ w M hX=>PV.bin (AN (v:=FW t) U (A0 U)) (AN (v:=FW (BX t)) U (A0 U)) (λ _ w _=>OG _ _ _ _ w)) ?_
  refine A9 hB U U (A0 U) U U (A0 U) λ w M hX=>⟨?_,hX.st.low⟩
  unfold D5 FY;rw[if_pos h0];rfl
 refine A7 U (A0 U) U (λ h1=>?_) (λ h1=>?_)<;>simp only[zb]at h1
 ·refine CY (.v (.bool (decide (t= { BX t with n:=t.n})))) U (A0 U) U U (λ w M hX=>PV.bin (AN (v:=FW t) U (A0 U)) (AN (v:=FW { BX t with n:=t.n}) U (A0 U)) (λ _ w _=>OG _ _ _ _ w)) ?_
  refine A9 hB U U (A0 U) U U (A0 U) λ w M hX=>⟨?_,hX.st.low⟩
  unfold D5 FY;rw[if_neg h0,if_pos h1];simp only[<-Bool.and_assoc];rfl
 refine A7 U (A0 U) U (λ h9=>?_) (λ h9=>?_)<;>simp only[zb]at h9
 ·refine CY (.v (.bool (decide (t= { BX t with n:=t.n,c:=t.c})))) U (A0 U) U U (λ w M hX=>PV.bin (AN (v:=FW t) U (A0 U)) (AN (v:=FW { BX t with n:=t.n,c:=t.c}) U (A0 U)) (λ _ w _=>OG _ _ _ _ w)) ?_
  refine AY U (A0 U) U call58 U U (A0 U) (λ _ w M hX=>AZ8 t.n t.c w M hX.st.sat hc1) U ?_
  refine A9 hB U U (A0 U) U U (A0 U) λ w M hX=>⟨?_,hX.st.low⟩
  unfold D5 FY;rw[if_neg h0,if_neg h1,if_pos h9];simp only[<-Bool.and_assoc];rfl
 refine A7 U (A0 U) U (λ h2=>?_) (λ h2=>?_)<;>simp only[zb]at h2
 ·refine CY (.v (.bool (decide (t= { BX t with n:=t.n})))) U (A0 U) U U (λ w M hX=>PV.bin (AN (v:=FW t) U (A0 U)) (AN (v:=FW { BX t with n:=t.n}) U (A0 U)) (λ _ w _=>OG _ _ _ _ w)) ?_
  refine A9 hB U U (A0 U) U U (A0 U) λ w M hX=>⟨?_,hX.st.low⟩
  unfold D5 FY;rw[if_neg h0,if_neg h1,if_neg h9,if_pos h2];simp only[<-Bool.and_assoc];rfl
 refine A7 U (A0 U) U (λ h4=>?_) (λ h4=>?_)<;>simp only[zb]at h4
 ·refine CY (.v (.bool (decide (t=BX t)))) U (A0 U) U U (λ w M hX=>PV.bin (AN (v:=FW t) U (A0 U)) (AN (v:=FW (BX t)) U (A0 U)) (λ _ w _=>OG _ _ _ _ w)) ?_
  refine A9 hB U U (A0 U) U U (A0 U) λ w M hX=>⟨?_,hX.st.low⟩
  unfold D5 FY;rw[if_neg h0,if_neg h1,if_neg h9,if_neg h2,if_pos h4];rfl
 refine ES 0 (λ s=> ∃b:Bool,(b=true↔(t.op=3\/t.op=5\/t.op=6))/\s=⟨[],[(1,.box b1 (LK t) 48),(3,.box b3 (LK (BX t)) 48)],[Z 1 (.bx 1 b1 0),Z 3 (.bx 3 b3 0),Z 14 (I t.op),Z 105 (.v (.bool b))]⟩) U (A0 U) U U (λ h3=>?_) (λ h3=>?_) ?_
 ·exact B5 _ U (A0 U) U U ⟨_,by simp only[zb]at h3 ⊢;omega,rfl⟩
 ·refine A7 U (A0 U) U (λ h5=>?_) (λ h5=>?_)
  ·exact B5 _ U (A0 U) U U ⟨_,by simp only[zb]at h5 ⊢;omega,rfl⟩
  ·exact B5 _ U (A0 U) U U ⟨_,by simp only[zb]at h3 h5 ⊢;omega,rfl⟩
 rintro _ ⟨b,hbk,rfl⟩
 refine A7 U (A0 U) U (λ hf=>?_) (λ hf=>?_)
 ·refine CY (.v (.bool (decide (t=BX t)))) U (A0 U) U U (λ w M hX=>PV.bin (AN (v:=FW t) U (A0 U)) (AN (v:=FW (BX t)) U (A0 U)) (λ _ w _=>OG _ _ _ _ w)) ?_
  refine A9 hB U U (A0 U) U U (A0 U) λ w M hX=>⟨?_,hX.st.low⟩
  unfold D5 FY;rw[if_neg h0,if_neg h1,if_neg h9,if_neg h2,if_neg h4,if_pos (hbk.1 hf)];rfl
 have h356: ¬(t.op=3\/t.op=5\/t.op=6):=λ e=>by have:=hbk.2 e;rw[hf]at this;cases this
 clear hbk hf
 refine ES 0 (λ s=> ∃b:Bool,(b=true↔(t.op=7\/t.op=8))/\s=⟨[],[(1,.box b1 (LK t) 48),(3,.box b3 (LK (BX t)) 48)],[Z 1 (.bx 1 b1 0),Z 3 (.bx 3 b3 0),Z 117 (.v (.bool b))]⟩) U (A0 U) U U (λ h3=>?_) (λ h3=>?_) ?_
 ·exact B5 _ U (A0 U) U U ⟨_,by simp only[zb]at h3 ⊢;omega,rfl⟩
 ·exact B5 _ U (A0 U) U U ⟨_,by simp only[zb]at h3 ⊢;omega,rfl⟩
 rintro _ ⟨b,hbk,rfl⟩
 refine A7 U (A0 U) U (λ hf=>?_) (λ hf=>?_)
 ·refine IL (λ v:Value=>.tu [.sl 6 v,.v (.bool (H6 t.s).2)]) [6] U (A0 U) U U call37 U U (A0 U) (λ w M hX=>qB t.s hX.st.sat hs1) (λ _=>rfl) λ v _=>?_
  refine CY (.v (.bool (decide (t= { BX t with s:=t.s})))) U (A0 U) U U (λ w M hX=>PV.bin (AN (v:=FW t) U (A0 U)) (AN (v:=FW { BX t with s:=t.s}) U (A0 U)) (λ _ w _=>OG _ _ _ _ w)) ?_
  refine A9 hB U U (A0 U) U U (A0 U) λ w M hX=>⟨?_,hX.st.low⟩
  unfold D5 FY;rw[if_neg h0,if_neg h1,if_neg h9,if_neg h2,if_neg h4,if_neg h356,if_pos (hbk.1 hf)];simp only[<-Bool.and_assoc];rfl
 have h78: ¬(t.op=7\/t.op=8):=λ e=>by have:=hbk.2 e;rw[hf]at this;cases this
 refine A9 hB U U (A0 U) U U (A0 U) λ w M hX=>⟨?_,hX.st.low⟩
 have e:D5 t=false:=by unfold D5 FY;rw[if_neg h0,if_neg h1,if_neg h9,if_neg h2,if_neg h4,if_neg h356,if_neg h78,Bool.and_false]
 rw[e];rfl
theorem Aa0(f:Fl)(v:Value)(m:Int)(M:Mem)(w:World)(hM:Sat w M)(hv:Sl M 11 f.length v (f.flatMap Tm.cells))(hm:0<=m/\m<=1048576):
    Calls prog 14 [v,i64 m].toArray w λ e w'=>e= .returned (.bool (QB m f))/\Ext w w':=by
 have hl0:=A4 f
 have hle:len f<=9223372036854775807:=hv.le
 refine AU (Hr:=[]) AP func14 U ntmps14 [(0,B7 v f)] [] [.sl 0 v,I m] U (Ak hM) (fc 0 hv Tm.B4 AA) (λ B hB=>?_) U
 refine CD (σ:=Int) (λ k=>⟨[(0,B7 v f)],[],[Z 0 (.sl 0 v),Z 1 (I m),Z 5 (I k)]⟩) (λ k=>0<=k/\k<=len f/\k<=m/\ ∀t∈Eng.sub f 0 k,len t.s<=100/\len t.name<=100/\len t.c.s<=100) (λ k=>(len f-k).toNat) 0 rfl (A0 rfl) U rfl ⟨by omega,by omega,by omega,λ x hx=>by cases hx⟩ ?_
 intro k ⟨h0,h1,hkm,hall⟩
 refine A7 U (A0 U) U (λ hb1=>?_) (λ hb1=>?_)<;>simp only[zb]at hb1
 ·refine A7 U (A0 U) (by simp only[zb]<;>omega) (λ hb2=>?_) (λ hb2=>?_)<;>simp only[zb]at hb2
  ·refine A9 hB U U (A0 U) U U (A0 U) λ w M hX=>⟨?_,hX.st.low⟩
   have e:QB m f=false:=by
    unfold QB
    rw[Bool.and_eq_false_iff]
    by_cases hm2:m<=k
    ·left;simp;omega
    ·right
     rw[List.all_eq_false]
     refine⟨at' f k,at_mem h0 hb1,?_⟩
     simp only[Bool.and_eq_true,decide_eq_true_eq]
     rintro⟨⟨q1,q2⟩,q3⟩
     omega
   rw[e];rfl
  ·exact C7 (k+1) U (A0 U) (by omega) U ⟨by omega,by omega,by omega,λ x hx=>by
    rw[NJ h0 hb1]at hx
    rcases List.mem_append.1 hx with hx|hx
    ·exact hall x hx
    ·rw[List.mem_singleton.1 hx];omega⟩ (by omega)
 ·rw[L7 (by omega)]at hall
  refine A9 hB U U (A0 U) U U (A0 U) λ w M hX=>⟨?_,hX.st.low⟩
  have e:QB m f=true:=by
   unfold QB
   rw[Bool.and_eq_true]
   refine⟨by simp;omega,List.all_eq_true.2 λ t ht=>?_⟩
   simp only[Bool.and_eq_true,decide_eq_true_eq]
   exact⟨⟨(hall t ht).1,(hall t ht).2.1⟩,(hall t ht).2.2⟩
  rw[e];rfl
end Go.Proofs.YtmjpjbmeamnfpaaGreatDoor
namespace Go.Eng
def C8(o:Int):Option A1->List Tf->Bool
 |_,[]=>true
 |L,x::l=>(decide (x.t.op=9)==decide (o=1))&&(decide (o=2)||decide (x.t.name=[]))&&(!decide (o=2)||(CR x.t.name&&(L.all λ n=> !decide (x.t.name<=n))))&&C8 o (some x.t.name) l
def LM:List Tf->Int->A1->(Tf->Option Int)->Option Int
 |[],_,_,_=>none
 |x::l,o,n,F=>if x.t.name=n then(F x).map (o+ ·)else LM l (o+x.size) n F
def F9:List Sp->Tf->Option Int
 |[],_=>some 0
 |s::p,x=>if x.t.op≠2\/s.part=true then none else LM x.ps 1 s.name (F9 p)
def OZ(a:Int):Option Int->Int
 |some o=>a+o
 |none=> -1
theorem Aa1(a o:Int)(r:Option Int):OZ a (r.map (o+ ·))=OZ (a+o) r:=by
 cases r with
 |none=>rfl
 |some k=>show a+(o+k)=a+o+k;omega
theorem qC{F:Tf->Option Int}{n:A1}: ∀ {l:List Tf} {o k:Int},(∀x∈l,∀j,F x=some j->0<=j/\j<x.size)->LM l o n F=some k->o<=k/\k<o+B1 l
 |[],o,k,_,h=>by cases h
 |x::l,o,k,hF,h=>by
  unfold LM at h
  rw[B1]
  split at h
  ·cases hx:F x with
   |none=>rw[hx]at h;cases h
   |some j=>
    rw[hx]at h
    have:=hF x (.head _) j hx
    have h:o+j=k:=Option.some.inj h
    omega
  ·have:=qC (λ y hy=>hF y (.tail _ hy)) h
   omega
theorem dT: ∀(p:List Sp) (x:Tf) (k:Int),F9 p x=some k->0<=k/\k<x.size
 |[],x,k,h=>by cases h;have:=x.size_pos;omega
 |s::p,x,k,h=>by
  unfold F9 at h
  split at h
  ·cases h
  ·have:=qC (λ y _ j hj=>dT p y j hj) h
   rw[Tf.size_eq];omega
def QC(p:List Sp)(x:Tf):Bool:=match F9 p x with
 |some o=>(at' x.flat o).op==1
 |none=>false
def LN(t:Tm):List Tf->Bool
 |[x]=>if t.op=7\/t.op=8 then QC (H6 t.s).1 x else true
 |_=>if t.op=7\/t.op=8 then false else true
mutual
def DX:Tf->Bool
 | .mk t ps=>D5 { t with many:=len ps}&&C8 t.op none ps&&LN t ps&&FZ ps
def FZ:List Tf->Bool
 |[]=>true
 |x::l=>DX x&&FZ l
end
theorem Aa2(a b:List Tf):FZ (a++b)=(FZ a&&FZ b):=by
 induction a with
 |nil=>simp[FZ]
 |cons x a ih=>rw[List.cons_append,FZ,FZ,ih,Bool.and_assoc]
theorem dU(x:Tf):DX x=(D5 x.node&&C8 x.t.op none x.ps&&LN x.t x.ps&&FZ x.ps):=by cases x;rw[DX];rfl
theorem Aa3{o:Int}{L:Option A1}{x:Tf}{l:List Tf}(h1:(x.t.op==9)=(o==1))(h2:o=2\/x.t.name=[])(h3:o=2->CR x.t.name=true/\ ∀n,L=some n-> ¬x.t.name<=n):C8 o L (x::l)=C8 o (some x.t.name) l:=by
 conv=>lhs;rw[C8]
 have e1:(decide (x.t.op=9)==decide (o=1))=true:=by rw[beq_iff_eq];exact h1
 have e2:(decide (o=2)||decide (x.t.name=[]))=true:=by simpa using h2
 have e3:(!decide (o=2)||(CR x.t.name&&(L.all λ n=> !decide (x.t.name<=n))))=true:=by
  by_cases ho:o=2
  ·obtain⟨q1,q2⟩:=h3 ho
   rw[q1]
   cases L with
   |none=>simp
   |some n=>have:=q2 n U;simp[this]
  ·simp[ho]
 rw[e1,e2,e3];simp
theorem qD{o:Int}{L:Option A1}{x:Tf}{l:List Tf}(h: ¬(x.t.op==9)=(o==1)):C8 o L (x::l)=false:=by
 rw[C8]
 have e:(decide (x.t.op=9)==decide (o=1))=false:=by
  rw[beq_eq_false_iff_ne];intro q;exact h q
 rw[e];rfl
theorem Aa4{o:Int}{L:Option A1}{x:Tf}{l:List Tf}(h1: ¬o=2)(h2: ¬x.t.name=[]):C8 o L (x::l)=false:=by rw[C8];simp[h1,h2]
theorem Aa5{o:Int}{L:Option A1}{x:Tf}{l:List Tf}(h1:o=2)(h2:CR x.t.name=false):C8 o L (x::l)=false:=by rw[C8];simp[h1,h2]
theorem Aa6{o:Int}{n:A1}{x:Tf}{l:List Tf}(h1:o=2)(h2:x.t.name<=n):C8 o (some n) (x::l)=false:=by rw[C8];simp[h1,h2]
end Go.Eng
namespace Go.Proofs.YtmjpjbmeamnfpaaGreatDoor
open Go.Proofs.Tryz
open Go.Eng
theorem Aa7(f:Fl)(v:Value)(a:Int)(x:Tf)(z:List Tf)(M:Mem)(w:World)(hM:Sat w M)(hv:Sl M 11 f.length v (f.flatMap Tm.cells))(hb:len f<=1048576)(hs:C4 f a (x::z))(hst: ∀t∈f,len t.name<=1048576):
    Calls prog 36 [v,i64 a].toArray w λ e w'=>e= .returned (.bool (C8 x.t.op none x.ps))/\Ext w w':=by
 have hx:=hs.node
 have hk:=hs.XZ
 have hle:=hs.le
 rw[B1,Tf.size_eq]at hle
 have hxo:(at' f a).op=x.t.op:=by rw[hx.2.2];rfl
 have hxm:(at' f a).many=len x.ps:=by rw[hx.2.2];rfl
 have hlp:=A4 x.ps
 have hls:=OW x.ps
 refine AU (Hr:=[]) AP func36 U ntmps36 [(0,B7 v f)] [] [.sl 0 v,I a] U (Ak hM) (fc 0 hv Tm.B4 AA) (λ B hB=>?_) U
 refine CD (σ:=List Tf×List Tf×Int×Option A1×Int) (λ(p,q,i,L,k)=>⟨[(0,B7 v f)],[],[Z 0 (.sl 0 v),Z 1 (I a),Z 5 (I i),Z 6 (.v (str (L.getD []))),Z 7 (I k)]⟩) (λ(p,q,i,L,k)=>k=len p/\x.ps=p++q/\i=a+1+B1 p/\C8 x.t.op none x.ps=C8 x.t.op L q/\(L=none↔len p=0)) (λ(p,q,i,L,k)=>q.length) ([],x.ps,a+1,none,0) U (A0 U) (by omega) U ⟨rfl,rfl,by simp[B1],rfl,⟨λ _=>rfl,λ _=>rfl⟩⟩ ?_
 rintro⟨p,q,i,L,k⟩ ⟨hkp,hpq,hi,hkk,hL⟩
 have hsz:=congrArg B1 hpq
 rw[NR]at hsz
 have hlz:=congrArg len hpq
 rw[A5]at hlz
 have hl0:=A4 p
 have hq0:=A4 q
 have hsi:C4 f i (q++z):=by
  have:=hk
  rw[hpq,List.append_assoc]at this
  rw[hi];exact this.skip
 refine A7 U (A0 U) (by omega) (λ h2=>?_) (λ h2=>?_)<;>simp only[zb]at h2
 ·cases q with
  |nil=>rw[len_nil]at hlz;omega
  |cons y q=>
   have hsi:C4 f i (y::(q++z)):=hsi
   have hy:=hsi.node
   have hyn:(at' f i).name=y.t.name:=by rw[hy.2.2];rfl
   have hyo:(at' f i).op=y.t.op:=by rw[hy.2.2];rfl
   have hnl:=hst _ (at_mem hy.1 hy.2.1)
   have hnx:=Y0 hsi
   have hys:=y.size_pos
   rw[B1]at hsz
   refine CU 8 U (A0 U) (by omega) zeroValue48 U λ b8=>?_
   refine J8 U (A0 U) U EM (by decide+kernel) (JA U (A0 U) (by simp only[zb]<;>omega) ?_)
   refine A7 U (A0 U) (by simp only[zb]<;>omega) (λ h3=>?_) (λ h3=>?_)<;>simp only[zb]at h3<;>rw[hyo,hxo,hyn]at h3
   ·refine A9 hB U U (A0 U) U U (A0 U) λ w M hX=>⟨?_,hX.st.low⟩
    have e:C8 x.t.op none x.ps=false:=by
     rw[hkk]
     rcases h3 with h|h
     · exact qD h
     · exact Aa4 h.1 h.2
    rw[e];rfl
   ·refine AY U (A0 U) (by omega) call59 U U (A0 U) (λ _ w M hX=>NQ (fZ (at' f i).name w (by omega))) U ?_
    refine A7 U (A0 U) (by simp only[zb]<;>omega) (λ h4=>?_) (λ h4=>?_)<;>simp only[zb]at h4<;>rw[hxo,hyn]at h4
    ·refine A9 hB U U (A0 U) U U (A0 U) λ w M hX=>⟨?_,hX.st.low⟩
     have e:C8 x.t.op none x.ps=false:=by
      rw[hkk]
      obtain⟨q1,q2⟩:=h4
      rcases q2 with q2|⟨q2,q3⟩
      · exact Aa5 q1 q2
      · cases L with
        |none=>have:=hL.1 U;omega
        |some n=>exact Aa6 q1 (pS q3)
     rw[e];rfl
    ·refine AY U (A0 U) U call34 U U (A0 U) (λ _ w M hX=>UH f v i M w hX.st.sat (hX.sl 0 U) hb (by omega) (by omega)) U ?_
     have hkey:C8 x.t.op none x.ps=C8 x.t.op (some y.t.name) q:=by
      rw[hkk]
      refine Aa3 h3.1 (by rcases Decidable.em (x.t.op=2)with h|h;exact .inl h;exact .inr (h3.2.resolve_left h)) λ ho=>?_
      rcases h4 with h4|⟨h4,h5⟩
      · exact absurd ho h4
      · refine⟨h4,λ n hn=>?_⟩
        subst hn
        have hp1: ¬len p=0:=λ e=>by have:=hL.2 e;cases this
        have h6:=h5.resolve_left (by omega)
        exact pT h6.1 h6.2
     have hL2:(some y.t.name=none↔len (p++[y])=0):=by
      refine⟨(λ e=>nomatch e),λ e=>?_⟩
      rw[A5]at e
      have e2:len p+1=0:=e
      omega
     have hnn:JK f i=a+1+B1 (p++[y]):=by rw[hnx,hi,NR,B1,B1];omega
     have hkl:k+1=len (p++[y]):=by rw[A5,hkp];rfl
     refine C7 (p++[y],q,JK f i,some y.t.name,k+1) U (A0 U) (by omega) (by rw[hyn];rfl) ⟨hkl,by rw[hpq];simp,hnn,hkey,hL2⟩ (by show q.length<(y::q).length;simp)
 ·have hq:q=[]:=by
   cases q with
   |nil=>rfl
   |cons y q=>rw[A6]at hlz;have:=A4 q;omega
  subst hq
  refine A9 hB U U (A0 U) U U (A0 U) λ w M hX=>⟨?_,hX.st.low⟩
  rw[hkk];cases L<;>rfl
theorem Aa8: ∀(p:List Sp) (f:Fl) (v u:Value) (a:Int) (x:Tf) (z:List Tf) (M:Mem) (w:World),Sat w M->Sl M 11 f.length v (f.flatMap Tm.cells)->Sl M 3 p.length u (p.flatMap Sp.cells)->len f<=1048576->len p<=1048576->C4 f a (x::z)->
    Calls prog 38 [v,i64 a,u].toArray w λ e w'=>e= .returned (i64 (OZ a (F9 p x)))/\Ext w w':=by
 intro p
 induction p with
 |nil=>
  intro f v u a x z M w hM hv hu hb hbp hs
  refine AU (Hr:=[]) AP func38 U ntmps38 [(0,B7 v f),(1,kn u 3 [] Sp.cells)] [] [.sl 0 v,I a,.sl 1 u] U (Ak hM) (fc 0 hv Tm.B4 (fc 1 hu Sp.B4 AA)) (λ B hB=>?_) U
  refine A7 U (A0 U) U (λ hb1=>?_) (λ hb1=>?_)<;>simp only[zb]at hb1
  ·exact A9 hB U U (A0 U) U U (A0 U) λ w M hX=>⟨by show Ending.returned (i64 a)= .returned (i64 (a+0));rw[Int.add_zero],hX.st.low⟩
  ·exfalso;exact hb1 U
 |cons s p ih=>
  intro f v u a x z M w hM hv hu hb hbp hs
  have hx:=hs.node
  have hk:=hs.XZ
  have hle:=hs.le
  rw[B1,Tf.size_eq]at hle
  have hxo:(at' f a).op=x.t.op:=by rw[hx.2.2];rfl
  have hxm:(at' f a).many=len x.ps:=by rw[hx.2.2];rfl
  have hlp:=A4 x.ps
  have hls:=OW x.ps
  have hp0:=A4 p
  have hlc:len (s::p)=len p+1:=A6 s p
  have hsp:at' (s::p) 0=s:=rfl
  refine AU (Hr:=[]) AP func38 U ntmps38 [(0,B7 v f),(1,kn u 3 (s::p) Sp.cells)] [] [.sl 0 v,I a,.sl 1 u] U (Ak hM) (fc 0 hv Tm.B4 (fc 1 hu Sp.B4 AA)) (λ B hB=>?_) U
  refine A7 U (A0 U) U (λ hb1=>?_) (λ hb1=>?_)<;>simp only[zb]at hb1
  ·exfalso;omega
  refine A7 U (A0 U) (by simp only[zb]<;>omega) (λ hb2=>?_) (λ hb2=>?_)<;>simp only[zb]at hb2<;>rw[hxo,hsp]at hb2
  ·have e:F9 (s::p) x=none:=by unfold F9;rw[if_pos hb2]
   exact A9 hB U U (A0 U) U U (A0 U) λ w M hX=>⟨by rw[e];rfl,hX.st.low⟩
  have eL:F9 (s::p) x=LM x.ps 1 s.name (F9 p):=by rw[F9,if_neg (by rintro(q|q);exact q hb2.1;rw[hb2.2]at q;cases q)]
  refine CD (σ:=List Tf×List Tf×Int×Int) (λ(d,q,i,k)=>⟨[(0,B7 v f),(1,kn u 3 (s::p) Sp.cells)],[],[Z 0 (.sl 0 v),Z 1 (I a),Z 2 (.sl 1 u),Z 7 (I i),Z 8 (I k)]⟩) (λ(d,q,i,k)=>k=len d/\x.ps=d++q/\i=a+(1+B1 d)/\F9 (s::p) x=LM q (1+B1 d) s.name (F9 p)) (λ(d,q,i,k)=>q.length) ([],x.ps,a+1,0) U (A0 U) (by omega) U ⟨rfl,rfl,by simp[B1],by rw[eL];simp[B1]⟩ ?_
  rintro⟨d,q,i,k⟩ ⟨hkd,hpq,hi,hkk⟩
  have hsz:=congrArg B1 hpq
  rw[NR]at hsz
  have hlz:=congrArg len hpq
  rw[A5]at hlz
  have hl0:=A4 d
  have hq0:=A4 q
  have hsi:C4 f i (q++z):=by
   have:=hk
   rw[hpq,List.append_assoc]at this
   rw[hi,<-Int.add_assoc];exact this.skip
  refine A7 U (A0 U) (by simp only[zb]<;>omega) (λ h2=>?_) (λ h2=>?_)<;>simp only[zb]at h2
  ·cases q with
   |nil=>rw[len_nil]at hlz;omega
   |cons y q=>
    have hsi:C4 f i (y::(q++z)):=hsi
    have hy:=hsi.node
    have hyn:(at' f i).name=y.t.name:=by rw[hy.2.2];rfl
    have hnx:=Y0 hsi
    have hys:=y.size_pos
    rw[B1]at hsz
    refine J8 U (A0 U) U EM (by decide+kernel) (JA U (A0 U) (by simp only[zb]<;>omega) ?_)
    refine A7 U (A0 U) (by simp only[zb]<;>omega) (λ h3=>?_) (λ h3=>?_)<;>simp only[zb]at h3<;>rw[hyn,hsp]at h3
    ·refine PJ (gd:=none) 9 1 (len (s::p)) U (A0 U) U U (A0 U) U ⟨.i64,_,rfl,A0 U⟩ U underlying70 sizeOf68 (by omega) U U λ v9=>?_
     rw[dQ]
     refine AY U (A0 U) U call38 U U (A0 U) (λ _ w M hX=>ih f v v9 i y (q++z) M w hX.st.sat (hX.sl 0 U) (hX.sl 9 U) hb (by omega) hsi) U ?_
     refine A9 hB U U (A0 U) U U (A0 U) λ w M hX=>⟨?_,hX.st.low⟩
     have e:OZ a (F9 (s::p) x)=OZ i (F9 p y):=by rw[hkk,LM,if_pos h3,Aa1,hi]
     rw[e];rfl
    ·refine AY U (A0 U) U call34 U U (A0 U) (λ _ w M hX=>UH f v i M w hX.st.sat (hX.sl 0 U) hb (by omega) (by omega)) U ?_
     have hnn:JK f i=a+(1+B1 (d++[y])):=by rw[hnx,hi,NR,B1,B1];omega
     have hkl:k+1=len (d++[y]):=by rw[A5,hkd];rfl
     have hkey:F9 (s::p) x=LM q (1+B1 (d++[y])) s.name (F9 p):=by
      rw[hkk,LM,if_neg h3,NR,B1,B1];congr 1;omega
     exact C7 (d++[y],q,JK f i,k+1) U (A0 U) (by omega) U ⟨hkl,by rw[hpq];simp,hnn,hkey⟩ (by show q.length<(y::q).length;simp)
  ·have hq:q=[]:=by
    cases q with
    |nil=>rfl
    |cons y q=>rw[A6]at hlz;have:=A4 q;omega
   subst hq
   refine A9 hB U U (A0 U) U U (A0 U) λ w M hX=>⟨?_,hX.st.low⟩
   rw[hkk];rfl
end Go.Proofs.YtmjpjbmeamnfpaaGreatDoor
namespace Go.Eng
theorem Aa9{f:Fl}{i o:Int}{y:Tf}{z:List Tf}(h:C4 f i (y::z))(h0:0<=o)(h1:o<y.size):at' f (i+o)=at' y.flat o:=by
 obtain⟨hi,pre,post,rfl,rfl⟩:=h
 have hl:len y.flat=y.size:=by unfold len;rw[Tf.DQ]
 rw[show len pre+o=o+len pre by omega,AZ3 _ _ h0,AM,List.append_assoc,jW _ _ h0 (by omega)]
theorem Ab0{t:Tm}(h:D5 t=true)(ho:t.op=7\/t.op=8):t.many=1:=by
 unfold D5 FY at h
 rw[if_neg (by omega),if_neg (by omega),if_neg (by omega),if_neg (by omega),if_neg (by omega),if_neg (by omega),if_pos ho]at h
 simp only[Bool.and_eq_true,beq_iff_eq]at h
 exact h.2.1
theorem Ab1(s:A1):len (H6 s).1<=20:=Go.Proofs.YtmjpjbmeamnfpaaGreatDoor.qA s
theorem Ab2{u:Tf}{us:List Tf}(h1:D5 u.node=true)(h2:C8 u.t.op none u.ps=true)(h3:LN u.t u.ps=true):FZ (u::us)=FZ (u.ps++us):=by
 rw[FZ,dU,h1,h2,h3,Aa2];simp
structure Tf.Y6 (x:Tf):Prop where
 zm:x.zm
 name:x.t.name=[]
 op:x.t.op≠9
 all:DX x=true
end Go.Eng
namespace Go.Proofs.YtmjpjbmeamnfpaaGreatDoor
open Go.Proofs.Tryz
open Go.Eng
theorem Ab3(f:Fl)(v:Value)(M:Mem)(w:World)(hM:Sat w M)(hv:Sl M 11 f.length v (f.flatMap Tm.cells))(hb:len f<=1048576)(hst: ∀t∈f,len t.name<=1048576/\len t.s<=1048576/\len t.c.s<=1048576):
    Calls prog 15 [v].toArray w λ e w'=>(∃b:Bool,e= .returned (.bool b)/\(b=true-> ∃x:Tf,f=x.flat/\x.Y6))/\Ext w w':=by
 have hl0:=A4 f
 refine AU (Hr:=[]) AP func15 U ntmps15 [(0,B7 v f)] [] [.sl 0 v] U (Ak hM) (fc 0 hv Tm.B4 AA) (λ B hB=>?_) U
 refine AY U (A0 U) (by simp only[zb]<;>omega) call34 U U (A0 U) (λ _ w M hX=>UH f v 0 M w hX.st.sat (hX.sl 0 U) hb (by omega) (by omega)) U ?_
 refine A7 U (A0 U) (by simp only[zb]<;>omega) (λ hb1=>?_) (λ hb1=>?_)<;>simp only[zb]at hb1
 ·exact A9 hB rfl rfl (A0 rfl) U rfl (A0 rfl) λ w M hX=>⟨⟨false,rfl,λ h=>by cases h⟩,hX.st.low⟩
 have hne:f≠[]:=λ e=>by subst e;exact hb1.1.1.1 rfl
 obtain⟨x,hz,hfx⟩:=AT2 hb1.2 hne
 have hnm:x.t.name=[]:=by have:=hb1.1.1.2;rw[hfx,Tf.MU]at this;exact this
 have hop:x.t.op≠9:=by have:=hb1.1.2;rw[hfx,Tf.MU]at this;exact this
 have hsx:C4 f 0 [x]:=by rw[hfx];exact C4.top x
 have hlx:len f=x.size:=by rw[hfx];unfold len;rw[Tf.DQ]
 refine CD (σ:=Int×List Tf) (λ(i,ts)=>⟨[(0,B7 v f)],[],[Z 0 (.sl 0 v),Z 3 (I i)]⟩) (λ(i,ts)=>C4 f i ts/\i+B1 ts=len f/\DX x=FZ ts) (λ(i,ts)=>B1 ts) (0,[x]) U (A0 U) U U ⟨hsx,by rw[hlx];simp[B1],by simp[FZ]⟩ ?_
 rintro⟨i,ts⟩ ⟨hsg,his,hal⟩
 have hi0:=hsg.1
 refine A7 U (A0 U) (by simp only[zb]<;>omega) (λ hb2=>?_) (λ hb2=>?_)<;>simp only[zb]at hb2
 ·cases ts with
  |nil=>rw[show B1 []=0 from rfl]at his;omega
  |cons u us=>
   have hu:=hsg.node
   have hmem:=at_mem hu.1 hu.2.1
   have huo:(at' f i).op=u.t.op:=by rw[hu.2.2];rfl
   have hus:(at' f i).s=u.t.s:=by rw[hu.2.2];rfl
   have hum:(at' f i).many=len u.ps:=by rw[hu.2.2];rfl
   have hkid:=hsg.XZ
   have hsz:=u.size_pos
   have hszk:=NR u.ps us
   have hse:=u.size_eq
   rw[B1]at his
   refine AY U (A0 U) (by omega) call35 U U (A0 U) (λ _ w M hX=>AZ9 (at' f i) w M hX.st.sat (hst _ hmem).2.1 (hst _ hmem).2.2) U ?_
   refine AY U (A0 U) U call36 U U (A0 U) (λ _ w M hX=>Aa7 f v i u us M w hX.st.sat (hX.sl 0 U) hb hsg λ t ht=>(hst t ht).1) U ?_
   refine A7 U (A0 U) (by simp only[zb]<;>omega) (λ hb3=>?_) (λ hb3=>?_)<;>simp only[zb]at hb3
   ·exact A9 hB rfl rfl (A0 rfl) U rfl (A0 rfl) λ w M hX=>⟨⟨false,rfl,λ h=>by cases h⟩,hX.st.low⟩
   have hpl:=hb3.1
   refine ES 1 (λ s=>LN u.t u.ps=true/\s=⟨[(0,B7 v f)],[],[Z 0 (.sl 0 v),Z 3 (I i)]⟩) U (A0 U) (by simp only[zb]<;>omega) U (λ hb4=>?_) (λ hb4=>?_) ?_
   ·simp only[zb]at hb4
    have hm1:=Ab0 hpl hb4
    obtain⟨y,hy⟩: ∃y,u.ps=[y]:=by
     match hps:u.ps,hum with
     |[],h=>rw[h]at hm1;cases hm1
     |[y],_=>exact⟨y,rfl⟩
     |_::_::l,h=>rw[h]at hm1;simp only[A6]at hm1;have:=A4 l;omega
    rw[hy]at hkid
    have hkid:C4 f (i+1) (y::us):=hkid
    have hky:=hkid.le
    rw[B1]at hky
    have hus1:=A4 (H6 (at' f i).s).1
    have hpl2:=Ab1 (at' f i).s
    have hled:LN u.t u.ps=QC (H6 u.t.s).1 y:=by
     rw[hy]
     show(if u.t.op=7\/u.t.op=8 then QC (H6 u.t.s).1 y else true)=_
     rw[if_pos (by rw[<-huo];exact hb4)]
    obtain⟨r,hr⟩: ∃r,r=F9 (H6 (at' f i).s).1 y:=⟨_,rfl⟩
    have hrb: ∀o,r=some o->0<=o/\o<y.size:=λ o h=>dT _ y o (by rw[<-hr];exact h)
    have hlv:OZ (i+1) r<len f:=by
     cases r with
     |none=>show(-1:Int)<_;omega
     |some o=>have:=hrb o U;show i+1+o<_;omega
    refine IL (λ v:Value=>.tu [.sl 6 v,.v (.bool (H6 (at' f i).s).2)]) [6] (Fg:=λ v=>[(0,kn v 3 (H6 (at' f i).s).1 Sp.cells)]) (pu:=λ _=>True) U (A0 U) (by omega) U call37 U U (A0 U) (λ w M hX=>qB (at' f i).s hX.st.sat (hst _ hmem).2.1) (λ _=>rfl) λ v6 _=>?_
    refine AY U (A0 U) (by omega) call38 U U (A0 U) (λ _ w M hX=>(by have q:=Aa8 (H6 (at' f i).s).1 f v v6 (i+1) y us M w hX.st.sat (hX.sl 0 U) (hX.sl 6 U) hb (by omega) hkid;rw[<-hr]at q;exact q:Calls prog 38 [v,i64 (i+1),v6].toArray w λ e w'=>e= .returned (i64 (OZ (i+1) r))/\Ext w w')) U ?_
    refine A7 U (A0 U) (by simp only[zb]<;>omega) (λ hb5=>?_) (λ hb5=>?_)<;>simp only[zb]at hb5
    ·exact A9 hB rfl rfl (A0 rfl) U rfl (A0 rfl) λ w M hX=>⟨⟨false,rfl,λ h=>by cases h⟩,hX.st.low⟩
    ·refine B5 _ U (A0 U) U U ⟨?_,rfl⟩
     rw[hled]
     unfold QC
     rw[<-hus,<-hr]
     cases r with
     |none=>exact absurd hb5.1 (by show ¬ ¬((-1:Int)<0);omega)
     |some o=>
      have hro:=hrb o U
      have h5:=hb5.2
      rw[show OZ (i+1) (some o)=i+1+o from rfl,Aa9 hkid hro.1 hro.2]at h5
      show((at' y.flat o).op==1)=true
      rw[beq_iff_eq];exact h5
   ·simp only[zb]at hb4
    refine B5 _ U (A0 U) U U ⟨?_,rfl⟩
    rw[huo]at hb4
    unfold LN
    split
    · rw[if_neg (by omega)]
    · rw[if_neg (by omega)]
   rintro s ⟨hld,rfl⟩
   refine C7 (i+1,u.ps++us) U (A0 U) (by omega) U ⟨hkid,by rw[hszk];omega,?_⟩ (by show B1 (u.ps++us)<B1 (u::us);rw[hszk,B1];omega)
   rw[hal]
   exact Ab2 (by rw[<-hu.2.2];exact hpl) hb3.2 hld
 ·have hts:ts=[]:=by
   cases ts with
   |nil=>rfl
   |cons u us=>rw[B1]at his;have:=u.size_pos;omega
  subst hts
  exact A9 hB U U (A0 U) U U (A0 U) λ w M hX=>⟨⟨true,rfl,λ _=>⟨x,hfx,hz,hnm,hop,by rw[hal];rfl⟩⟩,hX.st.low⟩
abbrev Ab4(v:Value)(hs:List AX):HO:=.own 36 1 v hs.length (hs.flatMap DN)
theorem Ab5{α:Type}[Inhabited α]{l:List α}{k:Nat}(h:k<l.length):l.drop k=at' l (k:Int)::l.drop (k+1):=by
 obtain⟨h1,h2⟩:=EU l (i:=(k:Int)) (by omega) (by unfold len;omega)
 rw[h2,List.drop_eq_getElem_cons h];simp
theorem qE{x:Tf}{k:Nat}{i:Int}(hk:k<x.ps.length)(hs:C4 x.flat i (x.ps.drop k)):C4 x.flat i (at' x.ps (k:Int)::x.ps.drop (k+1)):=by rw[<-Ab5 hk];exact hs
theorem Ab6(x:Tf)(h1x:x.t.op≠1)(v:Value)(w:World)(M:Mem)(hM:Sat w M)(hv:Sl M 11 x.flat.length v (x.flat.flatMap Tm.cells))(hb:len x.flat<=1048576):
   Calls prog 68 [v].toArray w (ND w M (λ g:Value×List AX=>g.1) (λ g=>len g.2=len x.ps) (λ g=>[(0,GA g.1 g.2 (I1 x))])):=by
 have hm0:(at' x.flat 0).many=len x.ps:=by rw[x.MU];rfl
 have hpos:=Tf.FU x
 have hop0:(at' x.flat 0).op=x.t.op:=by rw[x.MU];rfl
 have hlp:len x.ps=(x.ps.length:Int):=rfl
 have hpl:=OW x.ps
 have hfl:len x.flat=1+B1 x.ps:=by unfold len;rw[Tf.DQ,Tf.size_eq];omega
 refine AU (Hr:=[]) AP func68 U ntmps68 [(0,B7 v x.flat)] [] [.sl 0 v] U (Ak hM) (fc 0 hv Tm.B4 AA) (λ B hB=>?_) U
 refine DS 1 [] DN 1 36 GO U (A0 U) U U (A0 U) (λ w=>by kernel_rfl) U λ u=>?_
 refine CX U (A0 U) U (IK 6 (GA u [] ((I1 x).take 0)) (λ w M hX=>⟨hX.sl 1 U,GO,trivial⟩) ?_)
 refine CD (σ:=Nat×Int×Value×List AX) (λ(k,i,u,hs)=>⟨[(0,B7 v x.flat),(1,kn u 1 hs DN),(6,GA u hs ((I1 x).take k))],[(1,.ho (Ab4 u hs))],[Z 0 (.sl 0 v),Z 3 (.sl 1 u),Z 4 (I i),Z 5 (I k)]⟩) (λ(k,i,u,hs)=>k<=x.ps.length/\C4 x.flat i (x.ps.drop k)/\len hs=k) (λ(k,i,u,hs)=>x.ps.length-k) (0,1,u,[]) U (A0 U) U U ⟨by omega,x.pA,rfl⟩ ?_
 rintro⟨k,i,u,hs⟩ ⟨hk,hsg,hlk⟩
 refine A7 U (A0 U) (by omega) (λ h1=>?_) (λ h1=>?_)<;>simp only[zb]at h1
 ·have hkl:k<x.ps.length:=by omega
  have hsy:=qE hkl hsg
  obtain⟨y,hy⟩: ∃y,y=at' x.ps (k:Int):=⟨_,rfl⟩
  rw[<-hy]at hsy
  have hnx:=Y0 hsy
  have hle:=hsy.le
  have hnode:=hsy.node
  have hys:=y.size_pos
  rw[B1]at hle
  have hsub:=AS8 hsy
  rw[<-hnx]at hsub
  have hyl:len y.flat=y.size:=by unfold len;rw[Tf.DQ]
  refine AY U (A0 U) U call34 U U (A0 U) (λ _ w M hX=>UH x.flat v i M w hX.st.sat (hX.sl 0 U) hb (by omega) (by omega)) U ?_
  refine PK 3 ([]:List Tm) Tm.cells 11 48 Tm.B4 U (A0 U) U U (A0 U) (λ w=>by kernel_rfl) U λ v3=>?_
  refine PJ (gd:=none) 4 i (JK x.flat i) U (A0 U) U U (A0 U) U ⟨.i64,_,rfl,A0 U⟩ ⟨.i64,_,rfl,A0 U⟩ underlying36 sizeOf48 (by omega) U U λ v4=>?_
  rw[hsub]
  refine NC 120 U (A0 U) U U (A0 U) U underlying36 type48 U U Tm.cells_one (by rw[len_nil];omega) λ v5=>?_
  rw[List.nil_append]
  refine CU 5 U (A0 U) (by omega) zeroValue48 U λ b5=>?_
  refine RG { at' y.flat 0 with name:=[]} rfl (A0 U) (by omega) U (A0 U) U sizeOf48 U U U (by omega) λ x5 hx5=>?_
  rw[show((0:Int).toNat)=0 from rfl,Tf.jT]at hx5
  subst hx5
  refine J7 3 U ?_
  refine yB 3 U λ a q hq=>?_
  obtain⟨h3,hh3⟩: ∃h3:AX,v5=h3.v:=⟨⟨a,_,q⟩,hq⟩
  subst hh3
  refine DS 7 [h3] DN 1 36 GO U (A0 U) U U (A0 U) (λ w=>by kernel_rfl) U λ v7=>?_
  refine ME 24 U (A0 U) U U (A0 U) U underlying43 type36 U U WE (by simp only[A6,len_nil];omega) λ v'=>?_
  refine CX U (A0 U) (by omega) (IK 6 (GA v' (hs++[h3]) ((I1 x).take (k+1))) (λ w M hX=>⟨hX.sl 1 U,GO,by rw[yJ hkl,<-hy];exact D1.snoc (hX.sl 3 U) (hX.f.get (k:=6) U).more⟩) ?_)
  exact C7 (k+1,JK x.flat i,v',hs++[h3]) U (A0 U) U U ⟨by omega,by rw[hnx];exact hsy.rest,by rw[A5,hlk];rfl⟩ (by show x.ps.length-(k+1)<x.ps.length-k;omega)
 ·refine A9 hB U U (A0 U) U U (A0 U) λ w M hX=>⟨(u,hs),M,rfl,by show len hs=_;omega,hX.st.done,CK ?_ AA⟩
  have:=hX.f.get (k:=6) U
  rw[List.take_of_length_le (by simp[I1];omega)]at this
  exact this
abbrev IW(x:Tf):List A1:=x.ps.map λ y=>y.t.name
def JN(x:Tf):List A1:=if x.t.op=2 then IW x else []
theorem Ab7{x:Tf}{k:Nat}(hk:k<x.ps.length):(IW x).take (k+1)=(IW x).take k++[(at' x.ps (k:Int)).t.name]:=by
 obtain⟨h1,h2⟩:=EU x.ps (i:=(k:Int)) (by omega) (by unfold len;omega)
 rw[h2,List.take_add_one]
 simp[IW,hk]
theorem Ab8(x:Tf)(v:Value)(w:World)(M:Mem)(hM:Sat w M)(hv:Sl M 11 x.flat.length v (x.flat.flatMap Tm.cells))(hb:len x.flat<=1048576):
    Calls prog 69 [v].toArray w (ND w M (λ u:Value=>u) (λ _=>True) (λ u=>[(0,kn u 1 (JN x) AZ)])):=by
 have hm0:(at' x.flat 0).many=len x.ps:=by rw[x.MU];rfl
 have hpos:=Tf.FU x
 have hop0:(at' x.flat 0).op=x.t.op:=by rw[x.MU];rfl
 have hlp:len x.ps=(x.ps.length:Int):=rfl
 have hpl:=OW x.ps
 have hfl:len x.flat=1+B1 x.ps:=by unfold len;rw[Tf.DQ,Tf.size_eq];omega
 refine AU (Hr:=[]) AP func69 U ntmps69 [(0,B7 v x.flat)] [] [.sl 0 v] U (Ak hM) (fc 0 hv Tm.B4 AA) (λ B hB=>?_) U
 refine DS 1 [] AZ 1 9 DZ U (A0 U) U U (A0 U) (λ w=>by kernel_rfl) U λ u=>?_
 refine CD (σ:=Nat×Int×Value) (λ(k,i,u)=>⟨[(0,B7 v x.flat),(1,kn u 1 ((IW x).take k) AZ)],[(1,.ho (.own 9 1 u ((IW x).take k).length (((IW x).take k).flatMap AZ)))],[Z 0 (.sl 0 v),Z 3 (.sl 1 u),Z 4 (I i),Z 5 (I k)]⟩) (λ(k,i,u)=>k<=x.ps.length/\C4 x.flat i (x.ps.drop k)/\(x.t.op≠2->k=0)) (λ(k,i,u)=>x.ps.length-k) (0,1,u) U (A0 U) U U ⟨by omega,x.pA,λ _=>rfl⟩ ?_
 rintro⟨k,i,u⟩ ⟨hk,hsg,hk2⟩
 refine A7 U (A0 U) (by omega) (λ h1=>?_) (λ h1=>?_)<;>simp only[zb]at h1
 ·have hkl:k<x.ps.length:=by omega
  have hsy:=qE hkl hsg
  obtain⟨y,hy⟩: ∃y,y=at' x.ps (k:Int):=⟨_,rfl⟩
  rw[<-hy]at hsy
  have hnx:=Y0 hsy
  have hle:=hsy.le
  have hnode:=hsy.node
  have hys:=y.size_pos
  rw[B1]at hle
  have hyn:(at' x.flat i).name=y.t.name:=by rw[hnode.2.2];rfl
  have hlt:len ((IW x).take k)<=1048576:=by unfold len at*;rw[List.length_take];omega
  refine DS 3 [(at' x.flat i).name] AZ 1 9 DZ U (A0 U) (by omega) U (A0 U) (λ w=>by kernel_rfl) U λ v3=>?_
  refine ME 16 U (A0 U) U U (A0 U) U underlying32 type9 U U YP (by simp only[A6,len_nil];omega) λ v'=>?_
  refine AY U (A0 U) U call34 U U (A0 U) (λ _ w M hX=>UH x.flat v i M w hX.st.sat (hX.sl 0 U) hb (by omega) (by omega)) U ?_
  exact C7 (k+1,JK x.flat i,v') U (A0 U) (by omega) (by dsimp only;rw[Ab7 hkl,<-hy,<-hyn];rfl) ⟨by omega,by rw[hnx];exact hsy.rest,λ h=>absurd (hop0▸h1.2) h⟩ (by show x.ps.length-(k+1)<x.ps.length-k;omega)
 ·refine A9 hB U U (A0 U) U U (A0 U) λ w M hX=>⟨u,M,rfl,trivial,hX.st.done,?_⟩
  have:=hX.sl 1 U
  have e:(IW x).take k=JN x:=by
   unfold JN
   by_cases h2:x.t.op=2
   · rw[if_pos h2,List.take_of_length_le (by simp[IW];omega)]
   · rw[if_neg h2,hk2 h2,List.take_zero]
  rw[e]at this
  exact fc 0 this DZ AA
end Go.Proofs.YtmjpjbmeamnfpaaGreatDoor
namespace Go.Eng
def S9(n:Int)(k:Nat):Bool:=n.toNat/2^k%2==1
abbrev LO(u:Tm):List Value:=[i64 u.n,i64 u.c.kind,i64 u.c.many,str u.c.name,str u.c.s,.bool u.c.neg,i64 u.c.e]
theorem Y7(u:Tm):(LO u).length=7:=rfl
theorem Ab9(x:Tm): ∀u∈LO x,u.oneCell'=true:=by intro u hu;simp[LO]at hu;rcases hu with rfl|rfl|rfl|rfl|rfl|rfl|rfl<;>rfl
end Go.Eng
namespace Go.Proofs.YtmjpjbmeamnfpaaGreatDoor
open Go.Proofs.Tryz
open Go.Eng
theorem Ac0(n:Int)(k:Nat)(w:World)(h0:0<=n)(h1:n<=1048576)(hk:k<=5):Calls prog 66 [i64 n,i64 k].toArray w λ e w'=>e= .returned (.bool (S9 n k))/\Ext w w':=by
 refine AU AP func66 U ntmps66 [] [] [I n,I k] U (G7 w) AA (λ B hB=>?_) U
 refine CD (σ:=Nat×Int) (λ(j,m)=>⟨[],[],[Z 0 (I m),Z 1 (I k),Z 5 (I j)]⟩) (λ(j,m)=>j<=k/\m=((n.toNat/2^j:Nat):Int)/\0<=m/\m<=1048576) (λ(j,m)=>k-j) (0,n) U (A0 U) U U ⟨by omega,by simp;omega,h0,h1⟩ ?_
 rintro⟨j,m⟩ ⟨hj,hm,hm0,hm1⟩
 refine A7 U (A0 U) U (λ hb1=>?_) (λ hb1=>?_)<;>simp only[zb]at hb1
 ·refine C7 (j+1,m/2) U (A0 U) (by omega) U ⟨by omega,?_,by omega,by omega⟩ (by show k-(j+1)<k-j;omega)
  rw[hm,Nat.pow_succ,<-Nat.div_div_eq_div_mul];simp
 ·have e:j=k:=by omega
  subst e
  refine A9 hB U U (A0 U) (by omega) U (A0 U) λ w M hX=>⟨?_,hX.st.low⟩
  have e2:S9 n j=(m%2==1):=by
   unfold S9;rw[hm,Bool.eq_iff_iff,beq_iff_eq,beq_iff_eq];omega
  rw[e2];rfl
theorem Ac1(q:Tm)(qs:Fl)(v:Value)(w:World)(M:Mem)(hM:Sat w M)(hv:Sl M 11 (q::qs).length v ((q::qs).flatMap Tm.cells))(hb:len qs<=1048576)(hq:q.many=len qs)(ho:q.op=1):
    Calls prog 101 [v,i64 0].toArray w (ND w M (λ u:Value=>u) (λ _=>True) (λ u=>[(0,kn u 7 qs LO)])):=by
 have hl0:=A4 qs
 have hlc:len (q::qs)=len qs+1:=A6 q qs
 have h0q:at' (q::qs) 0=q:=rfl
 refine AU (Hr:=[]) AP func101 U ntmps101 [(0,B7 v (q::qs))] [] [.sl 0 v,I 0] U (Ak hM) (fc 0 hv Tm.B4 AA) (λ B hB=>?_) U
 refine DS 1 ([]:List Tm) LO 7 115 Y7 U (A0 U) U U (A0 U) (λ w=>by kernel_rfl) U λ u=>?_
 refine CD (σ:=Int×Value×Fl) (λ(k,u,y)=>⟨[(0,B7 v (q::qs)),(1,kn u 7 y LO)],[(1,.ho (.own 115 7 u y.length (y.flatMap LO)))],[Z 0 (.sl 0 v),Z 1 (I 0),Z 5 (.sl 1 u),Z 6 (I (k+1))]⟩) (λ(k,u,y)=>0<=k/\k<=len qs/\y=Eng.sub qs 0 k/\len y=k) (λ(k,u,y)=>(len qs-k).toNat) (0,u,[]) U (A0 U) (by omega) U ⟨by omega,by omega,rfl,rfl⟩ ?_
 rintro⟨k,u,y⟩ ⟨h0,h1,hy,hyl⟩
 refine A7 U (A0 U) (by rw[h0q];simp only[zb]<;>omega) (λ hb1=>?_) (λ hb1=>?_)<;>rw[h0q]at hb1<;>simp only[zb]at hb1
 ·have hkq:k<len qs:=by omega
  have hat:at' (q::qs) (k+1)=at' qs k:=by
   unfold at';rw[show(k+1).toNat=k.toNat+1 by omega];rfl
  refine MK [12,13,14] 4 (λ _ _ _ _ _ h=>h) U (A0 U) U EM (by decide+kernel) ?_
  refine D2 12 U (A0 U) (by omega) U U ?_
  refine DS 3 [at' (q::qs) (k+1)] LO 7 115 Y7 U (A0 U) U U (A0 U) (λ w=>by kernel_rfl) U λ v3=>?_
  refine CL U (A0 U) U ?_
  refine D2 13 U (A0 U) (by omega) U U ?_
  refine ME 72 U (A0 U) U U (A0 U) U underlying120 type115 U U Ab9 (by simp only[A6,len_nil];omega) λ v'=>?_
  refine CL U (A0 U) U ?_
  refine D2 14 U (A0 U) (by omega) U U ?_
  refine CL U (A0 U) U ?_
  refine IP U (A0 U) U U U ?_
  exact C7 (k+1,v',y++[at' (q::qs) (k+1)]) U (A0 U) (by omega) U ⟨by omega,by omega,by rw[hat,hy,NJ h0 hkq],by rw[A5,hyl];rfl⟩ (by show Int.toNat _<Int.toNat _;omega)
 ·rw[L7 (by omega)]at hy
  subst hy
  exact A9 hB U U (A0 U) U U (A0 U) λ w M hX=>⟨u,M,rfl,trivial,hX.st.done,fc 0 (hX.sl 1 U) Y7 AA⟩
theorem Ac2(q:Tm)(qs:Fl)(v:Value)(w:World)(M:Mem)(hM:Sat w M)(hv:Sl M 11 (q::qs).length v ((q::qs).flatMap Tm.cells))(hb:len qs<=1048576)(hq:q.many=len qs)(ho:q.op=1):
  Calls prog 67 [v].toArray w (ND w M (λ u:Value=>u) (λ _=>True) (λ u=>[(0,kn u 7 qs LO)])):=by
 refine AU (Hr:=[]) AP func67 U ntmps67 [(0,B7 v (q::qs))] [] [.sl 0 v] U (Ak hM) (fc 0 hv Tm.B4 AA) (λ B hB=>?_) U
 refine IL (λ u:Value=>.sl 5 u) [5] U (A0 U) U U call101 U U (A0 U) (λ w M hX=>Ac1 q qs v w M hX.st.sat (hX.sl 0 U) hb hq ho) (λ _=>rfl) λ u _=>?_
 exact A9 hB U U (A0 U) U U (A0 U) λ w M hX=>⟨u,M,rfl,trivial,hX.st.done,fc 0 (hX.sl 5 U) Y7 AA⟩
theorem Ac3(c:Nd)(w:World)(hb:len c.s<=1048576)(he: -1000000<=c.e/\c.e<=1000000):Calls prog 32 [H9 c].toArray w λ e w'=>e= .returned (str (I7 c))/\Ext w w':=by
 refine AU AP func32 U ntmps32 [] [] [GW c] U (G7 w) AA (λ B hB=>?_) U
 refine F0 1 U (A0 U) U U U (A0 U) λ bb=>?_
 refine A7 U (A0 U) U (λ h1=>?_) (λ h1=>?_)<;>simp only[zb]at h1
 ·exact A9 hB U U (A0 U) U U (A0 U) λ w M hX=>⟨by unfold I7;rw[if_pos h1];rfl,hX.st.low⟩
 refine A7 U (A0 U) U (λ h2=>?_) (λ h2=>?_)<;>simp only[zb]at h2
 ·exact A9 hB U U (A0 U) U U (A0 U) λ w M hX=>⟨by unfold I7;rw[if_neg h1,if_pos h2];rfl,hX.st.low⟩
 refine A7 U (A0 U) U (λ h3=>?_) (λ h3=>?_)<;>simp only[zb]at h3
 ·exact A9 hB U U (A0 U) U U (A0 U) λ w M hX=>⟨by unfold I7;rw[if_neg h1,if_neg h2,if_pos h3];rfl,hX.st.low⟩
 refine A7 U (A0 U) U (λ h4=>?_) (λ h4=>?_)<;>simp only[zb]at h4
 ·refine AY U (A0 U) U call57 U U (A0 U) (λ _ w M hX=>AQ6 c w (by omega) he) U ?_
  exact A9 hB U U (A0 U) U U (A0 U) λ w M hX=>⟨by unfold I7;rw[if_neg h1,if_neg h2,if_neg h3,if_pos h4];rfl,hX.st.low⟩
 ·refine AY U (A0 U) U call53 U U (A0 U) (λ _ w M hX=>dK c.s w (by omega)) U ?_
  exact A9 hB U U (A0 U) U U (A0 U) λ w M hX=>⟨by unfold I7;rw[if_neg h1,if_neg h2,if_neg h3,if_neg h4];rfl,hX.st.low⟩
end Go.Proofs.YtmjpjbmeamnfpaaGreatDoor
namespace Go.Eng
open Go.RowKit
inductive LS:A1->List Tk->Prop
 |nil:LS [] []
 |blank {c:UInt8} {r:A1} {u:List Tk}:HV c=true->LS r u->LS (c::r) u
 |tok {w r:A1} {t:Tk} {u:List Tk}:w≠[]->AB (w++r)=(t,len w,0)->LS r u->LS (w++r) (t::u)
theorem Ac4{s:A1}{t:Tk}{n e:Int}(h:AB s=(t,n,e)):t.pos=0:=by
 unfold AB at h
 repeat' split at h
 all_goals (simp only[Prod.mk.injEq]at h;obtain⟨rfl,_⟩:=h;rfl)
theorem LS.lx {v:A1}{u:List Tk}(h:LS v u): ∀ {s:A1} {i:Int},At s i v-> ∃l,Lx s (BL s i) l/\l.map (strip false)=u:=by
 induction h with
 |nil=>
  intro s i h
  have hl:=CO s i h.1 h.2.1
  rw[h.2.2,len_nil]at hl
  exact⟨[],by rw[vB (by omega)];exact .done h.1 (by omega),rfl⟩
 | @blank c r u hb _ ih=>
  intro s i h
  obtain⟨l,h1,h2⟩:=ih (At.one h)
  refine⟨l,?_,h2⟩
  rw[<-vA h.1 h.lt (by rw[h.byte];exact hb)];exact h1
 | @tok w r t u hw ht _ ih=>
  intro s i h
  obtain⟨l,h1,h2⟩:=ih (At.add h)
  have hl:=G0 hw
  have hnb:=AN4 (s:=w++r) (by rw[A5];have:=A4 r;omega) ht
  have hst:Y5 (w++r):=λ c r' e=>by rw[e,DO]at hnb;exact hnb
  rw[At.AY0 h hst]
  refine⟨_,Lx.at h hw ht h1,?_⟩
  rw[List.map_cons,h2]
  congr 1
  have:=Ac4 ht
  cases t;simp only at this;subst this;rfl
theorem LS.lex {s:A1}{u:List Tk}(h:LS s u): ∃l,C6 s=(l++[GJ s],0,0)/\l.map (strip false)=u:=by
 obtain⟨l,h1,h2⟩:=h.lx (s:=s) (i:=0) ⟨Int.le_refl 0,A4 s,rfl⟩
 exact⟨l,h1.lex,h2⟩
def FJ(r:A1):Prop:=r=[]\/ ∃c r',r=c::r'/\KH (c.toNat:Int)=true
theorem FJ.stop {r:A1}(h:FJ r):Stop [] r:=by
 rcases h with h|⟨c,r',rfl,h⟩
 ·exact .inl h
 ·exact .inr (.inl ⟨by simp,by rw[DO];exact h⟩)
theorem FK{c:UInt8}{r:A1}(h:KH (c.toNat:Int)=true):FJ (c::r):=.inr ⟨c,r,rfl,h⟩
theorem LS.of {t:Tk}(h:EY t=true)(hp:t.pos=0){r:A1}{u:List Tk}(hr:FJ r)(hl:LS r u):LS (QZ t++r) (t::u):=by
 obtain⟨h1,h2⟩:=AP1 h (r:=[]) (.inl rfl)
 have:=cW (v':=r) h2 h1 hr.stop
 have e: { t with pos:=0}=t:=by cases t;simp only at hp;subst hp;rfl
 rw[e]at this
 exact .tok h2 this hl
theorem LS.mark {c:UInt8}(hc:c∈([40,41,91,93,123,125,58,44,124]:A1)){r:A1}{u:List Tk}(hl:LS r u):LS (c::r) (S8 [c] 0::u):=
 .tok (w:=[c]) (by simp) (AY1 hc r) hl
theorem LS.bl {r:A1}{u:List Tk}(hl:LS r u):LS (32::r) u:=.blank U hl
def dW(r:A1):Prop:= ∀c r',r=c::r'->BS (c.toNat:Int) false=false/\c≠34
theorem Ac5{u:A1}(hu:dW u):AB (46::u)=(⟨1,[46],B2,0⟩,1,0):=by
 have hw:AS u=[]:=AY2 λ c r e=>by
  have:=(hu c r e).1
  unfold BS at this
  simp only[Bool.or_eq_false_iff]at this;exact this.1
 have hq:Lib.hasPrefix u [34]=false:=by
  cases u with
  |nil=>rfl
  |cons c r=>
   have:=(hu c r U).2
   unfold Lib.hasPrefix
   simp[List.isPrefixOf,Ne.symm this]
 have hm:BY (46::u)=[46]:=rfl
 unfold AB
 rw[DO,S5,if_neg (λ h=>h.2 hw),if_neg (λ h=>by rw[hq]at h;exact absurd h.2 (by decide)),hm,if_pos (by simp)]
 rfl
theorem FJ.nw {r:A1}(h:FJ r):dW r:=by
 intro c r' e
 rcases h with h|⟨c2,r2,rfl,h⟩
 ·rw[h]at e;cases e
 ·obtain⟨rfl,rfl⟩:=List.cons.inj e
  have:=cV h
  refine⟨nR h,λ e=>?_⟩
  subst e;exact this.2 rfl
theorem LS.dot {r:A1}{u:List Tk}(hr:dW r)(hl:LS r u):LS (46::r) (S8 [46] 0::u):=.tok (w:=[46]) (by simp) (Ac5 hr) hl
def Y8(s:A1):Tk:=⟨3,s,B2,0⟩
theorem Y9{s:A1}(h:CF s=true):s≠[]/\ ∀j:Int,0<=j->j<len s->BS (A2 s j) (j==0)=true:=TR.1 h
theorem LS.field {s r:A1}{u:List Tk}(hs:CR s=true)(hr: ∀c r',r=c::r'->BS (c.toNat:Int) false=false)(hl:LS r u):LS ((46::CG s)++r) (Y8 s::u):=by
 refine .tok (by simp) ?_ hl
 unfold CG
 by_cases h:CF s=true
 ·rw[if_pos h]
  obtain⟨h1,h2⟩:=Y9 h
  have hw:=pU h1 h2 hr
  unfold AB
  rw[List.cons_append,DO,S5,hw,if_pos ⟨rfl,h1⟩,A6,Int.add_comm];rfl
 ·rw[if_neg h,<-TQ hs]
  have hq:=dF hs r
  obtain⟨q,hqe⟩:=XT s
  have hw:AS (AE s++r)=[]:=by rw[hqe];exact I4 (by rw[List.cons_append,DO];rfl)
  have hpre:Lib.hasPrefix (AE s++r) [34]=true:=by rw[hqe];rfl
  unfold AB
  rw[List.cons_append,DO,S5,hw,if_neg (λ x=>x.2 U),if_pos ⟨rfl,hpre⟩,hq,A6,Int.add_comm];rfl
theorem LS.text {s r:A1}{u:List Tk}(hs:CR s=true)(hr:FJ r)(hl:LS r u):LS (J5 s++r) (⟨4,s,B2,0⟩::u):=by
 have:=LS.of (t:=⟨4,s,B2,0⟩) (by unfold EY;simp[hs]) U hr hl
 rw[show QZ ⟨4,s,B2,0⟩=AE s from rfl,TQ hs]at this;exact this
theorem LS.num {c:Nd}{r:A1}{u:List Tk}(hc:G5 c=true)(hr:FJ r)(hl:LS r u):LS (CP c++r) (⟨5,[],c,0⟩::u):=by
 have:=LS.of (t:=⟨5,[],c,0⟩) (by unfold EY;simp[hc]) U hr hl
 exact this
theorem LS.word {s r:A1}{u:List Tk}(hs:CF s=true)(hr:FJ r)(hl:LS r u):LS (s++r) (UE s 0::u):=by
 have:=LS.of (t:=UE s 0) (by unfold EY UE;simp[hs]) U hr hl
 exact this
theorem LS.sign {s r:A1}{u:List Tk}(hs:s∈CJ)(hr:FJ r)(hl:LS r u):LS (s++r) (S8 s 0::u):=by
 have key: ∀s∈CJ,EY (S8 s 0)=true:=by decide+kernel
 have:=LS.of (t:=S8 s 0) (key s hs) U hr hl
 exact this
theorem Ac6(s:A1):OE s=BA s:=by
 unfold OE BA
 congr 1
 funext n c
 rw[Int.mul_comm]
theorem qF: ∀(n:Int),0<=n->BA (Lib.itoa n)=n/\CH (Lib.itoa n)/\Lib.itoa n≠[]/\(0<n->A2 (Lib.itoa n) 0≠48)/\(n<10->len (Lib.itoa n)=1):=by
 intro n
 induction h:n.toNat using Nat.strongRecOn generalizing n with
 |_ m ih=>
  intro h0
  have hs:=SR h0
  have hd:toStr [48+n%10]=[UInt8.ofNat (48+n%10).toNat]:=SQ _ _ U
  have hb:((UInt8.ofNat (48+n%10).toNat).toNat:Int)=48+n%10:=KI (by omega) (by omega)
  have hf:C5 (UInt8.ofNat (48+n%10).toNat)=true:=by unfold C5 BG;rw[hb];simp;omega
  rw[hd]at hs
  by_cases h10:10<=n
  ·rw[if_pos h10]at hs
   obtain⟨g1,g2,g3,g4,g5⟩:=ih (n/10).toNat (by omega) (n/10) rfl (by omega)
   rw[hs]
   refine⟨?_,g2.app (λ b hb2=>by rw[List.mem_singleton.1 hb2];exact hf),by simp,λ _=>?_,λ h=>by omega⟩
   ·rw[Q4,g1,hb];omega
   ·rw[H3 (Int.le_refl 0) (G0 g3)];exact g4 (by omega)
  ·rw[if_neg h10,List.nil_append]at hs
   rw[hs]
   refine⟨?_,λ b hb2=>by rw[List.mem_singleton.1 hb2];exact hf,by simp,λ hp=>?_,λ _=>rfl⟩
   ·show BA ([]++[_])=n
    rw[Q4,hb,show BA []=0 from rfl];omega
   ·rw[DO,hb];omega
theorem Ac7{n:Int}(h0:0<=n)(h1:n<=1000000):len (Lib.itoa n)<=7:=by
 have step: ∀k:Int,0<=k->len (Lib.itoa k)=(if 10<=k then len (Lib.itoa (k/10))else 0)+1:=λ k hk=>by
  rw[SR hk,A5]
  have:len (toStr [48+k%10])=1:=rfl
  rw[this];split<;>rfl
 rw[step n h0];split
 ·rw[step _ (by omega)];split
  ·rw[step _ (by omega)];split
   ·rw[step _ (by omega)];split
    ·rw[step _ (by omega)];split
     ·rw[step _ (by omega)];split
      ·rw[step _ (by omega)];split
       ·omega
       ·omega
      ·omega
     ·omega
    ·omega
   ·omega
  ·omega
 ·omega
def JO(n:Int):Nd:=(BW (Lib.itoa n)).1
theorem Ac8: ∀(g:A1),g≠[]->A2 g 0≠48-> ∃s k,0<=k/\g=s++BB k/\s≠[]/\A2 s (len s-1)≠48:=by
 intro g
 induction g using XX with
 |h0=>intro h _;exact absurd rfl h
 |hs a c ih=>
  intro _ h0
  by_cases hc:c=48
  ·by_cases ha:a=[]
   ·subst ha;subst hc;exact absurd rfl h0
   ·rw[H3 (Int.le_refl 0) (G0 ha)]at h0
    obtain⟨s,k,hk,e1,e2,e3⟩:=ih ha h0
    exact⟨s,k+1,by omega,by rw[e1,hc,aV hk,List.append_assoc],e2,e3⟩
  ·refine⟨a++[c],0,Int.le_refl _,by simp[BB],by simp,λ e=>hc ?_⟩
   rw[A5,show len [c]=1 from rfl,show len a+1-1=len a by omega]at e
   have:=U5 (u:=a) (v:=[c]) (k:=0) (Int.le_refl 0)
   rw[Int.add_zero,DO]at this
   exact UInt8.toNat_inj.1 (by have:(48:UInt8).toNat=48:=rfl;omega)
theorem qG{n:Int}(h0:0<=n)(h1:n<=1000000):BW (Lib.itoa n)=(JO n,0,0)/\(JO n).neg=false/\0<=(JO n).e/\len (JO n).s+(JO n).e<=7/\OE ((JO n).s++List.replicate (JO n).e.toNat 48)=n:=by
 obtain⟨g1,g2,g3,g4,g5⟩:=qF n h0
 have hr:=o7 (s:=Lib.itoa n) (w:=Lib.itoa n) (neg:=false) U g2 g3 (λ h=>by
  rcases Int.lt_or_eq_of_le h0 with h2|h2
  ·exact g4 h2 h.2
  ·subst h2;have:=g5 (by omega);omega)
 rcases Int.lt_or_eq_of_le h0 with h2|h2
 ·obtain⟨s,k,hk,e1,e2,e3⟩:=Ac8 _ g3 (g4 h2)
  have hl:=Ac7 h0 h1
  have hlz:len (BB k)=k:=by unfold BB len;rw[List.length_replicate];omega
  have hls:=A5 s (BB k)
  rw[<-e1,hlz]at hls
  have hsl:=A4 s
  have hd:AT (Lib.itoa n)=s++BB k:=by rw[XK (g4 h2),e1]
  have hm:=XL (neg:=false) (e0:=0) (e:=k) g2 hd hk e2 e3 (by omega) (by omega) (by omega) (by omega) (by omega)
  have hfn:BW (Lib.itoa n)=(⟨3,0,[],s,false,k⟩,0,0):=by
   rw[hr];unfold G6
   rw[if_neg (by decide),show(0:Int)+1*BA (AT [])=0 from rfl,hm]
  have hnd:JO n=⟨3,0,[],s,false,k⟩:=by unfold JO;rw[hfn]
  rw[hnd]
  refine⟨hfn,rfl,hk,by show len s+k<=7;omega,?_⟩
  show OE (s++BB k)=n
  rw[<-e1,Ac6,g1]
 ·subst h2
  have:Lib.itoa 0=[48]:=by decide+kernel
  unfold JO
  rw[this]
  exact⟨by decide+kernel,by decide+kernel,by decide+kernel,by decide+kernel,by decide+kernel⟩
theorem LS.int {n:Int}(h0:0<=n)(h1:n<=1000000){r:A1}{u:List Tk}(hr:FJ r)(hl:LS r u):LS (Lib.itoa n++r) (⟨5,[],JO n,0⟩::u):=by
 obtain⟨g1,g2,g3,g4,g5⟩:=qF n h0
 have hs:=(qG h0 h1).1
 refine .tok g3 ?_ hl
 obtain⟨a,q,e⟩:=List.exists_cons_of_ne_nil g3
 have ha:=g2 a (by rw[e];simp)
 have hfig:BG (a.toNat:Int)=true:=ha
 have hm:=cU (a:=a) (.inr hfig)
 have h46: ¬(a.toNat:Int)=46/\ ¬(a.toNat:Int)=34:=by unfold BG at hfig;simp only[Bool.and_eq_true,decide_eq_true_eq]at hfig;omega
 have hrun:runN (Lib.itoa n++r)=Lib.itoa n:=by
  refine cS (v:=[]) ?_ hr.stop
  rw[List.append_nil,SS]
  refine cN λ b hb=>?_
  have:=g2 b hb
  unfold C5 BG at this
  simp only[Bool.and_eq_true,decide_eq_true_eq]at this
  rw[WR];omega
 unfold AB
 have hb0:A2 (Lib.itoa n++r) 0=(a.toNat:Int):=by rw[e];exact DO a _
 rw[hb0,if_neg (λ x=>h46.1 x.1),if_neg (λ x=>h46.1 x.1)]
 rw[show BY (Lib.itoa n++r)=[]from by rw[e];exact NP hm.1,if_neg (by simp),I4 (by rw[hb0];exact hm.2),if_neg (by simp),if_neg h46.2,if_pos (.inr hfig),hrun,hs,if_neg (by simp)]
theorem Ac9{α:Type}{l:List α}(h:len l=0):l=[]:=by
 cases l with
 |nil=>rfl
 |cons a l=>rw[A6]at h;have:=A4 l;omega
theorem qH{α:Type}{l:List α}(h:len l=1): ∃a,l=[a]:=by
 match l,h with
 |[],h=>cases h
 |[a],_=>exact⟨a,rfl⟩
 |a::b::r,h=>rw[A6,A6]at h;have:=A4 r;omega
abbrev AF(m:A1):Tk:=S8 m 0
abbrev DJ(m:A1):Tk:=UE m 0
def NU(s:A1):Tk:=if CF s then DJ s else⟨4,s,B2,0⟩
def dX(n:Int):Tk:=⟨5,[],JO n,0⟩
def JP(x:Sp):List Tk:=if x.part then [AF [91],dX x.n,AF [93]]else [Y8 x.name]
def JQ(p:List Sp):List Tk:=(if p=[]\/(at' p 0).part=true then [AF [46]]else [])++(p.map JP).flatten
def IX(c:Nd):Tk:=if c.kind=0 then DJ K2 else if c.kind=1 then DJ K1 else if c.kind=2 then DJ K0 else if c.kind=3 then⟨5,[],c,0⟩else⟨4,c.s,B2,0⟩
theorem Ad0:CF vR=true/\CF vS=true/\CF vT=true/\CF vP=true/\CF vO=true/\CF vQ=true/\CF K2=true/\CF K1=true/\CF K0=true:=by decide+kernel
theorem LS.path {p:List Sp}(hp: ∀x∈p,x.JJ){r:A1}{u:List Tk}(hr:FJ r)(hl:LS r u):LS (FG p++r) (JQ p++u):=by
 have steps: ∀p:List Sp,(∀x∈p,x.JJ)->LS ((p.map Sp.GS).flatten++r) ((p.map JP).flatten++u)/\(∀c r',(p.map Sp.GS).flatten++r=c::r'->BS (c.toNat:Int) false=false):=by
  intro p
  induction p with
  |nil=>intro _;exact⟨hl,λ c r' e=>(hr.nw c r' e).1⟩
  |cons x p ih=>
   intro hp
   obtain⟨h1,h2⟩:=ih λ y hy=>hp y (List.mem_cons_of_mem _ hy)
   have hx:=hp x List.mem_cons_self
   rw[List.map_cons,List.map_cons,List.flatten_cons,List.flatten_cons,List.append_assoc,List.append_assoc]
   unfold Sp.GS JP
   by_cases hpt:x.part=true
   ·rw[if_pos hpt,if_pos hpt]
    obtain⟨_,h3,h4⟩:=hx.1 hpt
    refine⟨?_,λ c r' e=>?_⟩
    ·rw[List.append_assoc,List.append_assoc]
     exact .mark (by decide) (.int h3 h4 (FK U) (.mark (by decide) h1))
    ·rw[<-(List.cons.inj e).1];rfl
   ·rw[if_neg hpt,if_neg hpt]
    refine⟨?_,λ c r' e=>?_⟩
    ·exact LS.field (hx.2 (by simpa using hpt)).2 h2 h1
    ·rw[<-(List.cons.inj e).1];rfl
 obtain⟨h1,h2⟩:=steps p hp
 unfold FG JQ
 rw[List.append_assoc,List.append_assoc]
 split
 ·rename_i hc
  refine LS.dot ?_ h1
  rcases hc with rfl|hc
  ·exact hr.nw
  ·cases p with
   |nil=>exact hr.nw
   |cons x p=>
    have hpt:x.part=true:=hc
    intro c r' e
    rw[List.map_cons,List.flatten_cons]at e
    unfold Sp.GS at e
    rw[if_pos hpt]at e
    rw[<-(List.cons.inj e).1];decide
 ·exact h1
theorem dY{c:Nd}(h:GV c=true):c=⟨0,0,[],[],false,0⟩\/c=⟨1,0,[],[],false,0⟩\/c=⟨2,0,[],[],false,0⟩\/(c.kind=3/\G5 c=true)\/(∃s,c=⟨4,0,[],s,false,0⟩/\CR s=true):=by
 unfold GV at h
 simp only[Bool.and_eq_true,decide_eq_true_eq]at h
 obtain⟨hk,⟨hn,hm⟩,hpl⟩:=h
 have hbare:IV c=c:=by unfold IV;cases c;simp only at hn;subst hn;rfl
 unfold H5 at hpl
 rw[hbare]at hpl
 split at hpl
 ·rename_i h3
  have hc:=of_decide_eq_true hpl
  rcases h3 with h3|h3|h3<;>rw[h3]at hc
  ·exact .inl hc
  ·exact .inr (.inl hc)
  ·exact .inr (.inr (.inl hc))
 split at hpl
 ·rename_i h3;exact .inr (.inr (.inr (.inl ⟨h3,hpl⟩)))
 split at hpl
 ·rename_i h3
  rw[Bool.and_eq_true]at hpl
  have hc:=of_decide_eq_true hpl.2
  rw[h3]at hc
  exact .inr (.inr (.inr (.inr ⟨c.s,hc,hpl.1⟩)))
 split at hpl
 ·omega
 ·cases hpl
theorem LS.Ad1 {c:Nd}(h:GV c=true){r:A1}{u:List Tk}(hr:FJ r)(hl:LS r u):LS (I7 c++r) (IX c::u):=by
 obtain⟨_,_,_,_,_,_,w1,w2,w3⟩:=Ad0
 rcases dY h with rfl|rfl|rfl|⟨h3,h4⟩|⟨s,rfl,hu⟩
 ·exact LS.word w1 hr hl
 ·exact LS.word w2 hr hl
 ·exact LS.word w3 hr hl
 ·unfold I7 IX
  rw[h3]
  exact LS.num h4 hr hl
 ·exact LS.text hu hr hl
theorem LS.nm {s:A1}(h:CR s=true){r:A1}{u:List Tk}(hr:FJ r)(hl:LS r u):LS (CG s++r) (NU s::u):=by
 unfold CG NU
 split
 ·rename_i hw;exact LS.word hw hr hl
 ·exact LS.text h hr hl
end Go.Eng
