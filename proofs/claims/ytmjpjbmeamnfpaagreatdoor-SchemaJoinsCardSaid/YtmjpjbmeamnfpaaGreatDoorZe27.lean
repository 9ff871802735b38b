/-
  Parts Ip It Xo, put together and made short by wip/py/merge.py (mini.py).
-/
import Derived.Test.YtmjpjbmeamnfpaaGreatDoorZe20
import Derived.Test.YtmjpjbmeamnfpaaGreatDoorZe15
import Derived.Test.YtmjpjbmeamnfpaaGreatDoorZe26
import Derived.Test.YtmjpjbmeamnfpaaGreatDoorZe23
import Derived.Test.YtmjpjbmeamnfpaaGreatDoorZe5
import Derived.Test.YtmjpjbmeamnfpaaGreatDoorZe11
import Derived.Test.YtmjpjbmeamnfpaaGreatDoorZe24
import Derived.Test.YtmjpjbmeamnfpaaGreatDoorZe0
set_option linter.unusedVariables false
set_option linter.unusedSimpArgs false
set_option maxRecDepth 100000
namespace Go.Eng
def S0(n:Nd):Bool:=
 if n.kind≠3\/n.many≠0\/n.name≠[]\/100<len n.s\/n.e< -1000\/1000<n.e\/1000<len n.s+n.e\/HE n.s=false then false
 else if n.s=[]then !n.neg&&decide (n.e=0)else Lib.trimB n.s 48==n.s
def LX(n:Nd):Bool:=
 if n.kind=0\/n.kind=1\/n.kind=2 then decide ((⟨n.kind,n.many,[],n.s,n.neg,n.e⟩:Nd)=⟨n.kind,0,[],[],false,0⟩)
 else if n.kind=3 then S0 ⟨n.kind,n.many,[],n.s,n.neg,n.e⟩
 else if n.kind=4 then Lib.validD n.s&&decide ((⟨n.kind,n.many,[],n.s,n.neg,n.e⟩:Nd)=⟨n.kind,0,[],n.s,false,0⟩)
 else if n.kind=5\/n.kind=6 then decide (0<=n.many)&&decide ((⟨n.kind,n.many,[],n.s,n.neg,n.e⟩:Nd)=⟨n.kind,n.many,[],[],false,0⟩)
 else false
def KZ(n:Nd):Bool:=LX n&&decide (n.name=[])&&decide (n.many<=0)
def a8(n:Int)(c:Nd):Bool:=decide (0<=n)&&decide (n<=5)&&(decide (c.kind<5)&&KZ c)
structure C3 where
 kind:Int
 left:Int
 first:Bool
 last:A1
deriving Inhabited
def C3.cells (x:C3):List Value:=[i64 x.kind,i64 x.left,.bool x.first,str x.last]
theorem C3.BZ (x:C3):x.cells.length=4:=rfl
theorem C3.cells_one (x:C3): ∀u∈x.cells,u.oneCell'=true:=by intro u hu;simp[C3.cells]at hu;rcases hu with rfl|rfl|rfl|rfl<;>rfl
end Go.Eng
namespace Go.Proofs.YtmjpjbmeamnfpaaGreatDoor
open Go.Eng
theorem kS(s:A1)(w:World)(hg:Gl w)(hb:len s<=9223372036854775807):Calls Tryz.prog 257 [str s].toArray w λ e w'=>e= .returned (.bool (Lib.validD s))/\Ext w w':=
 Tryz.utf8_ValidString ⟨⟨s⟩⟩ w (by unfold len at hb;show s.length<=_;omega) hg.u8
theorem AB1(s:A1)(w:World)(hb:len s<=9223372036854775807):Calls Tryz.prog 323 [str s,str [48]].toArray w λ e w'=>e= .returned (str (Lib.trimB s 48))/\Ext w w':=
 (Tryz.strings_Trim_one ⟨⟨s⟩⟩ 48 (by decide) w (by unfold len at hb;show s.length<=_;omega)).mono λ e w' ⟨he,hw⟩=>⟨he,by rcases hw with rfl|rfl;exact Ext.refl _;exact Ext.drew _⟩
theorem AB2(c:Nd)(w:World)(hg:Gl w)(hb:len c.s<=1099511627776):
   Calls Tryz.prog 321 [MB c].toArray w λ e w'=>e= .returned (.bool (S0 c))/\Ext w w':=by
 have hl0:=A8 c.s
 refine B3 AX Tryz.func321 U Tryz.ntmps321 [] [] [KY c] U (GG w) AA (λ B hB=>?_) U
 refine F6 1 U (A0 U) (by omega) U U (A0 U) λ b1=>?_
 refine BE U (A0 U) (by omega) Tryz.call160 U U (A0 U) (λ _ w M hX=>RZ (gL (len c.s) c.e w (by omega))) U ?_
 refine BE U (A0 U) (by omega) Tryz.call158 U U (A0 U) (λ _ w M hX=>gK c.s w (hg.low hX.st.low) (by omega)) U ?_
 refine AB U (A0 U) (by omega) (λ hb1=>?_) (λ hb1=>?_)
 ·exact AH hB U U (A0 U) (by omega) U (A0 U) λ w M hX=>⟨by unfold S0;rw[if_pos (by simpa[or_assoc]using hb1)];rfl,hX.st.low⟩
 have hno: ¬(c.kind≠3\/c.many≠0\/c.name≠[]\/100<len c.s\/c.e< -1000\/1000<c.e\/1000<len c.s+c.e\/HE c.s=false):=by
  intro h;have:=hb1;rw[<-Bool.not_eq_true]at this;exact this (by simpa[or_assoc]using h)
 refine AB U (A0 U) (by omega) (λ hb2=>?_) (λ hb2=>?_)<;>simp only[zb]at hb2
 ·exact AH hB U U (A0 U) (by omega) U (A0 U) λ w M hX=>⟨by unfold S0;rw[if_neg hno,if_pos hb2];rfl,hX.st.low⟩
 refine LC U (A0 U) (by omega) EV (by decide+kernel) ?_
 refine LF U (A0 U) (by omega) Tryz.call323 U U (A0 U) (λ _ w M hX=>AB1 c.s w (by omega)) U ?_
 refine LD U (A0 U) (by omega) ?_
 exact AH hB U U (A0 U) (by omega) U (A0 U) λ w M hX=>⟨by unfold S0;rw[if_neg hno,if_neg hb2];rfl,hX.st.low⟩
theorem AB3(c:Nd)(w:World)(hg:Gl w)(hb:len c.s<=1099511627776):
    Calls Tryz.prog 316 [MB c].toArray w λ e w'=>e= .returned (.bool (LX c))/\Ext w w':=by
 refine B3 AX Tryz.func316 U Tryz.ntmps316 [] [] [KY c] U (GG w) AA (λ B hB=>?_) U
 refine F6 1 U (A0 U) (by omega) U U (A0 U) λ bb=>?_
 refine HH 0 (λ s=> ∃b:Bool,(b=true↔(c.kind=0\/c.kind=1\/c.kind=2))/\s=⟨[],[(1,.box bb [I c.kind,I c.many,.v (str []),.v (str c.s),.v (.bool c.neg),I c.e] 46)],[Z 1 (.bx 1 bb 0),Z 5 (I c.kind),Z 6 (.v (.bool b))]⟩) U (A0 U) (by omega) U (λ h1=>?_) (λ h1=>?_) ?_
 ·exact BF _ U (A0 U) (by omega) U ⟨_,by simp only[zb]at h1 ⊢;omega,rfl⟩
 ·refine AB U (A0 U) (by omega) (λ h2=>?_) (λ h2=>?_)
  ·exact BF _ U (A0 U) (by omega) U ⟨_,by simp only[zb]at h2 ⊢;omega,rfl⟩
  ·exact BF _ U (A0 U) (by omega) U ⟨_,by simp only[zb]at h1 h2 ⊢;omega,rfl⟩
 rintro _ ⟨b,hbk,rfl⟩
 refine AB U (A0 U) (by omega) (λ h3=>?_) (λ h3=>?_)
 ·refine DT (.v (.bool (decide ((⟨c.kind,c.many,[],c.s,c.neg,c.e⟩:Nd)=⟨c.kind,0,[],[],false,0⟩)))) U (A0 U) (by omega) U (λ w M hX=>PV.bin (AT (v:=KY ⟨c.kind,c.many,[],c.s,c.neg,c.e⟩) U (A0 U)) (AT (v:=KY ⟨c.kind,0,[],[],false,0⟩) U (A0 U)) (λ _ w _=>WA _ _ _ _ w)) ?_
  refine AH hB U U (A0 U) (by omega) U (A0 U) λ w M hX=>⟨?_,hX.st.low⟩
  unfold LX;rw[if_pos (hbk.1 h3)];rfl
 have hk:=λ e=>(by rw[h3]at hbk;simp at hbk;omega: ¬(c.kind=0\/c.kind=1\/c.kind=2)) e
 refine AB U (A0 U) (by omega) (λ h4=>?_) (λ h4=>?_)<;>simp only[zb]at h4
 ·refine BE U (A0 U) (by omega) Tryz.call321 U U (A0 U) (λ _ w M hX=>AB2 ⟨c.kind,c.many,[],c.s,c.neg,c.e⟩ w (hg.low hX.st.low) hb) U ?_
  refine AH hB U U (A0 U) (by omega) U (A0 U) λ w M hX=>⟨?_,hX.st.low⟩
  unfold LX;rw[if_neg hk,if_pos h4];rfl
 refine AB U (A0 U) (by omega) (λ h5=>?_) (λ h5=>?_)<;>simp only[zb]at h5
 ·refine BE U (A0 U) (by omega) Tryz.call257 U U (A0 U) (λ _ w M hX=>kS c.s w (hg.low hX.st.low) (by omega)) U ?_
  refine DT (.v (.bool (decide ((⟨c.kind,c.many,[],c.s,c.neg,c.e⟩:Nd)=⟨c.kind,0,[],c.s,false,0⟩)))) U (A0 U) (by omega) U (λ w M hX=>PV.bin (AT (v:=KY ⟨c.kind,c.many,[],c.s,c.neg,c.e⟩) U (A0 U)) (AT (v:=KY ⟨c.kind,0,[],c.s,false,0⟩) U (A0 U)) (λ _ w _=>WA _ _ _ _ w)) ?_
  refine AH hB U U (A0 U) (by omega) U (A0 U) λ w M hX=>⟨?_,hX.st.low⟩
  unfold LX;rw[if_neg hk,if_neg h4,if_pos h5];rfl
 refine HH 0 (λ s=> ∃b:Bool,(b=true↔(c.kind=5\/c.kind=6))/\s=⟨[],[(1,.box bb [I c.kind,I c.many,.v (str []),.v (str c.s),.v (.bool c.neg),I c.e] 46)],[Z 1 (.bx 1 bb 0),Z 33 (.v (.bool b))]⟩) U (A0 U) (by omega) U (λ h1=>?_) (λ h1=>?_) ?_
 ·exact BF _ U (A0 U) (by omega) U ⟨_,by simp only[zb]at h1 ⊢;omega,rfl⟩
 ·exact BF _ U (A0 U) (by omega) U ⟨_,by simp only[zb]at h1 ⊢;omega,rfl⟩
 rintro _ ⟨b2,hbk2,rfl⟩
 refine AB U (A0 U) (by omega) (λ h6=>?_) (λ h6=>?_)
 ·refine DT (.v (.bool (decide ((⟨c.kind,c.many,[],c.s,c.neg,c.e⟩:Nd)=⟨c.kind,c.many,[],[],false,0⟩)))) U (A0 U) (by omega) U (λ w M hX=>PV.bin (AT (v:=KY ⟨c.kind,c.many,[],c.s,c.neg,c.e⟩) U (A0 U)) (AT (v:=KY ⟨c.kind,c.many,[],[],false,0⟩) U (A0 U)) (λ _ w _=>WA _ _ _ _ w)) ?_
  refine AH hB U U (A0 U) (by omega) U (A0 U) λ w M hX=>⟨?_,hX.st.low⟩
  unfold LX;rw[if_neg hk,if_neg h4,if_neg h5,if_pos (hbk2.1 h6)];rfl
 ·have hk2: ¬(c.kind=5\/c.kind=6):=λ e=>by have:=hbk2.2 e;rw[h6]at this;cases this
  refine AH hB U U (A0 U) (by omega) U (A0 U) λ w M hX=>⟨?_,hX.st.low⟩
  unfold LX;rw[if_neg hk,if_neg h4,if_neg h5,if_neg hk2];rfl
theorem AB4(x:C3)(w:World):Calls Tryz.prog 318 [.agg x.cells.toArray].toArray w λ e w'=>e= .returned (.bool (decide (0<x.left)))/\Ext w w':=by
 refine B3 AX Tryz.func318 U Tryz.ntmps318 [] [] [.ag [I x.kind,I x.left,.v (.bool x.first),.v (str x.last)]] U (GG w) AA (λ B hB=>?_) U
 refine F6 1 U (A0 U) (by omega) U U (A0 U) λ bb=>?_
 exact AH hB U U (A0 U) (by omega) U (A0 U) λ w M hX=>⟨rfl,hX.st.low⟩
theorem AB5(v:Value)(l:List C3)(w:World)(M:Mem)(hM:Sat w M)(hl:Sl M 4 l.length v (l.flatMap C3.cells))(hb:len l<=1099511627776):
    Calls Tryz.prog 322 [v,.func (.func 318) #[] #[]].toArray w λ e w'=>(∃k:Int,e= .returned (i64 k)/\(0<=k↔l.any (λ x=>decide (0<x.left))=true))/\Ext w w':=by
 have hl0:=A8 l
 refine B3 (Hr:=[]) AX Tryz.func322 U Tryz.ntmps322 [(0,kn v 4 l C3.cells)] [] [.sl 0 v,.v (.func (.func 318) #[] #[])] U (St.start hM) (fc 0 hl C3.BZ AA) (λ B hB=>?_) U
 refine EA (σ:=Int) (λ k=>⟨[(0,kn v 4 l C3.cells)],[],[Z 0 (.sl 0 v),Z 1 (.v (.func (.func 318) #[] #[])),Z 7 (I (len l)),Z 8 (I k)]⟩) (λ k=>0<=k/\k<=len l/\ ∀x∈Eng.sub l 0 k,¬0<x.left) (λ k=>(len l-k).toNat) 0 rfl (A0 rfl) (by omega) rfl ⟨by omega,by omega,λ x hx=>by cases hx⟩ ?_
 intro k ⟨h0,h1,hno⟩
 refine AB U (A0 U) (by omega) (λ hb1=>?_) (λ hb1=>?_)<;>simp only[zb]at hb1
 ·refine B9 [] (λ _:Unit=>.v (.bool (decide (0<(at' l k).left)))) [] (λ _=>[]) (Fg:=λ _=>[]) (pu:=λ _=>True) U (A0 U) (by omega) U Tryz.call318 U U (A0 U) U (λ w M hS hF=>(AB4 (at' l k) w).mono λ e w' ⟨he,hx⟩=>⟨(),M,he,trivial,Mem.le.refl _,hS.ext hx,AA⟩) (λ _=>rfl) (λ _=>rfl) λ _ _=>?_
  refine AB U (A0 U) (by omega) (λ hb2=>?_) (λ hb2=>?_)<;>simp only[zb]at hb2
  ·exact AH hB U U (A0 U) (by omega) U (A0 U) λ w M hX=>⟨⟨k,rfl,λ _=>List.any_eq_true.2 ⟨at' l k,at_mem h0 hb1,by simpa using hb2⟩,λ _=>h0⟩,hX.st.low⟩
  ·exact DO (k+1) U (A0 U) (by omega) U ⟨by omega,by omega,λ x hx=>by
    rw[OZ h0 hb1]at hx
    rcases List.mem_append.1 hx with hx|hx
    ·exact hno x hx
    ·rw[List.mem_singleton.1 hx];omega⟩ (by omega)
 ·rw[LP (by omega)]at hno
  exact AH hB U U (A0 U) (by omega) U (A0 U) λ w M hX=>⟨⟨-1,rfl,λ h=>by omega,λ h=>by
   obtain⟨x,hx,h2⟩:=List.any_eq_true.1 h
   exact absurd (by simpa using h2) (hno x hx)⟩,hX.st.low⟩
end Go.Proofs.YtmjpjbmeamnfpaaGreatDoor
set_option maxRecDepth 100000
namespace Go.Eng
theorem kT: ∀(f:Nat) (s:A1) (p:List Sp) (i:Int),len (II f s p i).1<=len p+f
 |0,s,p,i=>by show len p<=_;omega
 |f+1,s,p,i=>by
  unfold II
  split
  ·split
   ·show len p<=_;omega
   ·have:=kT f s (p++[(ER s i).1]) (i+(ER s i).2)
    rw[AG,AK,len_nil]at this
    push_cast;omega
  ·show len p<=_;omega
theorem kU(s:A1):len (H8 s).1<=20:=by
 unfold H8
 split
 ·show(0:Int)<=_;omega
 ·split
  ·show(0:Int)<=_;omega
  ·have:=kT 20 s [] 0
   rw[len_nil]at this
   show len (II 20 s [] 0).1<=20;omega
end Go.Eng
namespace Go.Proofs.YtmjpjbmeamnfpaaGreatDoor
open Go.Eng
theorem AB6(x:Sp)(w:World):Calls Tryz.prog 288 [.agg x.cells.toArray].toArray w λ e w'=>e= .returned (.bool x.part)/\Ext w w':=by
 refine B3 AX Tryz.func288 U Tryz.ntmps288 [] [] [.ag [.v (.bool x.part),.v (str x.name),I x.n]] U (GG w) AA (λ B hB=>?_) U
 refine F6 1 U (A0 U) (by omega) U U (A0 U) λ bb=>?_
 exact AH hB U U (A0 U) (by omega) U (A0 U) λ w M hX=>⟨rfl,hX.st.low⟩
theorem AB7(v:Value)(l:List Sp)(w:World)(M:Mem)(hM:Sat w M)(hl:Sl M 3 l.length v (l.flatMap Sp.cells))(hb:len l<=1099511627776):
    Calls Tryz.prog 304 [v,.func (.func 288) #[] #[]].toArray w λ e w'=>(∃k:Int,e= .returned (i64 k)/\(0<=k↔l.any (λ x=>x.part)=true))/\Ext w w':=by
 have hl0:=A8 l
 refine B3 (Hr:=[]) AX Tryz.func304 U Tryz.ntmps304 [(0,kn v 3 l Sp.cells)] [] [.sl 0 v,.v (.func (.func 288) #[] #[])] U (St.start hM) (fc 0 hl Sp.BZ AA) (λ B hB=>?_) U
 refine EA (σ:=Int) (λ k=>⟨[(0,kn v 3 l Sp.cells)],[],[Z 0 (.sl 0 v),Z 1 (.v (.func (.func 288) #[] #[])),Z 7 (I (len l)),Z 8 (I k)]⟩) (λ k=>0<=k/\k<=len l/\ ∀x∈Eng.sub l 0 k,x.part≠true) (λ k=>(len l-k).toNat) 0 rfl (A0 rfl) (by omega) rfl ⟨by omega,by omega,λ x hx=>by cases hx⟩ ?_
 intro k ⟨h0,h1,hno⟩
 refine AB U (A0 U) (by omega) (λ hb1=>?_) (λ hb1=>?_)<;>simp only[zb]at hb1
 ·refine B9 [] (λ _:Unit=>.v (.bool (at' l k).part)) [] (λ _=>[]) (Fg:=λ _=>[]) (pu:=λ _=>True) U (A0 U) (by omega) U Tryz.call288 U U (A0 U) U (λ w M hS hF=>(AB6 (at' l k) w).mono λ e w' ⟨he,hx⟩=>⟨(),M,he,trivial,Mem.le.refl _,hS.ext hx,AA⟩) (λ _=>rfl) (λ _=>rfl) λ _ _=>?_
  refine AB U (A0 U) (by omega) (λ hb2=>?_) (λ hb2=>?_)
  ·exact AH hB U U (A0 U) (by omega) U (A0 U) λ w M hX=>⟨⟨k,rfl,λ _=>List.any_eq_true.2 ⟨at' l k,at_mem h0 hb1,hb2⟩,λ _=>h0⟩,hX.st.low⟩
  ·exact DO (k+1) U (A0 U) (by omega) U ⟨by omega,by omega,λ x hx=>by
    rw[OZ h0 hb1]at hx
    rcases List.mem_append.1 hx with hx|hx
    ·exact hno x hx
    ·rw[List.mem_singleton.1 hx,hb2];decide⟩ (by omega)
 ·rw[LP (by omega)]at hno
  exact AH hB U U (A0 U) (by omega) U (A0 U) λ w M hX=>⟨⟨-1,rfl,λ h=>by omega,λ h=>by
   obtain⟨x,hx,h2⟩:=List.any_eq_true.1 h
   exact absurd h2 (hno x hx)⟩,hX.st.low⟩
theorem AB8(v:Value)(l:List Sp)(w:World)(M:Mem)(hM:Sat w M)(hl:Sl M 3 l.length v (l.flatMap Sp.cells))(hb:len l<=1099511627776):
  Calls Tryz.prog 287 [v,.func (.func 288) #[] #[]].toArray w λ e w'=>e= .returned (.bool (l.any λ x=>x.part))/\Ext w w':=by
 refine B3 (Hr:=[]) AX Tryz.func287 U Tryz.ntmps287 [(0,kn v 3 l Sp.cells)] [] [.sl 0 v,.v (.func (.func 288) #[] #[])] U (St.start hM) (fc 0 hl Sp.BZ AA) (λ B hB=>?_) U
 refine B9 [] (λ k:Int=>I k) [] (λ _=>[]) (Fg:=λ _=>[]) (pu:=λ k=>0<=k↔l.any (λ x=>x.part)=true) U (A0 U) (by omega) U Tryz.call304 U U (A0 U) U (λ w M hS hF=>(AB7 v l w M hS.sat (hF.get (k:=0) U).sl hb).mono λ e w' ⟨⟨k,he,hk⟩,hx⟩=>⟨k,M,he,hk,Mem.le.refl _,hS.ext hx,AA⟩) (λ _=>rfl) (λ _=>rfl) λ k hk=>?_
 refine AH hB U U (A0 U) (by omega) U (A0 U) λ w M hX=>⟨?_,hX.st.low⟩
 suffices h:decide (0<=k)=l.any (λ x=>x.part) by rw[<-h];rfl
 cases h:l.any (λ x=>x.part)with
 |true=>simpa using hk.2 h
 |false=>rw[h]at hk;simpa using hk
theorem kV{w0 wv:World}{M0 M:Mem}{Rs:List HO}(s:A1)(hS:St w0 M0 wv M Rs)(hg:Gl w0)(hb:len s<=200000000000):
  Calls Tryz.prog 258 [str s].toArray wv (CX w0 M0 M Rs (λ u:Value=>.tuple #[u,.bool (HY s).2]) (λ _=>True) (λ u=>[(1,kn u 3 (HY s).1 Sp.cells)]) λ _=>[]):=by
 refine B3 (Hr:=Rs) AX Tryz.func258 U Tryz.ntmps258 [] [] [.v (str s)] U hS AA (λ B hB=>?_) U
 refine B9 [] (λ u:Value=>.tu [.sl 1 u,I (H8 s).2.1,I (H8 s).2.2]) [1] (λ _=>[]) (Fg:=λ u=>[(1,kn u 3 (H8 s).1 Sp.cells)]) U (A0 U) (by omega) U Tryz.call286 U U (A0 U) U (λ w M hS hF=>AA0 s hS hg hb) (λ _=>rfl) (λ _=>rfl) λ u _=>?_
 refine BE U (A0 U) (by omega) Tryz.call287 U U (A0 U) (λ _ w M hX=>AB8 u (H8 s).1 w M hX.st.sat (hX.sl 1 U) (by have:=kU s;omega)) U ?_
 refine AH hB U U (A0 U) (by omega) U (A0 U) λ w M' hX=>⟨u,M',rfl,trivial,hX.le,hX.C5 [] U,C0 (hX.f.get (k:=1) U) AA⟩
theorem AB9(v:Value)(l:List C3)(w:World)(M:Mem)(hM:Sat w M)(hl:Sl M 4 l.length v (l.flatMap C3.cells))(hb:len l<=1099511627776):
  Calls Tryz.prog 317 [v,.func (.func 318) #[] #[]].toArray w λ e w'=>e= .returned (.bool (l.any λ x=>decide (0<x.left)))/\Ext w w':=by
 refine B3 (Hr:=[]) AX Tryz.func317 U Tryz.ntmps317 [(0,kn v 4 l C3.cells)] [] [.sl 0 v,.v (.func (.func 318) #[] #[])] U (St.start hM) (fc 0 hl C3.BZ AA) (λ B hB=>?_) U
 refine B9 [] (λ k:Int=>I k) [] (λ _=>[]) (Fg:=λ _=>[]) (pu:=λ k=>0<=k↔l.any (λ x=>decide (0<x.left))=true) U (A0 U) (by omega) U Tryz.call322 U U (A0 U) U (λ w M hS hF=>(AB5 v l w M hS.sat (hF.get (k:=0) U).sl hb).mono λ e w' ⟨⟨k,he,hk⟩,hx⟩=>⟨k,M,he,hk,Mem.le.refl _,hS.ext hx,AA⟩) (λ _=>rfl) (λ _=>rfl) λ k hk=>?_
 refine AH hB U U (A0 U) (by omega) U (A0 U) λ w M hX=>⟨?_,hX.st.low⟩
 suffices h:decide (0<=k)=l.any (λ x=>decide (0<x.left)) by rw[<-h];rfl
 cases h:l.any (λ x=>decide (0<x.left))with
 |true=>simpa using hk.2 h
 |false=>rw[h]at hk;simpa using hk
abbrev kW(u:Value)(l:List C3):HX:=.pv 333 (kn u 4 l C3.cells) C3.BZ
theorem AC0(v:Value)(c:Nd)(w:World)(M:Mem)(hM:Sat w M)(hg:Gl w)(hl:(kn v 6 [c] Nd.cells).ok M)(hb:len c.s<=1048576):
    Calls Tryz.prog 311 [v].toArray w λ e w'=>e= .returned (.bool (KZ c))/\Ext w w':=by
 refine B3 (Hr:=[]) AX Tryz.func311 U Tryz.ntmps311 [(0,kn v 6 [c] Nd.cells)] [] [.sl 0 v] U (St.start hM) (C0 hl AA) (λ B hB=>?_) U
 have hl1:len [c]=1:=rfl
 have hl2:len [(⟨5,1,false,[]⟩:C3)]=1:=rfl
 refine ML 3 [(⟨5,1,false,[]⟩:C3)] C3.cells 4 333 C3.BZ U (A0 U) (by omega) U (A0 U) (λ w=>by kernel_rfl) U λ u=>?_
 refine EA (σ:=Int×Value×List C3) (λ(k,u,l)=>⟨[(0,kn v 6 [c] Nd.cells)],[(3,kW u l)],[Z 0 (.sl 0 v),Z 3 (.sl 3 u),Z 10 (.sl 0 v),Z 11 (I 1),Z 12 (I k)]⟩) (λ(k,u,l)=>(k=0/\l=[⟨5,1,false,[]⟩])\/(k=1/\l=[⟨5,0,false,[]⟩,⟨c.kind,c.many,true,[]⟩]/\LX c=true/\c.name=[])) (λ(k,u,l)=>(1-k).toNat) (0,u,[⟨5,1,false,[]⟩]) U (A0 U) (by omega) U (.inl ⟨rfl,rfl⟩) ?_
 rintro⟨k,u,l⟩ (⟨rfl,rfl⟩|⟨rfl,rfl,hpl,hnm⟩)
 ·refine AB U (A0 U) (by omega) (λ hb1=>?_) (λ hb1=>?_)
  ·refine CL 5 U (A0 U) (by omega) Tryz.zeroValue46 U λ b5=>?_
   refine EA (σ:=Unit) (λ _=>⟨[(0,kn v 6 [c] Nd.cells)],[(5,.box b5 [I c.kind,I c.many,.v (str c.name),.v (str c.s),.v (.bool c.neg),I c.e] 46),(3,kW u [⟨5,1,false,[]⟩])],[Z 0 (.sl 0 v),Z 3 (.sl 3 u),Z 10 (.sl 0 v),Z 11 (I 1),Z 12 (I 0),Z 5 (.bx 5 b5 0)]⟩) (λ _=>True) (λ _=>0) () U (A0 U) (by omega) U trivial ?_
   intro _ _
   refine AB U (A0 U) (by omega) (λ hb2=>?_) (λ hb2=>?_)
   ·cases hb2
   refine BE U (A0 U) (by omega) Tryz.call316 U U (A0 U) (λ _ w M hX=>AB3 c w (hg.low hX.st.low) (by omega)) U ?_
   refine AB U (A0 U) (by omega) (λ hb3=>?_) (λ hb3=>?_)<;>simp only[zb]at hb3
   ·refine AH hB U U (A0 U) (by omega) U (A0 U) λ w M hX=>⟨?_,hX.st.low⟩
    have e:KZ c=false:=by
     unfold KZ
     rcases hb3 with(h|h)|h
     ·cases h
     ·rw[h];rfl
     ·rw[show decide (c.many<=0)=false by simp;omega,Bool.and_false]
    rw[e];rfl
   have hpl:=hb3.1.2
   have hm1:=hb3.2
   refine AB U (A0 U) (by omega) (λ hb4=>?_) (λ hb4=>?_)<;>simp only[zb]at hb4
   ·refine AH hB U U (A0 U) (by omega) U (A0 U) λ w M hX=>⟨?_,hX.st.low⟩
    have e:KZ c=false:=by unfold KZ;rw[show decide (c.name=[])=false by simpa using hb4.2,Bool.and_false,Bool.false_and]
    rw[e];rfl
   have hnm:c.name=[]:=hb4.resolve_left (by show ¬(5:Int)=6;decide)
   refine LC U (A0 U) (by omega) EV (by decide+kernel) ?_
   refine LF U (A0 U) (by omega) Tryz.call257 U U (A0 U) (λ hW w M hX=>(absurd hW (by decide):Calls Tryz.prog 257 [str c.name].toArray w λ e w'=>e= .returned (.bool true)/\Ext w w')) U ?_
   refine LD U (A0 U) (by omega) ?_
   refine AB U (A0 U) (by omega) (λ hb5=>?_) (λ hb5=>?_)
   ·cases hb5
   have hl3:(at' [(⟨5,1,false,[]⟩:C3)] (len [(⟨5,1,false,[]⟩:C3)]-1)).left=1:=rfl
   refine OA (⟨5,0,false,[]⟩:C3) U (A0 U) (by omega) U (A0 U) U Tryz.sizeOf3 U U U (by omega) λ x5 hx5=>?_
   replace hx5:x5=[⟨5,0,false,[]⟩]:=hx5
   subst hx5
   have hl4:len [(⟨5,0,false,[]⟩:C3)]=1:=rfl
   refine KN [6,9] 3 (λ _ _ _ _ _ h=>h) U (A0 U) (by omega) EV (by decide+kernel) ?_
   refine CS 6 U (A0 U) (by omega) U U ?_
   refine OA (⟨5,0,false,[]⟩:C3) U (A0 U) (by omega) U (A0 U) U Tryz.sizeOf4 U U U (by omega) λ x5 hx5=>?_
   replace hx5:x5=[⟨5,0,false,[]⟩]:=hx5
   subst hx5
   refine CE U (A0 U) (by omega) ?_
   refine CS 9 U (A0 U) (by omega) U U ?_
   refine OA (⟨5,0,false,c.name⟩:C3) U (A0 U) (by omega) U (A0 U) U Tryz.sizeOf9 U U U (by omega) λ x5 hx5=>?_
   replace hx5:x5=[⟨5,0,false,c.name⟩]:=hx5
   subst hx5
   rw[hnm]
   refine CE U (A0 U) (by omega) ?_
   refine HQ U (A0 U) (by omega) U U ?_
   refine EN 6 [(⟨c.kind,c.many,true,[]⟩:C3)] C3.cells 4 333 C3.BZ U (A0 U) (by omega) U (A0 U) (λ w=>by kernel_rfl) U λ v6=>?_
   refine KB 40 U (A0 U) (by omega) U (A0 U) U Tryz.underlying334 Tryz.type333 U U C3.cells_one (by simp only[AK,len_nil];omega) λ v'=>?_
   exact DO (1,v',[⟨5,0,false,[]⟩,⟨c.kind,c.many,true,[]⟩]) U (A0 U) (by omega) U (.inr ⟨rfl,rfl,hpl,rfl⟩) (by show Int.toNat _<Int.toNat _;omega)
  ·cases hb1
 ·refine AB U (A0 U) (by omega) (λ hb1=>?_) (λ hb1=>?_)
  ·cases hb1
  ·have hl5:len [(⟨5,0,false,[]⟩:C3),⟨c.kind,c.many,true,[]⟩]=2:=rfl
   refine FW 3 U ?_
   refine BE U (A0 U) (by omega) Tryz.call317 U U (A0 U) (λ _ w M hX=>AB9 u [⟨5,0,false,[]⟩,⟨c.kind,c.many,true,[]⟩] w M hX.st.sat (hX.sl 3 U) (by omega)) U ?_
   refine AH hB U U (A0 U) (by omega) U (A0 U) λ w M hX=>⟨?_,hX.st.low⟩
   have e:KZ c=(decide (0<len [c])&& !([(⟨5,0,false,[]⟩:C3),⟨c.kind,c.many,true,[]⟩].any λ x=>decide (0<x.left))):=by
    unfold KZ
    rw[hpl,hnm,hl1]
    simp
    cases h:decide (c.many<=0)<;>simp at h ⊢ <;>omega
   rw[e];rfl
theorem AC1(c:Nd)(w:World)(M:Mem)(hM:Sat w M)(hg:Gl w)(hb:len c.s<=1048576):
   Calls Tryz.prog 301 [MB c].toArray w λ e w'=>e= .returned (.bool (decide (c.kind<5)&&KZ c))/\Ext w w':=by
 refine B3 (Hr:=[]) AX Tryz.func301 U Tryz.ntmps301 [] [] [KY c] U (St.start hM) AA (λ B hB=>?_) U
 refine F6 1 U (A0 U) (by omega) U U (A0 U) λ bb=>?_
 refine IX (.v (.slice none 0 0)) U (A0 U) (by omega) U (λ hb1=>?_) (λ hb1=>?_)
 ·refine EN 2 [c] Nd.cells 6 46 Nd.BZ U (A0 U) (by omega) U (OE hb1 U) (λ w=>by kernel_rfl) U λ v2=>?_
  refine BE U (A0 U) (by omega) Tryz.call311 U U (A0 U) (λ _ w M hX=>AC0 v2 c w M hX.st.sat (hg.low hX.st.low) (hX.f.get (k:=2) U) hb) U ?_
  exact AH hB U U (A0 U) (by omega) U (A0 U) λ w M hX=>⟨rfl,hX.st.low⟩
 ·refine IX (.v (.bool false)) U (A0 U) (by omega) U (λ h=>absurd (hb1.symm.trans h) (by decide)) (λ _=>?_)
  exact AH hB U U (A0 U) (by omega) U (A0 U) λ w M hX=>⟨by rw[hb1];rfl,hX.st.low⟩
theorem AC2(n:Int)(c:Nd)(w:World)(M:Mem)(hM:Sat w M)(hg:Gl w)(hb:len c.s<=1048576):
  Calls Tryz.prog 284 [.agg (i64 n::c.cells).toArray].toArray w λ e w'=>e= .returned (.bool (a8 n c))/\Ext w w':=by
 refine B3 (Hr:=[]) AX Tryz.func284 U Tryz.ntmps284 [] [] [.ag [I n,I c.kind,I c.many,.v (str c.name),.v (str c.s),.v (.bool c.neg),I c.e]] U (St.start hM) AA (λ B hB=>?_) U
 refine F6 1 U (A0 U) (by omega) U U (A0 U) λ bb=>?_
 refine BE U (A0 U) (by omega) Tryz.call301 U U (A0 U) (λ _ w M hX=>AC1 c w M hX.st.sat (hg.low hX.st.low) hb) U ?_
 refine AH hB U U (A0 U) (by omega) U (A0 U) λ w M hX=>⟨?_,hX.st.low⟩
 unfold a8
 rfl
end Go.Proofs.YtmjpjbmeamnfpaaGreatDoor
namespace Go.Eng
open Go.RowKit
def cw(c:Cx):Cx:= { c with W:=Wk.wide c.P}
section
variable {c:Cx} {B:Exit->Act->World->Prop} {k k':List Fr} {m:Md} {s s':XS} {O:Prop} {E:List Ck} {l:List Oper}
theorem AC3{a:Act}{w:World}(h:FJ c s a w):FJ (cw c) s a w:=let⟨h1,M,h2⟩:=h;⟨h1,M,h2.st,h2.f,h2.le⟩
theorem AC4{a:Act}{w:World}(h:FJ (cw c) s a w):FJ c s a w:=let⟨h1,M,h2⟩:=h;⟨h1,M,h2.st,h2.f,h2.le⟩
theorem kX(es:List Nat)(n:Nat){id:Nat}(h:run c.T c.N k m s=⟨k',.code (.region id ⟨l⟩ true),s',O,E⟩)(hE:A6 E)(hO:O)(hm:c.P.follows .mixedOrders=true)(hB:(NW l []&&DV (λ e=>Nat.blt e l.length) es)=true)(hn:DG (cw c) (post c B k') [] l es n [] [] [] [] s'):XG c B k m s:=by
 rw[Bool.and_eq_true]at hB
 exact CH h hE hO λ a w hs=>c.W.drawS (eX (c:=cw c) (B:=post c B k') (k:=[]) (id:=id) es n (λ _ _ _ _ _ h=>h) hm hB.1 hB.2 hn (AC3 hs))
theorem aA(h:XG c B k .next s):XG (cw c) (post c B k) [] .next s:=λ a w hs=>h a w (AC4 hs)
end
def aB(c:Cx)(Js:XS->Prop):Exit->Act->World->Prop
 | .ret,a,w=> ∃s,Js s/\FJ c s a w
 |_,_,_=>False
theorem AC5{c:Cx}{Js:XS->Prop}: ¬LetsOut (aB c Js):=λ⟨_,_,h⟩=>h
theorem VD{c:Cx}{k:List Fr}{m:Md}{s s':XS}{O:Prop}{E:List Ck}{Js:XS->Prop}(s2:XS)(h:run c.T c.N k m s=⟨[],.ret,s',O,E⟩)(hE:A6 E)(hO:O)(h0:(⟨IU s2.F s'.F,IV s2.H s'.H,FK (keys s2.L) s'.L⟩:XS)=s2)(hJ:Js s2):XG c (aB c Js) k m s:=
 CH h hE hO λ a w hs=>⟨s2,hJ,hs.sub (XS.O6 h0)⟩
def kY(P:Program)(gf:FuncId)(lb:List Value)(n:Nat)(w0:World)(M0:Mem)(Rs:List HO){τ:Type}(av:Nat->τ->List XV)(pa:Nat->τ->Prop)(FA:Nat->τ->List (Nat×Kn))(w:World)(M:Mem):Prop:=
 ∀(γ:Type) (ub:γ->Bool) (I:Nat->γ->Prop) (J:γ->Prop) (Hy:γ->List HO) (Fy:γ->List (Nat×Kn)) (l:Nat) (g0:γ),(∃x1 x2 x3 x4 x5:γ->HO,∀g,Hy g=[x1 g,x2 g,x3 g,x4 g,x5 g])->St w0 M0 w M (Hy g0++Rs)->B7 M (Fy g0)->I 0 g0->
  (∀k g y w' M',k<n->I k g->pa k y->St w0 M0 w' M' (Hy g++Rs)->M.le M'->B7 M' (FA k y)->B7 M' (Fy g)->
   dR P l ((av k y).map XV.d).toArray w' (CX w0 M0 M' Rs (λ g:γ=>.bool (ub g)) (λ g=>if ub g=true then I (k+1) g else J g) Fy Hy))->
  Calls P gf (.func (.yield l) #[] #[]::lb).toArray w (CX w0 M0 M Rs (λ _:γ=>.tuple #[]) (λ g=>I n g\/J g) Fy Hy)
theorem AC6{c:Cx}{B:Exit->Act->World->Prop}{k k':List Fr}{m:Md}{s s':XS}{O:Prop}{E:List Ck}{σ τ:Type}(Sf:σ->XS)(I:Nat->σ->Prop)(J:σ->Prop)(g0:σ){gop:Operand}{ps:List Tmp}{assign body:Code}{gf:FuncId}{lb:List Value}{n:Nat}{av:Nat->τ->List XV}{pa:Nat->τ->Prop}{FA:Nat->τ->List (Nat×Kn)}{E1:List Ck}(Sa:Nat->σ->τ->XS)
  (hw: ∀x Q a w,x.wp c.P Q a w->c.W.wp x Q a w) (h:run c.T c.N k m s=⟨k',.code (.rangeFunc gop ⟨ps⟩ assign body),s',O,E⟩) (hE:A6 E) (hO:O)
  (hg:BI s'.L .t gop=some (.v (.func (.func gf) #[] ⟨lb⟩),E1)) (hE1:A6 E1) (ct:CT c.P gf)
  (h0:(⟨IU (Sf g0).F s'.F,IV (Sf g0).H s'.H,FK (keys (Sf g0).L) s'.L⟩:XS)=Sf g0) (hI:I 0 g0) (hL: ∀g,(Sf g).L=(Sf g0).L)
  (hH: ∃x1 x2 x3 x4:σ->HO,∀g,HD (Sf g).H=[x1 g,x2 g,x3 g,x4 g]) (hit: ∀w M D w',D4 c s'.F s'.H w M->kY c.P gf lb n c.w0 c.M0 (.raw D DJ::c.Hr) av pa FA w' M)
  (hps: ∀k y,OG c.N ps (av k y)=true)
  (ha: ∀k g y l D r M,k<n->I k g->pa k y->XG (cR c l D r M) nB [.loop (λ t=>t=Sa k g y)] (.code assign) ⟨FA k y++(Sf g).F,(Sf g).H,pz ps (av k y) (Sf g).L⟩) (hsa:CR assign=true)
  (hb: ∀k g y l D r M,k<n->I k g->pa k y->XG (cR c l D r M) (aB (cR c l D r M) (λ t=> ∃g',t=Sf g'/\J g')) [.loop (λ t=> ∃g',t=Sf g'/\I (k+1) g')] (.code body) (Sa k g y)) (hsb:CR body=true)
  (hn: ∀D g a w,I n g->AF a c.N (Sf g).L.d->(∃M,St c.w0 c.M0 w M (HD (Sf g).H++(.raw D DJ::c.Hr))/\B7 M (Sf g).F/\c.M1.le M)->post c B k' .normal (CM [⟨.collected D,#[]⟩] a) w)
  (hr: ∀D g a w,J g->AF a c.N (Sf g).L.d->(∃M,St c.w0 c.M0 w M (HD (Sf g).H++(.raw D DJ::c.Hr))/\B7 M (Sf g).F/\c.M1.le M)->post c B k' .ret (CM [⟨.collected D,#[]⟩] a) w):XG c B k m s:=by
 refine CH h hE hO λ a w hs=>?_
 obtain⟨hsl,M,hX⟩:=hs
 have hX0:=hX.sub (XS.O6 h0)
 have hslL:=dJ hsl (XS.O6 h0).1
 refine hw _ _ _ _ ((wpIn_wide (n:=1)).1 (wpIn_rangeFunc λ fn _=>?_))
 obtain⟨rec,hrec⟩: ∃rec:LoopState->Option Code->Loop,rec=λ st pe=> { state:=st,pending:=pe,fn,tmps:=a.tmps,params:=⟨ps⟩,assign,body,defers:=w.heap.size}:=⟨_,rfl⟩
 obtain⟨rc,hrc⟩: ∃rc:Bool->Obj,rc=λ b=>if b=true then .loop (rec .ready none)else .loop (rec .done (some .ret)):=⟨_,rfl⟩
 have hrt:rc true= .loop (rec .ready none):=by rw[hrc];rfl
 have hrf:rc false= .loop (rec .done (some .ret)):=by rw[hrc];rfl
 have hS1:=(hX0.st.MA DJ).MA (rc true)
 rw[World.size_alloc]at hS1
 have hS2:=hS1.perm qR
 have hgv:a.eval gop= .func (.func gf) #[] ⟨lb⟩:=AT hg hE1 a c.N hsl U
 have pass: ∀(b:Bool) (x:Obj),∀ {A:List HO},(A++[HO.raw (w.heap.size+1) x])++(.raw w.heap.size DJ::c.Hr)=A++(.raw (w.heap.size+1) x:: .raw w.heap.size DJ::c.Hr):=λ _ _ _=>by simp
 refine⟨w.heap.size+1,[⟨.collected w.heap.size,#[]⟩],(w.alloc DJ).alloc (rc true),⟨.fn (.func gf) ⟨lb⟩,#[.func (.yield (w.heap.size+1)) #[] #[]]⟩,(w.alloc DJ).alloc (rc true),gf,
  (.func (.yield (w.heap.size+1)) #[] #[]::lb).toArray,(w.alloc DJ).alloc (rc true),by rw[hrt,hrec];exact run_enterLoop_outer _ _ _ _ _,?_,λ _ _=>trivial,?_,(λ h=>by cases h),callsIn_wide.2 ?_⟩
 ·simp only[resolve,hgv]
  simp[go_sem]
 ·simp[invoke,go_sem,ct]
 ·obtain⟨x1,x2,x3,x4,hx⟩:=hH
  refine(hit w M _ _ hX (Bool×σ) (λ g=>g.1) (λ k g=>g.1=true/\I k g.2) (λ g=>g.1=false/\J g.2) (λ g=>HD (Sf g.2).H++[.raw (w.heap.size+1) (rc g.1)]) (λ g=>(Sf g.2).F) (w.heap.size+1) (true,g0)
   ⟨λ g=>x1 g.2,λ g=>x2 g.2,λ g=>x3 g.2,λ g=>x4 g.2,λ g=>.raw (w.heap.size+1) (rc g.1),λ g=>by rw[hx];rfl⟩ (by rw[pass true];exact hS2) hX0.f ⟨rfl,hI⟩ λ kk g y w' M' hk hIg hp hS hle hFA hF=>?_).mono ?_
  ·obtain⟨gb,g⟩:=g
   obtain⟨hgb,hIg⟩:=hIg
   dsimp only at hgb hIg hF
   subst hgb
   dsimp only at hS
   rw[pass true,hrt]at hS
   have hi:(HD (Sf g).H++(HO.raw (w.heap.size+1) (.loop (rec .ready none)):: .raw w.heap.size DJ::c.Hr))[(HD (Sf g).H).length]? =some (.raw (w.heap.size+1) (.loop (rec .ready none))):=by simp
   have hl:=(hS.obj hi).2.1
   have hz:=dS ps (av kk y) (L:=(Sf g).L) (a:=a) (hps kk y) (by rw[hL];exact hslL)
   have hy:=run_yield (P:=c.P) (args:=((av kk y).map XV.d).toArray) hl (by rw[hrec];simp[dT (hps kk y)])
   refine⟨_,_,_,_,hy,roundIn_of_wpIn trivial ?_⟩
   have h1:=ha kk g y (w.heap.size+1) w.heap.size (.loop (rec .ready none)) M' hk hIg hp _ w' ⟨hz,M',hS,hFA.app hF,Mem.le.refl _⟩
   have h2:=h1 (TN qQ) hsa
   rw[hrec]
   dsimp only
   refine wpIn_mono (F:=FR (some (w.heap.size+1))) (by simpa using h2) λ e a1 w1 q=>?_
   cases e with
   |normal=>
    obtain⟨sa,rfl,hsat⟩:=q
    obtain⟨hl1,hsat1⟩:=XN (r':=.loop { rec .ready none with state:=.busy}) hsat
    refine⟨_,run_beginRound hl1 (by rw[hrec]),?_⟩
    have h4:=hb kk g y (w.heap.size+1) w.heap.size (.loop { rec .ready none with state:=.busy}) M' hk hIg hp a1 _ hsat1 (TN AC5) hsb
    refine wpIn_mono (F:=FR (some (w.heap.size+1))) h4 λ e a3 w3 q=>?_
    cases e with
    |normal=>
     obtain⟨sb,⟨g',rfl,hI'⟩,hsat3⟩:=q
     obtain⟨hl3,hsat4⟩:=XN (r':=rc true) hsat3
     have hr:=run_endRound (P:=c.P) none hl3
     refine⟨_,_,hr,?_⟩
     obtain⟨_,M3,hS6,hF6,hle6⟩:=hsat4
     refine⟨(true,g'),M3,rfl,⟨rfl,hI'⟩,hle6,?_,hF6⟩
     dsimp only
     rw[pass true]
     have e1:Obj.loop { { rec .ready none with state:=.busy}with state:=if(none:Option Code).isNone=true then LoopState.ready else LoopState.done,pending:=none}=rc true:=by rw[hrt,hrec];rfl
     rw[e1];exact hS6
    |ret=>
     obtain⟨sb,⟨g',rfl,hJ'⟩,hsat3⟩:=q
     obtain⟨hl3,hsat4⟩:=XN (r':=rc false) hsat3
     have hr:=run_endRound (P:=c.P) (some .ret) hl3
     refine⟨_,_,hr,?_⟩
     obtain⟨_,M3,hS6,hF6,hle6⟩:=hsat4
     refine⟨(false,g'),M3,rfl,⟨rfl,hJ'⟩,hle6,?_,hF6⟩
     dsimp only
     rw[pass true]
     have e1:Obj.loop { { rec .ready none with state:=.busy}with state:=if(some Code.ret:Option Code).isNone=true then LoopState.ready else LoopState.done,pending:=some .ret}=rc false:=by rw[hrf,hrec];rfl
     rw[e1];exact hS6
    |_=>exact q.elim
   |_=>exact q.elim
  ·rintro e W2 ⟨⟨gb,g⟩,M',rfl,hIn,hle,hS3,hF3⟩
   dsimp only at hIn hS3 hF3
   rw[pass true]at hS3
   have hi:(HD (Sf g).H++(HO.raw (w.heap.size+1) (rc gb):: .raw w.heap.size DJ::c.Hr))[(HD (Sf g).H).length]? =some (.raw (w.heap.size+1) (rc gb)):=by simp
   have hl:=(hS3.obj hi).2.1
   have hd:a.defers=[]:=hsl.CD
   have hupd: ∀a':Act,a'.defers=[]->CM [⟨.collected w.heap.size,#[]⟩] a'= { a' with defers:=[⟨.collected w.heap.size,#[]⟩]++a'.defers}:=λ a' h=>by unfold CM;rw[h];rfl
   have hS5: ∀o',St c.w0 c.M0 (W2.putObj (w.heap.size+1) o') M' (HD (Sf g).H++(.raw w.heap.size DJ::c.Hr)):=λ o'=>(hS3.XM hi o').drop _ (by
    rw[List.set_append_right _ _ (Nat.le_refl _),Nat.sub_self]
    exact List.Sublist.append (List.Sublist.refl _) (List.sublist_cons_self _ _))
   rcases hIn with⟨hgb,hIn⟩|⟨hgb,hJn⟩
   ·subst hgb
    rw[hrt]at hl
    have hend:=run_endLoop (P:=c.P) hl (by rw[hrec];simp)
    have hend2:(Instr.endLoop (w.heap.size+1)).run c.P W2= .ok none (W2.putObj (w.heap.size+1) (.loop { rec .ready none with state:=.exhausted})):=by rw[hend];rw[hrec]
    refine⟨none,_,hend2,?_⟩
    have:=hn w.heap.size g a (W2.putObj (w.heap.size+1) (.loop { rec .ready none with state:=.exhausted})) hIn (by rw[hL];exact hslL) ⟨M',hS5 _,hF3,hX.le.trans hle⟩
    rw[hupd a hd]at this
    exact this
   ·subst hgb
    rw[hrf]at hl
    have hend:=run_endLoop (P:=c.P) hl (by rw[hrec];simp)
    have hend2:(Instr.endLoop (w.heap.size+1)).run c.P W2= .ok (some .ret) (W2.putObj (w.heap.size+1) (.loop { rec .done (some .ret)with state:=.exhausted})):=by rw[hend];rw[hrec]
    refine⟨some .ret,_,hend2,?_⟩
    have:=hr w.heap.size g a (W2.putObj (w.heap.size+1) (.loop { rec .done (some .ret)with state:=.exhausted})) hJn (by rw[hL];exact hslL) ⟨M',hS5 _,hF3,hX.le.trans hle⟩
    rw[hupd a hd]at this
    exact wpIn_ret this
theorem AC7{P:Program}{N:Nat}{w0:World}{M0 M1:Mem}{Hr:List HO}{T:TT}{hT:DI P T}{B:Exit->Act->World->Prop}{k k':List Fr}{m:Md}{s s':XS}{O:Prop}{E:List Ck}{all:Array Oper}{rest:List Oper}{d:Nat}{ty:TypeId}{ps:String}{af:Array Edge}
  {γ:Type} (Hx:γ->List (Nat×HX)) (ub:γ->Bool) (ids:List Nat) {pu:γ->Prop} {Fg:γ->List (Nat×Kn)} {Hg:γ->List HO} {l:Nat} {xf:Operand} {E1 E2:List Ck} {xs:List Operand} {tys:Array TypeId} {vs:List XV} {A R:List (Nat×HX)} (ks:List Nat)
  (h:run T N k m s=⟨k',.ops all (⟨some d,.call ⟨.value xf,⟨xs⟩,tys⟩,ty,ps,af,none⟩::rest),s',O,E⟩) (hE:A6 E) (hO:O) (hf:BI s'.L .t xf=some (.v (.func (.yield l) #[] #[]),E1)) (hE1:A6 E1) (hd:Nat.blt d N=true) (hx:HG s'.L .t xs=some (vs,E2)) (hE2:A6 E2)
  (hA:IW ids s'.H=some (A,R)) (hc: ∀w M,St w0 M0 w M (HD A++(HD R++Hr))->B7 M s'.F->M1.le M->dR P l (vs.map XV.d).toArray w (CX w0 M0 M (HD R++Hr) (λ g:γ=>.bool (ub g)) pu Fg Hg)) (hH: ∀g,HD (Hx g)=Hg g)
  (hn: ∀g,pu g->XG ⟨P,N,w0,M0,M1,Hr,T,hT,.TP P none 1⟩ B k' (.ops all rest) ⟨OD ks (Fg g)++s'.F,Hx g++R,(d,.t,.v (.bool (ub g)))::s'.L⟩):XG ⟨P,N,w0,M0,M1,Hr,T,hT,.TP P none 1⟩ B k m s:=by
 refine CH h hE hO λ a w ⟨hs,M,hX⟩ hl hst=>?_
 rw[List.all_cons,Bool.and_eq_true]at hst
 have hSt:St w0 M0 w M (HD A++(HD R++Hr)):=hX.st.perm (by rw[<-List.append_assoc];exact(LA hA).append_right _)
 obtain⟨fn,tmps,assign,body,hy,hr⟩:=hc w M hSt hX.f hX.le
 unfold wpListIn
 rw[if_pos (show Region.wanted ⟨some d,.call ⟨.value xf,⟨xs⟩,tys⟩,ty,ps,af,none⟩ (yielded all a.tmps)=true from rfl)]
 refine⟨λ _ _=>trivial,?_⟩
 have key:=sM (P:=P) (w:=w) (AT hf hE1) (KA hx hE2) hs U (d:=some d) (tys:=tys) (ty:=ty) (ps:=ps) (af:=af) (gd:=none)
 rw[show(FR none).round=none from rfl,show ∀(o:Oper),Oper.semAt none a.eval o=execOp a.eval o from λ _=>rfl]
 have e1:(⟨xs⟩:Array Operand)=xs.toArray:=rfl
 rw[e1,key,hy]
 refine⟨(λ h=>by cases h),RoundIn.mono (R:=CX w0 M0 M (HD R++Hr) (λ g:γ=>.bool (ub g)) pu Fg Hg) hr λ e w' he=>?_⟩
 obtain⟨g,M',rfl,hp,hle,hS,hF⟩:=he
 have hs2:=QH hs hd (.v (.bool (ub g)))
 have e2:HD (Hx g++R)++Hr=Hg g++(HD R++Hr):=by rw[<-hH];unfold HD;rw[List.map_append,List.append_assoc]
 exact hn g hp _ w' ⟨hs2,M',by rw[e2];exact hS,(TJ hF).app (hX.f.mono hle),hX.le.trans hle⟩ hl hst.2
theorem KC.leave {P:Program}{T:TT}(hT:DI P T){fn:Func}{R:Ending->World->Prop}{Q:Exit->Act->World->Prop}(hB:KC P fn R Q){D N:Nat}{H:List (Nat×HX)}{Hr:List HO}{L:XE}{a:Act}{w0 w:World}{M0 M:Mem}{rs:List ResultVar}{vs:List XV}{E2:List Ck}
  (hS:St w0 M0 w M (HD H++(.raw D DJ::Hr))) (hs:AF a N L.d) (hr:fn.results=⟨rs⟩) (hl:LB T H L rs=some (vs,E2)) (hE2:A6 E2) (hR: ∀w',St w0 M0 w' M (HD H++Hr)->R (.returned (MM vs)) w'):Q .ret (CM (GZ D) a) w:=by
 have hi:(HD H++(HO.raw D DJ::Hr))[(HD H).length]? =some (.raw D DJ):=by simp
 have hD:=(hS.obj hi).2.1
 have hS5:St w0 M0 (w.putObj D (.deferred none)) M (HD H++Hr):=(hS.XM hi (.deferred none)).drop _ (by
  rw[List.set_append_right _ _ (Nat.le_refl _),Nat.sub_self]
  exact List.Sublist.append (List.Sublist.refl _) (List.sublist_cons_self _ _))
 refine hB.all .ret (CM (GZ D) a) w ?_
 show LeavesInM _ _ _ _ _ _ (a.defers++GZ D) _ _
 rw[hs.CD]
 exact⟨by simp,.inl ⟨D,_,rfl,run_takeDeferred hD,_,(UY (a:=a) hT hS5 hs hr hl hE2:(results fn a.tmps).run P _=_),hR _ hS5⟩⟩
theorem AC8{c:Cx}{k:List Fr}{m:Md}{s s':XS}{O:Prop}{E:List Ck}{fn:Func}{R:Ending->World->Prop}{B0:Exit->Act->World->Prop}{D dk:Nat}{H:List (Nat×HX)}{rs:List ResultVar}{vs:List XV}{E2:List Ck}(hB:KC c.P fn R B0)(hr:fn.results=⟨rs⟩)(h:run c.T c.N k m s=⟨[],.ret,s',O,E⟩)(hE:A6 E)(hO:O)
  (hH:s'.H=(dk,.ho (.raw D DJ))::H) (hl:LB c.T H s'.L rs=some (vs,E2)) (hE2:A6 E2) (hR: ∀w M,St c.w0 c.M0 w M (HD H++c.Hr)->B7 M s'.F->c.M1.le M->R (.returned (MM vs)) w):XG c (bD D B0) k m s:=
 CH h hE hO λ a w ⟨h1,M,h2⟩=>hB.leave c.hT (D:=D) (H:=H) (Hr:=c.Hr) (M:=M) (by
  have:=h2.st
  rw[hH]at this
  have e:HD ((dk,HX.ho (HO.raw D DJ))::H)++c.Hr= .raw D DJ::(HD H++c.Hr):=rfl
  rw[e]at this
  exact this.perm List.perm_middle) h1 hr hl hE2 λ w' h=>hR w' M h h2.f h2.le
end Go.Eng
