/-
  Parts Kq, put together and made short by wip/py/merge.py (mini.py).
-/
import Derived.Test.YtmjpjbmeamnfpaaGreatDoorZc32
import Derived.Test.YtmjpjbmeamnfpaaGreatDoorZc0
set_option linter.unusedVariables false
set_option linter.unusedSimpArgs false
set_option maxRecDepth 100000
namespace Go.Proofs.YtmjpjbmeamnfpaaGreatDoor
open Go.Eng
abbrev GH(k:Int)(fn:FuncId)(tw:List Tk->Int->Int->PR Tf)(f:Nat)(P:List Tk->Int->Prop):Prop:=
 ∀ {w0 wv:World} {M0 M:Mem} {Rs:List HO} {b:Nat} {v:Value} {l:List Tk} {i d:Int} {r:PR Tf},tw l d i=r->HA w0 wv M0 M Rs b v l i d->0<=d->d<=64->8*(len l-i)+k<=(f:Int)->P l i->Calls Tryz.prog fn [.pointer (some ⟨b,0,none⟩)].toArray wv (HW w0 M0 M Rs b v d r)
abbrev HY:List Tk->Int->Prop:=λ _ _=>True
structure JB (f:Nat):Prop where
 fil:GH 4 24 (EM A9 f) f HY
 pos:GH 3 49 (EC A9 f) f HY
 pri:GH 2 81 (GZ A9 f) f HY
 wor:GH 1 123 (G6 A9 f) f λ l i=>(A2 l i).kind=2
 eit:GH 3 163 (G7 A9 f) f HY
 bot:GH 2 214 (J1 A9 f) f HY
 sin:GH 1 249 (GM A9 f) f HY
theorem AO0{f:Nat}(H: ∀g,g<=f->JB g):GH 4 24 (EM A9 (f+1)) (f+1) HY:=by
 intro w0 wv M0 M Rs b v l i d r0 e0 h hd0 hd hf _
 have hh:=h
 obtain⟨hS,hl,hg,ok,h0,h1⟩:=h
 have hfew:=ok.E9
 have hl0:=AA l
 rw[EM]at e0
 refine B8 (Hr:=Rs) B3 Tryz.func24 U Tryz.ntmps24 [(0,kn v 9 l Tk.cells)] [(0,AW b v i d)] [.bx 0 b 0] U hS (fc 0 hl (λ _=>rfl) AF) (λ B hB=>?_) U
 cases hr:EC A9 f l d i with
 |er ec p=>
  rw[hr]at e0;subst e0
  exact BK [0] U (A0 U) (by omega) U Tryz.call49 U (A0 U) U (λ w M hS hF=>(H f (Nat.le_refl _)).pos hr ⟨hS,(hF.get (k:=0) U).sl,hg,ok,h0,h1⟩ hd0 hd (by omega) trivial) λ a w M hs hS hle=>BC _ (hB.p ⟨M,rfl,hS,hle⟩ a hs)
 |ok x j=>
  have g:=(EY ok A9 f).pos d i x j h0 h1 hr
  have hlt:=g.lt
  rw[hr]at e0
  simp only[PR.bind]at e0
  refine AU [0] (λ h:AJ=>.sl 1 h.v) [] (λ h=>[(0,AW b v j d),(1,B6 h.v x.flat)]) U (A0 U) (by omega) U Tryz.call49 U U (A0 U) U (λ w M hS hF=>(H f (Nat.le_refl _)).pos hr ⟨hS,(hF.get (k:=0) U).sl,hg,ok,h0,h1⟩ hd0 hd (by omega) trivial) (λ _=>rfl) (λ _=>rfl) λ h1' _=>?_
  refine D2 2 [h1'] BS 1 23 CL U (A0 U) (by omega) U (A0 U) (λ w=>by kernel_rfl) U λ v2=>?_
  refine FM 8 (GG [] []) (λ w M hX=>⟨Sl.nil M 1,DO,trivial⟩) ?_
  refine DI (σ:=Int×Value×List AJ×AJ×List Tf×Tf×Nat) (λ(j,vl,hs,h,xs,x,q)=>⟨[(0,kn v 9 l Tk.cells),(2,kn vl 1 (hs++[h]) BS),(8,GG hs (xs.map Tf.flat))],[(0,AW b v j d),(2,.ho (DM vl (hs++[h]))),(1,B6 h.v x.flat)],[Z 0 (.bx 0 b 0),Z 3 (.sl 2 vl)]⟩)
    (λ(j,vl,hs,h,xs,x,q)=>i<j/\j<len l/\LZ (xs++[x]) j i/\8*(len l-j)+1<=(q:Int)/\q<=f/\hs.length=xs.length/\HM A9 q l d (xs++[x]) j=r0) (λ(j,vl,hs,h,xs,x,q)=>(len l-j).toNat) (j,v2,[],h1',[],x,f) U (A0 U) (by omega) U
    ⟨hlt,g.le,⟨λ z hz=>by rw[List.nil_append,List.mem_singleton]at hz;subst hz;exact⟨g.pipe,g.name⟩,by rw[List.nil_append,O6];have:=g.size;show _+1<=_;omega⟩,by omega,Nat.le_refl _,rfl,e0⟩ ?_
  rintro⟨j,vl,hs,h,xs,x,q⟩ ⟨hj0,hj1,hgl,hq,hqf,hhx,hR⟩
  have hsz:=hgl.size
  have hx1:len (xs++[x])=len xs+1:=by rw[A5];rfl
  have hxn:=AA xs
  have hhl:len (hs++[h])=len xs+1:=by rw[A5];show(hs.length:Int)+1=_;rw[hhx];rfl
  have hfn:=AA (B1 (xs++[x]))
  cases q with
  |zero=>exfalso;omega
  |succ q=>
  rw[HM]at hR
  refine DY [0] (.v (.bool (AL l j [124]))) U (A0 U) (by omega) Tryz.call50 U U (A0 U) U (λ _ w M hS hF=>HT [124] hS (hF.get (k:=0) U).sl (by omega) hj1) U ?_
  refine AE U (A0 U) (by omega) (λ hb1=>?_) (λ hb1=>?_)
  ·have hj2:=GO ok (by omega) hj1 hb1
   rw[if_pos hb1]at hR
   cases hr2:EC A9 q l d (j+1)with
   |er ec p=>
    rw[hr2]at hR;subst hR
    exact BK [0] U (A0 U) (by simp only[zb]<;>omega) U Tryz.call49 U (A0 U) U (λ w M hS hF=>(H q (by omega)).pos hr2 ⟨hS,(hF.get (k:=0) U).sl,hg,ok,by omega,hj2⟩ hd0 hd (by omega) trivial) λ a w M hs hS hle=>BC _ (hB.p ⟨M,rfl,hS.drop _ QY,hle⟩ a hs)
   |ok y m=>
    have g2:=(EY ok A9 q).pos d _ y m (by omega) hj2 hr2
    have hlt2:=g2.lt
    rw[hr2]at hR
    simp only[PR.bind]at hR
    refine AU [0] (λ h:AJ=>.sl 3 h.v) [] (λ h=>[(0,AW b v m d),(3,B6 h.v y.flat)]) U (A0 U) (by simp only[zb]<;>omega) U Tryz.call49 U U (A0 U) U (λ w M hS hF=>(H q (by omega)).pos hr2 ⟨hS,(hF.get (k:=0) U).sl,hg,ok,by omega,hj2⟩ hd0 hd (by omega) trivial) (λ _=>rfl) (λ _=>rfl) λ h3 _=>?_
    refine D2 4 [h3] BS 1 23 CL U (A0 U) (by omega) U (A0 U) (λ w=>by kernel_rfl) U λ v4=>?_
    refine KN 24 U (A0 U) (by omega) U (A0 U) U Tryz.underlying72 Tryz.type23 U U OX (by rw[hhl];simp only[A7,len_nil];omega) λ v'=>?_
    refine EW 1 U ?_
    refine FM 8 (GG (hs++[h]) ((xs++[x]).map Tf.flat)) (λ w M hX=>⟨Sl.nil M 1,DO,by rw[List.map_append];exact CM.snoc (hX.sl 1 U) (hX.f.get (k:=8) U).more⟩) ?_
    refine CI U (A0 U) (by omega) (N3 ⟨_,[(4,.ho (DM v4 [h3])),(0,AW b v m d),(1,B6 h3.v y.flat),(2,.ho (DM v' ((hs++[h])++[h3])))],_⟩ U U U ?_)
    exact CS (m,v',hs++[h],h3,xs++[x],y,q) U (A0 U) (by omega) U ⟨by omega,g2.le,hgl.snoc g2.pipe g2.name (by have:=g2.size;omega),by omega,by omega,by rw[List.length_append,List.length_append,hhx];rfl,hR⟩ (by show Int.toNat _<Int.toNat _;omega)
  ·rw[if_neg (by rw[hb1];decide)]at hR
   subst hR
   refine AU [1] (λ h:AJ=>.sl 5 h.v) [] (λ u=>[(5,B6 u.v (DW (xs++[x])).flat)]) U (A0 U) (by omega) U Tryz.call51 U U (A0 U) U (λ w M hS hF=>cT vl hs h xs x hS (hF.get (k:=2) U).sl (hF.get (k:=8) U).more (λ y hy=>(hgl.pipe y hy).1) (by omega)) (λ _=>rfl) (λ _=>rfl) λ h5 _=>?_
   exact AD hB U U (A0 U) (by omega) U (A0 U) λ w M' hX=>⟨h5,M',rfl,trivial,hX.le,hX.CR [0,5] U,AF⟩
def X4(zs:List Tf)(ls hs:List AJ)(h:AJ)(xs:List Tf)(X:Fl):Prop:=(zs=[]/\ls=[]/\hs=[]/\xs=[])\/ ∃x,zs=xs++[x]/\ls=hs++[h]/\X=x.flat/\hs.length=xs.length
theorem X4.len {zs:List Tf}{ls hs:List AJ}{h:AJ}{xs:List Tf}{X:Fl}(r:X4 zs ls hs h xs X):Eng.len ls=Eng.len zs:=by
 rcases r with⟨r1,r2,_,_⟩|⟨x,r1,r2,_,r3⟩
 ·rw[r1,r2];rfl
 ·rw[r1,r2,A5,A5];show(hs.length:Int)+1=(xs.length:Int)+1;rw[r3]
theorem nX{w0 wv:World}{M0 M:Mem}{Rs:List HO}{b:Nat}{v:Value}{l:List Tk}{i d:Int}{r:PR Tf}(e:HK l i=r)(hk:(A2 l i).kind=3\/AL l i [91]=true)(h:HA w0 wv M0 M Rs b v l i d):
 Calls Tryz.prog 82 [.pointer (some ⟨b,0,none⟩)].toArray wv (HW w0 M0 M Rs b v d r):=by subst e;exact AM5 hk h
theorem AO1{f:Nat}(H: ∀g,g<=f->JB g):GH 3 49 (EC A9 (f+1)) (f+1) HY:=by
 intro w0 wv M0 M Rs b v l i d r0 e0 h hd0 hd hf _
 obtain⟨hS,hl,hg,ok,h0,h1⟩:=h
 have hfew:=ok.E9
 have hl0:=AA l
 rw[EC]at e0
 refine B8 (Hr:=Rs) B3 Tryz.func49 U Tryz.ntmps49 [(0,kn v 9 l Tk.cells)] [(0,AW b v i d)] [.bx 0 b 0] U hS (fc 0 hl (λ _=>rfl) AF) (λ B hB=>?_) U
 refine DY [0] (.v (.bool (AL l i [46]))) U (A0 U) (by omega) Tryz.call50 U U (A0 U) U (λ _ w M hS hF=>HT [46] hS (hF.get (k:=0) U).sl h0 h1) U ?_
 refine ZB 2 3 23 1 BS CL U ?_
 cases hr:GZ A9 f l d i with
 |er ec p=>
  rw[hr]at e0;subst e0
  exact BK [0] U (A0 U) (by omega) U Tryz.call81 U (A0 U) U (λ w M hS hF=>(H f (Nat.le_refl _)).pri hr ⟨hS,(hF.get (k:=0) U).sl,hg,ok,h0,h1⟩ hd0 hd (by omega) trivial) λ a w M hs hS hle=>BC _ (hB.p ⟨M,rfl,hS.drop _ (List.sublist_cons_self _ _),hle⟩ a hs)
 |ok x j=>
  have g:=(EY ok A9 f).pri d i x j h0 h1 hr
  have hlt:=g.lt
  have hle:=g.le
  rw[hr]at e0
  simp only[PR.bind]at e0
  refine AU [0] (λ h:AJ=>.sl 1 h.v) [] (λ h=>[(0,AW b v j d),(1,B6 h.v x.flat)]) U (A0 U) (by omega) U Tryz.call81 U U (A0 U) U (λ w M hS hF=>(H f (Nat.le_refl _)).pri hr ⟨hS,(hF.get (k:=0) U).sl,hg,ok,h0,h1⟩ hd0 hd (by omega) trivial) (λ _=>rfl) (λ _=>rfl) λ h1' _=>?_
  refine D2 4 [h1'] BS 1 23 CL U (A0 U) (by omega) U (A0 U) (λ w=>by kernel_rfl) U λ v4=>?_
  refine KN 24 U (A0 U) (by omega) U (A0 U) U Tryz.underlying72 Tryz.type23 U U OX (by simp only[A7,len_nil];omega) λ v2=>?_
  refine DY [0] (.v (.bool (AL l j [91]))) U (A0 U) (by omega) Tryz.call50 U U (A0 U) U (λ _ w M hS hF=>HT [91] hS (hF.get (k:=0) U).sl (by omega) hle) U ?_
  refine FM 8 (GG [] []) (λ w M hX=>⟨Sl.nil M 1,DO,trivial⟩) ?_
  refine G8 0 (λ s=> ∃(zs:List Tf) (ls hs:List AJ) (h:AJ) (vl:Value) (xs:List Tf) (X:Fl),X4 zs ls hs h xs X/\(zs=[]->AL l j [91]=true)/\LZ zs j i/\I7 l.length l zs j=r0/\
    s=⟨[(0,kn v 9 l Tk.cells),(2,kn vl 1 ls BS),(8,GG hs (xs.map Tf.flat))],[(0,AW b v j d),(2,.ho (DM vl ls)),(1,B6 h.v X)],[Z 0 (.bx 0 b 0),Z 3 (.sl 2 vl)]⟩) U (A0 U) (by simp only[zb]<;>omega) U (λ hb1=>?_) (λ hb1=>?_) ?_
  ·rw[if_pos hb1]at e0
   rw[Bool.and_eq_true]at hb1
   refine CI U (A0 U) (by omega) (ZB 2 3 23 1 BS CL U ?_)
   refine vC 1 51 11 Tm.cells Tm.BI ?_
   exact BO _ rfl (A0 rfl) (by omega) rfl ⟨[],[],[],⟨none,0,0⟩,.slice none 0 0,[],[],.inl ⟨rfl,rfl,rfl,rfl⟩,λ _=>hb1.2,⟨λ z hz=>(by cases hz),(by show(0:Int)+0<=_;omega)⟩,e0,rfl⟩
  ·rw[if_neg (by rw[hb1];decide)]at e0
   exact BO _ rfl (A0 rfl) (by omega) rfl ⟨[x],[h1'],[],h1',v2,[],x.flat,.inr ⟨x,rfl,rfl,rfl,rfl⟩,λ q=>(by cases q),⟨λ z hz=>(by rw[List.mem_singleton]at hz;subst hz;exact⟨g.pipe,g.name⟩),(by rw[O6];have:=g.size;show _+1<=_;omega)⟩,e0,rfl⟩
  rintro s ⟨zs,ls,hs,h,vl,xs,X,hrel,hz,hgl,hR,rfl⟩
  refine DI (σ:=Int×Value×List AJ×List AJ×AJ×List Tf×Fl×List Tf×Nat) (λ(j,vl,ls,hs,h,xs,X,zs,q)=>⟨[(0,kn v 9 l Tk.cells),(2,kn vl 1 ls BS),(8,GG hs (xs.map Tf.flat))],[(0,AW b v j d),(2,.ho (DM vl ls)),(1,B6 h.v X)],[Z 0 (.bx 0 b 0),Z 3 (.sl 2 vl)]⟩)
    (λ(j,vl,ls,hs,h,xs,X,zs,q)=>i<j/\j<len l/\X4 zs ls hs h xs X/\(zs=[]->AL l j [91]=true)/\LZ zs j i/\len l<=j+(q:Int)/\I7 q l zs j=r0) (λ(j,vl,ls,hs,h,xs,X,zs,q)=>(len l-j).toNat) (j,vl,ls,hs,h,xs,X,zs,l.length) U (A0 U) (by omega) U
    ⟨hlt,hle,hrel,hz,hgl,by unfold len at*;omega,hR⟩ ?_
  clear hrel hz hgl hR zs ls hs h vl xs X
  rintro⟨j,vl,ls,hs,h,xs,X,zs,q⟩ ⟨hj0,hj1,hrel,hz,hgl,hq,hR⟩
  have hsz:=hgl.size
  have hll:=hrel.len
  have hzn:=AA zs
  have hfn:=AA (B1 zs)
  cases q with
  |zero=>exfalso;omega
  |succ q=>
  rw[I7]at hR
  refine DY [0] (FO (A2 l j)) U (A0 U) (by omega) Tryz.call25 U U (A0 U) U (λ _ w M hS hF=>G9 hS (hF.get (k:=0) U).sl (by omega) hj1) U ?_
  refine DY [0] (.v (.bool (AL l j [91]))) U (A0 U) (by omega) Tryz.call50 U U (A0 U) U (λ _ w M hS hF=>HT [91] hS (hF.get (k:=0) U).sl (by omega) hj1) U ?_
  refine AE U (A0 U) (by simp only[zb]<;>omega) (λ hb1=>?_) (λ hb1=>?_)<;>simp only[zb]at hb1
  ·rw[if_pos hb1]at hR
   cases hr2:HK l j with
   |er ec p=>
    rw[hr2]at hR;subst hR
    exact BK [0] U (A0 U) (by omega) U Tryz.call82 U (A0 U) U (λ w M hS hF=>nX hr2 hb1 ⟨hS,(hF.get (k:=0) U).sl,hg,ok,by omega,hj1⟩) λ a w M hs hS hle=>BC _ (hB.p ⟨M,rfl,hS.drop _ QY,hle⟩ a hs)
   |ok y m=>
    obtain⟨g2,hy1⟩:=k9 ok (by omega) hj1 hb1 hr2
    have hlt2:=g2.lt
    rw[hr2]at hR
    simp only[PR.bind]at hR
    refine AU [0] (λ h:AJ=>.sl 3 h.v) [] (λ h=>[(0,AW b v m d),(3,B6 h.v y.flat)]) U (A0 U) (by omega) U Tryz.call82 U U (A0 U) U (λ w M hS hF=>nX hr2 hb1 ⟨hS,(hF.get (k:=0) U).sl,hg,ok,by omega,hj1⟩) (λ _=>rfl) (λ _=>rfl) λ h3 _=>?_
    refine D2 4 [h3] BS 1 23 CL U (A0 U) (by omega) U (A0 U) (λ w=>by kernel_rfl) U λ v4=>?_
    refine KN 24 U (A0 U) (by omega) U (A0 U) U Tryz.underlying72 Tryz.type23 U U OX (by rw[hll];simp only[A7,len_nil];omega) λ v'=>?_
    rcases hrel with⟨q1,q2,q3,q4⟩|⟨x,q1,q2,q3,q4⟩
    ·subst q1;subst q2;subst q3;subst q4
     refine CI U (A0 U) (by omega) (N3 ⟨_,[(4,.ho (DM v4 [h3])),(0,AW b v m d),(1,B6 h3.v y.flat),(2,.ho (DM v' ([]++[h3]))),(7,B6 h.v X)],_⟩ U U U ?_)
     exact CS (m,v',[h3],[],h3,[],y.flat,[y],q) rfl (A0 rfl) (by omega) rfl ⟨by omega,g2.le,.inr ⟨y,rfl,rfl,rfl,rfl⟩,λ e=>(by cases e),hgl.snoc g2.pipe g2.name (by have:=g2.size;omega),by omega,hR⟩ (by show Int.toNat _<Int.toNat _;omega)
    ·subst q1;subst q2;subst q3
     refine EW 1 U ?_
     refine FM 8 (GG (hs++[h]) ((xs++[x]).map Tf.flat)) (λ w M hX=>⟨Sl.nil M 1,DO,by rw[List.map_append];exact CM.snoc (hX.sl 1 U) (hX.f.get (k:=8) U).more⟩) ?_
     refine CI U (A0 U) (by omega) (N3 ⟨_,[(4,.ho (DM v4 [h3])),(0,AW b v m d),(1,B6 h3.v y.flat),(2,.ho (DM v' ((hs++[h])++[h3])))],_⟩ U U U ?_)
     exact CS (m,v',(hs++[h])++[h3],hs++[h],h3,xs++[x],y.flat,(xs++[x])++[y],q) U (A0 U) (by omega) U ⟨by omega,g2.le,.inr ⟨y,rfl,rfl,rfl,by rw[List.length_append,List.length_append,q4];rfl⟩,λ e=>(by simp at e),hgl.snoc g2.pipe g2.name (by have:=g2.size;omega),by omega,hR⟩ (by show Int.toNat _<Int.toNat _;omega)
  ·have hnb: ¬((A2 l j).kind=3\/AL l j [91]=true):=by
    rintro(q1|q1)
    · exact hb1.1 q1
    · rw[q1]at hb1;cases hb1.2
   rw[if_neg hnb]at hR
   subst hR
   rcases hrel with⟨q1,_⟩|⟨x,q1,q2,q3,q4⟩
   ·exact absurd (.inr (hz q1)) hnb
   ·subst q1;subst q2;subst q3
    refine AU [1] (λ h:AJ=>.sl 5 h.v) [] (λ u=>[(5,B6 u.v (DW (xs++[x])).flat)]) U (A0 U) (by omega) U Tryz.call51 U U (A0 U) U (λ w M hS hF=>cT vl hs h xs x hS (hF.get (k:=2) U).sl (hF.get (k:=8) U).more (λ y hy=>(hgl.pipe y hy).1) (by omega)) (λ _=>rfl) (λ _=>rfl) λ h5 _=>?_
    exact AD hB U U (A0 U) (by omega) U (A0 U) λ w M' hX=>⟨h5,M',rfl,trivial,hX.le,hX.CR [0,5] U,AF⟩
theorem OD{w0 wv:World}{M0 M:Mem}{Rs:List HO}{b:Nat}{v:Value}{l:List Tk}{i d:Int}{r:PR Unit}(m:A1)(e:F2 l d i m=r)(h:HA w0 wv M0 M Rs b v l i d)(hd:0<=d/\d<=64):
 Calls Tryz.prog 164 [.pointer (some ⟨b,0,none⟩),str m].toArray wv (QH w0 M0 M Rs b v r (d+1)):=by subst e;exact uU m h.st h.sl h.h0 h.h1 (by have:=h.ok.E9;omega) hd
theorem TP{w0 wv:World}{M0 M:Mem}{Rs:List HO}{b:Nat}{v:Value}{l:List Tk}{i d d2:Int}{r:PR Unit}(m:A1)(e:BV l i m=r)(h:HA w0 wv M0 M Rs b v l i d)(hd:0<=d/\d<=65)(hd2:d-1=d2):
 Calls Tryz.prog 168 [.pointer (some ⟨b,0,none⟩),str m].toArray wv (QH w0 M0 M Rs b v r d2):=by subst e;subst hd2;exact uV m h.st h.sl h.h0 h.h1 (by have:=h.ok.E9;omega) hd
theorem nY{w0 wv:World}{M0 M:Mem}{Rs:List HO}{b:Nat}{v:Value}{l:List Tk}{i d:Int}{fn:FuncId}{a bb:List Value}(X:Int->PR Tf){r:PR Tf}(e0:D1 l d i X=r)(h:HA w0 wv M0 M Rs b v l i d)(hd0:0<=d)(hd:d<=64)(ct:CT Tryz.prog fn)
    (hX: ∀x k,i+1<len l->X (i+1)= .ok x k->0<=k/\k<len l)
    (hin:i+1<len l->d<64-> ∀w M',St w0 M0 w M' (CQ b v (i+1) (d+1)::Rs)->Sl M' 9 l.length v (l.flatMap Tk.cells)->Calls Tryz.prog fn (a++[]++bb).toArray w (HW w0 M0 M' Rs b v (d+1) (X (i+1)))):
    Calls Tryz.prog 126 [.pointer (some ⟨b,0,none⟩),.func (.func fn) ⟨a⟩ ⟨bb⟩].toArray wv (HW w0 M0 M Rs b v d r):=by
 have hh:=h
 obtain⟨hS,hl,hg,ok,h0,h1⟩:=h
 have hfew:=ok.E9
 unfold D1 at e0
 refine B8 (Hr:=Rs) B3 Tryz.func126 U Tryz.ntmps126 [(0,kn v 9 l Tk.cells)] [(0,AW b v i d)] [.bx 0 b 0,.v (.func (.func fn) ⟨a⟩ ⟨bb⟩)] U hS (fc 0 hl (λ _=>rfl) AF) (λ B hB=>?_) U
 cases ho:F2 l d i [40]with
 |er ec p=>
  rw[ho]at e0;subst e0
  exact BK [0] U (A0 U) (by omega) U Tryz.call164 U (A0 U) U (λ w M hS hF=>OD _ ho ⟨hS,(hF.get (k:=0) U).sl,hg,ok,h0,h1⟩ ⟨hd0,hd⟩) λ a w M hs hS hle=>BC _ (hB.p ⟨M,rfl,hS,hle⟩ a hs)
 |ok u j=>
  obtain⟨rfl,hj1,hd64,_⟩:=O3 ok h0 h1 ho
  rw[ho]at e0
  simp only[PR.bind]at e0
  refine AU [0] (λ _:Unit=>.tu []) [] (λ _=>[(0,AW b v (i+1) (d+1))]) U (A0 U) (by omega) U Tryz.call164 U U (A0 U) U (λ w M hS hF=>OD _ ho ⟨hS,(hF.get (k:=0) U).sl,hg,ok,h0,h1⟩ ⟨hd0,hd⟩) (λ _=>rfl) (λ _=>rfl) λ _ _=>?_
  cases hx:X (i+1)with
  |er ec p=>
   rw[hx]at e0;subst e0
   exact BK [0] U (A0 U) (by omega) U ct U (A0 U) U (λ w M hS hF=>by have:=hin hj1 hd64 w M hS (hF.get (k:=0) U).sl;rw[hx]at this;exact this) λ a w M hs hS hle=>BC _ (hB.p ⟨M,rfl,hS,hle⟩ a hs)
  |ok x k=>
   obtain⟨hk0,hk1⟩:=hX x k hj1 hx
   rw[hx]at e0
   simp only at e0
   refine AU [0] (λ h:AJ=>.sl 1 h.v) [] (λ h=>[(0,AW b v k (d+1)),(1,B6 h.v x.flat)]) U (A0 U) (by omega) U ct U U (A0 U) U (λ w M hS hF=>by have:=hin hj1 hd64 w M hS (hF.get (k:=0) U).sl;rw[hx]at this;exact this) (λ _=>rfl) (λ _=>rfl) λ h1' _=>?_
   cases hn:BV l k [41]with
   |er ec p=>
    rw[hn]at e0;subst e0
    exact BK [0] U (A0 U) (by omega) U Tryz.call168 U (A0 U) U (λ w M hS hF=>TP (d2:=d) _ hn ⟨hS,(hF.get (k:=0) U).sl,hg,ok,hk0,hk1⟩ ⟨by omega,by omega⟩ (by omega)) λ a w M hs hS hle=>BC _ (hB.p ⟨M,rfl,hS.drop _ (List.sublist_cons_self _ _),hle⟩ a hs)
   |ok u' m=>
    obtain⟨rfl,hm1,_⟩:=GB ok hk0 hk1 hn
    rw[hn]at e0;subst e0
    refine AU [0] (λ _:Unit=>.tu []) [] (λ _=>[(0,AW b v (k+1) d)]) U (A0 U) (by omega) U Tryz.call168 U U (A0 U) U (λ w M hS hF=>TP (d2:=d) _ hn ⟨hS,(hF.get (k:=0) U).sl,hg,ok,hk0,hk1⟩ ⟨by omega,by omega⟩ (by omega)) (λ _=>rfl) (λ _=>rfl) λ _ _=>?_
    exact AD hB U U (A0 U) (by omega) U (A0 U) λ w M' hX=>⟨h1',M',rfl,trivial,hX.le,hX.CR [0,1] U,AF⟩
theorem TQ{w0 wv:World}{M0 M:Mem}{Rs:List HO}(t:Tm)(v:Value)(h:AJ)(x:Tf)(hS:St w0 M0 wv M Rs)(hv:Sl M 1 [h].length v ([h].flatMap BS))(hx:Sl M 11 x.flat.length h.v (x.flat.flatMap Tm.cells))(hb:len x.flat<=100000000000):
  Calls Tryz.prog 122 [.agg t.cells.toArray,v].toArray wv (LU w0 M0 M Rs (Tf.mk t [x]).flat):=
 VO t v [h] [x.flat] hS ⟨hv,CL,hx,trivial⟩ (by simp only[List.flatten_cons,List.flatten_nil,A5,len_nil];omega) (by simp only[A7,len_nil];omega)
theorem nZ{w0 wv:World}{M0 M:Mem}{Rs:List HO}(t:Tm)(v:Value)(h h2:AJ)(x y:Tf)(hS:St w0 M0 wv M Rs)(hv:Sl M 1 [h,h2].length v ([h,h2].flatMap BS))(hx:Sl M 11 x.flat.length h.v (x.flat.flatMap Tm.cells))(hy:Sl M 11 y.flat.length h2.v (y.flat.flatMap Tm.cells))(hb:len x.flat+len y.flat<=100000000000):
  Calls Tryz.prog 122 [.agg t.cells.toArray,v].toArray wv (LU w0 M0 M Rs (Tf.mk t [x,y]).flat):=
 VO t v [h,h2] [x.flat,y.flat] hS ⟨hv,CL,hx,hy,trivial⟩ (by simp only[List.flatten_cons,List.flatten_nil,A5,len_nil];omega) (by simp only[A7,len_nil];omega)
theorem AO2{f:Nat}(H: ∀g,g<=f->JB g):GH 3 163 (G7 A9 (f+1)) (f+1) HY:=by
 intro w0 wv M0 M Rs b v l i d r0 e0 h hd0 hd hf _
 obtain⟨hS,hl,hg,ok,h0,h1⟩:=h
 have hfew:=ok.E9
 have hl0:=AA l
 rw[G7]at e0
 refine B8 (Hr:=Rs) B3 Tryz.func163 U Tryz.ntmps163 [(0,kn v 9 l Tk.cells)] [(0,AW b v i d)] [.bx 0 b 0] U hS (fc 0 hl (λ _=>rfl) AF) (λ B hB=>?_) U
 cases hr:J1 A9 f l d i with
 |er ec p=>
  rw[hr]at e0;subst e0
  exact BK [0] U (A0 U) (by omega) U Tryz.call214 U (A0 U) U (λ w M hS hF=>(H f (Nat.le_refl _)).bot hr ⟨hS,(hF.get (k:=0) U).sl,hg,ok,h0,h1⟩ hd0 hd (by omega) trivial) λ a w M hs hS hle=>BC _ (hB.p ⟨M,rfl,hS,hle⟩ a hs)
 |ok x j=>
  have g:=(EY ok A9 f).bot d i x j h0 h1 hr
  have hlt:=g.lt
  rw[hr]at e0
  simp only[PR.bind]at e0
  refine AU [0] (λ h:AJ=>.sl 1 h.v) [] (λ h=>[(0,AW b v j d),(1,B6 h.v x.flat)]) U (A0 U) (by omega) U Tryz.call214 U U (A0 U) U (λ w M hS hF=>(H f (Nat.le_refl _)).bot hr ⟨hS,(hF.get (k:=0) U).sl,hg,ok,h0,h1⟩ hd0 hd (by omega) trivial) (λ _=>rfl) (λ _=>rfl) λ h1' _=>?_
  refine DI (σ:=Int×AJ×Tf×Nat) (λ(j,h,x,q)=>⟨[(0,kn v 9 l Tk.cells)],[(0,AW b v j d),(1,B6 h.v x.flat)],[Z 0 (.bx 0 b 0),Z 3 (.sl 1 h.v)]⟩)
    (λ(j,h,x,q)=>ED l i x j/\8*(len l-j)+1<=(q:Int)/\q<=f/\JM A9 q l d x j=r0) (λ(j,h,x,q)=>(len l-j).toNat) (j,h1',x,f) U (A0 U) (by omega) U ⟨g,by omega,Nat.le_refl _,e0⟩ ?_
  clear g hlt e0 hr x j h1'
  rintro⟨j,h,x,q⟩ ⟨g,hq,hqf,hR⟩
  have hlt:=g.lt
  have hj1:=g.le
  have hsz:=g.size
  cases q with
  |zero=>exfalso;omega
  |succ q=>
  rw[JM]at hR
  refine DY [0] (.v (.bool (DF l j IW))) U (A0 U) (by omega) Tryz.call215 U U (A0 U) U (λ _ w M hS hF=>ZL IW hS (hF.get (k:=0) U).sl (by omega) hj1) U ?_
  refine AE U (A0 U) (by omega) (λ hb1=>?_) (λ hb1=>?_)
  ·have hj2:j+1<len l:=ok.last j (by omega) hj1 λ e=>by unfold DF at hb1;rw[e]at hb1;simp at hb1
   rw[if_pos hb1]at hR
   cases hr2:J1 A9 q l d (j+1)with
   |er ec p=>
    rw[hr2]at hR;subst hR
    exact BK [0] U (A0 U) (by simp only[zb]<;>omega) U Tryz.call214 U (A0 U) U (λ w M hS hF=>(H q (by omega)).bot hr2 ⟨hS,(hF.get (k:=0) U).sl,hg,ok,by omega,hj2⟩ hd0 hd (by omega) trivial) λ a w M hs hS hle=>BC _ (hB.p ⟨M,rfl,hS.drop _ (List.sublist_cons_self _ _),hle⟩ a hs)
   |ok y m=>
    have g2:=(EY ok A9 q).bot d _ y m (by omega) hj2 hr2
    have hlt2:=g2.lt
    have hsz2:=g2.size
    have hm1:=g2.le
    have hxn:=AA x.flat
    have hyn:=AA y.flat
    rw[hr2]at hR
    simp only[PR.bind]at hR
    refine AU [0] (λ h:AJ=>.sl 2 h.v) [] (λ h=>[(0,AW b v m d),(2,B6 h.v y.flat)]) U (A0 U) (by simp only[zb]<;>omega) U Tryz.call214 U U (A0 U) U (λ w M hS hF=>(H q (by omega)).bot hr2 ⟨hS,(hF.get (k:=0) U).sl,hg,ok,by omega,hj2⟩ hd0 hd (by omega) trivial) (λ _=>rfl) (λ _=>rfl) λ h2 _=>?_
    refine EW 1 U (EW 2 U ?_)
    refine D2 4 [h,h2] BS 1 23 CL U (A0 U) (by omega) U (A0 U) (λ w=>by kernel_rfl) U λ v4=>?_
    refine AU [] (λ h:AJ=>.sl 5 h.v) [] (λ u=>[(5,B6 u.v (Tf.mk (AH 18) [x,y]).flat)]) U (A0 U) (by omega) U Tryz.call122 U U (A0 U) U (λ w M hS hF=>nZ (AH 18) v4 h h2 x y hS (hF.get (k:=4) U).sl (hF.get (k:=1) U).sl (hF.get (k:=2) U).sl (by omega)) (λ _=>rfl) (λ _=>rfl) λ h5 _=>?_
    refine CI U (A0 U) (by omega) (N3 ⟨_,[(1,B6 h5.v (Tf.mk (AH 18) [x,y]).flat),(4,.ho (DM v4 [h,h2])),(0,AW b v m d)],(3,.t,.sl 1 h5.v)::_⟩ U U U ?_)
    exact CS (m,h5,.mk (AH 18) [x,y],q) U (A0 U) (by omega) U ⟨⟨by omega,g2.le,.no (by show(18:Int)≠4;decide),rfl,by rw[Tf.M5,W7];omega⟩,by omega,by omega,hR⟩ (by show Int.toNat _<Int.toNat _;omega)
  ·rw[if_neg (by rw[hb1];decide)]at hR
   subst hR
   exact AD hB U U (A0 U) (by omega) U (A0 U) λ w M' hX=>⟨h,M',rfl,trivial,hX.le,hX.CR [0,1] U,AF⟩
theorem AO3{f:Nat}(H: ∀g,g<=f->JB g):GH 2 214 (J1 A9 (f+1)) (f+1) HY:=by
 intro w0 wv M0 M Rs b v l i d r0 e0 h hd0 hd hf _
 obtain⟨hS,hl,hg,ok,h0,h1⟩:=h
 have hfew:=ok.E9
 have hl0:=AA l
 rw[J1]at e0
 refine B8 (Hr:=Rs) B3 Tryz.func214 U Tryz.ntmps214 [(0,kn v 9 l Tk.cells)] [(0,AW b v i d)] [.bx 0 b 0] U hS (fc 0 hl (λ _=>rfl) AF) (λ B hB=>?_) U
 cases hr:GM A9 f l d i with
 |er ec p=>
  rw[hr]at e0;subst e0
  exact BK [0] U (A0 U) (by omega) U Tryz.call249 U (A0 U) U (λ w M hS hF=>(H f (Nat.le_refl _)).sin hr ⟨hS,(hF.get (k:=0) U).sl,hg,ok,h0,h1⟩ hd0 hd (by omega) trivial) λ a w M hs hS hle=>BC _ (hB.p ⟨M,rfl,hS,hle⟩ a hs)
 |ok x j=>
  have g:=(EY ok A9 f).sin d i x j h0 h1 hr
  have hlt:=g.lt
  rw[hr]at e0
  simp only[PR.bind]at e0
  refine AU [0] (λ h:AJ=>.sl 1 h.v) [] (λ h=>[(0,AW b v j d),(1,B6 h.v x.flat)]) U (A0 U) (by omega) U Tryz.call249 U U (A0 U) U (λ w M hS hF=>(H f (Nat.le_refl _)).sin hr ⟨hS,(hF.get (k:=0) U).sl,hg,ok,h0,h1⟩ hd0 hd (by omega) trivial) (λ _=>rfl) (λ _=>rfl) λ h1' _=>?_
  refine DI (σ:=Int×AJ×Tf×Nat) (λ(j,h,x,q)=>⟨[(0,kn v 9 l Tk.cells)],[(0,AW b v j d),(1,B6 h.v x.flat)],[Z 0 (.bx 0 b 0),Z 3 (.sl 1 h.v)]⟩)
    (λ(j,h,x,q)=>ED l i x j/\8*(len l-j)+1<=(q:Int)/\q<=f/\JN A9 q l d x j=r0) (λ(j,h,x,q)=>(len l-j).toNat) (j,h1',x,f) U (A0 U) (by omega) U ⟨g,by omega,Nat.le_refl _,e0⟩ ?_
  clear g hlt e0 hr x j h1'
  rintro⟨j,h,x,q⟩ ⟨g,hq,hqf,hR⟩
  have hlt:=g.lt
  have hj1:=g.le
  have hsz:=g.size
  cases q with
  |zero=>exfalso;omega
  |succ q=>
  rw[JN]at hR
  refine DY [0] (.v (.bool (DF l j IX))) U (A0 U) (by omega) Tryz.call215 U U (A0 U) U (λ _ w M hS hF=>ZL IX hS (hF.get (k:=0) U).sl (by omega) hj1) U ?_
  refine AE U (A0 U) (by omega) (λ hb1=>?_) (λ hb1=>?_)
  ·have hj2:j+1<len l:=ok.last j (by omega) hj1 λ e=>by unfold DF at hb1;rw[e]at hb1;simp at hb1
   rw[if_pos hb1]at hR
   cases hr2:GM A9 q l d (j+1)with
   |er ec p=>
    rw[hr2]at hR;subst hR
    exact BK [0] U (A0 U) (by simp only[zb]<;>omega) U Tryz.call249 U (A0 U) U (λ w M hS hF=>(H q (by omega)).sin hr2 ⟨hS,(hF.get (k:=0) U).sl,hg,ok,by omega,hj2⟩ hd0 hd (by omega) trivial) λ a w M hs hS hle=>BC _ (hB.p ⟨M,rfl,hS.drop _ (List.sublist_cons_self _ _),hle⟩ a hs)
   |ok y m=>
    have g2:=(EY ok A9 q).sin d _ y m (by omega) hj2 hr2
    have hlt2:=g2.lt
    have hsz2:=g2.size
    have hm1:=g2.le
    have hxn:=AA x.flat
    have hyn:=AA y.flat
    rw[hr2]at hR
    simp only[PR.bind]at hR
    refine AU [0] (λ h:AJ=>.sl 2 h.v) [] (λ h=>[(0,AW b v m d),(2,B6 h.v y.flat)]) U (A0 U) (by simp only[zb]<;>omega) U Tryz.call249 U U (A0 U) U (λ w M hS hF=>(H q (by omega)).sin hr2 ⟨hS,(hF.get (k:=0) U).sl,hg,ok,by omega,hj2⟩ hd0 hd (by omega) trivial) (λ _=>rfl) (λ _=>rfl) λ h2 _=>?_
    refine EW 1 U (EW 2 U ?_)
    refine D2 4 [h,h2] BS 1 23 CL U (A0 U) (by omega) U (A0 U) (λ w=>by kernel_rfl) U λ v4=>?_
    refine AU [] (λ h:AJ=>.sl 5 h.v) [] (λ u=>[(5,B6 u.v (Tf.mk (AH 17) [x,y]).flat)]) U (A0 U) (by omega) U Tryz.call122 U U (A0 U) U (λ w M hS hF=>nZ (AH 17) v4 h h2 x y hS (hF.get (k:=4) U).sl (hF.get (k:=1) U).sl (hF.get (k:=2) U).sl (by omega)) (λ _=>rfl) (λ _=>rfl) λ h5 _=>?_
    refine CI U (A0 U) (by omega) (N3 ⟨_,[(1,B6 h5.v (Tf.mk (AH 17) [x,y]).flat),(4,.ho (DM v4 [h,h2])),(0,AW b v m d)],(3,.t,.sl 1 h5.v)::_⟩ U U U ?_)
    exact CS (m,h5,.mk (AH 17) [x,y],q) U (A0 U) (by omega) U ⟨⟨by omega,g2.le,.no (by show(17:Int)≠4;decide),rfl,by rw[Tf.M5,W7];omega⟩,by omega,by omega,hR⟩ (by show Int.toNat _<Int.toNat _;omega)
  ·rw[if_neg (by rw[hb1];decide)]at hR
   subst hR
   exact AD hB U U (A0 U) (by omega) U (A0 U) λ w M' hX=>⟨h,M',rfl,trivial,hX.le,hX.CR [0,1] U,AF⟩
theorem o3{w0 wv:World}{M0 M:Mem}{Rs:List HO}{b:Nat}{v:Value}{l:List Tk}{i d:Int}{r:PR Tf}(e:MO A9 l i=r)(h:HA w0 wv M0 M Rs b v l i d):
 Calls Tryz.prog 276 [.pointer (some ⟨b,0,none⟩)].toArray wv (HW w0 M0 M Rs b v d r):=by subst e;exact AN1 h
theorem AO4{f:Nat}(H: ∀g,g<=f->JB g):GH 1 249 (GM A9 (f+1)) (f+1) HY:=by
 intro w0 wv M0 M Rs b v l i d r0 e0 h hd0 hd hf _
 obtain⟨hS,hl,hg,ok,h0,h1⟩:=h
 have hfew:=ok.E9
 have hl0:=AA l
 rw[GM]at e0
 refine B8 (Hr:=Rs) B3 Tryz.func249 U Tryz.ntmps249 [(0,kn v 9 l Tk.cells)] [(0,AW b v i d)] [.bx 0 b 0] U hS (fc 0 hl (λ _=>rfl) AF) (λ B hB=>?_) U
 refine DY [0] (.v (.bool (AL l i [40]))) U (A0 U) (by omega) Tryz.call50 U U (A0 U) U (λ _ w M hS hF=>HT [40] hS (hF.get (k:=0) U).sl h0 h1) U ?_
 refine AE U (A0 U) (by omega) (λ hb1=>?_) (λ hb1=>?_)
 ·have hb:AL l i [40]=false:=by simpa using hb1
  rw[if_pos hb]at e0
  cases hc:MO A9 l i with
  |er ec p=>
   rw[hc]at e0;subst e0
   exact BK [0] U (A0 U) (by omega) U Tryz.call276 U (A0 U) U (λ w M hS hF=>o3 hc ⟨hS,(hF.get (k:=0) U).sl,hg,ok,h0,h1⟩) λ a w M hs hS hle=>BC _ (hB.p ⟨M,rfl,hS,hle⟩ a hs)
  |ok x j=>
   rw[hc]at e0;subst e0
   refine AU [0] (λ h:AJ=>.sl 1 h.v) [] (λ h=>[(0,AW b v j d),(1,B6 h.v x.flat)]) U (A0 U) (by omega) U Tryz.call276 U U (A0 U) U (λ w M hS hF=>o3 hc ⟨hS,(hF.get (k:=0) U).sl,hg,ok,h0,h1⟩) (λ _=>rfl) (λ _=>rfl) λ h1' _=>?_
   exact AD hB U U (A0 U) (by omega) U (A0 U) λ w M' hX=>⟨h1',M',rfl,trivial,hX.le,hX.CR [0,1] U,AF⟩
 have hb:AL l i [40]=true:=by simpa using hb1
 rw[if_neg (by rw[hb];decide)]at e0
 cases ho:F2 l d i [40]with
 |er ec p=>
  rw[ho]at e0;subst e0
  exact BK [0] U (A0 U) (by omega) U Tryz.call164 U (A0 U) U (λ w M hS hF=>OD _ ho ⟨hS,(hF.get (k:=0) U).sl,hg,ok,h0,h1⟩ ⟨hd0,hd⟩) λ a w M hs hS hle=>BC _ (hB.p ⟨M,rfl,hS,hle⟩ a hs)
 |ok u j=>
  obtain⟨rfl,hj1,hd64,_⟩:=O3 ok h0 h1 ho
  rw[ho]at e0
  simp only[PR.bind]at e0
  refine AU [0] (λ _:Unit=>.tu []) [] (λ _=>[(0,AW b v (i+1) (d+1))]) U (A0 U) (by omega) U Tryz.call164 U U (A0 U) U (λ w M hS hF=>OD _ ho ⟨hS,(hF.get (k:=0) U).sl,hg,ok,h0,h1⟩ ⟨hd0,hd⟩) (λ _=>rfl) (λ _=>rfl) λ _ _=>?_
  cases hr:G7 A9 f l (d+1) (i+1)with
  |er ec p=>
   rw[hr]at e0;subst e0
   exact BK [0] U (A0 U) (by omega) U Tryz.call163 U (A0 U) U (λ w M hS hF=>(H f (Nat.le_refl _)).eit hr ⟨hS,(hF.get (k:=0) U).sl,hg,ok,by omega,hj1⟩ (by omega) (by omega) (by omega) trivial) λ a w M hs hS hle=>BC _ (hB.p ⟨M,rfl,hS,hle⟩ a hs)
  |ok x k=>
   have g:=(EY ok A9 f).eit (d+1) _ x k (by omega) hj1 hr
   have hlt:=g.lt
   have hle:=g.le
   have hsz:=g.size
   rw[hr]at e0
   simp only at e0
   refine AU [0] (λ h:AJ=>.sl 1 h.v) [] (λ h=>[(0,AW b v k (d+1)),(1,B6 h.v x.flat)]) U (A0 U) (by omega) U Tryz.call163 U U (A0 U) U (λ w M hS hF=>(H f (Nat.le_refl _)).eit hr ⟨hS,(hF.get (k:=0) U).sl,hg,ok,by omega,hj1⟩ (by omega) (by omega) (by omega) trivial) (λ _=>rfl) (λ _=>rfl) λ h1' _=>?_
   refine DY [0] (.v (.bool (AL l k [124]))) U (A0 U) (by omega) Tryz.call50 U U (A0 U) U (λ _ w M hS hF=>HT [124] hS (hF.get (k:=0) U).sl (by omega) hle) U ?_
   refine G8 0 (λ s=> ∃(m:Int) (y:Tf) (h:AJ),0<=m/\m<len l/\((BV l m [41]).bind λ _ n=>.ok y n)=r0/\s=⟨[(0,kn v 9 l Tk.cells)],[(0,AW b v m (d+1)),(1,B6 h.v y.flat)],[Z 0 (.bx 0 b 0),Z 3 (.sl 1 h.v)]⟩) U (A0 U) (by omega) U (λ hb2=>?_) (λ hb2=>?_) ?_
   ·have hk1:=GO ok (by omega) hle hb2
    rw[if_pos hb2]at e0
    refine DY [0] (.v (.bool (DF l (k+1) HL))) U (A0 U) (by simp only[zb]<;>omega) Tryz.call215 U U (A0 U) U (λ _ w M hS hF=>ZL HL hS (hF.get (k:=0) U).sl (by omega) hk1) U ?_
    refine AE U (A0 U) (by omega) (λ hb3=>?_) (λ hb3=>?_)
    ·have hw:DF l (k+1) HL=false:=by simpa using hb3
     rw[if_neg (by rw[hw];decide)]at e0
     subst e0
     exact BK [0] U (A0 U) (by omega) U Tryz.call26 U (A0 U) U (λ w M hS hF=>JW 1 hS (hF.get (k:=0) U).sl (by omega) hk1) λ a w M hs hS hle=>BC _ (hB.p ⟨M,rfl,hS.drop _ (List.sublist_cons_self _ _),hle⟩ a hs)
    ·have hw:DF l (k+1) HL=true:=by simpa using hb3
     have hk2:k+1+1<len l:=ok.last _ (by omega) hk1 λ e=>by unfold DF at hw;rw[e]at hw;simp at hw
     rw[if_pos hw]at e0
     refine EW 1 U ?_
     refine D2 4 [h1'] BS 1 23 CL U (A0 U) (by simp only[zb]<;>omega) U (A0 U) (λ w=>by kernel_rfl) U λ v4=>?_
     refine AU [] (λ h:AJ=>.sl 5 h.v) [] (λ u=>[(5,B6 u.v (Tf.mk (AH 19) [x]).flat)]) U (A0 U) (by omega) U Tryz.call122 U U (A0 U) U (λ w M hS hF=>TQ (AH 19) v4 h1' x hS (hF.get (k:=4) U).sl (hF.get (k:=1) U).sl (by omega)) (λ _=>rfl) (λ _=>rfl) λ h5 _=>?_
     refine CI U (A0 U) (by omega) (N3 ⟨_,[(1,B6 h5.v (Tf.mk (AH 19) [x]).flat),(4,.ho (DM v4 [h1'])),(0,AW b v (k+1+1) (d+1))],(3,.t,.sl 1 h5.v)::_⟩ U U U ?_)
     exact BO _ U (A0 U) (by omega) U ⟨k+1+1,.mk (AH 19) [x],h5,by omega,hk2,by rw[show k+1+1=k+2 by omega];exact e0,rfl⟩
   ·rw[if_neg (by rw[hb2];decide)]at e0
    exact BO _ U (A0 U) (by omega) U ⟨k,x,h1',by omega,hle,e0,rfl⟩
   rintro s ⟨m,y,h,hm0,hm1,hR,rfl⟩
   cases hn:BV l m [41]with
   |er ec p=>
    rw[hn]at hR;subst hR
    exact BK [0] U (A0 U) (by omega) U Tryz.call168 U (A0 U) U (λ w M hS hF=>TP (d2:=d) _ hn ⟨hS,(hF.get (k:=0) U).sl,hg,ok,hm0,hm1⟩ ⟨by omega,by omega⟩ (by omega)) λ a w M hs hS hle=>BC _ (hB.p ⟨M,rfl,hS.drop _ (List.sublist_cons_self _ _),hle⟩ a hs)
   |ok u' n=>
    obtain⟨rfl,hn1,_⟩:=GB ok hm0 hm1 hn
    rw[hn]at hR;subst hR
    refine AU [0] (λ _:Unit=>.tu []) [] (λ _=>[(0,AW b v (m+1) d)]) U (A0 U) (by omega) U Tryz.call168 U U (A0 U) U (λ w M hS hF=>TP (d2:=d) _ hn ⟨hS,(hF.get (k:=0) U).sl,hg,ok,hm0,hm1⟩ ⟨by omega,by omega⟩ (by omega)) (λ _=>rfl) (λ _=>rfl) λ _ _=>?_
    exact AD hB U U (A0 U) (by omega) U (A0 U) λ w M' hX=>⟨h,M',rfl,trivial,hX.le,hX.CR [0,1] U,AF⟩
end Go.Proofs.YtmjpjbmeamnfpaaGreatDoor
