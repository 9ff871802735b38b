/-
  Parts Kr, put together and made short by wip/py/merge.py (mini.py).
-/
import Derived.Test.YtmjpjbmeamnfpaaGreatDoorZc33
import Derived.Test.YtmjpjbmeamnfpaaGreatDoorZc0
set_option linter.unusedVariables false
set_option linter.unusedSimpArgs false
set_option maxRecDepth 100000
namespace Go.Eng
def HZ{σ:Type}(one:Nat->σ->Int->PR σ)(fst:σ->Bool)(l:List Tk)(e:A1):Nat->σ->Int->PR σ
 |0,_,i=>CG l i 1
 |f+1,g,i=>if AL l i e then .ok g (i+1)else(if fst g then .ok () i else BV l i [44]).bind λ _ j=>(one f g j).bind λ g' k=>HZ one fst l e f g' k
theorem bind_assoc{α β γ:Type}(r:PR α)(f:α->Int->PR β)(g:β->Int->PR γ):(r.bind f).bind g=r.bind λ x j=>(f x j).bind g:=by cases r<;>rfl
theorem bind_congr{α β:Type}{r:PR α}{f g:α->Int->PR β}(h: ∀x j,f x j=g x j):r.bind f=r.bind g:=by cases r with|er c p=>rfl|ok x j=>exact h x j
theorem cV{σ:Type}{one:Nat->σ->Int->PR σ}{fst:σ->Bool}{l:List Tk}(ok:IE l){e:A1}{I:σ->Int->Prop}(hI: ∀F g j g' k,0<=j->j<len l->I g j->one F g j= .ok g' k->j<k/\k<len l/\I g' k)(hIw: ∀g j,I g j->I g (j+1)):
  ∀(f:Nat) (g:σ) (i:Int) {g':σ} {m:Int},0<=i->i<len l->I g i->HZ one fst l e f g i= .ok g' m-> ∃j,0<=j/\j<len l/\I g' j
 |0,g,i,g',m,_,_,_,h=>(DK h).elim
 |f+1,g,i,g',m,h0,h1,hi,h=>by
  rw[HZ]at h
  split at h
  ·cases h;exact⟨i,h0,h1,hi⟩
  ·obtain⟨u,j,h2,h3⟩:=CB h
   have hj:0<=j/\j<len l/\I g j:=by
    split at h2
    ·cases h2;exact⟨h0,h1,hi⟩
    ·obtain⟨rfl,h4,_⟩:=GB ok h0 h1 h2;exact⟨by omega,h4,hIw _ _ hi⟩
   obtain⟨g2,k,h5,h6⟩:=CB h3
   obtain⟨h7,h8,h9⟩:=hI f g j g2 k hj.1 hj.2.1 hj.2.2 h5
   exact cV ok hI hIw f g2 k (by omega) h8 h9 h6
def NF(q:A1->A1)(l:List Tk)(d:Int)(f:Nat)(xs:List Tf)(j:Int):PR (List Tf):=(EC q f l d j).bind λ x m=>.ok (xs++[x]) m
theorem o4(q:A1->A1)(l:List Tk)(d:Int): ∀(f:Nat) (xs:List Tf) (i:Int),J0 q f l d xs i=(HZ (NF q l d) List.isEmpty l [93] f xs i).bind λ xs m=>.ok (.mk (AH 9) xs) m
 |0,xs,i=>rfl
 |f+1,xs,i=>by
  rw[J0,HZ]
  by_cases h:AL l i [93]=true
  ·rw[if_pos h,if_pos h];rfl
  ·rw[if_neg h,if_neg h,bind_assoc]
   refine bind_congr λ _ j=>?_
   unfold NF
   rw[bind_assoc,bind_assoc]
   exact bind_congr λ x m=>o4 q l d f (xs++[x]) m
def NG(q:A1->A1)(l:List Tk)(d:Int)(f:Nat)(xs:List Tf)(j:Int):PR (List Tf):=
 if(A2 l j).kind≠2/\(A2 l j).kind≠4\/(A2 l j).s∈xs.map (λ x=>x.t.name)then CG l j 1
 else(BV l (j+1) [58]).bind λ _ k=>(EC q f l d k).bind λ x m=>.ok (xs++[x.named (A2 l j).s]) m
theorem o5(q:A1->A1)(l:List Tk)(d:Int): ∀(f:Nat) (xs:List Tf) (i:Int),IZ q f l d xs i=(HZ (NG q l d) List.isEmpty l [125] f xs i).bind λ xs m=>.ok (.mk (AH 8) xs) m
 |0,xs,i=>rfl
 |f+1,xs,i=>by
  rw[IZ,HZ]
  by_cases h:AL l i [125]=true
  ·rw[if_pos h,if_pos h];rfl
  ·rw[if_neg h,if_neg h,bind_assoc]
   refine bind_congr λ _ j=>?_
   unfold NG
   by_cases h2:(A2 l j).kind≠2/\(A2 l j).kind≠4\/(A2 l j).s∈xs.map (λ x=>x.t.name)
   ·rw[if_pos h2,if_pos h2];rfl
   ·rw[if_neg h2,if_neg h2,bind_assoc,bind_assoc]
    refine bind_congr λ _ k=>?_
    rw[bind_assoc]
    exact bind_congr λ x m=>o5 q l d f _ m
end Go.Eng
namespace Go.Proofs.YtmjpjbmeamnfpaaGreatDoor
open Go.Eng
theorem o6{σ γ:Type}(one:Nat->σ->Int->PR σ)(fst:σ->Bool)(x1 x2 x3 x4 x5:σ->γ->HO)(Fc:σ->γ->List (Nat×Kn))(I:σ->Int->Prop){w0 wv:World}{M0 M:Mem}{Rs:List HO}{b:Nat}{v:Value}{l:List Tk}{i d d2:Int}{fn:FuncId}{a bb:List Value}(e:A1){r0:PR σ}(f:Nat)(g0:σ)(γ0:γ)
    (e0:HZ one fst l e f g0 i=r0) (h:HA w0 wv M0 M (x1 g0 γ0::x2 g0 γ0::x3 g0 γ0::x4 g0 γ0::x5 g0 γ0::Rs) b v l i d) (hd:0<=d/\d<=65) (hd2:d-1=d2) (ct:CT Tryz.prog fn) (hF0:BJ M (Fc g0 γ0)) (hI0:I g0 i) (hg0:fst g0=true) (hf:8*(len l-i)+4<=(f:Int))
    (hI: ∀F g j g' k,0<=j->j<len l->I g j->one F g j= .ok g' k->j<k/\k<len l/\I g' k/\fst g'=false) (hIw: ∀g j,I g j->I g (j+1))
    (hone: ∀F g γ' j w M' r,F<f->0<=j->j<len l->8*(len l-j)+3<=(F:Int)->I g j->St w0 M0 w M' (CQ b v j d::x1 g γ'::x2 g γ'::x3 g γ'::x4 g γ'::x5 g γ'::Rs)->Sl M' 9 l.length v (l.flatMap Tk.cells)->BJ M' (Fc g γ')->one F g j=r->
     Calls Tryz.prog fn (a++[]++bb).toArray w (KO w0 M0 M' Rs 56 r λ g' k=>DQ w0 M0 M' Rs (λ _:γ=>.tuple #[]) (λ _=>True) (λ γ'=>Fc g' γ') λ γ'=>[CQ b v k d,x1 g' γ',x2 g' γ',x3 g' γ',x4 g' γ',x5 g' γ'])):
    Calls Tryz.prog 165 [.pointer (some ⟨b,0,none⟩),str e,.func (.func fn) ⟨a⟩ ⟨bb⟩].toArray wv (KO w0 M0 M Rs 56 r0 λ g m=>DQ w0 M0 M Rs (λ _:γ=>.tuple #[]) (λ _=>True) (λ γ'=>Fc g γ') λ γ'=>[CQ b v m d2,x1 g γ',x2 g γ',x3 g γ',x4 g γ',x5 g γ']):=by
 obtain⟨hS,hl,hg,ok,h0,h1⟩:=h
 have hfew:=ok.E9
 have hl0:=AA l
 refine B8 (Hr:=Rs) B3 Tryz.func165 U Tryz.ntmps165 [(0,kn v 9 l Tk.cells),(9,K2 (Fc g0 γ0))] [(0,AW b v i d),(1,.ho (x1 g0 γ0)),(2,.ho (x2 g0 γ0)),(3,.ho (x3 g0 γ0)),(4,.ho (x4 g0 γ0)),(5,.ho (x5 g0 γ0))] [.bx 0 b 0,.v (str e),.v (.func (.func fn) ⟨a⟩ ⟨bb⟩)] U hS (fc 0 hl (λ _=>rfl) (CA ⟨Sl.nil M 1,DO,hF0⟩ AF)) (λ B hB=>?_) U
 refine DI (σ:=Int×σ×γ×Bool×Nat) (λ(j,g,y,fi,q)=>⟨[(0,kn v 9 l Tk.cells),(9,K2 (Fc g y))],[(0,AW b v j d),(1,.ho (x1 g y)),(2,.ho (x2 g y)),(3,.ho (x3 g y)),(4,.ho (x4 g y)),(5,.ho (x5 g y))],[Z 0 (.bx 0 b 0),Z 1 (.v (str e)),Z 2 (.v (.func (.func fn) ⟨a⟩ ⟨bb⟩)),Z 6 (.v (.bool fi))]⟩)
   (λ(j,g,y,fi,q)=>0<=j/\j<len l/\I g j/\fst g=fi/\8*(len l-j)+4<=(q:Int)/\q<=f/\HZ one fst l e q g j=r0) (λ(j,g,y,fi,q)=>(len l-j).toNat) (i,g0,γ0,true,f) U (A0 U) (by omega) U ⟨h0,h1,hI0,hg0,hf,Nat.le_refl _,e0⟩ ?_
 rintro⟨j,g,y,fi,q⟩ ⟨hj0,hj1,hIg,hfi,hq,hqf,hR⟩
 cases q with
 |zero=>exfalso;omega
 |succ q=>
 rw[HZ]at hR
 refine DY [0] (.v (.bool (AL l j e))) U (A0 U) (by omega) Tryz.call50 U U (A0 U) U (λ _ w M hS hF=>HT e hS (hF.get (k:=0) U).sl hj0 hj1) U ?_
 refine AE U (A0 U) (by omega) (λ hb1=>?_) (λ hb1=>?_)
 ·have hb:AL l j e=false:=by simpa using hb1
  rw[if_neg (by rw[hb];decide)]at hR
  refine G8 0 (λ s=> ∃j',j<=j'/\j'<len l/\I g j'/\8*(len l-j')+3<=(q:Int)/\((one q g j').bind λ g' k=>HZ one fst l e q g' k)=r0/\s=⟨[(0,kn v 9 l Tk.cells),(9,K2 (Fc g y))],[(0,AW b v j' d),(1,.ho (x1 g y)),(2,.ho (x2 g y)),(3,.ho (x3 g y)),(4,.ho (x4 g y)),(5,.ho (x5 g y))],[Z 0 (.bx 0 b 0),Z 1 (.v (str e)),Z 2 (.v (.func (.func fn) ⟨a⟩ ⟨bb⟩)),Z 6 (.v (.bool fi))]⟩) U (A0 U) (by omega) U (λ hb2=>?_) (λ hb2=>?_) ?_
  ·have hf2:fi=false:=by simpa using hb2
   rw[hfi,hf2]at hR
   cases hn:BV l j [44]with
   |er ec p=>
    rw[hn]at hR;subst hR
    exact BK [0] U (A0 U) (by omega) U Tryz.call128 U (A0 U) U (λ w M hS hF=>IB _ hn hS (hF.get (k:=0) U).sl hj0 hj1 (by omega)) λ a w M hs hS hle=>BC _ (hB.p ⟨M,rfl,hS.drop _ (List.sublist_append_right [_,_,_,_,_] Rs),hle⟩ a hs)
   |ok u j'=>
    obtain⟨rfl,hj2,_⟩:=GB ok hj0 hj1 hn
    rw[hn]at hR
    refine AU [0] (λ _:Unit=>.tu []) [] (λ _=>[(0,AW b v (j+1) d)]) U (A0 U) (by omega) U Tryz.call128 U U (A0 U) U (λ w M hS hF=>IB _ hn hS (hF.get (k:=0) U).sl hj0 hj1 (by omega)) (λ _=>rfl) (λ _=>rfl) λ _ _=>?_
    exact BO _ U (A0 U) (by omega) U ⟨j+1,by omega,hj2,hIw _ _ hIg,by omega,hR,rfl⟩
  ·have hf2:fi=true:=by simpa using hb2
   rw[hfi,hf2]at hR
   exact BO _ U (A0 U) (by omega) U ⟨j,by omega,hj1,hIg,by omega,hR,rfl⟩
  rintro s ⟨j',hjj,hj2,hI2,hq2,hR2,rfl⟩
  cases ho:one q g j' with
  |er ec p=>
   rw[ho]at hR2;subst hR2
   exact BK [0,1,2,3,4,5] U (A0 U) (by omega) U ct U (A0 U) U (λ w M hS hF=>hone q g y j' w M _ (by omega) (by omega) hj2 hq2 hI2 hS (hF.get (k:=0) U).sl (hF.get (k:=9) U).more ho) λ a w M hs hS hle=>BC _ (hB.p ⟨M,rfl,hS,hle⟩ a hs)
  |ok g' k=>
   obtain⟨hk0,hk1,hI3,hf3⟩:=hI q g j' g' k (by omega) hj2 hI2 ho
   rw[ho]at hR2
   simp only[PR.bind]at hR2
   refine AU [0,1,2,3,4,5] (λ _:γ=>.tu []) [9] (λ y'=>[(0,AW b v k d),(1,.ho (x1 g' y')),(2,.ho (x2 g' y')),(3,.ho (x3 g' y')),(4,.ho (x4 g' y')),(5,.ho (x5 g' y'))]) (Fg:=λ y'=>[(9,K2 (Fc g' y'))]) U (A0 U) (by omega) U ct U U (A0 U) U (λ w M hS hF=>(hone q g y j' w M _ (by omega) (by omega) hj2 hq2 hI2 hS (hF.get (k:=0) U).sl (hF.get (k:=9) U).more ho).mono λ e w h=>AE9 h) (λ _=>rfl) (λ _=>rfl) λ y' _=>?_
   exact CS (k,g',y',false,q) U (A0 U) (by omega) U ⟨by omega,hk1,hI3,hf3,by omega,by omega,hR2⟩ (by show Int.toNat _<Int.toNat _;omega)
 ·have hb:AL l j e=true:=by simpa using hb1
  have hj2:=GO ok hj0 hj1 hb
  rw[if_pos hb]at hR
  subst hR
  have hn:BV l j e= .ok () (j+1):=by unfold BV;rw[if_pos hb]
  refine AU [0] (λ _:Unit=>.tu []) [] (λ _=>[(0,AW b v (j+1) d2)]) U (A0 U) (by omega) U Tryz.call168 U U (A0 U) U (λ w M hS hF=>TP (d2:=d2) _ hn ⟨hS,(hF.get (k:=0) U).sl,hg,ok,hj0,hj1⟩ hd hd2) (λ _=>rfl) (λ _=>rfl) λ _ _=>?_
  exact NY hB U U (A0 U) (by omega) λ w M' hX=>⟨y,M',rfl,trivial,hX.le,hX.st,(hX.f.get (k:=9) U).more⟩
abbrev IM:HO:=.own 51 11 (.slice none 0 0) 0 []
abbrev X5(g:List Tf)(y:Value×List AJ):List (Nat×Kn):=[(6,kn y.1 1 y.2 BS),(8,GG y.2 (g.map Tf.flat))]
def FE(g:List Tf)(j:Int):Prop:=len (B1 g)<=4*j/\len g<=j
theorem FE.E9 {g:List Tf}{j:Int}(h:FE g j)(hj:j<=1048576):len (B1 g)<=4194304/\len g<=1048576:=by unfold FE at h;omega
theorem AO5{f:Nat}(H:JB f){w0 wv:World}{M0 M:Mem}{Rs:List HO}{b b1 b3:Nat}{v:Value}{l:List Tk}{j d:Int}{g:List Tf}{y:Value×List AJ}{r:PR (List Tf)}(hd:0<=d/\d<=64)(hg:Gl w0)(ok:IE l)(hj0:0<=j)(hj1:j<len l)(hf:8*(len l-j)+3<=(f:Int))(hI:FE g j)
   (hS:St w0 M0 wv M (CQ b v j d:: .box b3 [y.1] 72:: .box b1 [.pointer (some ⟨b,0,none⟩)] 58::DM y.1 y.2::IM::IM::Rs)) (hl:Sl M 9 l.length v (l.flatMap Tk.cells)) (hF:BJ M (X5 g y)) (e0:NF A9 l d f g j=r):
   Calls Tryz.prog 167 [.pointer (some ⟨b3,0,none⟩),.pointer (some ⟨b1,0,none⟩)].toArray wv (KO w0 M0 M Rs 56 r λ g' k=>DQ w0 M0 M Rs (λ _:Value×List AJ=>.tuple #[]) (λ _=>True) (λ y'=>X5 g' y') λ y'=>[CQ b v k d,.box b3 [y'.1] 72,.box b1 [.pointer (some ⟨b,0,none⟩)] 58,DM y'.1 y'.2,IM,IM]):=by
 obtain⟨vl,hs⟩:=y
 have hfew:=ok.E9
 have hlen:hs.length=g.length:=by have:=CM.len (f:=Tm.cells) (hF.get (k:=8) U).more;rw[List.length_map]at this;exact this
 have hgl:=(hI.E9 (by omega)).2
 unfold NF at e0
 refine B8 (Hr:=Rs) B3 Tryz.func167 U Tryz.ntmps167 [(0,kn v 9 l Tk.cells),(6,kn vl 1 hs BS),(8,GG hs (g.map Tf.flat))] [(0,AW b v j d),(1,.box b3 [.sl 6 vl] 72),(2,.box b1 [.bx 0 b 0] 58),(6,.ho (DM vl hs)),(4,.ho IM),(5,.ho IM)] [.bx 1 b3 0,.bx 2 b1 0] U hS (fc 0 hl (λ _=>rfl) hF) (λ B hB=>?_) U
 refine N2 [2,3,4,5] 5 (λ _ _ _ _ _ h=>h) U (A0 U) (by omega) IA (by decide+kernel) ?_
 refine E8 2 U (A0 U) (by omega) U U ?_
 cases hr:EC A9 f l d j with
 |er ec p=>
  rw[hr]at e0;subst e0
  exact BK [0] U (A0 U) (by omega) U Tryz.call49 U (A0 U) U (λ w M hS hF=>H.pos hr ⟨hS,(hF.get (k:=0) U).sl,hg,ok,hj0,hj1⟩ hd.1 hd.2 hf trivial) λ a w M hs hS hle=>BC _ (hB.p ⟨M,rfl,hS.drop _ (List.sublist_append_right [_,_,_,_,_] Rs),hle⟩ a hs)
 |ok x k=>
  have gx:=(EY ok A9 f).pos d j x k hj0 hj1 hr
  have hlt:=gx.lt
  rw[hr]at e0
  simp only[PR.bind]at e0
  subst e0
  refine AU [0] (λ h:AJ=>.sl 7 h.v) [] (λ h=>[(0,AW b v k d),(7,B6 h.v x.flat)]) U (A0 U) (by omega) U Tryz.call49 U U (A0 U) U (λ w M hS hF=>H.pos hr ⟨hS,(hF.get (k:=0) U).sl,hg,ok,hj0,hj1⟩ hd.1 hd.2 hf trivial) (λ _=>rfl) (λ _=>rfl) λ h7 _=>?_
  refine EW 7 U ?_
  refine DB U (A0 U) (by omega) ?_
  refine E8 3 U (A0 U) (by omega) U U ?_
  refine D2 9 [h7] BS 1 23 CL U (A0 U) (by omega) U (A0 U) (λ w=>by kernel_rfl) U λ v9=>?_
  refine DB U (A0 U) (by omega) ?_
  refine E8 4 U (A0 U) (by omega) U U ?_
  refine KN 24 U (A0 U) (by omega) U (A0 U) U Tryz.underlying72 Tryz.type23 U U OX (by simp only[A7,len_nil];unfold len at*;omega) λ v'=>?_
  refine FM 8 (GG (hs++[h7]) ((g++[x]).map Tf.flat)) (λ w M hX=>⟨Sl.nil M 1,DO,by rw[List.map_append];exact CM.snoc (hX.sl 7 U) (hX.f.get (k:=8) U).more⟩) ?_
  refine DB U (A0 U) (by omega) ?_
  refine E8 5 U (A0 U) (by omega) U U ?_
  refine DB U (A0 U) (by omega) ?_
  refine KP U (A0 U) (by omega) U U ?_
  exact NY hB U U (A0 U) (by omega) λ w M' hX=>⟨(v',hs++[h7]),M',rfl,trivial,hX.le,hX.CR [0,1,2,6,4,5] U,CA (hX.f.get (k:=6) U) (CA (hX.f.get (k:=8) U) AF)⟩
theorem o7{w0 wv:World}{M0 M:Mem}{Rs:List HO}(t:Tm)(v:Value)(hs:List AJ)(xs:List Tf)(hS:St w0 M0 wv M Rs)(hv:Sl M 1 hs.length v (hs.flatMap BS))(hr:CM M 11 Tm.cells hs (xs.map Tf.flat))(hb:len (B1 xs)<=100000000000)(hn:len xs<=1048576):
  Calls Tryz.prog 122 [.agg t.cells.toArray,v].toArray wv (LU w0 M0 M Rs (Tf.mk t xs).flat):=by
 have hl:=CM.len hr
 rw[List.length_map]at hl
 rw[Tf.aX,show len xs=len (xs.map Tf.flat) by unfold len;rw[List.length_map]]
 exact VO t v hs (xs.map Tf.flat) hS ⟨hv,CL,hr⟩ (by rw[<-aW];omega) (by unfold len at*;omega)
theorem o8{l:List Tk}(ok:IE l){d:Int}{F:Nat}{g g':List Tf}{j k:Int}(hj0:0<=j)(hj1:j<len l)(hI:FE g j)(h:NF A9 l d F g j= .ok g' k):j<k/\k<len l/\FE g' k/\g'.isEmpty=false:=by
 unfold NF at h
 obtain⟨x,m,h2,h3⟩:=CB h
 cases h3
 have gx:=(EY ok A9 F).pos d j x _ hj0 hj1 h2
 have:=gx.lt
 refine⟨gx.lt,gx.le,⟨by rw[W4];have:=gx.size;have:=hI.1;omega,by rw[A5];have:=hI.2;show len g+1<=_;omega⟩,by simp⟩
theorem FE.up {g:List Tf}{j:Int}(h:FE g j):FE g (j+1):=by unfold FE at*;omega
def TR(f:Nat)(l:List Tk)(d i:Int):PR Tf:=(F2 l d i [91]).bind λ _ j=>J0 A9 f l (d+1) [] j
theorem o9{f:Nat}(H: ∀g,g<=f->JB g):GH 1 125 (TR f) f HY:=by
 intro w0 wv M0 M Rs b v l i d r0 e0 h hd0 hd hf _
 obtain⟨hS,hl,hg,ok,h0,h1⟩:=h
 have hfew:=ok.E9
 have hl0:=AA l
 unfold TR at e0
 refine B8 (Hr:=Rs) B3 Tryz.func125 U Tryz.ntmps125 [(0,kn v 9 l Tk.cells)] [(0,AW b v i d)] [.bx 0 b 0] U hS (fc 0 hl (λ _=>rfl) AF) (λ B hB=>?_) U
 refine JU 1 U (A0 U) (by omega) U U (A0 U) λ b1=>?_
 cases ho:F2 l d i [91]with
 |er ec p=>
  rw[ho]at e0;subst e0
  exact BK [0] U (A0 U) (by omega) U Tryz.call164 U (A0 U) U (λ w M hS hF=>OD _ ho ⟨hS,(hF.get (k:=0) U).sl,hg,ok,h0,h1⟩ ⟨hd0,hd⟩) λ a w M hs hS hle=>BC _ (hB.p ⟨M,rfl,hS.drop _ (List.sublist_cons_self _ _),hle⟩ a hs)
 |ok u j=>
  obtain⟨rfl,hj1,hd64,_⟩:=O3 ok h0 h1 ho
  rw[ho]at e0
  simp only[PR.bind]at e0
  rw[o4]at e0
  refine AU [0] (λ _:Unit=>.tu []) [] (λ _=>[(0,AW b v (i+1) (d+1))]) U (A0 U) (by omega) U Tryz.call164 U U (A0 U) U (λ w M hS hF=>OD _ ho ⟨hS,(hF.get (k:=0) U).sl,hg,ok,h0,h1⟩ ⟨hd0,hd⟩) (λ _=>rfl) (λ _=>rfl) λ _ _=>?_
  refine CY 2 U (A0 U) (by omega) Tryz.zeroValue72 U λ b3=>?_
  refine CX (.v (.func (.func 167) #[] #[.pointer (some ⟨b3,0,none⟩),.pointer (some ⟨b1,0,none⟩)])) U (A0 U) (by omega) U (λ w M hX=>PV.makeFunc (xs:=[]) (ys:=[.tmp 3,.tmp 1]) (vs:=[]) (us:=[.pointer (some ⟨b3,0,none⟩),.pointer (some ⟨b1,0,none⟩)]) trivial ⟨AT (v:=.bx 2 b3 0) (E:=[]) U (A0 U),AT (v:=.bx 1 b1 0) (E:=[]) U (A0 U),trivial⟩) ?_
  refine QJ 6 23 1 BS CL (QJ 4 51 11 Tm.cells Tm.BI (QJ 5 51 11 Tm.cells Tm.BI ?_))
  have hsm:FE [] (i+1):=⟨by show(0:Int)<=_;omega,by show(0:Int)<=_;omega⟩
  have key: ∀w M,St w0 M0 w M (CQ b v (i+1) (d+1):: .box b3 [.slice none 0 0] 72:: .box b1 [.pointer (some ⟨b,0,none⟩)] 58::DM (.slice none 0 0) []::IM::IM::Rs)->Sl M 9 l.length v (l.flatMap Tk.cells)-> ∀r,HZ (NF A9 l (d+1)) List.isEmpty l [93] f [] (i+1)=r->
    Calls Tryz.prog 165 [.pointer (some ⟨b,0,none⟩),str [93],.func (.func 167) #[] #[.pointer (some ⟨b3,0,none⟩),.pointer (some ⟨b1,0,none⟩)]].toArray w (KO w0 M0 M Rs 56 r λ g m=>DQ w0 M0 M Rs (λ _:Value×List AJ=>.tuple #[]) (λ _=>True) (λ y=>X5 g y) λ y=>[CQ b v m d,.box b3 [y.1] 72,.box b1 [.pointer (some ⟨b,0,none⟩)] 58,DM y.1 y.2,IM,IM]):=λ w M hS hl r er=>by
   refine o6 (NF A9 l (d+1)) List.isEmpty (λ _ y=>.box b3 [y.1] 72) (λ _ _=>.box b1 [.pointer (some ⟨b,0,none⟩)] 58) (λ _ y=>DM y.1 y.2) (λ _ _=>IM) (λ _ _=>IM) X5 FE (d:=d+1) (d2:=d) (a:=[]) (bb:=[.pointer (some ⟨b3,0,none⟩),.pointer (some ⟨b1,0,none⟩)]) [93] f [] (.slice none 0 0,[]) er ⟨hS,hl,hg,ok,by omega,hj1⟩ ⟨by omega,by omega⟩ (by omega) Tryz.call167 (CA ⟨Sl.nil M 1,CL,trivial⟩ (CA ⟨Sl.nil M 1,DO,trivial⟩ AF)) hsm U (by omega) (λ F g j g' k q0 q1 q2 q3=>o8 ok q0 q1 q2 q3) (λ g j=>FE.up) λ F g y j w M' r q0 q1 q2 q3 q4 q5 q6 q7 q8=>AO5 (H F (by omega)) ⟨by omega,by omega⟩ hg ok q1 q2 q3 q4 q5 q6 q7 q8
  cases hm:HZ (NF A9 l (d+1)) List.isEmpty l [93] f [] (i+1)with
  |er ec p=>
   rw[hm]at e0;subst e0
   exact BK [0,2,1,6,4,5] U (A0 U) (by omega) U Tryz.call165 U (A0 U) U (λ w M hS hF=>key w M hS (hF.get (k:=0) U).sl _ hm) λ a w M hs hS hle=>BC _ (hB.p ⟨M,rfl,hS,hle⟩ a hs)
  |ok g m=>
   rw[hm]at e0;simp only[PR.bind]at e0;subst e0
   refine AU [0,2,1,6,4,5] (λ _:Value×List AJ=>.tu []) [6,8] (λ y=>[(0,AW b v m d),(2,.box b3 [.sl 6 y.1] 72),(1,.box b1 [.bx 0 b 0] 58),(6,.ho (DM y.1 y.2)),(4,.ho IM),(5,.ho IM)]) U (A0 U) (by omega) U Tryz.call165 U U (A0 U) U (λ w M hS hF=>key w M hS (hF.get (k:=0) U).sl _ hm) (λ _=>rfl) (λ _=>rfl) λ y _=>?_
   obtain⟨q,q0,q1,q2⟩:=cV ok (λ F g j g' k q0 q1 q2 q3=>let⟨a1,a2,a3,_⟩:=o8 ok q0 q1 q2 q3;⟨a1,a2,a3⟩) (λ g j=>FE.up) f [] (i+1) (by omega) hj1 hsm hm
   obtain⟨q3,q4⟩:=q2.E9 (by omega)
   refine AU [] (λ h:AJ=>.sl 7 h.v) [] (λ u=>[(7,B6 u.v (Tf.mk (AH 9) g).flat)]) U (A0 U) (by omega) U Tryz.call122 U U (A0 U) U (λ w M hS hF=>o7 (AH 9) y.1 y.2 g hS (hF.get (k:=6) U).sl (hF.get (k:=8) U).more (by omega) (by omega)) (λ _=>rfl) (λ _=>rfl) λ h7 _=>?_
   exact AD hB U U (A0 U) (by omega) U (A0 U) λ w M' hX=>⟨h7,M',rfl,trivial,hX.le,hX.CR [0,7] U,AF⟩
def OE(sm:List SV)(ns:List A1):Prop:= ∀x,EG sm x=if x∈ns then some (.bool true)else none
theorem OE.put {sm:List SV}{ns:List A1}(h:OE sm ns)(c:Nat)(n:A1):OE (sset sm c n (.bool true)) (ns++[n]):=λ x=>by
 rw[AN8,h x]
 by_cases hx:x=n
 ·subst hx;simp
 ·simp[hx]
abbrev oA(p:Prop):Kn:=⟨.slice none 0 0,1,([]:List A1),B9,λ _=>p,λ _ _ _ h=>h⟩
structure OG where
 vl:Value
 hs:List AJ
 sm:List SV
 cl:Nat
abbrev X6(g:List Tf)(y:OG):List (Nat×Kn):=[(6,kn y.vl 1 y.hs BS),(8,GG y.hs (g.map Tf.flat)),(10,oA (OE y.sm (g.map λ x=>x.t.name)))]
theorem AO6{f:Nat}(H:JB f){w0 wv:World}{M0 M:Mem}{Rs:List HO}{b b1 b3 b4 mb:Nat}{v:Value}{l:List Tk}{j d:Int}{g:List Tf}{y:OG}{r:PR (List Tf)}(hd:0<=d/\d<=64)(hg:Gl w0)(ok:IE l)(hj0:0<=j)(hj1:j<len l)(hf:8*(len l-j)+3<=(f:Int))(hI:FE g j)
    (hS:St w0 M0 wv M (CQ b v j d:: .box b3 [y.vl] 72:: .box b1 [.pointer (some ⟨b,0,none⟩)] 58::DM y.vl y.hs:: .box b4 [.map (some mb)] 208:: .raw mb (CV y.sm y.cl)::Rs)) (hl:Sl M 9 l.length v (l.flatMap Tk.cells)) (hF:BJ M (X6 g y)) (e0:NG A9 l d f g j=r):
    Calls Tryz.prog 166 [.pointer (some ⟨b1,0,none⟩),.pointer (some ⟨b4,0,none⟩),.pointer (some ⟨b3,0,none⟩)].toArray wv (KO w0 M0 M Rs 56 r λ g' k=>DQ w0 M0 M Rs (λ _:OG=>.tuple #[]) (λ _=>True) (λ y'=>X6 g' y') λ y'=>[CQ b v k d,.box b3 [y'.vl] 72,.box b1 [.pointer (some ⟨b,0,none⟩)] 58,DM y'.vl y'.hs,.box b4 [.map (some mb)] 208,.raw mb (CV y'.sm y'.cl)]):=by
 obtain⟨vl,hs,sm,cl⟩:=y
 have hfew:=ok.E9
 have hlen:hs.length=g.length:=by have:=CM.len (f:=Tm.cells) (hF.get (k:=8) U).more;rw[List.length_map]at this;exact this
 have hhad:OE sm (g.map λ x=>x.t.name):=(hF.get (k:=10) U).more
 have hgl:=(hI.E9 (by omega)).2
 unfold NG at e0
 refine B8 (Hr:=Rs) B3 Tryz.func166 U Tryz.ntmps166 [(0,kn v 9 l Tk.cells),(6,kn vl 1 hs BS),(8,GG hs (g.map Tf.flat)),(10,oA (OE sm (g.map λ x=>x.t.name)))] [(0,AW b v j d),(1,.box b3 [.sl 6 vl] 72),(2,.box b1 [.bx 0 b 0] 58),(6,.ho (DM vl hs)),(4,.box b4 [.v (.map (some mb))] 208),(5,.ho (.raw mb (CV sm cl)))] [.bx 2 b1 0,.bx 4 b4 0,.bx 1 b3 0] U hS (fc 0 hl (λ _=>rfl) hF) (λ B hB=>?_) U
 refine DY [0] (FO (A2 l j)) U (A0 U) (by omega) Tryz.call25 U U (A0 U) U (λ _ w M hS hF=>G9 hS (hF.get (k:=0) U).sl hj0 hj1) U ?_
 refine CY 3 U (A0 U) (by omega) Tryz.zeroValue63 U λ bt=>?_
 refine AN9 5 U (A0 U) (by omega) U U (A0 U) U Tryz.underlying208 Tryz.underlying9 Tryz.zeroValue4 (v:=.bool (decide ((A2 l j).s∈g.map λ x=>x.t.name))) (by rw[hhad];by_cases q:(A2 l j).s∈g.map λ x=>x.t.name<;>simp[q]) ?_
 refine AE U (A0 U) (by simp only[zb]<;>omega) (λ hb1=>?_) (λ hb1=>?_)<;>simp only[zb]at hb1
 ·rw[if_pos hb1]at e0
  subst e0
  exact BK [0] U (A0 U) (by omega) U Tryz.call26 U (A0 U) U (λ w M hS hF=>JW 1 hS (hF.get (k:=0) U).sl hj0 hj1) λ a w M hs hS hle=>BC _ (hB.p ⟨M,rfl,hS.drop _ (List.sublist_append_right [_,_,_,_,_,_] Rs),hle⟩ a hs)
 rw[if_neg (λ hh=>hh.elim (λ q=>hb1.1.elim (λ z=>q.1 z) (λ z=>q.2 z)) (λ q=>hb1.2 q))]at e0
 have hj2:j+1<len l:=ok.last j hj0 hj1 λ e=>by rw[e]at hb1;exact hb1.1.elim (λ z=>by cases z) (λ z=>by cases z)
 refine P8 false 5 (sset sm cl (A2 l j).s (.bool true)) (P7 sm cl (A2 l j).s (.bool true)) U (A0 U) (by omega) U U U (A0 U) U Tryz.underlying208 Tryz.underlying9 U U ?_
 cases hn:BV l (j+1) [58]with
 |er ec p=>
  rw[hn]at e0;subst e0
  exact BK [0] U (A0 U) (by simp only[zb]<;>omega) U Tryz.call128 U (A0 U) U (λ w M hS hF=>IB _ hn hS (hF.get (k:=0) U).sl (by omega) hj2 (by omega)) λ a w M hs hS hle=>BC _ (hB.p ⟨M,rfl,hS.drop _ (List.sublist_append_right [_,_,_,_,_,_] Rs),hle⟩ a hs)
 |ok u k=>
  obtain⟨rfl,hk1,_⟩:=GB ok (by omega) hj2 hn
  rw[hn]at e0
  simp only[PR.bind]at e0
  refine AU [0] (λ _:Unit=>.tu []) [] (λ _=>[(0,AW b v (j+1+1) d)]) U (A0 U) (by simp only[zb]<;>omega) U Tryz.call128 U U (A0 U) U (λ w M hS hF=>IB _ hn hS (hF.get (k:=0) U).sl (by omega) hj2 (by omega)) (λ _=>rfl) (λ _=>rfl) λ _ _=>?_
  cases hr:EC A9 f l d (j+1+1)with
  |er ec p=>
   rw[hr]at e0;subst e0
   exact BK [0] U (A0 U) (by omega) U Tryz.call49 U (A0 U) U (λ w M hS hF=>H.pos hr ⟨hS,(hF.get (k:=0) U).sl,hg,ok,by omega,hk1⟩ hd.1 hd.2 (by omega) trivial) λ a w M hs hS hle=>BC _ (hB.p ⟨M,rfl,hS.drop _ (List.sublist_append_right [_,_,_,_,_,_] Rs),hle⟩ a hs)
  |ok x m=>
   have gx:=(EY ok A9 f).pos d _ x m (by omega) hk1 hr
   have hlt:=gx.lt
   have hxp:=x.GN
   rw[hr]at e0
   simp only at e0
   subst e0
   refine AU [0] (λ h:AJ=>.sl 7 h.v) [] (λ h=>[(0,AW b v m d),(7,B6 h.v x.flat)]) U (A0 U) (by omega) U Tryz.call49 U U (A0 U) U (λ w M hS hF=>H.pos hr ⟨hS,(hF.get (k:=0) U).sl,hg,ok,by omega,hk1⟩ hd.1 hd.2 (by omega) trivial) (λ _=>rfl) (λ _=>rfl) λ h7 _=>?_
   refine ZE { A2 x.flat 0 with name:=(A2 l j).s} rfl (A0 U) (by simp only[zb]<;>omega) U (A0 U) U Tryz.sizeOf9 U U U (by omega) λ x7 hx7=>?_
   rw[show((0:Int).toNat)=0 from rfl,Tf.aV]at hx7
   subst hx7
   refine EW 7 U ?_
   refine D2 9 [h7] BS 1 23 CL U (A0 U) (by omega) U (A0 U) (λ w=>by kernel_rfl) U λ v9=>?_
   refine KN 24 U (A0 U) (by omega) U (A0 U) U Tryz.underlying72 Tryz.type23 U U OX (by simp only[A7,len_nil];unfold len at*;omega) λ v'=>?_
   refine FM 8 (GG (hs++[h7]) ((g++[x.named (A2 l j).s]).map Tf.flat)) (λ w M hX=>⟨Sl.nil M 1,DO,by rw[List.map_append];exact CM.snoc (hX.sl 7 U) (hX.f.get (k:=8) U).more⟩) ?_
   have hh2:OE (sset sm cl (A2 l j).s (.bool true)) ((g++[x.named (A2 l j).s]).map λ x=>x.t.name):=by
    have:=hhad.put cl (A2 l j).s
    rw[List.map_append]
    have e:(x.named (A2 l j).s).t.name=(A2 l j).s:=by cases x;rfl
    show OE _ (_++[(x.named (A2 l j).s).t.name])
    rw[e];exact this
   exact NY hB U U (A0 U) (by omega) λ w M' hX=>⟨⟨v',hs++[h7],sset sm cl (A2 l j).s (.bool true),P7 sm cl (A2 l j).s (.bool true)⟩,M',rfl,trivial,hX.le,hX.CR [0,1,2,6,4,5] U,CA (hX.f.get (k:=6) U) (CA (hX.f.get (k:=8) U) (CA ⟨Sl.nil M' 1,DO,hh2⟩ AF))⟩
theorem oB{l:List Tk}(ok:IE l){d:Int}{F:Nat}{g g':List Tf}{j k:Int}(hj0:0<=j)(hj1:j<len l)(hI:FE g j)(h:NG A9 l d F g j= .ok g' k):j<k/\k<len l/\FE g' k/\g'.isEmpty=false:=by
 unfold NG at h
 split at h
 ·exact(DK h).elim
 ·rename_i hc
  have h4:j+1<len l:=ok.last j hj0 hj1 λ e=>hc (.inl ⟨by rw[e];decide,by rw[e];decide⟩)
  obtain⟨u,n,h1,h2⟩:=CB h
  obtain⟨rfl,h5,_⟩:=GB ok (by omega) h4 h1
  obtain⟨x,m,h6,h3⟩:=CB h2
  cases h3
  have gx:=(EY ok A9 F).pos d _ x _ (by omega) h5 h6
  have:=gx.lt
  refine⟨by omega,gx.le,⟨by rw[W4,Tf.k6];have:=gx.size;have:=hI.1;omega,by rw[A5];have:=hI.2;show len g+1<=_;omega⟩,by simp⟩
def TU(f:Nat)(l:List Tk)(d i:Int):PR Tf:=(F2 l d i [123]).bind λ _ j=>IZ A9 f l (d+1) [] j
theorem oC{f:Nat}(H: ∀g,g<=f->JB g):GH 1 124 (TU f) f HY:=by
 intro w0 wv M0 M Rs b v l i d r0 e0 h hd0 hd hf _
 obtain⟨hS,hl,hg,ok,h0,h1⟩:=h
 have hfew:=ok.E9
 have hl0:=AA l
 unfold TU at e0
 refine B8 (Hr:=Rs) B3 Tryz.func124 U Tryz.ntmps124 [(0,kn v 9 l Tk.cells)] [(0,AW b v i d)] [.bx 0 b 0] U hS (fc 0 hl (λ _=>rfl) AF) (λ B hB=>?_) U
 refine JU 1 U (A0 U) (by omega) U U (A0 U) λ b1=>?_
 cases ho:F2 l d i [123]with
 |er ec p=>
  rw[ho]at e0;subst e0
  exact BK [0] U (A0 U) (by omega) U Tryz.call164 U (A0 U) U (λ w M hS hF=>OD _ ho ⟨hS,(hF.get (k:=0) U).sl,hg,ok,h0,h1⟩ ⟨hd0,hd⟩) λ a w M hs hS hle=>BC _ (hB.p ⟨M,rfl,hS.drop _ (List.sublist_cons_self _ _),hle⟩ a hs)
 |ok u j=>
  obtain⟨rfl,hj1,hd64,_⟩:=O3 ok h0 h1 ho
  rw[ho]at e0
  simp only[PR.bind]at e0
  rw[o5]at e0
  refine AU [0] (λ _:Unit=>.tu []) [] (λ _=>[(0,AW b v (i+1) (d+1))]) U (A0 U) (by omega) U Tryz.call164 U U (A0 U) U (λ w M hS hF=>OD _ ho ⟨hS,(hF.get (k:=0) U).sl,hg,ok,h0,h1⟩ ⟨hd0,hd⟩) (λ _=>rfl) (λ _=>rfl) λ _ _=>?_
  refine cU 5 U (A0 U) (by omega) U λ mb=>?_
  refine CY 4 U (A0 U) (by omega) Tryz.zeroValue208 U λ b4=>?_
  refine CY 2 U (A0 U) (by omega) Tryz.zeroValue72 U λ b3=>?_
  refine CX (.v (.func (.func 166) #[] #[.pointer (some ⟨b1,0,none⟩),.pointer (some ⟨b4,0,none⟩),.pointer (some ⟨b3,0,none⟩)])) U (A0 U) (by omega) U (λ w M hX=>PV.makeFunc (xs:=[]) (ys:=[.tmp 1,.tmp 3,.tmp 4]) (vs:=[]) (us:=[.pointer (some ⟨b1,0,none⟩),.pointer (some ⟨b4,0,none⟩),.pointer (some ⟨b3,0,none⟩)]) trivial ⟨AT (v:=.bx 1 b1 0) (E:=[]) U (A0 U),AT (v:=.bx 4 b4 0) (E:=[]) U (A0 U),AT (v:=.bx 2 b3 0) (E:=[]) U (A0 U),trivial⟩) ?_
  refine QJ 6 23 1 BS CL ?_
  have hsm:FE [] (i+1):=⟨by show(0:Int)<=_;omega,by show(0:Int)<=_;omega⟩
  have key: ∀w M,St w0 M0 w M (CQ b v (i+1) (d+1):: .box b3 [.slice none 0 0] 72:: .box b1 [.pointer (some ⟨b,0,none⟩)] 58::DM (.slice none 0 0) []:: .box b4 [.map (some mb)] 208:: .raw mb (CV [] 0)::Rs)->Sl M 9 l.length v (l.flatMap Tk.cells)-> ∀r,HZ (NG A9 l (d+1)) List.isEmpty l [125] f [] (i+1)=r->
    Calls Tryz.prog 165 [.pointer (some ⟨b,0,none⟩),str [125],.func (.func 166) #[] #[.pointer (some ⟨b1,0,none⟩),.pointer (some ⟨b4,0,none⟩),.pointer (some ⟨b3,0,none⟩)]].toArray w (KO w0 M0 M Rs 56 r λ g m=>DQ w0 M0 M Rs (λ _:OG=>.tuple #[]) (λ _=>True) (λ y=>X6 g y) λ y=>[CQ b v m d,.box b3 [y.vl] 72,.box b1 [.pointer (some ⟨b,0,none⟩)] 58,DM y.vl y.hs,.box b4 [.map (some mb)] 208,.raw mb (CV y.sm y.cl)]):=λ w M hS hl r er=>by
   refine o6 (NG A9 l (d+1)) List.isEmpty (λ _ y=>.box b3 [y.vl] 72) (λ _ _=>.box b1 [.pointer (some ⟨b,0,none⟩)] 58) (λ _ y=>DM y.vl y.hs) (λ _ _=>.box b4 [.map (some mb)] 208) (λ _ y=>.raw mb (CV y.sm y.cl)) X6 FE (d:=d+1) (d2:=d) (a:=[]) (bb:=[.pointer (some ⟨b1,0,none⟩),.pointer (some ⟨b4,0,none⟩),.pointer (some ⟨b3,0,none⟩)]) [125] f [] ⟨.slice none 0 0,[],[],0⟩ er ⟨hS,hl,hg,ok,by omega,hj1⟩ ⟨by omega,by omega⟩ (by omega) Tryz.call166 (CA ⟨Sl.nil M 1,CL,trivial⟩ (CA ⟨Sl.nil M 1,DO,trivial⟩ (CA ⟨Sl.nil M 1,DO,λ x=>rfl⟩ AF))) hsm U (by omega) (λ F g j g' k q0 q1 q2 q3=>oB ok q0 q1 q2 q3) (λ g j=>FE.up) λ F g y j w M' r q0 q1 q2 q3 q4 q5 q6 q7 q8=>AO6 (H F (by omega)) ⟨by omega,by omega⟩ hg ok q1 q2 q3 q4 q5 q6 q7 q8
  cases hm:HZ (NG A9 l (d+1)) List.isEmpty l [125] f [] (i+1)with
  |er ec p=>
   rw[hm]at e0;subst e0
   exact BK [0,2,1,6,4,5] U (A0 U) (by omega) U Tryz.call165 U (A0 U) U (λ w M hS hF=>key w M hS (hF.get (k:=0) U).sl _ hm) λ a w M hs hS hle=>BC _ (hB.p ⟨M,rfl,hS,hle⟩ a hs)
  |ok g m=>
   rw[hm]at e0;simp only[PR.bind]at e0;subst e0
   refine AU [0,2,1,6,4,5] (λ _:OG=>.tu []) [6,8] (λ y=>[(0,AW b v m d),(2,.box b3 [.sl 6 y.vl] 72),(1,.box b1 [.bx 0 b 0] 58),(6,.ho (DM y.vl y.hs)),(4,.box b4 [.v (.map (some mb))] 208),(5,.ho (.raw mb (CV y.sm y.cl)))]) U (A0 U) (by omega) U Tryz.call165 U U (A0 U) U (λ w M hS hF=>key w M hS (hF.get (k:=0) U).sl _ hm) (λ _=>rfl) (λ _=>rfl) λ y _=>?_
   obtain⟨q,q0,q1,q2⟩:=cV ok (λ F g j g' k q0 q1 q2 q3=>let⟨a1,a2,a3,_⟩:=oB ok q0 q1 q2 q3;⟨a1,a2,a3⟩) (λ g j=>FE.up) f [] (i+1) (by omega) hj1 hsm hm
   obtain⟨q3,q4⟩:=q2.E9 (by omega)
   refine AU [] (λ h:AJ=>.sl 7 h.v) [] (λ u=>[(7,B6 u.v (Tf.mk (AH 8) g).flat)]) U (A0 U) (by omega) U Tryz.call122 U U (A0 U) U (λ w M hS hF=>o7 (AH 8) y.vl y.hs g hS (hF.get (k:=6) U).sl (hF.get (k:=8) U).more (by omega) (by omega)) (λ _=>rfl) (λ _=>rfl) λ h7 _=>?_
   exact AD hB U U (A0 U) (by omega) U (A0 U) λ w M' hX=>⟨h7,M',rfl,trivial,hX.le,hX.CR [0,7] U,AF⟩
end Go.Proofs.YtmjpjbmeamnfpaaGreatDoor
