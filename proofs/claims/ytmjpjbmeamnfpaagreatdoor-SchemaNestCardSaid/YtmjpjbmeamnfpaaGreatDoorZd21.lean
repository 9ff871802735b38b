/-
  Parts Ii Iy Ik, put together and made short by wip/py/merge.py (mini.py).
-/
import Derived.Test.YtmjpjbmeamnfpaaGreatDoorZd20
import Derived.Test.YtmjpjbmeamnfpaaGreatDoorZd0
set_option linter.unusedVariables false
set_option linter.unusedSimpArgs false
set_option maxRecDepth 100000
namespace Go.Eng
def JC(ns:List A1)(k:Int)(x:Fl):Fl:=if k<len ns then x.set 0 { at' x 0 with name:=at' ns k}else x
def EL(ns:List A1)(xs:List Fl):List Fl:=xs.mapIdx λ k x=>JC ns k x
theorem u6(ns:List A1)(k:Int)(x:Fl):(JC ns k x).length=x.length:=by unfold JC;split<;>simp
theorem u7(ns:List A1)(xs:List Fl)(x:Fl):EL ns (xs++[x])=EL ns xs++[JC ns (len xs) x]:=by unfold EL;rw[List.mapIdx_concat];rfl
theorem fI(ns:List A1)(xs:List Fl):len (EL ns xs)=len xs:=by unfold EL len;rw[List.length_mapIdx]
theorem fJ(ns:List A1)(xs:List Fl):len (EL ns xs).flatten=len xs.flatten:=by
 have h:(EL ns xs).map List.length=xs.map List.length:=by
  apply List.ext_getElem?
  intro i
  unfold EL
  rw[List.getElem?_map,List.getElem?_map,List.getElem?_mapIdx]
  cases xs[i]? with
  |none=>rfl
  |some x=>simp[u6]
 unfold len
 rw[List.length_flatten,List.length_flatten,h]
theorem fK(xs:List Fl):EL [] xs=xs:=by
 unfold EL
 have:(λ(k:Nat) (x:Fl)=>JC [] k x)=λ _ x=>x:=by funext k x;unfold JC;rw[if_neg (by rw[len_nil];omega)]
 rw[this];apply List.ext_getElem?;intro i;simp
theorem uA{ns:List A1}{gs:List Tf}(h:ns.length=gs.length)(hn:ns.Nodup):EL (B4 ns) ((B4 ns).map λ n=>(at' gs (DR ns n)).flat)=(KW (DA ns gs)).map Tf.flat:=by
 have e1:EL (B4 ns) ((B4 ns).map λ n=>(at' gs (DR ns n)).flat)=(B4 ns).map λ n=>((at' gs (DR ns n)).named n).flat:=by
  unfold EL
  apply List.ext_getElem?
  intro i
  rw[List.getElem?_mapIdx,List.getElem?_map,List.getElem?_map]
  cases hi:(B4 ns)[i]? with
  |none=>rfl
  |some n=>
   simp only[Option.map_some,Option.some.injEq]
   have hlt:=(List.getElem?_eq_some_iff.1 hi).1
   have ha:at' (B4 ns) (i:Int)=n:=by unfold at';simp[hi]
   unfold JC
   rw[if_pos (by unfold len;omega),ha]
   exact Tf.pL _ _
 rw[e1]
 have e2:=tX (DA ns gs)
 rw[T2 h]at e2
 rw[<-e2,List.map_map]
 refine List.map_congr_left λ y hy=>?_
 have:=tZ h hn ((MB _).mem_iff.1 hy)
 show((at' gs (DR ns y.t.name)).named y.t.name).flat=y.flat
 rw[<-this]
end Go.Eng
namespace Go.Proofs.YtmjpjbmeamnfpaaGreatDoor
open Go.Eng
abbrev MC(w0:World)(M0 M:Mem)(Rs:List HO)(x:Fl):Ending->World->Prop:=CM w0 M0 M Rs (λ h:AO=>h.v) (λ _=>True) (λ _=>[]) λ h=>[PX h.v x]
theorem T4{w0 w:World}{M0 M:Mem}{Rs:List HO}{x:Fl}{e:Ending}(h:CM w0 M0 M Rs (λ u:Value=>u) (λ _=>True) (λ _=>[]) (λ u=>[PX u x]) e w):MC w0 M0 M Rs x e w:=by
 obtain⟨u,M',h1,h2,h3,h4,h5⟩:=h
 have ht:=h4.told (k:=0) U
 obtain⟨a,c,hv,_⟩:=(ht.sl (i:=0) rfl).val
 exact⟨⟨a,x.length,c⟩,M',by rw[h1,hv],trivial,h3,by rw[hv]at h4;exact h4,A7⟩
theorem fL{w0 wv:World}{M0 M:Mem}{Rs:List HO}(v:Value)(hs:List AO)(xs:List Fl)(hS:St w0 M0 wv M Rs)(hu:(HR v hs xs).ok M)(hb:len xs.flatten<=1099511627776)(hr:len hs<=1099511627776):
  Calls Tryz.prog 179 [v].toArray wv (MC w0 M0 M Rs xs.flatten):=by
 have hlr:=cB hu
 have hln:=AA hs
 have hfn:=AA xs.flatten
 refine AX (Hr:=Rs) AT Tryz.func179 U Tryz.ntmps179 [(0,HR v hs xs)] [] [.sl 0 v] U hS (BW hu A7) (λ B hB=>?_) U
 refine E4 (σ:=Int×Int) (λ(k,t)=>⟨[(0,HR v hs xs)],[],[Z 0 (.sl 0 v),Z 3 (I t),Z 9 (.sl 0 v),Z 10 (I (len hs)),Z 11 (I k)]⟩) (λ(k,t)=>0<=k/\k<=len hs/\t=len (IH xs k)) (λ(k,t)=>(len hs-k).toNat) (0,0) U (A0 U) (by omega) U ⟨by omega,by omega,rfl⟩ ?_
 rintro⟨k,t⟩ ⟨h0,h1,ht⟩
 have hfl:=SJ xs k
 have hfk:=AA (IH xs k)
 refine A8 U (A0 U) (by omega) (λ hb1=>?_) (λ hb1=>?_)<;>simp only[zb]at hb1
 ·have hft:=W8 (xs:=xs) h0 (by omega)
  have hf2:=SJ xs (k+1)
  rw[hft,AJ]at hf2
  have hak:=AA (at' xs k)
  refine CA U (A0 U) (by omega) ?_
  refine I8 1 (CJ (at' hs k).v (at' xs k)) (λ w M hX=>W9 (hX.f.get (k:=0) U) h0 hb1) (VA 16 1 U ?_)
  refine A8 U (A0 U) (by omega) (λ hb2=>?_) (λ hb2=>?_)<;>simp only[zb]at hb2
  ·exfalso;omega
  exact DJ (k+1,t+len (at' xs k)) U (A0 U) (by omega) U ⟨by omega,by omega,by rw[hft,AJ,ht]⟩ (by show Int.toNat _<Int.toNat _;omega)
 have hke:k=len hs:=by omega
 subst hke
 rw[cA (by omega)]at ht
 subst ht
 refine B6 [] (λ u:Value=>.sl 2 u) [] (λ u=>[(2,CD u [])]) U (A0 U) (by omega) U Tryz.call227 U U (A0 U) U (λ w M hS hF=>(tJ (len xs.flatten) hS hfn hb).mono λ e w' ⟨u,he,hs⟩=>⟨u,M,he,trivial,Mem.le.refl _,hs,A7⟩) (λ _=>rfl) (λ _=>rfl) λ u _=>?_
 refine E4 (σ:=Int×Value×Fl) (λ(k,u,y)=>⟨[(0,HR v hs xs)],[(2,CD u y)],[Z 6 (.sl 2 u),Z 25 (.sl 0 v),Z 26 (I (len hs)),Z 27 (I k)]⟩) (λ(k,u,y)=>0<=k/\k<=len hs/\y=IH xs k) (λ(k,u,y)=>(len hs-k).toNat) (0,u,[]) U (A0 U) (by omega) U ⟨by omega,by omega,rfl⟩ ?_
 rintro⟨k,u,y⟩ ⟨h0,h1,hy⟩
 refine A8 U (A0 U) (by omega) (λ hb1=>?_) (λ hb1=>?_)<;>simp only[zb]at hb1
 ·have hft:=W8 (xs:=xs) h0 (by omega)
  have hf2:=SJ xs (k+1)
  rw[hft,AJ]at hf2
  refine CA U (A0 U) (by omega) ?_
  refine I8 1 (CJ (at' hs k).v (at' xs k)) (λ w M hX=>W9 (hX.f.get (k:=0) U) h0 hb1) (VA 32 1 U ?_)
  refine KH 120 U (A0 U) (by omega) U (A0 U) U Tryz.underlying36 Tryz.type48 U U Tm.cells_one (by rw[hy];omega) λ v'=>?_
  exact DJ (k+1,v',y++at' xs k) U (A0 U) (by omega) U ⟨by omega,by omega,by rw[hft,hy]⟩ (by show Int.toNat _<Int.toNat _;omega)
 rw[cA (by omega)]at hy
 subst hy
 exact AE hB U U (A0 U) (by omega) U (A0 U) λ w M' hX=>T4 ⟨u,M',rfl,trivial,hX.le,hX.st,A7⟩
theorem uB{w0 wv:World}{M0 M:Mem}{Rs:List HO}(v:Value)(x:Fl)(hS:St w0 M0 wv M Rs)(hx:(CJ v x).ok M)(h0:x≠[])(hb:len x<=1099511627776):
  Calls Tryz.prog 138 [v].toArray wv (MC w0 M0 M Rs x):=by
 refine AX (Hr:=Rs) AT Tryz.func138 U Tryz.ntmps138 [(0,CJ v x)] [] [.sl 0 v] U hS (BW hx A7) (λ B hB=>?_) U
 refine CZ (.v (.bool false)) U (A0 U) (by omega) U (λ w M hX=>.pJ (hX.sl 0 U) (List.length_pos_iff.2 h0) (AI (v:=.sl 0 v) (E:=[]) U (A0 U)) Tryz.underlying36) ?_
 refine A8 U (A0 U) (by omega) (λ hb1=>?_) (λ hb1=>?_)
 ·cases hb1
 refine NA 2 ([]:List Tm) Tm.cells 11 48 Tm.C1 U (A0 U) (by omega) U (A0 U) (λ w=>by kernel_rfl) U λ u=>?_
 refine KH 120 U (A0 U) (by omega) U (A0 U) U Tryz.underlying36 Tryz.type48 U U Tm.cells_one (by rw[len_nil];omega) λ v'=>?_
 exact AE hB U U (A0 U) (by omega) U (A0 U) λ w M' hX=>T4 ⟨v',M',rfl,trivial,hX.le,hX.st,A7⟩
theorem uC{w0 wv:World}{M0 M:Mem}{Rs:List HO}(t:Tm)(v:Value)(hs:List AO)(xs:List Fl)(hS:St w0 M0 wv M Rs)(hu:(HR v hs xs).ok M)(hb:len xs.flatten<=1000000000000)(hr:len hs<=1099511627776):
  Calls Tryz.prog 139 [.agg t.cells.toArray,v].toArray wv (MC w0 M0 M Rs (t::xs.flatten)):=by
 refine AX (Hr:=Rs) AT Tryz.func139 U Tryz.ntmps139 [(0,HR v hs xs)] [] [.ag (HJ t.cells),.sl 0 v] U hS (BW hu A7) (λ B hB=>?_) U
 have hfn:=AA xs.flatten
 refine F7 1 U (A0 U) (by omega) U U (A0 U) λ b=>?_
 refine KY [1,3,4,5] 5 (λ _ _ _ _ _ h=>h) U (A0 U) (by omega) EU (by decide+kernel) ?_
 refine bZ 1 3 U (A0 U) (by omega) U U ?_ ?_
 ·refine NA 2 [t] Tm.cells 11 48 Tm.C1 U (A0 U) (by omega) U (A0 U) (λ w=>by kernel_rfl) U λ u=>?_
  refine C6 U (A0 U) (by omega) ?_
  refine CO 3 U (A0 U) (by omega) U U ?_
  refine B6 [] (λ u:AO=>.sl 3 u.v) [] (λ u=>[(3,CD u.v xs.flatten)]) U (A0 U) (by omega) U Tryz.call179 U U (A0 U) U (λ w M hS hF=>fL v hs xs hS (hF.get (k:=0) U) (by omega) hr) (λ _=>rfl) (λ _=>rfl) λ u' _=>?_
  refine HK 3 U ?_
  refine C6 U (A0 U) (by omega) ?_
  refine CO 4 U (A0 U) (by omega) U U ?_
  refine KH 120 U (A0 U) (by omega) U (A0 U) U Tryz.underlying36 Tryz.type48 U U Tm.cells_one (by simp only[AL,len_nil];omega) λ v'=>?_
  refine C6 U (A0 U) (by omega) ?_
  refine CO 5 U (A0 U) (by omega) U U ?_
  refine C6 U (A0 U) (by omega) ?_
  refine HQ U (A0 U) (by omega) U U ?_
  exact AE hB U U (A0 U) (by omega) U (A0 U) λ w M' hX=>T4 ⟨v',M',rfl,trivial,hX.le,hX.st.drop _ ((List.sublist_cons_self _ _).cons_cons _),A7⟩
 ·refine B6 [] (λ u:AO=>.sl 3 u.v) [] (λ u=>[(3,CD u.v xs.flatten)]) U (A0 U) (by omega) U Tryz.call179 U U (A0 U) U (λ w M hS hF=>fL v hs xs hS (hF.get (k:=0) U) (by omega) hr) (λ _=>rfl) (λ _=>rfl) λ u' _=>?_
  refine HK 3 U ?_
  refine C6 U (A0 U) (by omega) ?_
  refine CO 1 U (A0 U) (by omega) U U ?_
  refine NA 2 [t] Tm.cells 11 48 Tm.C1 U (A0 U) (by omega) U (A0 U) (λ w=>by kernel_rfl) U λ u=>?_
  refine C6 U (A0 U) (by omega) ?_
  refine CO 4 U (A0 U) (by omega) U U ?_
  refine KH 120 U (A0 U) (by omega) U (A0 U) U Tryz.underlying36 Tryz.type48 U U Tm.cells_one (by simp only[AL,len_nil];omega) λ v'=>?_
  refine C6 U (A0 U) (by omega) ?_
  refine CO 5 U (A0 U) (by omega) U U ?_
  refine C6 U (A0 U) (by omega) ?_
  refine HQ U (A0 U) (by omega) U U ?_
  exact AE hB U U (A0 U) (by omega) U (A0 U) λ w M' hX=>T4 ⟨v',M',rfl,trivial,hX.le,hX.st.drop _ ((List.sublist_cons_self _ _).cons_cons _),A7⟩
theorem XK{w0 wv:World}{M0 M:Mem}{Rs:List HO}(t:Tm)(vn:Value)(ns:List A1)(v:Value)(hs:List AO)(xs:List Fl)(hS:St w0 M0 wv M Rs)(hn:Sl M 1 ns.length vn (ns.flatMap AS))(hu:(HR v hs xs).ok M)(hne: ∀x∈xs,x≠[])(hb:len xs.flatten<=100000000000)(hr:len hs<=1048576):
  Calls Tryz.prog 99 [.agg t.cells.toArray,vn,v].toArray wv (MC w0 M0 M Rs ({ t with many:=len xs}::(EL ns xs).flatten)):=by
 have hlr:=cB hu
 have hln:=AA hs
 have hnl:=AA ns
 rw[<-hlr]
 refine AX (Hr:=Rs) AT Tryz.func99 U Tryz.ntmps99 [(0,HR v hs xs),(1,kn vn 1 ns AS)] [] [.ag (HJ t.cells),.sl 1 vn,.sl 0 v] U hS (BW hu (fc 1 hn DC A7)) (λ B hB=>?_) U
 refine F7 1 U (A0 U) (by omega) U U (A0 U) λ b=>?_
 refine CA U (A0 U) (by omega) ?_
 refine OX 6 7 36 1 D8 GP U ?_
 refine I8 8 (HU [] []) (λ w M hX=>⟨Sl.nil M 1,DC,trivial⟩) ?_
 refine E4 (σ:=Int×Value×List AO×List Fl) (λ(k,u,gs,ys)=>⟨[(0,HR v hs xs),(1,kn vn 1 ns AS),(6,kn u 1 gs D8),(8,HU gs ys)],[(1,.box b [I t.op,I (len hs),.v (str t.name),.v (str t.s),I t.n,I t.c.kind,I t.c.many,.v (str t.c.name),.v (str t.c.s),.v (.bool t.c.neg),I t.c.e] 48),(6,.ho (.own 36 1 u gs.length (gs.flatMap D8)))],[Z 1 (.sl 1 vn),Z 3 (.bx 1 b 0),Z 7 (.sl 6 u),Z 13 (.sl 0 v),Z 14 (I (len hs)),Z 15 (I k)]⟩)
   (λ(k,u,gs,ys)=>0<=k/\k<=len hs/\ys=EL ns (Eng.sub xs 0 k)/\len gs=k) (λ(k,u,gs,ys)=>(len hs-k).toNat) (0,.slice none 0 0,[],[]) U (A0 U) (by omega) U ⟨by omega,by omega,rfl,rfl⟩ ?_
 rintro⟨k,u,gs,ys⟩ ⟨h0,h1,hy,hgl⟩
 refine A8 U (A0 U) (by omega) (λ hb1=>?_) (λ hb1=>?_)<;>simp only[zb]at hb1
 ·have hxm:=hne _ (at_mem (l:=xs) h0 (by omega))
  have hxp:=JI hxm
  have hft:=W8 (xs:=xs) h0 (by omega)
  have hf2:=SJ xs (k+1)
  have hf3:=AA (IH xs k)
  rw[hft,AJ]at hf2
  refine CA U (A0 U) (by omega) ?_
  refine I8 2 (CJ (at' hs k).v (at' xs k)) (λ w M hX=>W9 (hX.f.get (k:=0) U) h0 hb1) (VA 20 2 U ?_)
  refine B6 [] (λ u:AO=>.sl 5 u.v) [] (λ u=>[(5,CD u.v (at' xs k))]) U (A0 U) (by omega) U Tryz.call138 U U (A0 U) U (λ w M hS hF=>uB (at' hs k).v (at' xs k) hS (hF.get (k:=2) U) hxm (by omega)) (λ _=>rfl) (λ _=>rfl) λ h5 _=>?_
  refine HL 0 (λ s=> ∃z:Fl,z=JC ns k (at' xs k)/\s=⟨[(0,HR v hs xs),(1,kn vn 1 ns AS),(6,kn u 1 gs D8),(8,HU gs ys)],[(5,CD h5.v z),(1,.box b [I t.op,I (len hs),.v (str t.name),.v (str t.s),I t.n,I t.c.kind,I t.c.many,.v (str t.c.name),.v (str t.c.s),.v (.bool t.c.neg),I t.c.e] 48),(6,.ho (.own 36 1 u gs.length (gs.flatMap D8)))],[Z 1 (.sl 1 vn),Z 3 (.bx 1 b 0),Z 7 (.sl 6 u),Z 9 (.sl 5 h5.v),Z 13 (.sl 0 v),Z 14 (I (len hs)),Z 15 (I k)]⟩) U (A0 U) (by omega) U (λ hb2=>?_) (λ hb2=>?_) ?_
  ·simp only[zb]at hb2
   refine OZ { at' (at' xs k) 0 with name:=at' ns k} rfl (A0 U) (by simp only[zb]<;>omega) U (A0 U) U Tryz.sizeOf9 U U U (by omega) λ z hz=>?_
   exact BB _ U (A0 U) (by omega) U ⟨z,by rw[hz];unfold JC;rw[if_pos hb2];rfl,rfl⟩
  ·simp only[zb]at hb2
   exact BB _ U (A0 U) (by omega) U ⟨_,by unfold JC;rw[if_neg (by omega)],rfl⟩
  rintro s ⟨z,hz,rfl⟩
  refine HK 5 U ?_
  refine E9 9 [h5] D8 1 36 GP U (A0 U) (by omega) U (A0 U) (λ w=>by kernel_rfl) U λ v9=>?_
  refine N9 24 U (A0 U) (by omega) U (A0 U) U Tryz.underlying43 Tryz.type36 U U W3 (by simp only[AL,len_nil];omega) λ v'=>?_
  refine I8 8 (HU (gs++[h5]) (ys++[z])) (λ w M hX=>⟨Sl.nil M 1,DC,C8.snoc (hX.sl 5 U) (hX.f.get (k:=8) U).more⟩) ?_
  exact DJ (k+1,v',gs++[h5],ys++[z]) U (A0 U) (by omega) U ⟨by omega,by omega,by
    rw[PJ h0 (by omega),u7,hy,hz]
    have:len (Eng.sub xs 0 k)=k:=by unfold Eng.sub;unfold len at*;rw[List.length_take,List.length_drop];simp only[Int.toNat_zero];omega
    rw[this],by rw[AJ];show len gs+1=_;omega⟩ (by show Int.toNat _<Int.toNat _;omega)
 have hke:k=len hs:=by omega
 rw[M5 (by omega)]at hy
 subst hy
 have hnf:=fJ ns xs
 refine B6 [] (λ u:AO=>.sl 3 u.v) [] (λ u=>[(3,CD u.v ({ t with many:=len hs}::(EL ns xs).flatten))]) U (A0 U) (by omega) U Tryz.call139 U U (A0 U) U (λ w M hS hF=>uC { t with many:=len hs} u gs (EL ns xs) hS ⟨(hF.get (k:=6) U).sl,GP,(hF.get (k:=8) U).more⟩ (by omega) (by omega)) (λ _=>rfl) (λ _=>rfl) λ h3 _=>?_
 exact AE hB U U (A0 U) (by omega) U (A0 U) λ w M' hX=>⟨h3,M',rfl,trivial,hX.le,hX.BX [3] U,A7⟩
theorem T5{w0 wv:World}{M0 M:Mem}{Rs:List HO}(t:Tm)(v:Value)(h:AO)(x:Tf)(hS:St w0 M0 wv M Rs)(hv:Sl M 1 [h].length v ([h].flatMap D8))(hx:Sl M 11 x.flat.length h.v (x.flat.flatMap Tm.cells))(hb:len x.flat<=100000000000):
  Calls Tryz.prog 99 [.agg t.cells.toArray,.slice none 0 0,v].toArray wv (MC w0 M0 M Rs (Tf.mk t [x]).flat):=by
 have:=XK (Rs:=Rs) t (.slice none 0 0) [] v [h] [x.flat] hS (Sl.nil M 1) ⟨hv,GP,hx,trivial⟩ (λ y hy=>by rw[List.mem_singleton.1 hy];exact x.WA) (by simp only[List.flatten_cons,List.flatten_nil,AJ,len_nil];omega) (by simp only[AL,len_nil];omega)
 rw[fK]at this
 rw[Tf.WB];exact this
theorem uD{w0 wv:World}{M0 M:Mem}{Rs:List HO}(t:Tm)(v:Value)(hs:List AO)(xs:List Tf)(hS:St w0 M0 wv M Rs)(hv:Sl M 1 hs.length v (hs.flatMap D8))(hr:C8 M 11 Tm.cells hs (xs.map Tf.flat))(hb:len (AF xs)<=100000000000)(hn:len xs<=1048576):
  Calls Tryz.prog 99 [.agg t.cells.toArray,.slice none 0 0,v].toArray wv (MC w0 M0 M Rs (Tf.mk t xs).flat):=by
 have hl:=C8.len hr
 rw[List.length_map]at hl
 have:=XK (Rs:=Rs) t (.slice none 0 0) [] v hs (xs.map Tf.flat) hS (Sl.nil M 1) ⟨hv,GP,hr⟩ (λ y hy=>by obtain⟨x,_,rfl⟩:=List.mem_map.1 hy;exact x.WA) (by rw[<-NV];omega) (by unfold len at*;omega)
 rw[fK]at this
 rw[Tf.WB,show len xs=len (xs.map Tf.flat) by unfold len;rw[List.length_map]];exact this
end Go.Proofs.YtmjpjbmeamnfpaaGreatDoor
namespace Go.Eng
structure Tm.small (t:Tm):Prop where
 name:len t.name<=1048576
 s:len t.s<=1073741824
 c:len t.c.s<=1048576
def DX(x:Fl):Prop:= ∀t∈x,t.small
structure K2 (l:List Tk) (i:Int) (x:Tf) (j:Int):Prop where
 lt:i<j
 le:j<len l
 name:x.t.name=[]
 size:len x.flat<=j-i
 small:DX x.flat
structure EM (i0 i:Int) (xs:List Tf):Prop where
 le:i0<=i
 size:len (AF xs)<=i-i0
 small:DX (AF xs)
theorem EM.nil (i:Int):EM i i []:=⟨by omega,by show(0:Int)<=_;omega,λ t h=>by cases h⟩
theorem EM.mono {i0 i j:Int}{xs:List Tf}(h:EM i0 i xs)(hij:i<=j):EM i0 j xs:=⟨by have:=h.le;omega,by have:=h.size;omega,h.small⟩
theorem DX.app {a b:Fl}(ha:DX a)(hb:DX b):DX (a++b):=λ t ht=>(List.mem_append.1 ht).elim (ha t) (hb t)
theorem DX.named {x:Tf}(h:DX x.flat){n:A1}(hn:len n<=1048576):DX (x.named n).flat:=by
 cases x with|mk t ps=>
 intro u hu
 rcases List.mem_cons.1 hu with rfl|hu
 ·have:=h { t with many:=len ps} (by unfold Tf.flat;exact List.mem_cons_self)
  exact⟨hn,this.s,this.c⟩
 ·exact h u (by unfold Tf.flat;exact List.mem_cons_of_mem _ hu)
theorem EM.snoc {l:List Tk}{i0 i j:Int}{xs:List Tf}{x:Tf}(h:EM i0 i xs)(hx:K2 l i x j):EM i0 j (xs++[x]):=by
 have h1:=h.le
 have h2:=h.size
 have h3:=hx.lt
 have h4:=hx.size
 refine⟨by omega,?_,?_⟩
 ·rw[H8,AJ];show _+len (x.flat++[])<=_;rw[List.append_nil];omega
 ·rw[H8];refine h.small.app ?_;show DX (x.flat++[]);rw[List.append_nil];exact hx.small
theorem EM.fM {l:List Tk}{i0 i j:Int}{xs:List Tf}{x:Tf}(h:EM i0 i xs)(hx:K2 l i x j){n:A1}(hn:len n<=1048576):EM i0 j (xs++[x.named n]):=by
 have h1:=h.le
 have h2:=h.size
 have h3:=hx.lt
 have h4:=hx.size
 refine⟨by omega,?_,?_⟩
 ·rw[H8,AJ];show _+len ((x.named n).flat++[])<=_;rw[List.append_nil,Tf.pM];omega
 ·rw[H8];refine h.small.app ?_;show DX ((x.named n).flat++[]);rw[List.append_nil];exact hx.small.named hn
theorem IP{t:Tm}{ps:List Tf}(ht:t.small)(h:DX (AF ps)):DX (Tf.mk t ps).flat:=λ u hu=>by
 unfold Tf.flat at hu
 rcases List.mem_cons.1 hu with rfl|hu
 ·exact⟨ht.name,ht.s,ht.c⟩
 ·exact h u hu
theorem G5(o:Int):(AR o).small:=⟨by show len ([]:A1)<=_;decide,by show len ([]:A1)<=_;decide,by show len ([]:A1)<=_;decide⟩
theorem JD(t:Tm)(ps:List Tf):len (Tf.mk t ps).flat=1+len (AF ps):=by unfold Tf.flat;rw[AL];omega
theorem JE(x:Tf):AF [x]=x.flat:=by show x.flat++[]=_;rw[List.append_nil]
theorem XL{a b:List Tf}(h:a.Perm b):(AF a).Perm (AF b):=by
 rw[NV,NV];exact(h.map Tf.flat).flatten
theorem fN(o:Int)(xs:List Tf):len (HN o xs).flat=1+len (AF xs):=by
 unfold HN;rw[JD];have:=(XL (MB xs)).length_eq;unfold len;omega
theorem fO(o:Int){xs:List Tf}(h:DX (AF xs)):DX (HN o xs).flat:=IP (t:= { AR 2 with n:=o}) ⟨(G5 2).1,(G5 2).2,(G5 2).3⟩ λ u hu=>h u ((XL (MB xs)).mem_iff.1 hu)
theorem uE{l:List Tk}(ok:DV l){i:Int}{c:Nd}{j:Int}(h0:0<=i)(h1:i<len l)(h:FB l i= .ok c j):len c.s<=1048576:=by
 unfold FB at h
 have hm:=at_mem h0 h1
 split at h
 ·rename_i h5;cases h;exact(ok.num _ hm h5).1
 ·split at h
  ·cases h;exact ok.bd _ hm
  ·split at h
   ·cases h;show len ([]:A1)<=_;decide
   ·exact(CP h).elim
theorem fP{l:List Tk}(ok:DV l){i:Int}{x:Tf}{j:Int}(h0:0<=i)(h1:i<len l)(h:KT l i= .ok x j):DX x.flat:=by
 unfold KT at h
 split at h
 ·rename_i q
  obtain⟨c,k,h2,h3⟩:=B3 h
  cases h3
  have:=uE ok (by omega) (GS ok h0 h1 q.1 (by decide)) h2
  exact IP (t:=⟨9,0,[],[],_,c⟩) ⟨by show len ([]:A1)<=_;decide,by show len ([]:A1)<=_;decide,this⟩ λ u hu=>by cases hu
 ·exact(CP h).elim
theorem fQ{l:List Tk}(ok:DV l){i0:Int}: ∀(f:Nat) {xs:List Tf} {i:Int} {ys:List Tf} {j:Int},0<=i->i<len l->EM i0 i xs->LY f l xs i= .ok ys j->i<=j/\j<len l/\EM i0 j ys
 |0,xs,i,ys,j,_,_,_,h=>(CP h).elim
 |f+1,xs,i,ys,j,h0,h1,hg,h=>by
  unfold LY at h
  split at h
  ·rename_i hb
   have hj:=G4 ok h0 h1 hb
   obtain⟨x,k,h2,h3⟩:=B3 h
   obtain⟨rfl,q1,q2,q3,q4⟩:=T1 ok (by omega) hj h2
   have hx:K2 l i x (i+1+2):=⟨by omega,q1,q4,by rw[q2];show(1:Int)<=_;omega,fP ok (by omega) hj h2⟩
   have:=fQ ok f (by omega) q1 (hg.snoc hx) h3
   exact⟨by omega,this.2⟩
  ·cases h;exact⟨by omega,h1,hg⟩
theorem uF{l:List Tk}(ok:DV l){d i:Int}{x:Tf}{j:Int}(h0:0<=i)(h1:i<len l)(h:NQ l d i= .ok x j):K2 l i x j:=by
 unfold NQ at h
 obtain⟨m0,i0,h2,h3⟩:=B3 h
 obtain⟨rfl,h4,h5,h6⟩:=Go.Proofs.YtmjpjbmeamnfpaaGreatDoor.T0 ok h0 h1 (by omega) (by omega) h2
 obtain⟨m,k,h7,h8⟩:=B3 h3
 obtain⟨h9,ha,hb,hc⟩:=eQ ok _ (by omega) h4 h5 h6 h7
 have ht:({ AR 1 with n:=m}:Tm).small:=⟨(G5 1).1,(G5 1).2,(G5 1).3⟩
 split at h8
 ·obtain⟨_,k1,q1,q2⟩:=B3 h8
  obtain⟨rfl,q3,_,_⟩:=GU ok (by omega) ha q1
  obtain⟨y,k2,q4,q5⟩:=B3 q2
  obtain⟨rfl,q6,q7,_,q8⟩:=T1 ok (by omega) q3 q4
  obtain⟨ys,k3,q9,q10⟩:=B3 q5
  have hy:K2 l (k+1) y (k+1+2):=⟨by omega,q6,q8,by rw[q7];show(1:Int)<=_;omega,fP ok (by omega) q3 q4⟩
  obtain⟨r1,r2,r3⟩:=fQ ok _ (by omega) q6 ((EM.nil (k+1)).snoc hy) q9
  obtain⟨_,k4,r4,r5⟩:=B3 q10
  obtain⟨rfl,r6,_⟩:=EI ok (by omega) r2 r4
  cases r5
  exact⟨by omega,r6,rfl,by unfold KU;rw[JD];have:=r3.size;omega,IP ht r3.small⟩
 ·cases h8
  exact⟨by omega,ha,rfl,by unfold KU;rw[JD];show 1+(0:Int)<=_;omega,IP ht λ u hu=>by cases hu⟩
theorem fR{p:List Sp}(h:II p):len (FK AH p)<=200000000:=by
 have h1:=Go.Proofs.YtmjpjbmeamnfpaaGreatDoor.SZ h p.length (Int.le_refl _)
 rw[M5 (show len p<=(p.length:Int)from Int.le_refl _)]at h1
 have h20:(p.length:Int)<=20:=h.1
 unfold FK
 rw[AJ]
 have h2:len (Go.Proofs.YtmjpjbmeamnfpaaGreatDoor.EJ p)=len (p.map (EF AH)).flatten:=rfl
 rw[h2]at h1
 have:len (if p=[]\/(at' p 0).part=true then([46]:A1)else [])<=1:=by split<;>decide
 omega
theorem uG{l:List Tk}(ok:DV l){i:Int}{xs:List Sp}{j:Int}(h0:0<=i)(h1:i<len l)(h:IM l i= .ok xs j):II xs:=by
 unfold IM at h
 split at h
 ·rename_i hb
  exact(NW ok _ _ _ (by omega) (G4 ok h0 h1 hb) .nil h).2.2
 ·split at h
  ·exact(CP h).elim
  ·exact(NW ok _ _ _ h0 h1 .nil h).2.2
structure uH (rt:Tf->Bool) (l:List Tk) (f:Nat):Prop where
 ty: ∀d i x j,0<=i->i<len l->AY AH rt f l d i= .ok x j->K2 l i x j
 wd: ∀d i x j,0<=i->i<len l->(at' l i).kind=2->JX AH rt f l d i= .ok x j->K2 l i x j
 tup: ∀d i0 i xs x j,0<=i->i<len l->EM i0 i xs->EG AH rt f l d xs i= .ok x j->i<=j/\j<len l/\x.t.name=[]/\len x.flat<=1+(j-i0)/\DX x.flat
 obj: ∀d i0 i xs x j,0<=i->i<len l->EM i0 i xs->DL AH rt f l d xs i= .ok x j->i<j/\j<len l/\x.t.name=[]/\len x.flat<=1+(j-i0)/\DX x.flat
theorem fS{rt:Tf->Bool}{l:List Tk}(ok:DV l){kd i:Int}{X:Int->PR Tf}{x:Tf}{j:Int}(h0:0<=i)(h1:i<len l)(hX: ∀k y m,0<=k->k<len l->X k= .ok y m->K2 l k y m)(h:FL AH rt l kd i X= .ok x j):i<j/\j<len l/\x.t.name=[]/\len x.flat<=j-i/\DX x.flat:=by
 unfold FL at h
 obtain⟨s,k1,h2,h3⟩:=B3 h
 rw[XC]at h2
 obtain⟨p,k1',h4,h5⟩:=B3 h2
 cases h5
 obtain⟨h6,h7⟩:=eP ok h0 h1 h4
 have hp:=uG ok h0 h1 h4
 obtain⟨_,k2,h8,h9⟩:=B3 h3
 obtain⟨rfl,ha,_⟩:=EI ok (by omega) h7 h8
 obtain⟨y,k3,hb,hc⟩:=B3 h9
 have gy:=hX _ _ _ (by omega) ha hb
 have:=gy.lt
 have:=gy.size
 obtain⟨_,k4,hd,he⟩:=B3 hc
 obtain⟨rfl,hf,_⟩:=EI ok (by omega) gy.le hd
 split at he
 ·cases he
  have hpl:=fR hp
  exact⟨by omega,hf,rfl,by rw[JD,JE];omega,IP ⟨(G5 kd).1,by show len (FK AH p)<=_;omega,(G5 kd).3⟩ (by rw[JE];exact gy.small)⟩
 ·exact(CP he).elim
theorem JF(rt:Tf->Bool){l:List Tk}(ok:DV l): ∀f,uH rt l f
 |0=>⟨λ _ _ _ _ _ _ h=>(CP h).elim,λ _ _ _ _ _ _ _ h=>(CP h).elim,λ _ _ _ _ _ _ _ _ _ h=>(CP h).elim,λ _ _ _ _ _ _ _ _ _ h=>(CP h).elim⟩
 |f+1=>by
  have ih:=JF rt ok f
  constructor
  ·intro d i x j h0 h1 h
   rw[AY]at h
   split at h
   ·rename_i hk;exact ih.wd d i x j h0 h1 hk h
   ·split at h
    ·obtain⟨_,k,h2,h3⟩:=B3 h
     obtain⟨rfl,h4,_,_⟩:=GU ok h0 h1 h2
     obtain⟨q1,q2,q3,q4,q5⟩:=ih.obj (d+1) (i+1) (i+1) [] x j (by omega) h4 (.nil _) h3
     exact⟨by omega,q2,q3,by omega,q5⟩
    ·obtain⟨_,k,h2,h3⟩:=B3 h
     obtain⟨rfl,h4,_,_⟩:=GU ok h0 h1 h2
     obtain⟨y,m,h5,h6⟩:=B3 h3
     have gy:=ih.ty _ _ _ _ (by omega) h4 h5
     have:=gy.lt
     have:=gy.size
     obtain⟨_,n,h7,h8⟩:=B3 h6
     obtain⟨rfl,h9,_⟩:=EI ok (by omega) gy.le h7
     cases h8
     exact⟨by omega,h9,rfl,by rw[JD,JE];omega,IP (G5 5) (by rw[JE];exact gy.small)⟩
  ·intro d i x j h0 h1 hk h
   have hi1:=GS ok h0 h1 hk (by decide)
   rw[JX]at h
   split at h
   ·cases h
    exact⟨by omega,hi1,rfl,by rw[JD];show 1+(0:Int)<=_;omega,IP (G5 0) λ u hu=>by cases hu⟩
   ·split at h
    ·obtain⟨_,k,h2,h3⟩:=B3 h
     obtain⟨rfl,h4,_,_⟩:=GU ok (by omega) hi1 h2
     obtain⟨y,m,h5,h6⟩:=B3 h3
     obtain⟨q1,q2,q3,q4,q5⟩:=ih.tup (d+1) (i+1+1) (i+1+1) [] y m (by omega) h4 (.nil _) h5
     obtain⟨_,n,h7,h8⟩:=B3 h6
     obtain⟨rfl,h9,_⟩:=EI ok (by omega) q2 h7
     cases h8
     exact⟨by omega,h9,q3,by omega,q5⟩
    ·split at h
     ·obtain⟨_,k,h2,h3⟩:=B3 h
      obtain⟨rfl,h4,_,_⟩:=GU ok (by omega) hi1 h2
      obtain⟨y,m,h5,h6⟩:=B3 h3
      have gy:=ih.ty _ _ _ _ (by omega) h4 h5
      have:=gy.lt
      have:=gy.size
      obtain⟨_,n,h7,h8⟩:=B3 h6
      obtain⟨rfl,h9,_⟩:=EI ok (by omega) gy.le h7
      cases h8
      exact⟨by omega,h9,rfl,by rw[JD,JE];omega,IP (G5 6) (by rw[JE];exact gy.small)⟩
     ·split at h
      ·obtain⟨_,k,h2,h3⟩:=B3 h
       obtain⟨rfl,h4,_,_⟩:=GU ok (by omega) hi1 h2
       obtain⟨q1,q2,q3,q4,q5⟩:=fS ok (by omega) h4 (λ k y m=>ih.ty (d+1) k y m) h3
       exact⟨by omega,q2,q3,by omega,q5⟩
      ·split at h
       ·obtain⟨_,k,h2,h3⟩:=B3 h
        obtain⟨rfl,h4,_,_⟩:=GU ok (by omega) hi1 h2
        obtain⟨q1,q2,q3,q4,q5⟩:=fS ok (by omega) h4 (λ k y m=>ih.ty (d+1) k y m) h3
        exact⟨by omega,q2,q3,by omega,q5⟩
       ·exact uF ok h0 h1 h
  ·intro d i0 i xs x j h0 h1 hg h
   rw[EG]at h
   split at h
   ·cases h
    exact⟨by omega,h1,rfl,by rw[JD];have:=hg.size;omega,IP (G5 4) hg.small⟩
   ·obtain⟨_,k,h2,h3⟩:=B3 h
    have hk:i<=k/\k<len l:=by
     split at h2
     ·cases h2;exact⟨by omega,h1⟩
     ·obtain⟨rfl,h4,_⟩:=EI ok h0 h1 h2;exact⟨by omega,h4⟩
    obtain⟨y,m,h5,h6⟩:=B3 h3
    have gy:=ih.ty _ _ _ _ (by omega) hk.2 h5
    have:=gy.lt
    obtain⟨q1,q2⟩:=ih.tup d i0 m (xs++[y]) x j (by omega) gy.le ((hg.mono hk.1).snoc gy) h6
    exact⟨by omega,q2⟩
  ·intro d i0 i xs x j h0 h1 hg h
   have hsz:=hg.size
   rw[DL]at h
   split at h
   ·rename_i hm
    cases h
    exact⟨by omega,G4 ok h0 h1 hm,rfl,by rw[fN];omega,fO 0 hg.small⟩
   ·obtain⟨_,k,h2,h3⟩:=B3 h
    have hk:i<=k/\k<len l:=by
     split at h2
     ·cases h2;exact⟨by omega,h1⟩
     ·obtain⟨rfl,h4,_⟩:=EI ok h0 h1 h2;exact⟨by omega,h4⟩
    split at h3
    ·rename_i hm
     have hk1:=G4 ok (by omega) hk.2 hm
     split at h3
     ·rename_i hc
      have hc2:AN l (k+1) [58]=true:=by rw[Bool.and_eq_true]at hc;exact hc.2
      have hk2:=G4 ok (by omega) hk1 hc2
      obtain⟨y,m,h5,h6⟩:=B3 h3
      have gy:=ih.ty _ _ _ _ (by omega) (by omega) h5
      have:=gy.lt
      have:=gy.size
      have:=hg.le
      obtain⟨_,n,h7,h8⟩:=B3 h6
      obtain⟨rfl,h9,_⟩:=EI ok (by omega) gy.le h7
      cases h8
      exact⟨by omega,h9,rfl,by rw[JD,JE];omega,IP (G5 3) (by rw[JE];exact gy.small)⟩
     ·obtain⟨_,n,h7,h8⟩:=B3 h3
      obtain⟨rfl,h9,_⟩:=EI ok (by omega) hk1 h7
      cases h8
      exact⟨by omega,h9,rfl,by rw[fN];omega,fO 1 hg.small⟩
    ·split at h3
     ·exact(CP h3).elim
     ·rename_i hc
      have hkd:(at' l k).kind≠6:=λ e=>hc (.inl (by rw[e];decide))
      have hk1:=ok.last k (by omega) hk.2 hkd
      have hnm:=ok.bd _ (at_mem (l:=l) (k:=k) (by omega) hk.2)
      obtain⟨_,n,h7,h8⟩:=B3 h3
      obtain⟨rfl,h9,_⟩:=EI ok (by omega) hk1 h7
      obtain⟨y,m,h5,h6⟩:=B3 h8
      have gy:=ih.ty _ _ _ _ (by omega) h9 h5
      have:=gy.lt
      obtain⟨q1,q2⟩:=ih.obj d i0 m (xs++[y.named (at' l k).s]) x j (by omega) gy.le ((hg.mono (j:=k+1+1) (by omega)).fM gy hnm) h6
      exact⟨by omega,q2⟩
end Go.Eng
set_option maxRecDepth 100000
namespace Go.Proofs.YtmjpjbmeamnfpaaGreatDoor
open Go.Eng
abbrev O3:List Tk->Int->Prop:=λ _ _=>True
def K3(rt:Tf->Bool):Prop:= ∀ {w:World} {M:Mem} (v:Value) (x:Tf),Sat w M->Gl w->Sl M 11 x.flat.length v (x.flat.flatMap Tm.cells)->len x.flat<=1048577->DX x.flat->
 Calls Tryz.prog 176 [v].toArray w λ e w'=>e= .returned (.bool (rt x))/\Ext w w'
abbrev L3(k:Int)(fn:FuncId)(tw:List Tk->Int->Int->PR Tf)(f:Nat)(P:List Tk->Int->Prop):Prop:=
 ∀ {w0 wv:World} {M0 M:Mem} {Rs:List HO} {b:Nat} {v:Value} {l:List Tk} {i d:Int},FN w0 wv M0 M Rs b v l i d->0<=d->d<=64->4*(len l-i)+k<=(f:Int)->P l i->
  Calls Tryz.prog fn [.pointer (some ⟨b,0,none⟩)].toArray wv (L1 w0 M0 M Rs b v d (tw l d i))
structure HA (rt:Tf->Bool) (f:Nat):Prop where
 rd:L3 2 40 (AY AH rt f) f O3
 wd:L3 1 62 (JX AH rt f) f λ l i=>(at' l i).kind=2
def fT(rt:Tf->Bool)(f:Nat)(l:List Tk)(d i:Int):PR Tf:=(CV l d i [91]).bind λ _ j=>(AY AH rt f l (d+1) j).bind λ x k=>(AV l k [93]).bind λ _ m=>.ok (.mk (AR 5) [x]) m
theorem uI{rt:Tf->Bool}{f:Nat}(H:HA rt f):L3 (-2) 65 (fT rt f) f O3:=by
 intro w0 wv M0 M Rs b v l i d h hd0 hd hf _
 obtain⟨hS,hl,hg,ok,h0,h1⟩:=h
 have hfew:=ok.few
 refine AX (Hr:=Rs) AT Tryz.func65 U Tryz.ntmps65 [(0,kn v 9 l Tk.cells)] [(0,AK b v i d)] [.bx 0 b 0] U hS (fc 0 hl (λ _=>rfl) A7) (λ B hB=>?_) U
 refine BH [0] [] (λ _ (_:Unit)=>.tu []) (λ _ j _=>[(0,AK b v j (d+1))]) hB U (A0 U) (by omega) U Tryz.call95 U U (A0 U) U (List.Sublist.refl _) (λ w M hS hF=>M6 [91] ⟨hS,(hF.get (k:=0) U).sl,hg,ok,h0,h1⟩ ⟨hd0,hd⟩) (λ _ _=>rfl) (λ _ _ _=>rfl) λ _ k hk hB _ _=>?_
 obtain⟨rfl,hk1,hd2,_⟩:=GU ok h0 h1 hk
 refine BH [0] [] (λ _ (h:AO)=>.sl 7 h.v) (λ x j h=>[(0,AK b v j (d+1)),(7,CD h.v x.flat)]) hB U (A0 U) (by omega) U Tryz.call40 U U (A0 U) U (List.Sublist.refl _) (λ w M hS hF=>H.rd ⟨hS,(hF.get (k:=0) U).sl,hg,ok,by omega,hk1⟩ (by omega) (by omega) (by omega) trivial) (λ _ _=>rfl) (λ _ _ _=>rfl) λ x j hx hB h7 _=>?_
 have gx:=(JF rt ok f).ty _ _ _ _ (by omega) hk1 hx
 have hlt:=gx.lt
 have hsz:=gx.size
 have hle:=gx.le
 refine BH [0] [] (λ _ (_:Unit)=>.tu []) (λ _ j _=>[(0,AK b v j d)]) hB U (A0 U) (by omega) U Tryz.call96 U U (A0 U) U (List.sublist_cons_self _ _) (λ w M hS hF=>M7 [93] ⟨hS,(hF.get (k:=0) U).sl,hg,ok,by omega,hle⟩ (by omega) (by omega)) (λ _ _=>rfl) (λ _ _ _=>rfl) λ _ n hn hB _ _=>?_
 refine HK 7 U ?_
 refine E9 9 [h7] D8 1 36 GP U (A0 U) (by omega) U (A0 U) (λ w=>by kernel_rfl) U λ v9=>?_
 refine B6 [] (λ h:AO=>.sl 10 h.v) [] (λ u=>[(10,CD u.v (Tf.mk (AR 5) [x]).flat)]) U (A0 U) (by omega) U Tryz.call99 U U (A0 U) U (λ w M hS hF=>T5 (AR 5) v9 h7 x hS (hF.get (k:=9) U).sl (hF.get (k:=7) U).sl (by omega)) (λ _=>rfl) (λ _=>rfl) λ h10 _=>?_
 exact AE hB U U (A0 U) (by omega) U (A0 U) λ w M' hX=>⟨h10,M',rfl,trivial,hX.le,hX.BX [0,10] U,A7⟩
def XM(rt:Tf->Bool)(f:Nat)(l:List Tk)(d i:Int):PR Tf:=(AY AH rt f l d i).bind λ x k=>.ok (.mk (AR 6) [x]) k
theorem uJ{rt:Tf->Bool}{f:Nat}(H:HA rt f):L3 2 91 (XM rt f) f O3:=by
 intro w0 wv M0 M Rs b v l i d h hd0 hd hf _
 obtain⟨hS,hl,hg,ok,h0,h1⟩:=h
 have hfew:=ok.few
 refine AX (Hr:=Rs) AT Tryz.func91 U Tryz.ntmps91 [(0,kn v 9 l Tk.cells)] [(0,AK b v i d)] [.bx 0 b 0] U hS (fc 0 hl (λ _=>rfl) A7) (λ B hB=>?_) U
 refine BH [0] [] (λ _ (h:AO)=>.sl 7 h.v) (λ x j h=>[(0,AK b v j d),(7,CD h.v x.flat)]) hB U (A0 U) (by omega) U Tryz.call40 U U (A0 U) U (List.Sublist.refl _) (λ w M hS hF=>H.rd ⟨hS,(hF.get (k:=0) U).sl,hg,ok,by omega,h1⟩ (by omega) (by omega) (by omega) trivial) (λ _ _=>rfl) (λ _ _ _=>rfl) λ x j hx hB h7 _=>?_
 have gx:=(JF rt ok f).ty _ _ _ _ (by omega) h1 hx
 have hlt:=gx.lt
 have hsz:=gx.size
 have hle:=gx.le
 refine HK 7 U ?_
 refine E9 9 [h7] D8 1 36 GP U (A0 U) (by omega) U (A0 U) (λ w=>by kernel_rfl) U λ v9=>?_
 refine B6 [] (λ h:AO=>.sl 10 h.v) [] (λ u=>[(10,CD u.v (Tf.mk (AR 6) [x]).flat)]) U (A0 U) (by omega) U Tryz.call99 U U (A0 U) U (λ w M hS hF=>T5 (AR 6) v9 h7 x hS (hF.get (k:=9) U).sl (hF.get (k:=7) U).sl (by omega)) (λ _=>rfl) (λ _=>rfl) λ h10 _=>?_
 exact AE hB U U (A0 U) (by omega) U (A0 U) λ w M' hX=>⟨h10,M',rfl,trivial,hX.le,hX.BX [0,10] U,A7⟩
theorem fU{rt:Tf->Bool}{f:Nat}(hrt:K3 rt)(H:HA rt f)(kd:Int){w0 wv:World}{M0 M:Mem}{Rs:List HO}{b:Nat}{v:Value}{l:List Tk}{i d:Int}(h:FN w0 wv M0 M Rs b v l i d)(hd0:0<d)(hd:d<=64)(hf:4*(len l-i)+2<=(f:Int)):
   Calls Tryz.prog 135 [.pointer (some ⟨b,0,none⟩),i64 kd].toArray wv (L1 w0 M0 M Rs b v (d-1) (FL AH rt l kd i (AY AH rt f l d))):=by
 obtain⟨hS,hl,hg,ok,h0,h1⟩:=h
 have hfew:=ok.few
 refine AX (Hr:=Rs) AT Tryz.func135 U Tryz.ntmps135 [(0,kn v 9 l Tk.cells)] [(0,AK b v i d)] [.bx 0 b 0,I kd] U hS (fc 0 hl (λ _=>rfl) A7) (λ B hB=>?_) U
 unfold FL at hB
 rw[XC,PR.assoc]at hB
 refine C4 [0] (D1 (at' l i)) U (A0 U) (by omega) Tryz.call41 U U (A0 U) U (λ _ w M hS hF=>DH hS (hF.get (k:=0) U).sl h0 h1) U ?_
 refine CI 5 U (A0 U) (by omega) Tryz.zeroValue63 U λ b5=>?_
 refine BH [0] [6] (λ _ (u:Value)=>.sl 6 u) (λ _ j _=>[(0,AK b v j d)]) hB U (A0 U) (by omega) U Tryz.call174 U U (A0 U) U (List.sublist_cons_self _ _) (λ w M hS hF=>tF ⟨hS,(hF.get (k:=0) U).sl,hg,ok,h0,h1⟩) (λ _ _=>rfl) (λ _ _ _=>rfl) λ p j hp hB v6 hps=>?_
 obtain⟨hj0,hj1⟩:=eP ok h0 h1 hp
 rw[PR.H9]at hB
 refine BH [0] [] (λ _ (_:Unit)=>.tu []) (λ _ j _=>[(0,AK b v j d)]) hB U (A0 U) (by omega) U Tryz.call97 U U (A0 U) U (List.sublist_cons_self _ _) (λ w M hS hF=>NT [44] hS (hF.get (k:=0) U).sl (by omega) hj1 (by omega)) (λ _ _=>rfl) (λ _ _ _=>rfl) λ _ k hk hB _ _=>?_
 obtain⟨rfl,hk1,_⟩:=EI ok (by omega) hj1 hk
 refine BH [0] [] (λ _ (h:AO)=>.sl 7 h.v) (λ x j h=>[(0,AK b v j d),(7,CD h.v x.flat)]) hB U (A0 U) (by omega) U Tryz.call40 U U (A0 U) U (List.sublist_cons_self _ _) (λ w M hS hF=>H.rd ⟨hS,(hF.get (k:=0) U).sl,hg,ok,by omega,hk1⟩ (by omega) (by omega) (by omega) trivial) (λ _ _=>rfl) (λ _ _ _=>rfl) λ x m hx hB h7 _=>?_
 have gx:=(JF rt ok f).ty _ _ _ _ (by omega) hk1 hx
 have hlt:=gx.lt
 have hsz:=gx.size
 have hle:=gx.le
 refine BH [0] [] (λ _ (_:Unit)=>.tu []) (λ _ j _=>[(0,AK b v j (d-1))]) hB U (A0 U) (by omega) U Tryz.call96 U U (A0 U) U HT (λ w M hS hF=>M7 [41] ⟨hS,(hF.get (k:=0) U).sl,hg,ok,by omega,hle⟩ (by omega) U) (λ _ _=>rfl) (λ _ _ _=>rfl) λ _ n hn hB _ _=>?_
 refine BG U (A0 U) (by omega) Tryz.call175 U U (A0 U) (λ _ w M hX=>sO v6 p hX.st.sat (hg.low hX.st.low) (hX.sl 6 U) hps) U ?_
 refine HK 7 U ?_
 refine E9 9 [h7] D8 1 36 GP U (A0 U) (by omega) U (A0 U) (λ w=>by kernel_rfl) U λ v9=>?_
 refine B6 [] (λ h:AO=>.sl 10 h.v) [] (λ u=>[(10,CD u.v (Tf.mk { AR kd with s:=FK AH p} [x]).flat)]) U (A0 U) (by omega) U Tryz.call99 U U (A0 U) U (λ w M hS hF=>T5 { AR kd with s:=FK AH p} v9 h7 x hS (hF.get (k:=9) U).sl (hF.get (k:=7) U).sl (by omega)) (λ _=>rfl) (λ _=>rfl) λ h10 _=>?_
 have hpl:=fR hps
 have hxn:x.named []=x:=Tf.pN gx.name
 rw[hxn]at hB
 refine BG U (A0 U) (by omega) Tryz.call176 U U (A0 U) (λ _ w M hX=>by
  have ht:=hX.st.told (k:=0) U
  exact hrt h10.v (Tf.mk { AR kd with s:=FK AH p} [x]) ht.sat (hg.low hX.st.low) (ht.sl (i:=0) U) (by rw[JD,JE];omega) (IP ⟨(G5 kd).1,by show len (FK AH p)<=_;omega,(G5 kd).3⟩ (by rw[JE];exact gx.small))) U ?_
 refine A8 U (A0 U) (by omega) (λ hb1=>?_) (λ hb1=>?_)<;>simp only[zb]at hb1
 ·rw[if_neg (by rw[hb1];decide)]at hB
  exact ET [0] U (A0 U) (by omega) U Tryz.call42 U (A0 U) U (λ w M hS hF=>H7 (at' l i) 1 hS) λ a w M hs hS hle=>DQ _ (hB.p ⟨M,rfl,hS.drop _ (List.sublist_append_right _ Rs),hle⟩ a hs)
 ·rw[if_pos hb1]at hB
  exact AE hB U U (A0 U) (by omega) U (A0 U) λ w M' hX=>⟨h10,M',rfl,trivial,hX.le,hX.BX [0,10] U,A7⟩
theorem uK{rt:Tf->Bool}{f:Nat}(hrt:K3 rt)(H:HA rt f){w0 wv:World}{M0 M:Mem}{Rs:List HO}{b:Nat}{v:Value}{l:List Tk}{i d:Int}(h:FN w0 wv M0 M Rs b v l i d)(hd0:0<d)(hd:d<=64)(hf:4*(len l-i)+2<=(f:Int)):
  Calls Tryz.prog 92 [.pointer (some ⟨b,0,none⟩)].toArray wv (L1 w0 M0 M Rs b v (d-1) (FL AH rt l 7 i (AY AH rt f l d))):=by
 obtain⟨hS,hl,hg,ok,h0,h1⟩:=h
 refine AX (Hr:=Rs) AT Tryz.func92 U Tryz.ntmps92 [(0,kn v 9 l Tk.cells)] [(0,AK b v i d)] [.bx 0 b 0] U hS (fc 0 hl (λ _=>rfl) A7) (λ B hB=>?_) U
 rw[<-PR.ret (FL AH rt l 7 i (AY AH rt f l d))]at hB
 refine BH [0] [] (λ _ (h:AO)=>.sl 7 h.v) (λ x j h=>[(0,AK b v j (d-1)),(7,CD h.v x.flat)]) hB U (A0 U) (by omega) U Tryz.call135 U U (A0 U) U (List.Sublist.refl _) (λ w M hS hF=>fU hrt H 7 ⟨hS,(hF.get (k:=0) U).sl,hg,ok,h0,h1⟩ hd0 hd hf) (λ _ _=>rfl) (λ _ _ _=>rfl) λ x j hx hB h7 _=>?_
 exact AE hB U U (A0 U) (by omega) U (A0 U) λ w M' hX=>⟨h7,M',rfl,trivial,hX.le,hX.BX [0,7] U,A7⟩
theorem uL{rt:Tf->Bool}{f:Nat}(hrt:K3 rt)(H:HA rt f){w0 wv:World}{M0 M:Mem}{Rs:List HO}{b:Nat}{v:Value}{l:List Tk}{i d:Int}(h:FN w0 wv M0 M Rs b v l i d)(hd0:0<d)(hd:d<=64)(hf:4*(len l-i)+2<=(f:Int)):
  Calls Tryz.prog 93 [.pointer (some ⟨b,0,none⟩)].toArray wv (L1 w0 M0 M Rs b v (d-1) (FL AH rt l 8 i (AY AH rt f l d))):=by
 obtain⟨hS,hl,hg,ok,h0,h1⟩:=h
 refine AX (Hr:=Rs) AT Tryz.func93 U Tryz.ntmps93 [(0,kn v 9 l Tk.cells)] [(0,AK b v i d)] [.bx 0 b 0] U hS (fc 0 hl (λ _=>rfl) A7) (λ B hB=>?_) U
 rw[<-PR.ret (FL AH rt l 8 i (AY AH rt f l d))]at hB
 refine BH [0] [] (λ _ (h:AO)=>.sl 7 h.v) (λ x j h=>[(0,AK b v j (d-1)),(7,CD h.v x.flat)]) hB U (A0 U) (by omega) U Tryz.call135 U U (A0 U) U (List.Sublist.refl _) (λ w M hS hF=>fU hrt H 8 ⟨hS,(hF.get (k:=0) U).sl,hg,ok,h0,h1⟩ hd0 hd hf) (λ _ _=>rfl) (λ _ _ _=>rfl) λ x j hx hB h7 _=>?_
 exact AE hB U U (A0 U) (by omega) U (A0 U) λ w M' hX=>⟨h7,M',rfl,trivial,hX.le,hX.BX [0,7] U,A7⟩
theorem uM{rt:Tf->Bool}{f:Nat}(H: ∀g,g<=f->HA rt g):L3 3 90 (λ l d i=>EG AH rt f l d [] i) f O3:=by
 intro w0 wv M0 M Rs b v l i d h hd0 hd hf _
 obtain⟨hS,hl,hg,ok,h0,h1⟩:=h
 have hfew:=ok.few
 refine AX (Hr:=Rs) AT Tryz.func90 U Tryz.ntmps90 [(0,kn v 9 l Tk.cells)] [(0,AK b v i d)] [.bx 0 b 0] U hS (fc 0 hl (λ _=>rfl) A7) (λ B hB=>?_) U
 dsimp only at hB
 generalize hR:EG AH rt f l d [] i=R at hB
 refine CA U (A0 U) (by omega) ?_
 refine OX 6 3 36 1 D8 GP U ?_
 refine I8 8 (HU [] []) (λ w M hX=>⟨Sl.nil M 1,DC,trivial⟩) ?_
 refine E4 (σ:=Int×Value×List AO×List Tf×Bool×Nat) (λ(j,u,hs,xs,fi,q)=>⟨[(0,kn v 9 l Tk.cells),(6,kn u 1 hs D8),(8,HU hs (xs.map Tf.flat))],[(0,AK b v j d),(6,.ho (.own 36 1 u hs.length (hs.flatMap D8)))],[Z 0 (.bx 0 b 0),Z 3 (.sl 6 u),Z 4 (.v (.bool fi))]⟩)
   (λ(j,u,hs,xs,fi,q)=>0<=j/\j<len l/\EM i j xs/\hs.length=xs.length/\xs.isEmpty=fi/\len xs<=j-i/\4*(len l-j)+3<=(q:Int)/\q<=f/\EG AH rt q l d xs j=R) (λ(j,u,hs,xs,fi,q)=>(len l-j).toNat) (i,.slice none 0 0,[],[],true,f) U (A0 U) (by omega) U ⟨h0,h1,.nil i,rfl,rfl,by show(0:Int)<=_;omega,hf,Nat.le_refl _,hR⟩ ?_
 rintro⟨j,u,hs,xs,fi,q⟩ ⟨hj0,hj1,hgs,hhl,hfi,hxl,hq,hqf,hst⟩
 cases q with
 |zero=>exfalso;omega
 |succ q=>
 rw[EG]at hst
 refine C4 [0] (.v (.bool (AN l j [41]))) U (A0 U) (by omega) Tryz.call63 U U (A0 U) U (λ _ w M hS hF=>HP [41] hS (hF.get (k:=0) U).sl hj0 hj1) U ?_
 refine A8 U (A0 U) (by omega) (λ hb1=>?_) (λ hb1=>?_)
 ·have hb:AN l j [41]=false:=by simpa using hb1
  rw[if_neg (by rw[hb];decide)]at hst
  rw[<-hst]at hB
  refine HL 0 (λ s=> ∃j',j<=j'/\j'<len l/\((AY AH rt q l d j').bind λ x m=>EG AH rt q l d (xs++[x]) m)=R/\s=⟨[(0,kn v 9 l Tk.cells),(6,kn u 1 hs D8),(8,HU hs (xs.map Tf.flat))],[(0,AK b v j' d),(6,.ho (.own 36 1 u hs.length (hs.flatMap D8)))],[Z 0 (.bx 0 b 0),Z 3 (.sl 6 u),Z 4 (.v (.bool fi))]⟩) U (A0 U) (by omega) U (λ hb2=>?_) (λ hb2=>?_) ?_
  ·have hf2:fi=false:=by simpa using hb2
   rw[hfi,hf2,if_neg (by decide)]at hB hst
   refine BH [0] [] (λ _ (_:Unit)=>.tu []) (λ _ j _=>[(0,AK b v j d)]) hB U (A0 U) (by omega) U Tryz.call97 U U (A0 U) U (List.sublist_cons_self _ _) (λ w M hS hF=>NT [44] hS (hF.get (k:=0) U).sl hj0 hj1 (by omega)) (λ _ _=>rfl) (λ _ _ _=>rfl) λ _ k hk hB _ _=>?_
   obtain⟨rfl,hk1,_⟩:=EI ok hj0 hj1 hk
   rw[hk,PR.H9]at hst
   exact BB _ U (A0 U) (by omega) U ⟨j+1,by omega,hk1,hst,rfl⟩
  ·have hf2:fi=true:=by simpa using hb2
   rw[hfi,hf2,if_pos U,PR.H9]at hst
   exact BB _ U (A0 U) (by omega) U ⟨j,by omega,hj1,hst,rfl⟩
  rintro s ⟨j',hjj,hj2,hR2,rfl⟩
  rw[hst,<-hR2]at hB
  refine BH [0] [] (λ _ (h:AO)=>.sl 7 h.v) (λ x j h=>[(0,AK b v j d),(7,CD h.v x.flat)]) hB U (A0 U) (by omega) U Tryz.call40 U U (A0 U) U (List.sublist_cons_self _ _) (λ w M hS hF=>(H q (by omega)).rd ⟨hS,(hF.get (k:=0) U).sl,hg,ok,by omega,hj2⟩ hd0 hd (by omega) trivial) (λ _ _=>rfl) (λ _ _ _=>rfl) λ x m hx hB h7 _=>?_
  have gx:=(JF rt ok q).ty _ _ _ _ (by omega) hj2 hx
  have hlt:=gx.lt
  have hle:=gx.le
  rw[hx,PR.H9]at hR2
  refine HK 7 U ?_
  refine E9 9 [h7] D8 1 36 GP U (A0 U) (by omega) U (A0 U) (λ w=>by kernel_rfl) U λ v9=>?_
  refine N9 24 U (A0 U) (by omega) U (A0 U) U Tryz.underlying43 Tryz.type36 U U W3 (by simp only[AL,len_nil];unfold len at*;omega) λ v'=>?_
  refine I8 8 (HU (hs++[h7]) ((xs++[x]).map Tf.flat)) (λ w M hX=>⟨Sl.nil M 1,DC,by rw[List.map_append];exact C8.snoc (hX.sl 7 U) (hX.f.get (k:=8) U).more⟩) ?_
  exact DJ (m,v',hs++[h7],xs++[x],false,q) U (A0 U) (by omega) U ⟨by omega,hle,(hgs.mono hjj).snoc gx,by simp[hhl],by simp,by rw[AJ];show len xs+1<=_;omega,by omega,by omega,hR2⟩ (by show Int.toNat _<Int.toNat _;omega)
 have hb:AN l j [41]=true:=by simpa using hb1
 rw[if_pos hb]at hst
 rw[<-hst]at hB
 have hsz:=hgs.size
 refine B6 [] (λ h:AO=>.sl 10 h.v) [] (λ u=>[(10,CD u.v (Tf.mk (AR 4) xs).flat)]) U (A0 U) (by omega) U Tryz.call99 U U (A0 U) U (λ w M hS hF=>uD (AR 4) u hs xs hS (hF.get (k:=6) U).sl (hF.get (k:=8) U).more (by omega) (by omega)) (λ _=>rfl) (λ _=>rfl) λ h10 _=>?_
 exact AE hB U U (A0 U) (by omega) U (A0 U) λ w M' hX=>⟨h10,M',rfl,trivial,hX.le,hX.BX [0,10] U,A7⟩
end Go.Proofs.YtmjpjbmeamnfpaaGreatDoor
