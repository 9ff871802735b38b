/-
  Parts Ii Iy Ik, put together and made short by wip/py/merge.py (mini.py).
-/
import Derived.Test.YtmjpjbmeamnfpaaGreatDoorZe21
import Derived.Test.YtmjpjbmeamnfpaaGreatDoorZe0
set_option linter.unusedVariables false
set_option linter.unusedSimpArgs false
set_option maxRecDepth 100000
namespace Go.Eng
def HT(ns:List A1)(k:Int)(x:Fl):Fl:=if k<len ns then x.set 0 { at' x 0 with name:=at' ns k}else x
def E8(ns:List A1)(xs:List Fl):List Fl:=xs.mapIdx λ k x=>HT ns k x
theorem xL(ns:List A1)(k:Int)(x:Fl):(HT ns k x).length=x.length:=by unfold HT;split<;>simp
theorem j0(ns:List A1)(xs:List Fl)(x:Fl):E8 ns (xs++[x])=E8 ns xs++[HT ns (len xs) x]:=by unfold E8;rw[List.mapIdx_concat];rfl
theorem j3(ns:List A1)(xs:List Fl):len (E8 ns xs)=len xs:=by unfold E8 len;rw[List.length_mapIdx]
theorem ZD(ns:List A1)(xs:List Fl):len (E8 ns xs).flatten=len xs.flatten:=by
 have h:(E8 ns xs).map List.length=xs.map List.length:=by
  apply List.ext_getElem?
  intro i
  unfold E8
  rw[List.getElem?_map,List.getElem?_map,List.getElem?_mapIdx]
  cases xs[i]? with
  |none=>rfl
  |some x=>simp[xL]
 unfold len
 rw[List.length_flatten,List.length_flatten,h]
theorem ZE(xs:List Fl):E8 [] xs=xs:=by
 unfold E8
 have:(λ(k:Nat) (x:Fl)=>HT [] k x)=λ _ x=>x:=by funext k x;unfold HT;rw[if_neg (by rw[len_nil];omega)]
 rw[this];apply List.ext_getElem?;intro i;simp
theorem xM{ns:List A1}{gs:List Tf}(h:ns.length=gs.length)(hn:ns.Nodup):E8 (BC ns) ((BC ns).map λ n=>(at' gs (E7 ns n)).flat)=(LN (DL ns gs)).map Tf.flat:=by
 have e1:E8 (BC ns) ((BC ns).map λ n=>(at' gs (E7 ns n)).flat)=(BC ns).map λ n=>((at' gs (E7 ns n)).named n).flat:=by
  unfold E8
  apply List.ext_getElem?
  intro i
  rw[List.getElem?_mapIdx,List.getElem?_map,List.getElem?_map]
  cases hi:(BC ns)[i]? with
  |none=>rfl
  |some n=>
   simp only[Option.map_some,Option.some.injEq]
   have hlt:=(List.getElem?_eq_some_iff.1 hi).1
   have ha:at' (BC ns) (i:Int)=n:=by unfold at';simp[hi]
   unfold HT
   rw[if_pos (by unfold len;omega),ha]
   exact Tf.sU _ _
 rw[e1]
 have e2:=xF (DL ns gs)
 rw[US h]at e2
 rw[<-e2,List.map_map]
 refine List.map_congr_left λ y hy=>?_
 have:=xH h hn ((N3 _).mem_iff.1 hy)
 show((at' gs (E7 ns y.t.name)).named y.t.name).flat=y.flat
 rw[<-this]
end Go.Eng
namespace Go.Proofs.YtmjpjbmeamnfpaaGreatDoor
open Go.Eng
abbrev LU(w0:World)(M0 M:Mem)(Rs:List HO)(x:Fl):Ending->World->Prop:=CX w0 M0 M Rs (λ h:AO=>h.v) (λ _=>True) (λ _=>[]) λ h=>[RJ h.v x]
theorem RN{w0 w:World}{M0 M:Mem}{Rs:List HO}{x:Fl}{e:Ending}(h:CX w0 M0 M Rs (λ u:Value=>u) (λ _=>True) (λ _=>[]) (λ u=>[RJ u x]) e w):LU w0 M0 M Rs x e w:=by
 obtain⟨u,M',h1,h2,h3,h4,h5⟩:=h
 have ht:=h4.told (k:=0) U
 obtain⟨a,c,hv,_⟩:=(ht.sl (i:=0) rfl).val
 exact⟨⟨a,x.length,c⟩,M',by rw[h1,hv],trivial,h3,by rw[hv]at h4;exact h4,AA⟩
theorem j4{w0 wv:World}{M0 M:Mem}{Rs:List HO}(v:Value)(hs:List AO)(xs:List Fl)(hS:St w0 M0 wv M Rs)(hu:(G0 v hs xs).ok M)(hb:len xs.flatten<=1099511627776)(hr:len hs<=1099511627776):
  Calls Tryz.prog 179 [v].toArray wv (LU w0 M0 M Rs xs.flatten):=by
 have hlr:=Y9 hu
 have hln:=A8 hs
 have hfn:=A8 xs.flatten
 refine B3 (Hr:=Rs) AX Tryz.func179 U Tryz.ntmps179 [(0,G0 v hs xs)] [] [.sl 0 v] U hS (C0 hu AA) (λ B hB=>?_) U
 refine EA (σ:=Int×Int) (λ(k,t)=>⟨[(0,G0 v hs xs)],[],[Z 0 (.sl 0 v),Z 3 (I t),Z 9 (.sl 0 v),Z 10 (I (len hs)),Z 11 (I k)]⟩) (λ(k,t)=>0<=k/\k<=len hs/\t=len (H5 xs k)) (λ(k,t)=>(len hs-k).toNat) (0,0) U (A0 U) (by omega) U ⟨by omega,by omega,rfl⟩ ?_
 rintro⟨k,t⟩ ⟨h0,h1,ht⟩
 have hfl:=R5 xs k
 have hfk:=A8 (H5 xs k)
 refine AB U (A0 U) (by omega) (λ hb1=>?_) (λ hb1=>?_)<;>simp only[zb]at hb1
 ·have hft:=UB (xs:=xs) h0 (by omega)
  have hf2:=R5 xs (k+1)
  rw[hft,AG]at hf2
  have hak:=A8 (at' xs k)
  refine CH U (A0 U) (by omega) ?_
  refine I4 1 (BS (at' hs k).v (at' xs k)) (λ w M hX=>UC (hX.f.get (k:=0) U) h0 hb1) (QE 16 1 U ?_)
  refine AB U (A0 U) (by omega) (λ hb2=>?_) (λ hb2=>?_)<;>simp only[zb]at hb2
  ·exfalso;omega
  exact DO (k+1,t+len (at' xs k)) U (A0 U) (by omega) U ⟨by omega,by omega,by rw[hft,AG,ht]⟩ (by show Int.toNat _<Int.toNat _;omega)
 have hke:k=len hs:=by omega
 subst hke
 rw[eZ (by omega)]at ht
 subst ht
 refine B9 [] (λ u:Value=>.sl 2 u) [] (λ u=>[(2,C2 u [])]) U (A0 U) (by omega) U Tryz.call227 U U (A0 U) U (λ w M hS hF=>(wV (len xs.flatten) hS hfn hb).mono λ e w' ⟨u,he,hs⟩=>⟨u,M,he,trivial,Mem.le.refl _,hs,AA⟩) (λ _=>rfl) (λ _=>rfl) λ u _=>?_
 refine EA (σ:=Int×Value×Fl) (λ(k,u,y)=>⟨[(0,G0 v hs xs)],[(2,C2 u y)],[Z 6 (.sl 2 u),Z 25 (.sl 0 v),Z 26 (I (len hs)),Z 27 (I k)]⟩) (λ(k,u,y)=>0<=k/\k<=len hs/\y=H5 xs k) (λ(k,u,y)=>(len hs-k).toNat) (0,u,[]) U (A0 U) (by omega) U ⟨by omega,by omega,rfl⟩ ?_
 rintro⟨k,u,y⟩ ⟨h0,h1,hy⟩
 refine AB U (A0 U) (by omega) (λ hb1=>?_) (λ hb1=>?_)<;>simp only[zb]at hb1
 ·have hft:=UB (xs:=xs) h0 (by omega)
  have hf2:=R5 xs (k+1)
  rw[hft,AG]at hf2
  refine CH U (A0 U) (by omega) ?_
  refine I4 1 (BS (at' hs k).v (at' xs k)) (λ w M hX=>UC (hX.f.get (k:=0) U) h0 hb1) (QE 32 1 U ?_)
  refine KB 120 U (A0 U) (by omega) U (A0 U) U Tryz.underlying36 Tryz.type48 U U Tm.cells_one (by rw[hy];omega) λ v'=>?_
  exact DO (k+1,v',y++at' xs k) U (A0 U) (by omega) U ⟨by omega,by omega,by rw[hft,hy]⟩ (by show Int.toNat _<Int.toNat _;omega)
 rw[eZ (by omega)]at hy
 subst hy
 exact AH hB U U (A0 U) (by omega) U (A0 U) λ w M' hX=>RN ⟨u,M',rfl,trivial,hX.le,hX.st,AA⟩
theorem xN{w0 wv:World}{M0 M:Mem}{Rs:List HO}(v:Value)(x:Fl)(hS:St w0 M0 wv M Rs)(hx:(BS v x).ok M)(h0:x≠[])(hb:len x<=1099511627776):
  Calls Tryz.prog 138 [v].toArray wv (LU w0 M0 M Rs x):=by
 refine B3 (Hr:=Rs) AX Tryz.func138 U Tryz.ntmps138 [(0,BS v x)] [] [.sl 0 v] U hS (C0 hx AA) (λ B hB=>?_) U
 refine DT (.v (.bool false)) U (A0 U) (by omega) U (λ w M hX=>.sS (hX.sl 0 U) (List.length_pos_iff.2 h0) (AT (v:=.sl 0 v) (E:=[]) U (A0 U)) Tryz.underlying36) ?_
 refine AB U (A0 U) (by omega) (λ hb1=>?_) (λ hb1=>?_)
 ·cases hb1
 refine ML 2 ([]:List Tm) Tm.cells 11 48 Tm.BZ U (A0 U) (by omega) U (A0 U) (λ w=>by kernel_rfl) U λ u=>?_
 refine KB 120 U (A0 U) (by omega) U (A0 U) U Tryz.underlying36 Tryz.type48 U U Tm.cells_one (by rw[len_nil];omega) λ v'=>?_
 exact AH hB U U (A0 U) (by omega) U (A0 U) λ w M' hX=>RN ⟨v',M',rfl,trivial,hX.le,hX.st,AA⟩
theorem xO{w0 wv:World}{M0 M:Mem}{Rs:List HO}(t:Tm)(v:Value)(hs:List AO)(xs:List Fl)(hS:St w0 M0 wv M Rs)(hu:(G0 v hs xs).ok M)(hb:len xs.flatten<=1000000000000)(hr:len hs<=1099511627776):
  Calls Tryz.prog 139 [.agg t.cells.toArray,v].toArray wv (LU w0 M0 M Rs (t::xs.flatten)):=by
 refine B3 (Hr:=Rs) AX Tryz.func139 U Tryz.ntmps139 [(0,G0 v hs xs)] [] [.ag (HF t.cells),.sl 0 v] U hS (C0 hu AA) (λ B hB=>?_) U
 have hfn:=A8 xs.flatten
 refine F6 1 U (A0 U) (by omega) U U (A0 U) λ b=>?_
 refine KN [1,3,4,5] 5 (λ _ _ _ _ _ h=>h) U (A0 U) (by omega) EV (by decide+kernel) ?_
 refine eY 1 3 U (A0 U) (by omega) U U ?_ ?_
 ·refine ML 2 [t] Tm.cells 11 48 Tm.BZ U (A0 U) (by omega) U (A0 U) (λ w=>by kernel_rfl) U λ u=>?_
  refine CE U (A0 U) (by omega) ?_
  refine CS 3 U (A0 U) (by omega) U U ?_
  refine B9 [] (λ u:AO=>.sl 3 u.v) [] (λ u=>[(3,C2 u.v xs.flatten)]) U (A0 U) (by omega) U Tryz.call179 U U (A0 U) U (λ w M hS hF=>j4 v hs xs hS (hF.get (k:=0) U) (by omega) hr) (λ _=>rfl) (λ _=>rfl) λ u' _=>?_
  refine FW 3 U ?_
  refine CE U (A0 U) (by omega) ?_
  refine CS 4 U (A0 U) (by omega) U U ?_
  refine KB 120 U (A0 U) (by omega) U (A0 U) U Tryz.underlying36 Tryz.type48 U U Tm.cells_one (by simp only[AK,len_nil];omega) λ v'=>?_
  refine CE U (A0 U) (by omega) ?_
  refine CS 5 U (A0 U) (by omega) U U ?_
  refine CE U (A0 U) (by omega) ?_
  refine HQ U (A0 U) (by omega) U U ?_
  exact AH hB U U (A0 U) (by omega) U (A0 U) λ w M' hX=>RN ⟨v',M',rfl,trivial,hX.le,hX.st.drop _ ((List.sublist_cons_self _ _).cons_cons _),AA⟩
 ·refine B9 [] (λ u:AO=>.sl 3 u.v) [] (λ u=>[(3,C2 u.v xs.flatten)]) U (A0 U) (by omega) U Tryz.call179 U U (A0 U) U (λ w M hS hF=>j4 v hs xs hS (hF.get (k:=0) U) (by omega) hr) (λ _=>rfl) (λ _=>rfl) λ u' _=>?_
  refine FW 3 U ?_
  refine CE U (A0 U) (by omega) ?_
  refine CS 1 U (A0 U) (by omega) U U ?_
  refine ML 2 [t] Tm.cells 11 48 Tm.BZ U (A0 U) (by omega) U (A0 U) (λ w=>by kernel_rfl) U λ u=>?_
  refine CE U (A0 U) (by omega) ?_
  refine CS 4 U (A0 U) (by omega) U U ?_
  refine KB 120 U (A0 U) (by omega) U (A0 U) U Tryz.underlying36 Tryz.type48 U U Tm.cells_one (by simp only[AK,len_nil];omega) λ v'=>?_
  refine CE U (A0 U) (by omega) ?_
  refine CS 5 U (A0 U) (by omega) U U ?_
  refine CE U (A0 U) (by omega) ?_
  refine HQ U (A0 U) (by omega) U U ?_
  exact AH hB U U (A0 U) (by omega) U (A0 U) λ w M' hX=>RN ⟨v',M',rfl,trivial,hX.le,hX.st.drop _ ((List.sublist_cons_self _ _).cons_cons _),AA⟩
theorem ZF{w0 wv:World}{M0 M:Mem}{Rs:List HO}(t:Tm)(vn:Value)(ns:List A1)(v:Value)(hs:List AO)(xs:List Fl)(hS:St w0 M0 wv M Rs)(hn:Sl M 1 ns.length vn (ns.flatMap AW))(hu:(G0 v hs xs).ok M)(hne: ∀x∈xs,x≠[])(hb:len xs.flatten<=100000000000)(hr:len hs<=1048576):
  Calls Tryz.prog 99 [.agg t.cells.toArray,vn,v].toArray wv (LU w0 M0 M Rs ({ t with many:=len xs}::(E8 ns xs).flatten)):=by
 have hlr:=Y9 hu
 have hln:=A8 hs
 have hnl:=A8 ns
 rw[<-hlr]
 refine B3 (Hr:=Rs) AX Tryz.func99 U Tryz.ntmps99 [(0,G0 v hs xs),(1,kn vn 1 ns AW)] [] [.ag (HF t.cells),.sl 1 vn,.sl 0 v] U hS (C0 hu (fc 1 hn DN AA)) (λ B hB=>?_) U
 refine F6 1 U (A0 U) (by omega) U U (A0 U) λ b=>?_
 refine CH U (A0 U) (by omega) ?_
 refine QF 6 7 36 1 DB EX U ?_
 refine I4 8 (IC [] []) (λ w M hX=>⟨Sl.nil M 1,DN,trivial⟩) ?_
 refine EA (σ:=Int×Value×List AO×List Fl) (λ(k,u,gs,ys)=>⟨[(0,G0 v hs xs),(1,kn vn 1 ns AW),(6,kn u 1 gs DB),(8,IC gs ys)],[(1,.box b [I t.op,I (len hs),.v (str t.name),.v (str t.s),I t.n,I t.c.kind,I t.c.many,.v (str t.c.name),.v (str t.c.s),.v (.bool t.c.neg),I t.c.e] 48),(6,.ho (.own 36 1 u gs.length (gs.flatMap DB)))],[Z 1 (.sl 1 vn),Z 3 (.bx 1 b 0),Z 7 (.sl 6 u),Z 13 (.sl 0 v),Z 14 (I (len hs)),Z 15 (I k)]⟩)
   (λ(k,u,gs,ys)=>0<=k/\k<=len hs/\ys=E8 ns (Eng.sub xs 0 k)/\len gs=k) (λ(k,u,gs,ys)=>(len hs-k).toNat) (0,.slice none 0 0,[],[]) U (A0 U) (by omega) U ⟨by omega,by omega,rfl,rfl⟩ ?_
 rintro⟨k,u,gs,ys⟩ ⟨h0,h1,hy,hgl⟩
 refine AB U (A0 U) (by omega) (λ hb1=>?_) (λ hb1=>?_)<;>simp only[zb]at hb1
 ·have hxm:=hne _ (at_mem (l:=xs) h0 (by omega))
  have hxp:=JG hxm
  have hft:=UB (xs:=xs) h0 (by omega)
  have hf2:=R5 xs (k+1)
  have hf3:=A8 (H5 xs k)
  rw[hft,AG]at hf2
  refine CH U (A0 U) (by omega) ?_
  refine I4 2 (BS (at' hs k).v (at' xs k)) (λ w M hX=>UC (hX.f.get (k:=0) U) h0 hb1) (QE 20 2 U ?_)
  refine B9 [] (λ u:AO=>.sl 5 u.v) [] (λ u=>[(5,C2 u.v (at' xs k))]) U (A0 U) (by omega) U Tryz.call138 U U (A0 U) U (λ w M hS hF=>xN (at' hs k).v (at' xs k) hS (hF.get (k:=2) U) hxm (by omega)) (λ _=>rfl) (λ _=>rfl) λ h5 _=>?_
  refine HH 0 (λ s=> ∃z:Fl,z=HT ns k (at' xs k)/\s=⟨[(0,G0 v hs xs),(1,kn vn 1 ns AW),(6,kn u 1 gs DB),(8,IC gs ys)],[(5,C2 h5.v z),(1,.box b [I t.op,I (len hs),.v (str t.name),.v (str t.s),I t.n,I t.c.kind,I t.c.many,.v (str t.c.name),.v (str t.c.s),.v (.bool t.c.neg),I t.c.e] 48),(6,.ho (.own 36 1 u gs.length (gs.flatMap DB)))],[Z 1 (.sl 1 vn),Z 3 (.bx 1 b 0),Z 7 (.sl 6 u),Z 9 (.sl 5 h5.v),Z 13 (.sl 0 v),Z 14 (I (len hs)),Z 15 (I k)]⟩) U (A0 U) (by omega) U (λ hb2=>?_) (λ hb2=>?_) ?_
  ·simp only[zb]at hb2
   refine OA { at' (at' xs k) 0 with name:=at' ns k} rfl (A0 U) (by simp only[zb]<;>omega) U (A0 U) U Tryz.sizeOf9 U U U (by omega) λ z hz=>?_
   exact BF _ U (A0 U) (by omega) U ⟨z,by rw[hz];unfold HT;rw[if_pos hb2];rfl,rfl⟩
  ·simp only[zb]at hb2
   exact BF _ U (A0 U) (by omega) U ⟨_,by unfold HT;rw[if_neg (by omega)],rfl⟩
  rintro s ⟨z,hz,rfl⟩
  refine FW 5 U ?_
  refine EN 9 [h5] DB 1 36 EX U (A0 U) (by omega) U (A0 U) (λ w=>by kernel_rfl) U λ v9=>?_
  refine O9 24 U (A0 U) (by omega) U (A0 U) U Tryz.underlying43 Tryz.type36 U U Y4 (by simp only[AK,len_nil];omega) λ v'=>?_
  refine I4 8 (IC (gs++[h5]) (ys++[z])) (λ w M hX=>⟨Sl.nil M 1,DN,CK.snoc (hX.sl 5 U) (hX.f.get (k:=8) U).more⟩) ?_
  exact DO (k+1,v',gs++[h5],ys++[z]) U (A0 U) (by omega) U ⟨by omega,by omega,by
    rw[OZ h0 (by omega),j0,hy,hz]
    have:len (Eng.sub xs 0 k)=k:=by unfold Eng.sub;unfold len at*;rw[List.length_take,List.length_drop];simp only[Int.toNat_zero];omega
    rw[this],by rw[AG];show len gs+1=_;omega⟩ (by show Int.toNat _<Int.toNat _;omega)
 have hke:k=len hs:=by omega
 rw[LP (by omega)]at hy
 subst hy
 have hnf:=ZD ns xs
 refine B9 [] (λ u:AO=>.sl 3 u.v) [] (λ u=>[(3,C2 u.v ({ t with many:=len hs}::(E8 ns xs).flatten))]) U (A0 U) (by omega) U Tryz.call139 U U (A0 U) U (λ w M hS hF=>xO { t with many:=len hs} u gs (E8 ns xs) hS ⟨(hF.get (k:=6) U).sl,EX,(hF.get (k:=8) U).more⟩ (by omega) (by omega)) (λ _=>rfl) (λ _=>rfl) λ h3 _=>?_
 exact AH hB U U (A0 U) (by omega) U (A0 U) λ w M' hX=>⟨h3,M',rfl,trivial,hX.le,hX.C5 [3] U,AA⟩
theorem UU{w0 wv:World}{M0 M:Mem}{Rs:List HO}(t:Tm)(v:Value)(h:AO)(x:Tf)(hS:St w0 M0 wv M Rs)(hv:Sl M 1 [h].length v ([h].flatMap DB))(hx:Sl M 11 x.flat.length h.v (x.flat.flatMap Tm.cells))(hb:len x.flat<=100000000000):
  Calls Tryz.prog 99 [.agg t.cells.toArray,.slice none 0 0,v].toArray wv (LU w0 M0 M Rs (Tf.mk t [x]).flat):=by
 have:=ZF (Rs:=Rs) t (.slice none 0 0) [] v [h] [x.flat] hS (Sl.nil M 1) ⟨hv,EX,hx,trivial⟩ (λ y hy=>by rw[List.mem_singleton.1 hy];exact x.P0) (by simp only[List.flatten_cons,List.flatten_nil,AG,len_nil];omega) (by simp only[AK,len_nil];omega)
 rw[ZE]at this
 rw[Tf.R6];exact this
theorem xP{w0 wv:World}{M0 M:Mem}{Rs:List HO}(t:Tm)(v:Value)(hs:List AO)(xs:List Tf)(hS:St w0 M0 wv M Rs)(hv:Sl M 1 hs.length v (hs.flatMap DB))(hr:CK M 11 Tm.cells hs (xs.map Tf.flat))(hb:len (AL xs)<=100000000000)(hn:len xs<=1048576):
  Calls Tryz.prog 99 [.agg t.cells.toArray,.slice none 0 0,v].toArray wv (LU w0 M0 M Rs (Tf.mk t xs).flat):=by
 have hl:=CK.len hr
 rw[List.length_map]at hl
 have:=ZF (Rs:=Rs) t (.slice none 0 0) [] v hs (xs.map Tf.flat) hS (Sl.nil M 1) ⟨hv,EX,hr⟩ (λ y hy=>by obtain⟨x,_,rfl⟩:=List.mem_map.1 hy;exact x.P0) (by rw[<-P1];omega) (by unfold len at*;omega)
 rw[ZE]at this
 rw[Tf.R6,show len xs=len (xs.map Tf.flat) by unfold len;rw[List.length_map]];exact this
end Go.Proofs.YtmjpjbmeamnfpaaGreatDoor
namespace Go.Eng
structure Tm.small (t:Tm):Prop where
 name:len t.name<=1048576
 s:len t.s<=1073741824
 c:len t.c.s<=1048576
def ED(x:Fl):Prop:= ∀t∈x,t.small
structure KQ (l:List Tk) (i:Int) (x:Tf) (j:Int):Prop where
 lt:i<j
 le:j<len l
 name:x.t.name=[]
 size:len x.flat<=j-i
 small:ED x.flat
structure F2 (i0 i:Int) (xs:List Tf):Prop where
 le:i0<=i
 size:len (AL xs)<=i-i0
 small:ED (AL xs)
theorem F2.nil (i:Int):F2 i i []:=⟨by omega,by show(0:Int)<=_;omega,λ t h=>by cases h⟩
theorem F2.mono {i0 i j:Int}{xs:List Tf}(h:F2 i0 i xs)(hij:i<=j):F2 i0 j xs:=⟨by have:=h.le;omega,by have:=h.size;omega,h.small⟩
theorem ED.app {a b:Fl}(ha:ED a)(hb:ED b):ED (a++b):=λ t ht=>(List.mem_append.1 ht).elim (ha t) (hb t)
theorem ED.named {x:Tf}(h:ED x.flat){n:A1}(hn:len n<=1048576):ED (x.named n).flat:=by
 cases x with|mk t ps=>
 intro u hu
 rcases List.mem_cons.1 hu with rfl|hu
 ·have:=h { t with many:=len ps} (by unfold Tf.flat;exact List.mem_cons_self)
  exact⟨hn,this.s,this.c⟩
 ·exact h u (by unfold Tf.flat;exact List.mem_cons_of_mem _ hu)
theorem F2.snoc {l:List Tk}{i0 i j:Int}{xs:List Tf}{x:Tf}(h:F2 i0 i xs)(hx:KQ l i x j):F2 i0 j (xs++[x]):=by
 have h1:=h.le
 have h2:=h.size
 have h3:=hx.lt
 have h4:=hx.size
 refine⟨by omega,?_,?_⟩
 ·rw[HR,AG];show _+len (x.flat++[])<=_;rw[List.append_nil];omega
 ·rw[HR];refine h.small.app ?_;show ED (x.flat++[]);rw[List.append_nil];exact hx.small
theorem F2.j5 {l:List Tk}{i0 i j:Int}{xs:List Tf}{x:Tf}(h:F2 i0 i xs)(hx:KQ l i x j){n:A1}(hn:len n<=1048576):F2 i0 j (xs++[x.named n]):=by
 have h1:=h.le
 have h2:=h.size
 have h3:=hx.lt
 have h4:=hx.size
 refine⟨by omega,?_,?_⟩
 ·rw[HR,AG];show _+len ((x.named n).flat++[])<=_;rw[List.append_nil,Tf.sV];omega
 ·rw[HR];refine h.small.app ?_;show ED ((x.named n).flat++[]);rw[List.append_nil];exact hx.small.named hn
theorem JC{t:Tm}{ps:List Tf}(ht:t.small)(h:ED (AL ps)):ED (Tf.mk t ps).flat:=λ u hu=>by
 unfold Tf.flat at hu
 rcases List.mem_cons.1 hu with rfl|hu
 ·exact⟨ht.name,ht.s,ht.c⟩
 ·exact h u hu
theorem GM(o:Int):(AN o).small:=⟨by show len ([]:A1)<=_;decide,by show len ([]:A1)<=_;decide,by show len ([]:A1)<=_;decide⟩
theorem K2(t:Tm)(ps:List Tf):len (Tf.mk t ps).flat=1+len (AL ps):=by unfold Tf.flat;rw[AK];omega
theorem K3(x:Tf):AL [x]=x.flat:=by show x.flat++[]=_;rw[List.append_nil]
theorem ZG{a b:List Tf}(h:a.Perm b):(AL a).Perm (AL b):=by
 rw[P1,P1];exact(h.map Tf.flat).flatten
theorem j6(o:Int)(xs:List Tf):len (H3 o xs).flat=1+len (AL xs):=by
 unfold H3;rw[K2];have:=(ZG (N3 xs)).length_eq;unfold len;omega
theorem j7(o:Int){xs:List Tf}(h:ED (AL xs)):ED (H3 o xs).flat:=JC (t:= { AN 2 with n:=o}) ⟨(GM 2).1,(GM 2).2,(GM 2).3⟩ λ u hu=>h u ((ZG (N3 xs)).mem_iff.1 hu)
theorem xQ{l:List Tk}(ok:C6 l){i:Int}{c:Nd}{j:Int}(h0:0<=i)(h1:i<len l)(h:D0 l i= .ok c j):len c.s<=1048576:=by
 unfold D0 at h
 have hm:=at_mem h0 h1
 split at h
 ·rename_i h5;cases h;exact(ok.num _ hm h5).1
 ·split at h
  ·cases h;exact ok.bd _ hm
  ·split at h
   ·cases h;show len ([]:A1)<=_;decide
   ·exact(CO h).elim
theorem j8{l:List Tk}(ok:C6 l){i:Int}{x:Tf}{j:Int}(h0:0<=i)(h1:i<len l)(h:HM l i= .ok x j):ED x.flat:=by
 unfold HM at h
 split at h
 ·rename_i q
  obtain⟨c,k,h2,h3⟩:=BA h
  cases h3
  have:=xQ ok (by omega) (EZ ok h0 h1 q.1 (by decide)) h2
  exact JC (t:=⟨9,0,[],[],_,c⟩) ⟨by show len ([]:A1)<=_;decide,by show len ([]:A1)<=_;decide,this⟩ λ u hu=>by cases hu
 ·exact(CO h).elim
theorem j9{l:List Tk}(ok:C6 l){i0:Int}: ∀(f:Nat) {xs:List Tf} {i:Int} {ys:List Tf} {j:Int},0<=i->i<len l->F2 i0 i xs->I8 f l xs i= .ok ys j->i<=j/\j<len l/\F2 i0 j ys
 |0,xs,i,ys,j,_,_,_,h=>(CO h).elim
 |f+1,xs,i,ys,j,h0,h1,hg,h=>by
  unfold I8 at h
  split at h
  ·rename_i hb
   have hj:=DW ok h0 h1 hb
   obtain⟨x,k,h2,h3⟩:=BA h
   obtain⟨rfl,q1,q2,q3,q4⟩:=P9 ok (by omega) hj h2
   have hx:KQ l i x (i+1+2):=⟨by omega,q1,q4,by rw[q2];show(1:Int)<=_;omega,j8 ok (by omega) hj h2⟩
   have:=j9 ok f (by omega) q1 (hg.snoc hx) h3
   exact⟨by omega,this.2⟩
  ·cases h;exact⟨by omega,h1,hg⟩
theorem xR{l:List Tk}(ok:C6 l){d i:Int}{x:Tf}{j:Int}(h0:0<=i)(h1:i<len l)(h:J4 l d i= .ok x j):KQ l i x j:=by
 unfold J4 at h
 obtain⟨m0,i0,h2,h3⟩:=BA h
 obtain⟨rfl,h4,h5,h6⟩:=Go.Proofs.YtmjpjbmeamnfpaaGreatDoor.UR ok h0 h1 (by omega) (by omega) h2
 obtain⟨m,k,h7,h8⟩:=BA h3
 obtain⟨h9,ha,hb,hc⟩:=iI ok _ (by omega) h4 h5 h6 h7
 have ht:({ AN 1 with n:=m}:Tm).small:=⟨(GM 1).1,(GM 1).2,(GM 1).3⟩
 split at h8
 ·obtain⟨_,k1,q1,q2⟩:=BA h8
  obtain⟨rfl,q3,_,_⟩:=E6 ok (by omega) ha q1
  obtain⟨y,k2,q4,q5⟩:=BA q2
  obtain⟨rfl,q6,q7,_,q8⟩:=P9 ok (by omega) q3 q4
  obtain⟨ys,k3,q9,q10⟩:=BA q5
  have hy:KQ l (k+1) y (k+1+2):=⟨by omega,q6,q8,by rw[q7];show(1:Int)<=_;omega,j8 ok (by omega) q3 q4⟩
  obtain⟨r1,r2,r3⟩:=j9 ok _ (by omega) q6 ((F2.nil (k+1)).snoc hy) q9
  obtain⟨_,k4,r4,r5⟩:=BA q10
  obtain⟨rfl,r6,_⟩:=DS ok (by omega) r2 r4
  cases r5
  exact⟨by omega,r6,rfl,by unfold KL;rw[K2];have:=r3.size;omega,JC ht r3.small⟩
 ·cases h8
  exact⟨by omega,ha,rfl,by unfold KL;rw[K2];show 1+(0:Int)<=_;omega,JC ht λ u hu=>by cases hu⟩
theorem jA{p:List Sp}(h:J5 p):len (FZ A4 p)<=200000000:=by
 have h1:=Go.Proofs.YtmjpjbmeamnfpaaGreatDoor.UQ h p.length (Int.le_refl _)
 rw[LP (show len p<=(p.length:Int)from Int.le_refl _)]at h1
 have h20:(p.length:Int)<=20:=h.1
 unfold FZ
 rw[AG]
 have h2:len (Go.Proofs.YtmjpjbmeamnfpaaGreatDoor.F0 p)=len (p.map (EU A4)).flatten:=rfl
 rw[h2]at h1
 have:len (if p=[]\/(at' p 0).part=true then([46]:A1)else [])<=1:=by split<;>decide
 omega
theorem xS{l:List Tk}(ok:C6 l){i:Int}{xs:List Sp}{j:Int}(h0:0<=i)(h1:i<len l)(h:JA l i= .ok xs j):J5 xs:=by
 unfold JA at h
 split at h
 ·rename_i hb
  exact(P2 ok _ _ _ (by omega) (DW ok h0 h1 hb) .nil h).2.2
 ·split at h
  ·exact(CO h).elim
  ·exact(P2 ok _ _ _ h0 h1 .nil h).2.2
structure xT (rt:Tf->Bool) (l:List Tk) (f:Nat):Prop where
 ty: ∀d i x j,0<=i->i<len l->AP A4 rt f l d i= .ok x j->KQ l i x j
 wd: ∀d i x j,0<=i->i<len l->(at' l i).kind=2->HN A4 rt f l d i= .ok x j->KQ l i x j
 tup: ∀d i0 i xs x j,0<=i->i<len l->F2 i0 i xs->D6 A4 rt f l d xs i= .ok x j->i<=j/\j<len l/\x.t.name=[]/\len x.flat<=1+(j-i0)/\ED x.flat
 obj: ∀d i0 i xs x j,0<=i->i<len l->F2 i0 i xs->D1 A4 rt f l d xs i= .ok x j->i<j/\j<len l/\x.t.name=[]/\len x.flat<=1+(j-i0)/\ED x.flat
theorem jB{rt:Tf->Bool}{l:List Tk}(ok:C6 l){kd i:Int}{X:Int->PR Tf}{x:Tf}{j:Int}(h0:0<=i)(h1:i<len l)(hX: ∀k y m,0<=k->k<len l->X k= .ok y m->KQ l k y m)(h:EI A4 rt l kd i X= .ok x j):i<j/\j<len l/\x.t.name=[]/\len x.flat<=j-i/\ED x.flat:=by
 unfold EI at h
 obtain⟨s,k1,h2,h3⟩:=BA h
 rw[Z8]at h2
 obtain⟨p,k1',h4,h5⟩:=BA h2
 cases h5
 obtain⟨h6,h7⟩:=iH ok h0 h1 h4
 have hp:=xS ok h0 h1 h4
 obtain⟨_,k2,h8,h9⟩:=BA h3
 obtain⟨rfl,ha,_⟩:=DS ok (by omega) h7 h8
 obtain⟨y,k3,hb,hc⟩:=BA h9
 have gy:=hX _ _ _ (by omega) ha hb
 have:=gy.lt
 have:=gy.size
 obtain⟨_,k4,hd,he⟩:=BA hc
 obtain⟨rfl,hf,_⟩:=DS ok (by omega) gy.le hd
 split at he
 ·cases he
  have hpl:=jA hp
  exact⟨by omega,hf,rfl,by rw[K2,K3];omega,JC ⟨(GM kd).1,by show len (FZ A4 p)<=_;omega,(GM kd).3⟩ (by rw[K3];exact gy.small)⟩
 ·exact(CO he).elim
theorem IG(rt:Tf->Bool){l:List Tk}(ok:C6 l): ∀f,xT rt l f
 |0=>⟨λ _ _ _ _ _ _ h=>(CO h).elim,λ _ _ _ _ _ _ _ h=>(CO h).elim,λ _ _ _ _ _ _ _ _ _ h=>(CO h).elim,λ _ _ _ _ _ _ _ _ _ h=>(CO h).elim⟩
 |f+1=>by
  have ih:=IG rt ok f
  constructor
  ·intro d i x j h0 h1 h
   rw[AP]at h
   split at h
   ·rename_i hk;exact ih.wd d i x j h0 h1 hk h
   ·split at h
    ·obtain⟨_,k,h2,h3⟩:=BA h
     obtain⟨rfl,h4,_,_⟩:=E6 ok h0 h1 h2
     obtain⟨q1,q2,q3,q4,q5⟩:=ih.obj (d+1) (i+1) (i+1) [] x j (by omega) h4 (.nil _) h3
     exact⟨by omega,q2,q3,by omega,q5⟩
    ·obtain⟨_,k,h2,h3⟩:=BA h
     obtain⟨rfl,h4,_,_⟩:=E6 ok h0 h1 h2
     obtain⟨y,m,h5,h6⟩:=BA h3
     have gy:=ih.ty _ _ _ _ (by omega) h4 h5
     have:=gy.lt
     have:=gy.size
     obtain⟨_,n,h7,h8⟩:=BA h6
     obtain⟨rfl,h9,_⟩:=DS ok (by omega) gy.le h7
     cases h8
     exact⟨by omega,h9,rfl,by rw[K2,K3];omega,JC (GM 5) (by rw[K3];exact gy.small)⟩
  ·intro d i x j h0 h1 hk h
   have hi1:=EZ ok h0 h1 hk (by decide)
   rw[HN]at h
   split at h
   ·cases h
    exact⟨by omega,hi1,rfl,by rw[K2];show 1+(0:Int)<=_;omega,JC (GM 0) λ u hu=>by cases hu⟩
   ·split at h
    ·obtain⟨_,k,h2,h3⟩:=BA h
     obtain⟨rfl,h4,_,_⟩:=E6 ok (by omega) hi1 h2
     obtain⟨y,m,h5,h6⟩:=BA h3
     obtain⟨q1,q2,q3,q4,q5⟩:=ih.tup (d+1) (i+1+1) (i+1+1) [] y m (by omega) h4 (.nil _) h5
     obtain⟨_,n,h7,h8⟩:=BA h6
     obtain⟨rfl,h9,_⟩:=DS ok (by omega) q2 h7
     cases h8
     exact⟨by omega,h9,q3,by omega,q5⟩
    ·split at h
     ·obtain⟨_,k,h2,h3⟩:=BA h
      obtain⟨rfl,h4,_,_⟩:=E6 ok (by omega) hi1 h2
      obtain⟨y,m,h5,h6⟩:=BA h3
      have gy:=ih.ty _ _ _ _ (by omega) h4 h5
      have:=gy.lt
      have:=gy.size
      obtain⟨_,n,h7,h8⟩:=BA h6
      obtain⟨rfl,h9,_⟩:=DS ok (by omega) gy.le h7
      cases h8
      exact⟨by omega,h9,rfl,by rw[K2,K3];omega,JC (GM 6) (by rw[K3];exact gy.small)⟩
     ·split at h
      ·obtain⟨_,k,h2,h3⟩:=BA h
       obtain⟨rfl,h4,_,_⟩:=E6 ok (by omega) hi1 h2
       obtain⟨q1,q2,q3,q4,q5⟩:=jB ok (by omega) h4 (λ k y m=>ih.ty (d+1) k y m) h3
       exact⟨by omega,q2,q3,by omega,q5⟩
      ·split at h
       ·obtain⟨_,k,h2,h3⟩:=BA h
        obtain⟨rfl,h4,_,_⟩:=E6 ok (by omega) hi1 h2
        obtain⟨q1,q2,q3,q4,q5⟩:=jB ok (by omega) h4 (λ k y m=>ih.ty (d+1) k y m) h3
        exact⟨by omega,q2,q3,by omega,q5⟩
       ·exact xR ok h0 h1 h
  ·intro d i0 i xs x j h0 h1 hg h
   rw[D6]at h
   split at h
   ·cases h
    exact⟨by omega,h1,rfl,by rw[K2];have:=hg.size;omega,JC (GM 4) hg.small⟩
   ·obtain⟨_,k,h2,h3⟩:=BA h
    have hk:i<=k/\k<len l:=by
     split at h2
     ·cases h2;exact⟨by omega,h1⟩
     ·obtain⟨rfl,h4,_⟩:=DS ok h0 h1 h2;exact⟨by omega,h4⟩
    obtain⟨y,m,h5,h6⟩:=BA h3
    have gy:=ih.ty _ _ _ _ (by omega) hk.2 h5
    have:=gy.lt
    obtain⟨q1,q2⟩:=ih.tup d i0 m (xs++[y]) x j (by omega) gy.le ((hg.mono hk.1).snoc gy) h6
    exact⟨by omega,q2⟩
  ·intro d i0 i xs x j h0 h1 hg h
   have hsz:=hg.size
   rw[D1]at h
   split at h
   ·rename_i hm
    cases h
    exact⟨by omega,DW ok h0 h1 hm,rfl,by rw[j6];omega,j7 0 hg.small⟩
   ·obtain⟨_,k,h2,h3⟩:=BA h
    have hk:i<=k/\k<len l:=by
     split at h2
     ·cases h2;exact⟨by omega,h1⟩
     ·obtain⟨rfl,h4,_⟩:=DS ok h0 h1 h2;exact⟨by omega,h4⟩
    split at h3
    ·rename_i hm
     have hk1:=DW ok (by omega) hk.2 hm
     split at h3
     ·rename_i hc
      have hc2:A9 l (k+1) [58]=true:=by rw[Bool.and_eq_true]at hc;exact hc.2
      have hk2:=DW ok (by omega) hk1 hc2
      obtain⟨y,m,h5,h6⟩:=BA h3
      have gy:=ih.ty _ _ _ _ (by omega) (by omega) h5
      have:=gy.lt
      have:=gy.size
      have:=hg.le
      obtain⟨_,n,h7,h8⟩:=BA h6
      obtain⟨rfl,h9,_⟩:=DS ok (by omega) gy.le h7
      cases h8
      exact⟨by omega,h9,rfl,by rw[K2,K3];omega,JC (GM 3) (by rw[K3];exact gy.small)⟩
     ·obtain⟨_,n,h7,h8⟩:=BA h3
      obtain⟨rfl,h9,_⟩:=DS ok (by omega) hk1 h7
      cases h8
      exact⟨by omega,h9,rfl,by rw[j6];omega,j7 1 hg.small⟩
    ·split at h3
     ·exact(CO h3).elim
     ·rename_i hc
      have hkd:(at' l k).kind≠6:=λ e=>hc (.inl (by rw[e];decide))
      have hk1:=ok.last k (by omega) hk.2 hkd
      have hnm:=ok.bd _ (at_mem (l:=l) (k:=k) (by omega) hk.2)
      obtain⟨_,n,h7,h8⟩:=BA h3
      obtain⟨rfl,h9,_⟩:=DS ok (by omega) hk1 h7
      obtain⟨y,m,h5,h6⟩:=BA h8
      have gy:=ih.ty _ _ _ _ (by omega) h9 h5
      have:=gy.lt
      obtain⟨q1,q2⟩:=ih.obj d i0 m (xs++[y.named (at' l k).s]) x j (by omega) gy.le ((hg.mono (j:=k+1+1) (by omega)).j5 gy hnm) h6
      exact⟨by omega,q2⟩
end Go.Eng
set_option maxRecDepth 100000
namespace Go.Proofs.YtmjpjbmeamnfpaaGreatDoor
open Go.Eng
abbrev PB:List Tk->Int->Prop:=λ _ _=>True
def KR(rt:Tf->Bool):Prop:= ∀ {w:World} {M:Mem} (v:Value) (x:Tf),Sat w M->Gl w->Sl M 11 x.flat.length v (x.flat.flatMap Tm.cells)->len x.flat<=1048577->ED x.flat->
 Calls Tryz.prog 176 [v].toArray w λ e w'=>e= .returned (.bool (rt x))/\Ext w w'
abbrev LV(k:Int)(fn:FuncId)(tw:List Tk->Int->Int->PR Tf)(f:Nat)(P:List Tk->Int->Prop):Prop:=
 ∀ {w0 wv:World} {M0 M:Mem} {Rs:List HO} {b:Nat} {v:Value} {l:List Tk} {i d:Int},G4 w0 wv M0 M Rs b v l i d->0<=d->d<=64->4*(len l-i)+k<=(f:Int)->P l i->
  Calls Tryz.prog fn [.pointer (some ⟨b,0,none⟩)].toArray wv (LS w0 M0 M Rs b v d (tw l d i))
structure HU (rt:Tf->Bool) (f:Nat):Prop where
 rd:LV 2 40 (AP A4 rt f) f PB
 wd:LV 1 62 (HN A4 rt f) f λ l i=>(at' l i).kind=2
def jC(rt:Tf->Bool)(f:Nat)(l:List Tk)(d i:Int):PR Tf:=(C9 l d i [91]).bind λ _ j=>(AP A4 rt f l (d+1) j).bind λ x k=>(AR l k [93]).bind λ _ m=>.ok (.mk (AN 5) [x]) m
theorem xU{rt:Tf->Bool}{f:Nat}(H:HU rt f):LV (-2) 65 (jC rt f) f PB:=by
 intro w0 wv M0 M Rs b v l i d h hd0 hd hf _
 obtain⟨hS,hl,hg,ok,h0,h1⟩:=h
 have hfew:=ok.few
 refine B3 (Hr:=Rs) AX Tryz.func65 U Tryz.ntmps65 [(0,kn v 9 l Tk.cells)] [(0,AS b v i d)] [.bx 0 b 0] U hS (fc 0 hl (λ _=>rfl) AA) (λ B hB=>?_) U
 refine BO [0] [] (λ _ (_:Unit)=>.tu []) (λ _ j _=>[(0,AS b v j (d+1))]) hB U (A0 U) (by omega) U Tryz.call95 U U (A0 U) U (List.Sublist.refl _) (λ w M hS hF=>MZ [91] ⟨hS,(hF.get (k:=0) U).sl,hg,ok,h0,h1⟩ ⟨hd0,hd⟩) (λ _ _=>rfl) (λ _ _ _=>rfl) λ _ k hk hB _ _=>?_
 obtain⟨rfl,hk1,hd2,_⟩:=E6 ok h0 h1 hk
 refine BO [0] [] (λ _ (h:AO)=>.sl 7 h.v) (λ x j h=>[(0,AS b v j (d+1)),(7,C2 h.v x.flat)]) hB U (A0 U) (by omega) U Tryz.call40 U U (A0 U) U (List.Sublist.refl _) (λ w M hS hF=>H.rd ⟨hS,(hF.get (k:=0) U).sl,hg,ok,by omega,hk1⟩ (by omega) (by omega) (by omega) trivial) (λ _ _=>rfl) (λ _ _ _=>rfl) λ x j hx hB h7 _=>?_
 have gx:=(IG rt ok f).ty _ _ _ _ (by omega) hk1 hx
 have hlt:=gx.lt
 have hsz:=gx.size
 have hle:=gx.le
 refine BO [0] [] (λ _ (_:Unit)=>.tu []) (λ _ j _=>[(0,AS b v j d)]) hB U (A0 U) (by omega) U Tryz.call96 U U (A0 U) U (List.sublist_cons_self _ _) (λ w M hS hF=>N1 [93] ⟨hS,(hF.get (k:=0) U).sl,hg,ok,by omega,hle⟩ (by omega) (by omega)) (λ _ _=>rfl) (λ _ _ _=>rfl) λ _ n hn hB _ _=>?_
 refine FW 7 U ?_
 refine EN 9 [h7] DB 1 36 EX U (A0 U) (by omega) U (A0 U) (λ w=>by kernel_rfl) U λ v9=>?_
 refine B9 [] (λ h:AO=>.sl 10 h.v) [] (λ u=>[(10,C2 u.v (Tf.mk (AN 5) [x]).flat)]) U (A0 U) (by omega) U Tryz.call99 U U (A0 U) U (λ w M hS hF=>UU (AN 5) v9 h7 x hS (hF.get (k:=9) U).sl (hF.get (k:=7) U).sl (by omega)) (λ _=>rfl) (λ _=>rfl) λ h10 _=>?_
 exact AH hB U U (A0 U) (by omega) U (A0 U) λ w M' hX=>⟨h10,M',rfl,trivial,hX.le,hX.C5 [0,10] U,AA⟩
def ZH(rt:Tf->Bool)(f:Nat)(l:List Tk)(d i:Int):PR Tf:=(AP A4 rt f l d i).bind λ x k=>.ok (.mk (AN 6) [x]) k
theorem xV{rt:Tf->Bool}{f:Nat}(H:HU rt f):LV 2 91 (ZH rt f) f PB:=by
 intro w0 wv M0 M Rs b v l i d h hd0 hd hf _
 obtain⟨hS,hl,hg,ok,h0,h1⟩:=h
 have hfew:=ok.few
 refine B3 (Hr:=Rs) AX Tryz.func91 U Tryz.ntmps91 [(0,kn v 9 l Tk.cells)] [(0,AS b v i d)] [.bx 0 b 0] U hS (fc 0 hl (λ _=>rfl) AA) (λ B hB=>?_) U
 refine BO [0] [] (λ _ (h:AO)=>.sl 7 h.v) (λ x j h=>[(0,AS b v j d),(7,C2 h.v x.flat)]) hB U (A0 U) (by omega) U Tryz.call40 U U (A0 U) U (List.Sublist.refl _) (λ w M hS hF=>H.rd ⟨hS,(hF.get (k:=0) U).sl,hg,ok,by omega,h1⟩ (by omega) (by omega) (by omega) trivial) (λ _ _=>rfl) (λ _ _ _=>rfl) λ x j hx hB h7 _=>?_
 have gx:=(IG rt ok f).ty _ _ _ _ (by omega) h1 hx
 have hlt:=gx.lt
 have hsz:=gx.size
 have hle:=gx.le
 refine FW 7 U ?_
 refine EN 9 [h7] DB 1 36 EX U (A0 U) (by omega) U (A0 U) (λ w=>by kernel_rfl) U λ v9=>?_
 refine B9 [] (λ h:AO=>.sl 10 h.v) [] (λ u=>[(10,C2 u.v (Tf.mk (AN 6) [x]).flat)]) U (A0 U) (by omega) U Tryz.call99 U U (A0 U) U (λ w M hS hF=>UU (AN 6) v9 h7 x hS (hF.get (k:=9) U).sl (hF.get (k:=7) U).sl (by omega)) (λ _=>rfl) (λ _=>rfl) λ h10 _=>?_
 exact AH hB U U (A0 U) (by omega) U (A0 U) λ w M' hX=>⟨h10,M',rfl,trivial,hX.le,hX.C5 [0,10] U,AA⟩
theorem jD{rt:Tf->Bool}{f:Nat}(hrt:KR rt)(H:HU rt f)(kd:Int){w0 wv:World}{M0 M:Mem}{Rs:List HO}{b:Nat}{v:Value}{l:List Tk}{i d:Int}(h:G4 w0 wv M0 M Rs b v l i d)(hd0:0<d)(hd:d<=64)(hf:4*(len l-i)+2<=(f:Int)):
   Calls Tryz.prog 135 [.pointer (some ⟨b,0,none⟩),i64 kd].toArray wv (LS w0 M0 M Rs b v (d-1) (EI A4 rt l kd i (AP A4 rt f l d))):=by
 obtain⟨hS,hl,hg,ok,h0,h1⟩:=h
 have hfew:=ok.few
 refine B3 (Hr:=Rs) AX Tryz.func135 U Tryz.ntmps135 [(0,kn v 9 l Tk.cells)] [(0,AS b v i d)] [.bx 0 b 0,I kd] U hS (fc 0 hl (λ _=>rfl) AA) (λ B hB=>?_) U
 unfold EI at hB
 rw[Z8,PR.assoc]at hB
 refine CF [0] (DA (at' l i)) U (A0 U) (by omega) Tryz.call41 U U (A0 U) U (λ _ w M hS hF=>DR hS (hF.get (k:=0) U).sl h0 h1) U ?_
 refine CL 5 U (A0 U) (by omega) Tryz.zeroValue63 U λ b5=>?_
 refine BO [0] [6] (λ _ (u:Value)=>.sl 6 u) (λ _ j _=>[(0,AS b v j d)]) hB U (A0 U) (by omega) U Tryz.call174 U U (A0 U) U (List.sublist_cons_self _ _) (λ w M hS hF=>wR ⟨hS,(hF.get (k:=0) U).sl,hg,ok,h0,h1⟩) (λ _ _=>rfl) (λ _ _ _=>rfl) λ p j hp hB v6 hps=>?_
 obtain⟨hj0,hj1⟩:=iH ok h0 h1 hp
 rw[PR.HS]at hB
 refine BO [0] [] (λ _ (_:Unit)=>.tu []) (λ _ j _=>[(0,AS b v j d)]) hB U (A0 U) (by omega) U Tryz.call97 U U (A0 U) U (List.sublist_cons_self _ _) (λ w M hS hF=>OX [44] hS (hF.get (k:=0) U).sl (by omega) hj1 (by omega)) (λ _ _=>rfl) (λ _ _ _=>rfl) λ _ k hk hB _ _=>?_
 obtain⟨rfl,hk1,_⟩:=DS ok (by omega) hj1 hk
 refine BO [0] [] (λ _ (h:AO)=>.sl 7 h.v) (λ x j h=>[(0,AS b v j d),(7,C2 h.v x.flat)]) hB U (A0 U) (by omega) U Tryz.call40 U U (A0 U) U (List.sublist_cons_self _ _) (λ w M hS hF=>H.rd ⟨hS,(hF.get (k:=0) U).sl,hg,ok,by omega,hk1⟩ (by omega) (by omega) (by omega) trivial) (λ _ _=>rfl) (λ _ _ _=>rfl) λ x m hx hB h7 _=>?_
 have gx:=(IG rt ok f).ty _ _ _ _ (by omega) hk1 hx
 have hlt:=gx.lt
 have hsz:=gx.size
 have hle:=gx.le
 refine BO [0] [] (λ _ (_:Unit)=>.tu []) (λ _ j _=>[(0,AS b v j (d-1))]) hB U (A0 U) (by omega) U Tryz.call96 U U (A0 U) U IB (λ w M hS hF=>N1 [41] ⟨hS,(hF.get (k:=0) U).sl,hg,ok,by omega,hle⟩ (by omega) U) (λ _ _=>rfl) (λ _ _ _=>rfl) λ _ n hn hB _ _=>?_
 refine BE U (A0 U) (by omega) Tryz.call175 U U (A0 U) (λ _ w M hX=>wB v6 p hX.st.sat (hg.low hX.st.low) (hX.sl 6 U) hps) U ?_
 refine FW 7 U ?_
 refine EN 9 [h7] DB 1 36 EX U (A0 U) (by omega) U (A0 U) (λ w=>by kernel_rfl) U λ v9=>?_
 refine B9 [] (λ h:AO=>.sl 10 h.v) [] (λ u=>[(10,C2 u.v (Tf.mk { AN kd with s:=FZ A4 p} [x]).flat)]) U (A0 U) (by omega) U Tryz.call99 U U (A0 U) U (λ w M hS hF=>UU { AN kd with s:=FZ A4 p} v9 h7 x hS (hF.get (k:=9) U).sl (hF.get (k:=7) U).sl (by omega)) (λ _=>rfl) (λ _=>rfl) λ h10 _=>?_
 have hpl:=jA hps
 have hxn:x.named []=x:=Tf.sW gx.name
 rw[hxn]at hB
 refine BE U (A0 U) (by omega) Tryz.call176 U U (A0 U) (λ _ w M hX=>by
  have ht:=hX.st.told (k:=0) U
  exact hrt h10.v (Tf.mk { AN kd with s:=FZ A4 p} [x]) ht.sat (hg.low hX.st.low) (ht.sl (i:=0) U) (by rw[K2,K3];omega) (JC ⟨(GM kd).1,by show len (FZ A4 p)<=_;omega,(GM kd).3⟩ (by rw[K3];exact gx.small))) U ?_
 refine AB U (A0 U) (by omega) (λ hb1=>?_) (λ hb1=>?_)<;>simp only[zb]at hb1
 ·rw[if_neg (by rw[hb1];decide)]at hB
  exact F7 [0] U (A0 U) (by omega) U Tryz.call42 U (A0 U) U (λ w M hS hF=>HP (at' l i) 1 hS) λ a w M hs hS hle=>E5 _ (hB.p ⟨M,rfl,hS.drop _ (List.sublist_append_right _ Rs),hle⟩ a hs)
 ·rw[if_pos hb1]at hB
  exact AH hB U U (A0 U) (by omega) U (A0 U) λ w M' hX=>⟨h10,M',rfl,trivial,hX.le,hX.C5 [0,10] U,AA⟩
theorem xW{rt:Tf->Bool}{f:Nat}(hrt:KR rt)(H:HU rt f){w0 wv:World}{M0 M:Mem}{Rs:List HO}{b:Nat}{v:Value}{l:List Tk}{i d:Int}(h:G4 w0 wv M0 M Rs b v l i d)(hd0:0<d)(hd:d<=64)(hf:4*(len l-i)+2<=(f:Int)):
  Calls Tryz.prog 92 [.pointer (some ⟨b,0,none⟩)].toArray wv (LS w0 M0 M Rs b v (d-1) (EI A4 rt l 7 i (AP A4 rt f l d))):=by
 obtain⟨hS,hl,hg,ok,h0,h1⟩:=h
 refine B3 (Hr:=Rs) AX Tryz.func92 U Tryz.ntmps92 [(0,kn v 9 l Tk.cells)] [(0,AS b v i d)] [.bx 0 b 0] U hS (fc 0 hl (λ _=>rfl) AA) (λ B hB=>?_) U
 rw[<-PR.ret (EI A4 rt l 7 i (AP A4 rt f l d))]at hB
 refine BO [0] [] (λ _ (h:AO)=>.sl 7 h.v) (λ x j h=>[(0,AS b v j (d-1)),(7,C2 h.v x.flat)]) hB U (A0 U) (by omega) U Tryz.call135 U U (A0 U) U (List.Sublist.refl _) (λ w M hS hF=>jD hrt H 7 ⟨hS,(hF.get (k:=0) U).sl,hg,ok,h0,h1⟩ hd0 hd hf) (λ _ _=>rfl) (λ _ _ _=>rfl) λ x j hx hB h7 _=>?_
 exact AH hB U U (A0 U) (by omega) U (A0 U) λ w M' hX=>⟨h7,M',rfl,trivial,hX.le,hX.C5 [0,7] U,AA⟩
theorem xX{rt:Tf->Bool}{f:Nat}(hrt:KR rt)(H:HU rt f){w0 wv:World}{M0 M:Mem}{Rs:List HO}{b:Nat}{v:Value}{l:List Tk}{i d:Int}(h:G4 w0 wv M0 M Rs b v l i d)(hd0:0<d)(hd:d<=64)(hf:4*(len l-i)+2<=(f:Int)):
  Calls Tryz.prog 93 [.pointer (some ⟨b,0,none⟩)].toArray wv (LS w0 M0 M Rs b v (d-1) (EI A4 rt l 8 i (AP A4 rt f l d))):=by
 obtain⟨hS,hl,hg,ok,h0,h1⟩:=h
 refine B3 (Hr:=Rs) AX Tryz.func93 U Tryz.ntmps93 [(0,kn v 9 l Tk.cells)] [(0,AS b v i d)] [.bx 0 b 0] U hS (fc 0 hl (λ _=>rfl) AA) (λ B hB=>?_) U
 rw[<-PR.ret (EI A4 rt l 8 i (AP A4 rt f l d))]at hB
 refine BO [0] [] (λ _ (h:AO)=>.sl 7 h.v) (λ x j h=>[(0,AS b v j (d-1)),(7,C2 h.v x.flat)]) hB U (A0 U) (by omega) U Tryz.call135 U U (A0 U) U (List.Sublist.refl _) (λ w M hS hF=>jD hrt H 8 ⟨hS,(hF.get (k:=0) U).sl,hg,ok,h0,h1⟩ hd0 hd hf) (λ _ _=>rfl) (λ _ _ _=>rfl) λ x j hx hB h7 _=>?_
 exact AH hB U U (A0 U) (by omega) U (A0 U) λ w M' hX=>⟨h7,M',rfl,trivial,hX.le,hX.C5 [0,7] U,AA⟩
theorem xY{rt:Tf->Bool}{f:Nat}(H: ∀g,g<=f->HU rt g):LV 3 90 (λ l d i=>D6 A4 rt f l d [] i) f PB:=by
 intro w0 wv M0 M Rs b v l i d h hd0 hd hf _
 obtain⟨hS,hl,hg,ok,h0,h1⟩:=h
 have hfew:=ok.few
 refine B3 (Hr:=Rs) AX Tryz.func90 U Tryz.ntmps90 [(0,kn v 9 l Tk.cells)] [(0,AS b v i d)] [.bx 0 b 0] U hS (fc 0 hl (λ _=>rfl) AA) (λ B hB=>?_) U
 dsimp only at hB
 generalize hR:D6 A4 rt f l d [] i=R at hB
 refine CH U (A0 U) (by omega) ?_
 refine QF 6 3 36 1 DB EX U ?_
 refine I4 8 (IC [] []) (λ w M hX=>⟨Sl.nil M 1,DN,trivial⟩) ?_
 refine EA (σ:=Int×Value×List AO×List Tf×Bool×Nat) (λ(j,u,hs,xs,fi,q)=>⟨[(0,kn v 9 l Tk.cells),(6,kn u 1 hs DB),(8,IC hs (xs.map Tf.flat))],[(0,AS b v j d),(6,.ho (.own 36 1 u hs.length (hs.flatMap DB)))],[Z 0 (.bx 0 b 0),Z 3 (.sl 6 u),Z 4 (.v (.bool fi))]⟩)
   (λ(j,u,hs,xs,fi,q)=>0<=j/\j<len l/\F2 i j xs/\hs.length=xs.length/\xs.isEmpty=fi/\len xs<=j-i/\4*(len l-j)+3<=(q:Int)/\q<=f/\D6 A4 rt q l d xs j=R) (λ(j,u,hs,xs,fi,q)=>(len l-j).toNat) (i,.slice none 0 0,[],[],true,f) U (A0 U) (by omega) U ⟨h0,h1,.nil i,rfl,rfl,by show(0:Int)<=_;omega,hf,Nat.le_refl _,hR⟩ ?_
 rintro⟨j,u,hs,xs,fi,q⟩ ⟨hj0,hj1,hgs,hhl,hfi,hxl,hq,hqf,hst⟩
 cases q with
 |zero=>exfalso;omega
 |succ q=>
 rw[D6]at hst
 refine CF [0] (.v (.bool (A9 l j [41]))) U (A0 U) (by omega) Tryz.call63 U U (A0 U) U (λ _ w M hS hF=>I9 [41] hS (hF.get (k:=0) U).sl hj0 hj1) U ?_
 refine AB U (A0 U) (by omega) (λ hb1=>?_) (λ hb1=>?_)
 ·have hb:A9 l j [41]=false:=by simpa using hb1
  rw[if_neg (by rw[hb];decide)]at hst
  rw[<-hst]at hB
  refine HH 0 (λ s=> ∃j',j<=j'/\j'<len l/\((AP A4 rt q l d j').bind λ x m=>D6 A4 rt q l d (xs++[x]) m)=R/\s=⟨[(0,kn v 9 l Tk.cells),(6,kn u 1 hs DB),(8,IC hs (xs.map Tf.flat))],[(0,AS b v j' d),(6,.ho (.own 36 1 u hs.length (hs.flatMap DB)))],[Z 0 (.bx 0 b 0),Z 3 (.sl 6 u),Z 4 (.v (.bool fi))]⟩) U (A0 U) (by omega) U (λ hb2=>?_) (λ hb2=>?_) ?_
  ·have hf2:fi=false:=by simpa using hb2
   rw[hfi,hf2,if_neg (by decide)]at hB hst
   refine BO [0] [] (λ _ (_:Unit)=>.tu []) (λ _ j _=>[(0,AS b v j d)]) hB U (A0 U) (by omega) U Tryz.call97 U U (A0 U) U (List.sublist_cons_self _ _) (λ w M hS hF=>OX [44] hS (hF.get (k:=0) U).sl hj0 hj1 (by omega)) (λ _ _=>rfl) (λ _ _ _=>rfl) λ _ k hk hB _ _=>?_
   obtain⟨rfl,hk1,_⟩:=DS ok hj0 hj1 hk
   rw[hk,PR.HS]at hst
   exact BF _ U (A0 U) (by omega) U ⟨j+1,by omega,hk1,hst,rfl⟩
  ·have hf2:fi=true:=by simpa using hb2
   rw[hfi,hf2,if_pos U,PR.HS]at hst
   exact BF _ U (A0 U) (by omega) U ⟨j,by omega,hj1,hst,rfl⟩
  rintro s ⟨j',hjj,hj2,hR2,rfl⟩
  rw[hst,<-hR2]at hB
  refine BO [0] [] (λ _ (h:AO)=>.sl 7 h.v) (λ x j h=>[(0,AS b v j d),(7,C2 h.v x.flat)]) hB U (A0 U) (by omega) U Tryz.call40 U U (A0 U) U (List.sublist_cons_self _ _) (λ w M hS hF=>(H q (by omega)).rd ⟨hS,(hF.get (k:=0) U).sl,hg,ok,by omega,hj2⟩ hd0 hd (by omega) trivial) (λ _ _=>rfl) (λ _ _ _=>rfl) λ x m hx hB h7 _=>?_
  have gx:=(IG rt ok q).ty _ _ _ _ (by omega) hj2 hx
  have hlt:=gx.lt
  have hle:=gx.le
  rw[hx,PR.HS]at hR2
  refine FW 7 U ?_
  refine EN 9 [h7] DB 1 36 EX U (A0 U) (by omega) U (A0 U) (λ w=>by kernel_rfl) U λ v9=>?_
  refine O9 24 U (A0 U) (by omega) U (A0 U) U Tryz.underlying43 Tryz.type36 U U Y4 (by simp only[AK,len_nil];unfold len at*;omega) λ v'=>?_
  refine I4 8 (IC (hs++[h7]) ((xs++[x]).map Tf.flat)) (λ w M hX=>⟨Sl.nil M 1,DN,by rw[List.map_append];exact CK.snoc (hX.sl 7 U) (hX.f.get (k:=8) U).more⟩) ?_
  exact DO (m,v',hs++[h7],xs++[x],false,q) U (A0 U) (by omega) U ⟨by omega,hle,(hgs.mono hjj).snoc gx,by simp[hhl],by simp,by rw[AG];show len xs+1<=_;omega,by omega,by omega,hR2⟩ (by show Int.toNat _<Int.toNat _;omega)
 have hb:A9 l j [41]=true:=by simpa using hb1
 rw[if_pos hb]at hst
 rw[<-hst]at hB
 have hsz:=hgs.size
 refine B9 [] (λ h:AO=>.sl 10 h.v) [] (λ u=>[(10,C2 u.v (Tf.mk (AN 4) xs).flat)]) U (A0 U) (by omega) U Tryz.call99 U U (A0 U) U (λ w M hS hF=>xP (AN 4) u hs xs hS (hF.get (k:=6) U).sl (hF.get (k:=8) U).more (by omega) (by omega)) (λ _=>rfl) (λ _=>rfl) λ h10 _=>?_
 exact AH hB U U (A0 U) (by omega) U (A0 U) λ w M' hX=>⟨h10,M',rfl,trivial,hX.le,hX.C5 [0,10] U,AA⟩
end Go.Proofs.YtmjpjbmeamnfpaaGreatDoor
