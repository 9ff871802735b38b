/-
  Parts Kp Stab, put together and made short by wip/py/merge.py (mini.py).
-/
import Derived.Test.YtmjpjbmeamnfpaaGreatDoorZc14
import Derived.Test.YtmjpjbmeamnfpaaGreatDoorZc7
import Derived.Test.YtmjpjbmeamnfpaaGreatDoorZc21
import Derived.Test.YtmjpjbmeamnfpaaGreatDoorZc18
import Derived.Test.YtmjpjbmeamnfpaaGreatDoorZc15
import Derived.Test.YtmjpjbmeamnfpaaGreatDoorZc0
set_option linter.unusedVariables false
set_option linter.unusedSimpArgs false
set_option maxRecDepth 100000
namespace Go.Proofs.YtmjpjbmeamnfpaaGreatDoor
open Go.Eng
theorem yS(c:Int)(w:World):Calls Tryz.prog 299 [.int .u8 c].toArray w λ e w'=>e= .returned (.bool (EB c))/\Ext w w':=by
 refine B8 B3 Tryz.func299 U Tryz.ntmps299 [] [] [.v (.int .u8 c)] U (H3 w) AF (λ B hB=>?_) U
 exact AD hB U U (A0 U) (by omega) U (A0 U) λ w M hX=>⟨rfl,hX.st.low⟩
theorem yT(c:Int)(w:World):Calls Tryz.prog 300 [.int .u8 c].toArray w λ e w'=>e= .returned (.bool (BM c))/\Ext w w':=by
 refine B8 B3 Tryz.func300 U Tryz.ntmps300 [] [] [.v (.int .u8 c)] U (H3 w) AF (λ B hB=>?_) U
 exact AD hB U U (A0 U) (by omega) U (A0 U) λ w M hX=>⟨rfl,hX.st.low⟩
theorem yU(s:A1)(w:World)(hb:len s<=1099511627776):Calls Tryz.prog 280 [str s].toArray w λ e w'=>e= .returned (i64 (D6 s 0))/\Ext w w':=by
 have hln:=AA s
 refine B8 B3 Tryz.func280 U Tryz.ntmps280 [] [] [.v (str s)] U (H3 w) AF (λ B hB=>?_) U
 refine DI (σ:=Int) (λ n=>⟨[],[],[Z 0 (.v (str s)),Z 3 (I n)]⟩) (λ n=>0<=n/\n<=len s/\D6 s n=D6 s 0) (λ n=>(len s-n).toNat) 0 U (A0 U) (by omega) U ⟨by omega,hln,rfl⟩ ?_
 rintro n ⟨h0,h1,hw⟩
 refine B7 U (A0 U) (by simp only[zb]<;>omega) Tryz.call299 U U (A0 U) (λ _ w M hX=>yS (A3 s n) w) U ?_
 refine B7 U (A0 U) (by simp only[zb]<;>omega) Tryz.call300 U U (A0 U) (λ _ w M hX=>yT (A3 s n) w) U ?_
 refine AE U (A0 U) (by simp only[zb]<;>omega) (λ hb1=>?_) (λ hb1=>?_)<;>simp only[zb]at hb1
 ·have hwr:C0 (A3 s n) (n==0)=true:=by unfold C0;simp only[zb];exact hb1.2.imp id λ q=>⟨by omega,q.2⟩
  exact CS (n+1) U (A0 U) (by omega) U ⟨by omega,by omega,by rw[PI h0 hb1.1 hwr,hw]⟩ (by show Int.toNat _<Int.toNat _;omega)
 ·have e:D6 s n=n:=by
   by_cases hlt:n<len s
   ·refine PJ h0 hlt ?_
    have h2:=hb1.resolve_left (by omega)
    unfold C0
    simp only[zb]
    refine⟨h2.1,?_⟩
    rcases h2.2 with h3|h3
    ·exact .inl (by omega)
    ·exact .inr h3
   ·exact PK hlt
  exact AD hB U U (A0 U) (by omega) U (A0 U) λ w M hX=>⟨by rw[<-hw,e];rfl,hX.st.low⟩
theorem yV(s:A1):PW s=(s != []&&D6 s 0==len s):=by
 unfold PW
 congr 1
 have h:=NQ (s:=s) (i:=0) (by omega) (AA s)
 rw[Bool.eq_iff_iff,beq_iff_eq,beq_iff_eq]
 constructor
 ·intro e;rw[<-LC,e]
 ·intro e
  unfold AY
  rw[e]
  unfold Eng.sub len;simp
theorem yW(s:A1)(w:World)(hb:len s<=1099511627776):Calls Tryz.prog 254 [str s].toArray w λ e w'=>e= .returned (.bool (PW s))/\Ext w w':=by
 refine B8 B3 Tryz.func254 U Tryz.ntmps254 [] [] [.v (str s)] U (H3 w) AF (λ B hB=>?_) U
 refine B7 U (A0 U) (by omega) Tryz.call280 U U (A0 U) (λ _ w M hX=>yU s w hb) U ?_
 exact AD hB U U (A0 U) (by simp only[zb]<;>omega) U (A0 U) λ w M hX=>⟨by rw[yV];rfl,hX.st.low⟩
abbrev kC(b:Nat)(a u:Value)(o:A1):List HO:=[.box b [a,u] 163,.own 5 1 u (ints o).length ((ints o).flatMap AV)]
abbrev W8(b:Nat)(a u:Value)(o:A1):List (Nat×HX):=[(1,.box b [.v a,.v u] 163),(2,.ho (.own 5 1 u (ints o).length ((ints o).flatMap AV)))]
theorem b7{w0 wv:World}{M0 M:Mem}{Rs:List HO}(b:Nat)(a u:Value)(o s:A1)(hS:St w0 M0 wv M (kC b a u o++Rs))(ha:a= .pointer none\/a=CE b)(ho:len o<=35184372088832)(hs:len s<=35184372088832):
   Calls Tryz.prog 218 [.pointer (some ⟨b,0,none⟩),str s].toArray wv (DQ w0 M0 M Rs (λ _:Value=>.tuple #[i64 (len s),.nilIface]) (λ _=>True) (λ _=>[]) λ u'=>kC b (CE b) u' (o++s)):=
 (aO b a (ints o) s u hS ha (by rw[I4];exact ho) hs).mono λ e w' ⟨x,he,v',M',hx,hS',hle⟩=>by
  subst hx
  rw[<-PL]at hS'
  exact⟨v',M',he,trivial,hle,hS',AF⟩
theorem Sp.BI (x:Sp):x.cells.length=3:=rfl
theorem kD{x:Sp}(h1:len x.name<=1048576)(h2:x.part=true->0<=x.n/\x.n<=1000000):0<=len (FK A9 x)/\len (FK A9 x)<=6291463:=by
 refine⟨AA _,?_⟩
 unfold FK
 have hn:=AA x.name
 split
 ·rename_i hp
  have h3:=h2 hp
  have h4:=LA x.n
  rw[A5,A5,A7,len_nil,A7,len_nil];omega
 ·split
  ·rw[A5,A7,len_nil];omega
  ·have h3:=jA x.name
   rw[A5,A7,len_nil];omega
abbrev GC(p:List Sp):A1:=(p.map (FK A9)).flatten
theorem kE(p:List Sp){k:Int}(h0:0<=k)(h1:k<len p):GC (Eng.sub p 0 (k+1))=GC (Eng.sub p 0 k)++FK A9 (A2 p k):=by
 unfold GC;rw[iP h0 h1];simp
theorem b8{p:List Sp}(h:O5 p): ∀k:Nat,(k:Int)<=len p->len (GC (Eng.sub p 0 (k:Int)))<=k*6291463
 |0,_=>by show len (GC (Eng.sub p 0 0))<=_;unfold GC Eng.sub;simp[len]
 |k+1,hk=>by
  have ih:=b8 h k (by omega)
  rw[show((k+1:Nat):Int)=(k:Int)+1 by omega,kE p (by omega) (by omega),A5]
  obtain⟨q1,q2⟩:=h.2 _ (at_mem (k:=(k:Int)) (by omega) (by omega))
  have:=kD q1 q2
  omega
theorem kF{w:World}{M:Mem}(v:Value)(p:List Sp)(hM:Sat w M)(hg:Gl w)(hl:Sl M 3 p.length v (p.flatMap Sp.cells))(hp:O5 p):
    Calls Tryz.prog 224 [v].toArray w λ e w'=>e= .returned (str (GC p))/\Ext w w':=by
 have hln:=AA p
 have h20:=hp.1
 refine B8 (Hr:=[]) B3 Tryz.func224 U Tryz.ntmps224 [(0,kn v 3 p Sp.cells)] [] [.sl 0 v] U (St.start hM) (fc 0 hl Sp.BI AF) (λ B hB=>?_) U
 refine CY 1 U (A0 U) (by omega) Tryz.zeroValue163 U λ bb=>?_
 refine QJ 2 5 1 AV RF ?_
 refine DI (σ:=Int×Value×Value) (λ(k,a,u)=>⟨[(0,kn v 3 p Sp.cells)],W8 bb a u (GC (Eng.sub p 0 k)),[Z 3 (.bx 1 bb 0),Z 6 (.sl 0 v),Z 7 (I (len p)),Z 8 (I k)]⟩) (λ(k,a,u)=>0<=k/\k<=len p/\(a= .pointer none\/a=CE bb)) (λ(k,a,u)=>(len p-k).toNat) (0,.pointer none,.slice none 0 0) U (A0 U) (by omega) U ⟨by omega,hln,.inl U⟩ ?_
 rintro⟨k,a,u⟩ ⟨h0,h1,ha⟩
 have htl:=b8 hp k.toNat (by omega)
 rw[show((k.toNat:Nat):Int)=k by omega]at htl
 refine AE U (A0 U) (by omega) (λ hb1=>?_) (λ hb1=>?_)<;>simp only[zb]at hb1
 ·obtain⟨q1,q2⟩:=hp.2 _ (at_mem h0 hb1)
  have hsl:=kD q1 q2
  have hnx:=kE p h0 hb1
  have hnn:=AA (A2 p k).name
  refine CY 5 U (A0 U) (by omega) Tryz.zeroValue68 U λ b5=>?_
  refine AE U (A0 U) (by omega) (λ hb2=>?_) (λ hb2=>?_)
  ·have e:FK A9 (A2 p k)=([91]++Lib.itoa (A2 p k).n)++[93]:=by unfold FK;rw[if_pos hb2]
   have hit:=LA (A2 p k).n
   have hq:=q2 hb2
   refine B7 U (A0 U) (by omega) Tryz.call245 U U (A0 U) (λ _ w M hX=>rL _ w (hg.low hX.st.low) (by omega) (by omega)) U ?_
   refine AU [1,2] (λ _=>.tu [I (len (FK A9 (A2 p k))),.v .nilIface]) [] (λ u'=>W8 bb (CE bb) u' (GC (Eng.sub p 0 k)++FK A9 (A2 p k))) U (A0 U) (by simp only[zb,A5,A7,len_nil]<;>omega) U Tryz.call218 U U (A0 U) U (λ w M hS hF=>by rw[e];exact b7 bb a u _ _ hS ha (by omega) (by rw[<-e];omega)) (λ _=>rfl) (λ _=>rfl) λ u' _=>?_
   exact CS (k+1,CE bb,u') U (A0 U) (by omega) (by dsimp only;rw[hnx];rfl) ⟨by omega,by omega,.inr U⟩ (by show Int.toNat _<Int.toNat _;omega)
  ·refine B7 U (A0 U) (by omega) Tryz.call254 U U (A0 U) (λ _ w M hX=>yW (A2 p k).name w (by omega)) U ?_
   refine AE U (A0 U) (by omega) (λ hb3=>?_) (λ hb3=>?_)
   ·have e:FK A9 (A2 p k)=[46]++(A2 p k).name:=by unfold FK;rw[if_neg (by rw[hb2];decide),if_pos hb3]
    refine AU [1,2] (λ _=>.tu [I (len (FK A9 (A2 p k))),.v .nilIface]) [] (λ u'=>W8 bb (CE bb) u' (GC (Eng.sub p 0 k)++FK A9 (A2 p k))) U (A0 U) (by simp only[zb,A5,A7,len_nil]<;>omega) U Tryz.call218 U U (A0 U) U (λ w M hS hF=>by rw[e];exact b7 bb a u _ _ hS ha (by omega) (by rw[<-e];omega)) (λ _=>rfl) (λ _=>rfl) λ u' _=>?_
    exact CS (k+1,CE bb,u') U (A0 U) (by omega) (by dsimp only;rw[hnx];rfl) ⟨by omega,by omega,.inr U⟩ (by show Int.toNat _<Int.toNat _;omega)
   ·have e:FK A9 (A2 p k)=[46]++A9 (A2 p k).name:=by unfold FK;rw[if_neg (by rw[hb2];decide),if_neg (by rw[hb3];decide)]
    have hql:=jA (A2 p k).name
    refine B7 U (A0 U) (by omega) Tryz.call255 U U (A0 U) (λ _ w M hX=>xQ (A2 p k).name w (hg.low hX.st.low) (by omega)) U ?_
    refine AU [1,2] (λ _=>.tu [I (len (FK A9 (A2 p k))),.v .nilIface]) [] (λ u'=>W8 bb (CE bb) u' (GC (Eng.sub p 0 k)++FK A9 (A2 p k))) U (A0 U) (by simp only[zb,A5,A7,len_nil]<;>omega) U Tryz.call218 U U (A0 U) U (λ w M hS hF=>by rw[e];exact b7 bb a u _ _ hS ha (by omega) (by rw[<-e];omega)) (λ _=>rfl) (λ _=>rfl) λ u' _=>?_
    exact CS (k+1,CE bb,u') U (A0 U) (by omega) (by dsimp only;rw[hnx];rfl) ⟨by omega,by omega,.inr U⟩ (by show Int.toNat _<Int.toNat _;omega)
 ·have hke:k=len p:=by omega
  subst hke
  rw[ZQ (Int.le_refl _)]at*
  refine vD hM U U U (A0 U) (by omega) Tryz.call110 U U (A0 U) (λ w M hX=>(aQ bb a u (GC p) (ints (GC p)) hX.st ha U).mono λ e w' ⟨x,h1,h2,h3⟩=>⟨by rw[h1,h2],h3⟩) U ?_
  exact AD hB U U (A0 U) (by omega) U (A0 U) λ w M' hX=>⟨rfl,hX.st.low⟩
theorem kG(p:List Sp):JJ A9 p=if p=[]\/(A2 p 0).part=true then [46]++GC p else GC p:=by
 unfold JJ;split<;>simp
theorem yX{w:World}{M:Mem}(v:Value)(p:List Sp)(hM:Sat w M)(hg:Gl w)(hl:Sl M 3 p.length v (p.flatMap Sp.cells))(hp:O5 p):
    Calls Tryz.prog 175 [v].toArray w λ e w'=>e= .returned (str (JJ A9 p))/\Ext w w':=by
 have hln:=AA p
 have h20:=hp.1
 have htl:=b8 hp p.length (by show len p<=_;omega)
 rw[show((p.length:Nat):Int)=len p from rfl,ZQ (Int.le_refl _)]at htl
 refine B8 (Hr:=[]) B3 Tryz.func175 U Tryz.ntmps175 [(0,kn v 3 p Sp.cells)] [] [.sl 0 v] U (St.start hM) (fc 0 hl Sp.BI AF) (λ B hB=>?_) U
 refine AE U (A0 U) (by simp only[zb]<;>omega) (λ hb1=>?_) (λ hb1=>?_)<;>simp only[zb]at hb1
 ·have e:JJ A9 p=[46]++GC p:=by
   rw[kG,if_pos (hb1.imp (λ q=>by cases p with|nil=>rfl|cons x r=>rw[A7]at q;have:=AA r;omega) id)]
  rw[e]at hB
  refine B7 U (A0 U) (by omega) Tryz.call224 U U (A0 U) (λ _ w M hX=>kF v p hX.st.sat (hg.low hX.st.low) (hX.sl 0 U) hp) U ?_
  exact AD hB U U (A0 U) ⟨(by show(1:Int)+len (GC p)<=9223372036854775807;omega),rfl⟩ U (A0 U) λ w M' hX=>⟨rfl,hX.st.low⟩
 ·have e:JJ A9 p=GC p:=by
   rw[kG,if_neg (λ q=>?_)]
   rcases q with q|q
   · rw[q]at hb1;exact hb1.1 U
   · rw[q]at hb1;cases hb1.2
  rw[e]at hB
  refine B7 U (A0 U) (by omega) Tryz.call224 U U (A0 U) (λ _ w M hX=>kF v p hX.st.sat (hg.low hX.st.low) (hX.sl 0 U) hp) U ?_
  exact AD hB U U (A0 U) (by omega) U (A0 U) λ w M' hX=>⟨rfl,hX.st.low⟩
end Go.Proofs.YtmjpjbmeamnfpaaGreatDoor
namespace Go.Eng
open Go.RowKit
theorem H6{u v:A1}{j:Int}(h0:0<=j)(h:j<len u):A3 (u++v) j=A3 u j:=by
 unfold len at h
 unfold A3
 rw[List.getD_eq_getElem?_getD,List.getD_eq_getElem?_getD,List.getElem?_append_left (by omega)]
theorem W9{u v:A1}{k:Int}(h0:0<=k):A3 (u++v) (len u+k)=A3 v k:=by
 unfold A3 len
 rw[List.getD_eq_getElem?_getD,List.getD_eq_getElem?_getD,List.getElem?_append_right (by omega),show((u.length:Int)+k).toNat-u.length=k.toNat from by omega]
theorem yY{u v:A1}{k:Int}(h0:len u<=k):A3 (u++v) k=A3 v (k-len u):=by
 have:=W9 (u:=u) (v:=v) (k:=k-len u) (by omega)
 rw[<-this];congr 1;omega
theorem EI(a:UInt8)(l:A1):A3 (a::l) 0=(a.toNat:Int):=rfl
theorem yZ(k:Int):A3 [] k=0:=by unfold A3;simp
theorem b9{u v:A1}:A4 (u++v) (len u)=v:=by unfold A4 len;simp
theorem bA{α:Type}(s:List α):A4 s 0=s:=rfl
theorem T6{u v:A1}:Eng.sub (u++v) 0 (len u)=u:=by unfold Eng.sub len;simp
theorem kH{s:A1}{n:Int}(h0:0<=n)(h1:n<=len s):s=Eng.sub s 0 n++A4 s n/\len (Eng.sub s 0 n)=n:=by
 refine⟨?_,by rw[EV (by omega) h0 h1];omega⟩
 have:=O0 s 0 n (by omega) h0
 rw[bA]at this;exact this
theorem z6{a b:A1}(hl:len a=len b)(h: ∀j:Int,0<=j->j<len a->A3 a j=A3 b j):a=b:=by
 unfold len at hl
 refine List.ext_getElem (by omega) λ i h1 h2=>?_
 have:=h (i:Int) (by omega) (by unfold len;omega)
 simp only[A3,Int.toNat_natCast,List.getD_eq_getElem?_getD,List.getElem?_eq_getElem h1,List.getElem?_eq_getElem h2,Option.getD_some]at this
 exact UInt8.toNat_inj.1 (by omega)
theorem z7{s s':A1}{i i' k:Int}(h0:0<=i)(h0':0<=i')(hk:0<=k)(h1:i+k<=len s)(h2:i'+k<=len s')(h: ∀j,0<=j->j<k->A3 s' (i'+j)=A3 s (i+j)):Eng.sub s' i' (i'+k)=Eng.sub s i (i+k):=by
 have l1:=EV (s:=s) (i:=i) (j:=i+k) h0 (by omega) h1
 have l2:=EV (s:=s') (i:=i') (j:=i'+k) h0' (by omega) h2
 refine z6 (by omega) λ j a b=>?_
 rw[N5 h0' a (by omega) h2,N5 h0 a (by omega) h1]
 exact h j a (by omega)
theorem bB{p:UInt8->Bool}: ∀ {l:A1},(∀b∈l,p b=true)->l.takeWhile p=l
 |[],_=>rfl
 |a::l,h=>by rw[List.takeWhile_cons,if_pos (h a (by simp)),bB (λ b hb=>h b (by simp[hb]))]
theorem WA{s s':A1}{i i':Int}(h0:0<=i)(h0':0<=i')(h1:1<=rune s i)(hl:i<len s)(hl':i'+rune s i<=len s')(h: ∀j,0<=j->j<rune s i->A3 s' (i'+j)=A3 s (i+j)):
  rune s' i'=rune s i/\AR s' i'=AR s i/\runeLen s' i'=runeLen s i:=by
 have hb:=L8 s i
 have hle:=rune_le s i hl
 have a0:A3 s' i'=A3 s i:=by have:=h 0 (by omega) (by omega);rwa [Int.add_zero,Int.add_zero]at this
 have a1:2<=rune s i->A3 s' (i'+1)=A3 s (i+1):=λ x=>h 1 (by omega) (by omega)
 have a2:3<=rune s i->A3 s' (i'+2)=A3 s (i+2):=λ x=>h 2 (by omega) (by omega)
 have a3:4<=rune s i->A3 s' (i'+3)=A3 s (i+3):=λ x=>h 3 (by omega) (by omega)
 have er:rune s' i'=rune s i:=by
  clear h
  generalize hk:rune s i=k at*
  unfold rune cont at hk ⊢
  dsimp only at hk ⊢
  rw[a0]
  simp only[Bool.and_eq_true,Bool.or_eq_true,decide_eq_true_eq,beq_iff_eq]at hk ⊢
  split at hk
  ·rw[if_pos (by assumption)];exact hk
  rename_i c0
  rw[if_neg c0]
  split at hk
  ·rename_i c1
   subst hk
   have:=a1 (by omega)
   rw[if_pos (by omega)]
  rename_i c1
  split at hk
  ·rename_i c2
   have hk3:k=3:=by split at hk<;>omega
   have e1:=a1 (by omega)
   have e2:=a2 (by omega)
   rw[if_neg (by omega),if_pos (by omega),e1]
   exact hk
  rename_i c2
  split at hk
  ·rename_i c3
   have hk4:k=4:=by split at hk<;>omega
   have e1:=a1 (by omega)
   have e2:=a2 (by omega)
   have e3:=a3 (by omega)
   rw[if_neg (by omega),if_neg (by omega),if_pos (by omega),e1]
   exact hk
  ·omega
 refine⟨er,?_⟩
 have hl2:i'<len s':=by omega
 have D:=Y8 (s.length-i.toNat) (s.getD i.toNat 0).toNat (s.getD (i.toNat+1) 0).toNat (s.getD (i.toNat+2) 0).toNat (s.getD (i.toNat+3) 0).toNat (by unfold len at*;omega) (UInt8.toNat_lt _) (UInt8.toNat_lt _) (UInt8.toNat_lt _) (UInt8.toNat_lt _)
 have D':=Y8 (s'.length-i'.toNat) (s'.getD i'.toNat 0).toNat (s'.getD (i'.toNat+1) 0).toNat (s'.getD (i'.toNat+2) 0).toNat (s'.getD (i'.toNat+3) 0).toNat (by unfold len at*;omega) (UInt8.toNat_lt _) (UInt8.toNat_lt _) (UInt8.toNat_lt _) (UInt8.toNat_lt _)
 have r1:=Y9 h0 hl
 have r2:=Y9 h0' hl2
 have q: ∀(t:A1) (x:Int),0<=x->AR t x=((Lib.decodeN (t.length-x.toNat) (t.getD x.toNat 0).toNat (t.getD (x.toNat+1) 0).toNat (t.getD (x.toNat+2) 0).toNat (t.getD (x.toNat+3) 0).toNat).1:Nat)/\runeLen t x=((Lib.decodeN (t.length-x.toNat) (t.getD x.toNat 0).toNat (t.getD (x.toNat+1) 0).toNat (t.getD (x.toNat+2) 0).toNat (t.getD (x.toNat+3) 0).toNat).2:Nat):=λ t x hx=>by
  unfold AR runeLen;rw[RU t x hx,UP t x hx];exact⟨rfl,rfl⟩
 obtain⟨q1,q2⟩:=q s i h0
 obtain⟨q3,q4⟩:=q s' i' h0'
 rw[q1,q2,q3,q4]
 have n0: ∀(t:A1) (x:Int),0<=x->A3 t x=((t.getD x.toNat 0).toNat:Int):=λ t x hx=>rfl
 have nj:=λ(t:A1) (x:Int) (hx:0<=x) (j:Nat)=>UO t x hx j
 rw[n0 s i h0,n0 s' i' h0']at a0
 have b1:A3 s (i+1)=_:=nj s i h0 1
 have b2:A3 s (i+2)=_:=nj s i h0 2
 have b3:A3 s (i+3)=_:=nj s i h0 3
 have b1':A3 s' (i'+1)=_:=nj s' i' h0' 1
 have b2':A3 s' (i'+2)=_:=nj s' i' h0' 2
 have b3':A3 s' (i'+3)=_:=nj s' i' h0' 3
 rw[b1,b1']at a1
 rw[b2,b2']at a2
 rw[b3,b3']at a3
 unfold Y7 at D D'
 generalize (s.getD i.toNat 0).toNat=x0 at*
 generalize (s.getD (i.toNat+1) 0).toNat=x1 at*
 generalize (s.getD (i.toNat+2) 0).toNat=x2 at*
 generalize (s.getD (i.toNat+3) 0).toNat=x3 at*
 generalize (s'.getD i'.toNat 0).toNat=y0 at*
 generalize (s'.getD (i'.toNat+1) 0).toNat=y1 at*
 generalize (s'.getD (i'.toNat+2) 0).toNat=y2 at*
 generalize (s'.getD (i'.toNat+3) 0).toNat=y3 at*
 generalize OM (s.length-i.toNat) x0 x1 x2 x3=k at*
 generalize OM (s'.length-i'.toNat) y0 y1 y2 y3=k' at*
 generalize Lib.decodeN (s.length-i.toNat) x0 x1 x2 x3=d at*
 generalize Lib.decodeN (s'.length-i'.toNat) y0 y1 y2 y3=d' at*
 obtain⟨d1,d2⟩:=d
 obtain⟨e1,e2⟩:=d'
 clear q1 q2 q3 q4 q n0 nj b1 b2 b3 b1' b2' b3' h
 dsimp only at*
 rcases D with D|D|D|D|D<;>rcases D' with D'|D'|D'|D'|D'<;>first|(exfalso;omega)|(constructor<;>omega)
theorem bC{s s':A1}(hl:6<=len s')(h: ∀j,0<=j->j<6->A3 s' j=A3 s j)(h0:0<=BB s):BB s'=BB s:=by
 by_cases hs:len s<6\/ ¬A3 s 0=92\/ ¬A3 s (0+1)=117
 ·have:=j1 (s:=s) (i:=0) (by omega) (by omega)
  rw[bA]at this;omega
 ·have e1:=VR (s:=s) (i:=0) (by omega) (by omega) (by omega) (by omega)
  have e2:=VR (s:=s') (i:=0) (by omega) (by omega) (by rw[h 0 (by omega) (by omega)];omega) (by rw[h (0+1) (by omega) (by omega)];omega)
  rw[bA]at e1 e2
  have e3:Eng.sub s' (0+2) (0+6)=Eng.sub s (0+2) (0+6):=z7 (k:=4) (by omega) (by omega) (by omega) (by omega) (by omega) (λ j a b=>h _ (by omega) (by omega))
  rw[e1,e2,e3]
theorem kI{s s':A1}(h0:(B2 s).2≠0)(hl:(B2 s).2<=len s')(h: ∀j,0<=j->j<(B2 s).2->A3 s' j=A3 s j):B2 s'=B2 s:=by
 generalize hk:(B2 s).2=k at*
 unfold B2 at hk ⊢
 by_cases c1:len s<2
 ·rw[if_pos c1]at hk;exact absurd hk.symm h0
 rw[if_neg c1]at hk ⊢
 by_cases c2:HI (A3 s 1)=true
 ·rw[if_pos c2]at hk ⊢
  have hk':k=2:=hk.symm
  rw[if_neg (by omega),h 1 (by omega) (by omega),if_pos c2]
 rw[if_neg c2]at hk ⊢
 by_cases c3:BB s<0\/(56320<=BB s/\BB s<57344)
 ·rw[if_pos c3]at hk;exact absurd hk.symm h0
 rw[if_neg c3]at hk ⊢
 by_cases c4:BB s<55296\/57344<=BB s
 ·rw[if_pos c4]at hk ⊢
  have hk':k=6:=hk.symm
  have e:=bC (s:=s) (s':=s') (by omega) (λ j a b=>h j a (by omega)) (by omega)
  rw[if_neg (by omega),h 1 (by omega) (by omega),if_neg c2,e,if_neg c3,if_pos c4]
 rw[if_neg c4]at hk ⊢
 by_cases c5:BB (A4 s 6)<56320\/57344<=BB (A4 s 6)
 ·rw[if_pos c5]at hk;exact absurd hk.symm h0
 rw[if_neg c5]at hk ⊢
 have hk':k=12:=hk.symm
 have e:=bC (s:=s) (s':=s') (by omega) (λ j a b=>h j a (by omega)) (by omega)
 have e2:=bC (s:=A4 s 6) (s':=A4 s' 6) (by rw[DV s' 6 (by omega) (by omega)];omega) (λ j a b=>by rw[NP _ _ _ (by omega) a,NP _ _ _ (by omega) a];exact h _ (by omega) (by omega)) (by omega)
 rw[if_neg (by omega),h 1 (by omega) (by omega),if_neg c2,e,if_neg c3,if_neg c4,e2,if_neg c5]
theorem bE{s s':A1}{n:Int}(hn':n<=len s')(ha: ∀j,0<=j->j<n->A3 s' j=A3 s j): ∀(f f':Nat) (i:Int) (acc:List Int) (x:A1),0<=i->i<=len s->DP f s i acc=(x,n,0)->(len s'-i).toNat<=f'->DP f' s' i acc=(x,n,0)
 |0,_,_,_,_,_,_,h,_=>by unfold DP at h;simp at h
 |f+1,f',i,acc,x,h0,hi,h,hf=>by
  have hb:=UT (f:=f+1) (s:=s) (i:=i) (acc:=acc) h0 hi
  rw[h]at hb
  dsimp only at hb
  have hin:i<n:=hb.2.2.1 U
  have hl:i<len s:=by omega
  have hl':i<len s':=by omega
  rw[KE hf hl']
  unfold DP at h
  rw[if_pos hl]at h
  have hby:A3 s' i=A3 s i:=ha i h0 hin
  rw[PS s i h0,ON s i h0]at h
  rw[PS s' i h0,ON s' i h0]
  have low: ∀c:Int,c<128->(AR s' i=c↔AR s i=c):=λ c hc=>by rw[ID h0 hl hc,ID h0 hl' hc,hby]
  by_cases c1:AR s i=34
  ·rw[if_pos c1]at h;rw[if_pos ((low 34 (by omega)).2 c1)];exact h
  rw[if_neg c1]at h
  rw[if_neg (λ e=>c1 ((low 34 (by omega)).1 e))]
  by_cases c2:AR s i=92
  ·rw[if_pos c2]at h;rw[if_pos ((low 92 (by omega)).2 c2)]
   by_cases c3:(B2 (A4 s i)).2=0
   ·rw[if_pos c3]at h;simp at h
   rw[if_neg c3]at h
   have hfl:=DV s i h0 hi
   have hfl':=DV s' i h0 (by omega)
   have he:=US (A4 s i)
   have hb2:=UT (f:=f) (s:=s) (i:=i+(B2 (A4 s i)).2) (acc:=acc++Lib.encodeRuneZ (B2 (A4 s i)).1) (by omega) (by omega)
   rw[h]at hb2
   dsimp only at hb2
   have:=hb2.2.2.1 U
   have e:B2 (A4 s' i)=B2 (A4 s i):=kI c3 (by omega) (λ j a b=>by rw[NP _ _ _ h0 a,NP _ _ _ h0 a];exact ha _ (by omega) (by omega))
   rw[e,if_neg c3]
   exact bE hn' ha f (f'-1) _ _ x (by omega) (by omega) h (by omega)
  ·rw[if_neg c2]at h
   rw[if_neg (λ e=>c2 ((low 92 (by omega)).1 e))]
   by_cases c3:AR s i<32\/(AR s i=65533/\runeLen s i=1)
   ·rw[if_pos c3]at h;simp at h
   rw[if_neg c3]at h
   have hr:=RX h0 hl
   have hv:rune s i≠0:=λ e=>c3 (.inr ((VQ h0 hl).1 e))
   have hrb:=L8 s i
   have hre:runeLen s i=rune s i:=by rcases MM h0 hl with d|d<;>omega
   have hb2:=UT (f:=f) (s:=s) (i:=i+runeLen s i) (acc:=acc++Lib.encodeRuneZ (AR s i)) (by omega) (by omega)
   rw[h]at hb2
   dsimp only at hb2
   have:=hb2.2.2.1 U
   obtain⟨_,e2,e3⟩:=WA (s:=s) (s':=s') (i:=i) (i':=i) h0 h0 (by omega) hl (by omega) (λ j a b=>ha _ (by omega) (by omega))
   rw[e2,e3,if_neg c3]
   exact bE hn' ha f (f'-1) _ _ x (by omega) (by omega) h (by omega)
theorem kJ{u v v':A1}{x:A1}(h:AS (u++v)=(x,len u,0)):AS (u++v')=(x,len u,0):=by
 have hb:=MN (u++v)
 rw[h]at hb
 dsimp only at hb
 have h2:2<=len u:=hb.2.2.1 U
 have ha: ∀j,0<=j->j<len u->A3 (u++v') j=A3 (u++v) j:=λ j a b=>by rw[H6 a b,H6 a b]
 have hv:=A5 u v
 have hv':=A5 u v'
 have p1:=AA v
 have p2:=AA v'
 have hne: ∀w:A1,¬u++w=[]:=λ w e=>by have:=congrArg len e;rw[A5,len_nil]at this;have:=AA w;omega
 unfold AS at h ⊢
 by_cases c:Lib.hasPrefix (u++v) [34]=true
 ·rw[if_pos c]at h
  rw[if_pos (LW.2 ⟨hne v',by rw[ha 0 (by omega) (by omega)];exact(LW.1 c).2⟩)]
  exact bE (n:=len u) (by omega) ha _ _ 1 [] x (by omega) (by omega) h (by unfold len;omega)
 ·rw[if_neg c]at h;simp at h
def M6(c:Int):Bool:=L7 c||c==40||c==41||c==44||c==58||c==91||c==93||c==125
def Stop(v v':A1):Prop:=v'=[]\/(v'≠[]/\M6 (A3 v' 0)=true)\/(v≠[]/\v'≠[]/\A3 v' 0=A3 v 0)
theorem KU{α:Type}{l:List α}:l≠[]↔0<len l:=⟨λ h=>HC h,λ h e=>by rw[e,len_nil]at h;omega⟩
theorem WB{s:A1}{n:Int}(hn:n<=len s)(ha: ∀j:Int,0<=j->j<n->C0 (A3 s j) (j==0)=true)(hs:n<len s->C0 (A3 s n) (n==0)=false)(i:Int)(h0:0<=i)(hi:i<=n):D6 s i=n:=by
 by_cases h:i<n
 ·rw[<-PI h0 (by omega) (ha i h0 h)]
  exact WB hn ha hs (i+1) (by omega) (by omega)
 ·have e:i=n:=by omega
  subst e
  by_cases hl:i<len s
  ·exact PJ h0 hl (hs hl)
  ·exact PK hl
termination_by (n-i).toNat
theorem WC{s:A1}: ∀(i:Int),0<=i->(∀j:Int,i<=j->j<D6 s i->C0 (A3 s j) (j==0)=true)/\(i<=len s->D6 s i<len s->C0 (A3 s (D6 s i)) (D6 s i==0)=false):=by
 intro i h0
 by_cases hlt:i<len s
 ·cases hw:C0 (A3 s i) (i==0)with
  |true=>
   have:=WC (s:=s) (i+1) (by omega)
   rw[PI h0 hlt hw]at this
   refine⟨λ j a b=>?_,λ a b=>this.2 (by omega) b⟩
   by_cases e:j=i
   ·subst e;exact hw
   ·exact this.1 j (by omega) b
  |false=>rw[PJ h0 hlt hw];exact⟨λ j a b=>by omega,λ _ _=>hw⟩
 ·rw[PK hlt];exact⟨λ j a b=>by omega,λ a b=>by omega⟩
termination_by i=>(len s-i).toNat
theorem kK{c:Int}{f:Bool}(h:M6 c=true):C0 c f=false:=by
 unfold M6 L7 at h
 unfold C0 EB BM
 simp only[Bool.or_eq_true,beq_iff_eq]at h
 rw[<-Bool.not_eq_true]
 simp only[Bool.or_eq_true,Bool.and_eq_true,decide_eq_true_eq,beq_iff_eq]
 omega
theorem bF{u v v':A1}(h:AY (u++v)=u)(hv:Stop v v'):AY (u++v')=u:=by
 have hl:D6 (u++v) 0=len u:=by rw[<-LC,h]
 have ho:=WC (s:=u++v) 0 (by omega)
 rw[hl]at ho
 have l1:=A5 u v
 have l2:=A5 u v'
 have p1:=AA u
 have p2:=AA v'
 have hb:=NQ (s:=u++v) (i:=0) (by omega) (AA _)
 have e:D6 (u++v') 0=len u:=by
  refine WB (by omega) (λ j a b=>?_) (λ a=>?_) 0 (by omega) (by omega)
  ·rw[H6 a b,<-H6 (v:=v) a b];exact ho.1 j a b
  ·have e0: ∀w:A1,A3 (u++w) (len u)=A3 w 0:=λ w=>by have:=W9 (u:=u) (v:=w) (k:=0) (by omega);rwa [Int.add_zero]at this
   rw[e0]
   rcases hv with hv|⟨_,hv⟩|⟨hv1,_,hv3⟩
   ·subst hv;rw[len_nil]at l2;omega
   ·exact kK hv
   ·rw[hv3,<-e0 v];exact ho.2 (by omega) (by have:=KU.1 hv1;omega)
 unfold AY;rw[e,T6]
theorem HU{s:A1}(h:EB (A3 s 0)=false):AY s=[]:=by
 have e:D6 s 0=0:=by
  by_cases hl:0<len s
  ·exact PJ (by omega) hl (by unfold C0;rw[h];rfl)
  ·exact PK hl
 unfold AY;rw[e];rfl
theorem z8{s:A1}(h0:0<len s)(h:EB (A3 s 0)=true):AY s≠[]:=by
 have e:=PI (s:=s) (i:=0) (by omega) h0 (by unfold C0;rw[h];rfl)
 have hb:=NQ (s:=s) (i:=0+1) (by omega) (by omega)
 rw[KU,LC];omega
theorem kL{p:UInt8->Bool}{v v':A1}(hv:v'=[]\/(∃b r,v'=b::r/\p b=false)): ∀ {u:A1},(u++v).takeWhile p=u->(u++v').takeWhile p=u
 |[],_=>by
  rcases hv with rfl|⟨b,r,rfl,hb⟩
  ·rfl
  ·simp[List.takeWhile_cons,hb]
 |a::u,h=>by
  rw[List.cons_append,List.takeWhile_cons]at h ⊢
  split at h
  ·rename_i ha
   rw[if_pos ha,kL hv (List.cons.inj h).2]
  ·cases h
theorem zA{b:UInt8}(h:M6 (b.toNat:Int)=true):HJ b=false:=by
 cases hn:HJ b with
 |false=>rfl
 |true=>
  rw[VS]at hn
  unfold M6 L7 at h
  simp only[Bool.or_eq_true,beq_iff_eq]at h
  omega
theorem zB{p:UInt8->Bool}(hp: ∀b:UInt8,M6 (b.toNat:Int)=true->p b=false){v v':A1}(hv:Stop v v')(h:v=[]\/ ∃b r,v=b::r/\p b=false):v'=[]\/ ∃b r,v'=b::r/\p b=false:=by
 cases v' with
 |nil=>exact .inl U
 |cons b r=>
  refine .inr ⟨b,r,rfl,?_⟩
  rcases hv with hv|⟨_,hv⟩|⟨hv1,_,hv3⟩
  ·cases hv
  ·exact hp b hv
  ·rcases h with h|⟨c,q,h,hc⟩
   ·exact absurd h hv1
   ·subst h
    have:b=c:=UInt8.toNat_inj.1 (by rw[EI,EI]at hv3;omega)
    rw[this];exact hc
theorem kM{p:UInt8->Bool}{v:A1}: ∀ {u:A1},(u++v).takeWhile p=u->v=[]\/ ∃b r,v=b::r/\p b=false
 |[],h=>by
  cases v with
  |nil=>exact .inl U
  |cons b r=>
   refine .inr ⟨b,r,rfl,?_⟩
   rw[List.nil_append,List.takeWhile_cons]at h
   split at h
   ·cases h
   ·rename_i hb;simpa using hb
 |a::u,h=>by
  rw[List.cons_append,List.takeWhile_cons]at h
  split at h
  ·exact kM (List.cons.inj h).2
  ·cases h
theorem bG{u v v':A1}(h:runN (u++v)=u)(hv:Stop v v'):runN (u++v')=u:=by
 rw[RW]at h ⊢
 exact kL (zB (λ b=>zA) hv (kM h)) h
def O7(b:UInt8):Bool:=([61,33,60,62,46,124,44,58,40,41,91,93,123,125,63]:A1).contains b
theorem N9{a:UInt8}{s:A1}(h:O7 a=false):BX (a::s)=[]:=by
 have h': ∀m∈AI,Lib.hasPrefix (a::s) m=false:=by
  intro m hm
  cases hp:Lib.hasPrefix (a::s) m with
  |false=>rfl
  |true=>
   exfalso
   have hf: ∀m∈AI,m≠[]/\O7 (m.headD 0)=true:=by decide+kernel
   obtain⟨hn,hb⟩:=hf m hm
   cases m with
   |nil=>exact hn U
   |cons b r=>
   have hb:O7 b=true:=hb
   have:=List.isPrefixOf_iff_prefix.1 hp
   rw[List.cons_prefix_cons]at this
   rw[<-this.1,hb]at h;cases h
 unfold BX
 rw[List.find?_eq_none.2 (λ m hm=>by rw[h' m hm];simp)]
 rfl
theorem zC{u v v':A1}(hu:u≠[])(h:BX (u++v)=u)(hv:Stop v v'):BX (u++v')=u:=by
  have hm:u∈AI:=by
                             rcases OP (u++v)with e|e
                             · exact absurd (h.symm.trans e) hu
                             · rw[h]at e;exact e.1
  have two: ∀m∈AI,(∃a,m=[a,61])\/ ∃a,m=[a]:=by
    have tw: ∀m∈AI,m=[m.headD 0,61]\/m=[m.headD 0]:=by decide+kernel
    intro m hm
    rcases tw m hm with e|e
    · exact .inl ⟨_,e⟩
    · exact .inr ⟨_,e⟩
  have one: ∀m∈AI,∀w:A1,w=[]\/A3 w 0≠61\/(∃a,m=[a,61])\/(m≠[60]/\m≠[62])->BX (m++w)=m:=by
    intro m hm w hw
    simp only[AI,List.mem_cons,List.not_mem_nil,or_false]at hm
    cases w with
    |nil=>rcases hm with rfl|rfl|rfl|rfl|rfl|rfl|rfl|rfl|rfl|rfl|rfl|rfl|rfl|rfl|rfl|rfl|rfl<;>rfl
    |cons b r=>
      have hb:b=61\/ ¬(61:UInt8)=b:=by by_cases e:b=61;exact .inl e;exact .inr (λ x=>e x.symm)
      have hb2:A3 (b::r) 0≠61-> ¬(61:UInt8)=b:=λ x e=>x (by rw[<-e];rfl)
      rcases hm with rfl|rfl|rfl|rfl|rfl|rfl|rfl|rfl|rfl|rfl|rfl|rfl|rfl|rfl|rfl|rfl|rfl<;>
        first
          |rfl
          |(
             have hn: ¬(61:UInt8)=b:=by
               rcases hw with hw|hw|⟨a,hw⟩|hw
               · cases hw
               · exact hb2 hw
               · simp at hw
               · simp at hw
             simp[BX,AI,List.find?,Lib.hasPrefix,List.isPrefixOf,(beq_eq_false_iff_ne.2 hn)])
          |(
             rcases hb with rfl|hn
             · rfl
             · simp[BX,AI,List.find?,Lib.hasPrefix,List.isPrefixOf,(beq_eq_false_iff_ne.2 hn)])
  refine one u hm v' ?_
  rcases two u hm with e|⟨a,e⟩
  · exact .inr (.inr (.inl e))
  · rcases hv with hv|⟨_,hv⟩|⟨hv1,_,hv3⟩
    · exact .inl hv
    · refine .inr (.inl λ x=>?_);rw[x]at hv;exact absurd hv (by decide)
    · by_cases e2:u≠[60]/\u≠[62]
      · exact .inr (.inr (.inr e2))
      · refine .inr (.inl λ x=>?_)
        rw[hv3]at x
        cases v with
        |nil=>exact hv1 U
        |cons b r=>
          have hb:b=61:=UInt8.toNat_inj.1 (by rw[EI]at x;exact Int.ofNat_inj.1 x)
          subst hb
          have:u=[60]\/u=[62]:=by
            by_cases e3:u=[60]
            · exact .inl e3
            · exact .inr (Classical.byContradiction λ e4=>e2 ⟨e3,e4⟩)
          rcases this with rfl|rfl
          · exact absurd h (show ¬([60,61]:A1)=[60] by decide)
          · exact absurd h (show ¬([62,61]:A1)=[62] by decide)
theorem bH{a:UInt8}(h:EB (a.toNat:Int)=true):O7 a=false:=by
 have: ∀n:Fin 256,EB (n.val:Int)=true->O7 (UInt8.ofNat n.val)=false:=by decide+kernel
 have:=this ⟨a.toNat,a.toNat_lt⟩ h
 simpa using this
theorem bI{a:UInt8}(h:(a.toNat:Int)=45\/BM (a.toNat:Int)=true):O7 a=false/\EB (a.toNat:Int)=false:=by
 have: ∀n:Fin 256,((n.val:Int)=45\/BM (n.val:Int)=true)->O7 (UInt8.ofNat n.val)=false/\EB (n.val:Int)=false:=by decide+kernel
 have:=this ⟨a.toNat,a.toNat_lt⟩ h
 simpa using this
theorem bJ{c:Int}(h:M6 c=true):EB c=false/\c≠34:=by
 unfold M6 L7 at h
 simp only[Bool.or_eq_true,beq_iff_eq]at h
 unfold EB
 rw[<-Bool.not_eq_true]
 simp only[Bool.or_eq_true,Bool.and_eq_true,decide_eq_true_eq,beq_iff_eq]
 omega
theorem P0(a:UInt8)(l:A1):A4 (a::l) 1=l:=rfl
theorem kN{u v v':A1}{t:Tk}(hu:u≠[])(h:AB (u++v)=(t,len u,0))(hv:Stop v v'):AB (u++v')=(t,len u,0):=by
 cases u with
 |nil=>exact absurd U hu
 |cons a u=>
 have hp:=AA u
 rw[A7]at h ⊢
 rw[List.cons_append]at h ⊢
 have hpre: ∀ {l m:A1},m≠[]->BX l=m-> ∃r,m++r=l:=λ{l m} hm e=>by
  rcases OP l with e2|e2
  ·exact absurd (e.symm.trans e2) hm
  ·rw[e]at e2;exact List.isPrefixOf_iff_prefix.1 e2.2
 have cut: ∀ {l x:A1},x++[]++(A4 l (len x))=l->True:=λ _=>trivial
 unfold AB at h ⊢
 rw[EI,P0]at h ⊢
 by_cases c1:(a.toNat:Int)=46/\AY (u++v)≠[]
 ·rw[if_pos c1]at h
  simp only[Prod.mk.injEq]at h
  obtain⟨h1,h2,_⟩:=h
  have hl:len (AY (u++v))=len u:=by omega
  have hw:AY (u++v)=u:=by
   have:AY (u++v)=Eng.sub (u++v) 0 (D6 (u++v) 0):=rfl
   rw[this,<-LC,hl,T6]
  have hw':=bF hw hv
  rw[hw]at c1 h1
  rw[hw',if_pos c1,h1,Int.add_comm]
 rw[if_neg c1]at h
 by_cases c2:(a.toNat:Int)=46/\Lib.hasPrefix (u++v) [34]=true
 ·rw[if_pos c2]at h
  simp only[Prod.mk.injEq]at h
  obtain⟨h1,h2,h3⟩:=h
  have hq:AS (u++v)=((AS (u++v)).1,len u,0):=by
   rw[show(AS (u++v))=((AS (u++v)).1,(AS (u++v)).2.1,(AS (u++v)).2.2)from rfl,h3,show(AS (u++v)).2.1=len u from by omega]
  have hq':=kJ (v':=v') hq
  have hb:=MN (u++v)
  rw[h3,show(AS (u++v)).2.1=len u from by omega]at hb
  have hu2:=hb.2.2.1 U
  have h34:=(LW.1 c2.2).2
  rw[H6 (by omega) (by omega)]at h34
  have h34':A3 (u++v') 0=34:=by rw[H6 (by omega) (by omega)];exact h34
  have hw0:AY (u++v')=[]:=HU (by rw[h34'];rfl)
  rw[if_neg (λ x=>x.2 hw0),if_pos ⟨c2.1,LW.2 ⟨λ e=>by have:=congrArg len e;rw[A5,len_nil]at this;have:=AA v';omega,h34'⟩⟩,hq',<-h1]
  simp only[Prod.mk.injEq,true_and,and_true]
  omega
 rw[if_neg c2]at h
 by_cases c3:BX (a::(u++v))≠[]
 ·rw[if_pos c3]at h
  simp only[Prod.mk.injEq]at h
  obtain⟨h1,h2,_⟩:=h
  obtain⟨r,hr⟩:=hpre c3 rfl
  have hm:BX ((a::u)++v)=a::u:=by
   rw[List.cons_append]
   have hl:(BX (a::(u++v))).length=(a::u).length:=by rw[List.length_cons];unfold len at h2;omega
   rw[<-List.cons_append]at hr
   exact(List.append_inj hr hl).1
  have hm':=zC (by simp) hm hv
  rw[List.cons_append]at hm hm'
  have n1: ¬((a.toNat:Int)=46/\AY (u++v')≠[]):=by
   rintro⟨ea,hw⟩
   have hu0:u=[]:=by
    have hmm:a::u∈AI:=by
     rcases OP (a::(u++v))with e|e
     ·exact absurd e c3
     ·rw[hm]at e;exact e.1
    have: ∀m∈AI,A3 m 0=46->A4 m 1=[]:=by decide+kernel
    exact this _ hmm ea
   subst hu0
   rw[List.nil_append]at hw c1
   have hwv:AY v=[]:=Classical.byContradiction λ e=>c1 ⟨ea,e⟩
   apply hw
   rcases hv with hv|⟨_,hv⟩|⟨hv1,_,hv3⟩
   ·rw[hv];exact HU U
   ·exact HU (bJ hv).1
   ·refine HU ?_
    rw[hv3]
    cases hh:EB (A3 v 0)with
    |false=>rfl
    |true=>exact absurd hwv (z8 (KU.1 hv1) hh)
  have n2: ¬((a.toNat:Int)=46/\Lib.hasPrefix (u++v') [34]=true):=by
   rintro⟨ea,hw⟩
   have hu0:u=[]:=by
    have hmm:a::u∈AI:=by
     rcases OP (a::(u++v))with e|e
     ·exact absurd e c3
     ·rw[hm]at e;exact e.1
    have: ∀m∈AI,A3 m 0=46->A4 m 1=[]:=by decide+kernel
    exact this _ hmm ea
   subst hu0
   rw[List.nil_append]at hw c2
   have h34:=LW.1 hw
   rcases hv with hv|⟨_,hv⟩|⟨hv1,_,hv3⟩
   ·exact h34.1 hv
   ·exact(bJ hv).2 h34.2
   ·exact c2 ⟨ea,LW.2 ⟨hv1,by rw[<-hv3];exact h34.2⟩⟩
  rw[if_neg n1,if_neg n2,hm',if_pos (by simp),<-h1,hm,A7]
 rw[if_neg c3]at h
 have c3':BX (a::(u++v))=[]:=Classical.byContradiction c3
 by_cases c4:AY (a::(u++v))≠[]
 ·rw[if_pos c4]at h
  simp only[Prod.mk.injEq]at h
  obtain⟨h1,h2,_⟩:=h
  have hw:AY ((a::u)++v)=a::u:=by
   have:AY ((a::u)++v)=Eng.sub ((a::u)++v) 0 (D6 ((a::u)++v) 0):=rfl
   rw[this,<-LC,List.cons_append,h2,<-A7 a,<-List.cons_append,T6]
  have hw':=bF hw hv
  rw[List.cons_append]at hw hw'
  have hlet:EB (a.toNat:Int)=true:=by
   cases hh:EB (a.toNat:Int)with
   |true=>rfl
   |false=>exact absurd (HU (s:=a::(u++v)) hh) c4
  have ha46: ¬(a.toNat:Int)=46:=λ e=>by rw[e]at hlet;cases hlet
  rw[if_neg (λ x=>ha46 x.1),if_neg (λ x=>ha46 x.1),N9 (bH hlet),if_neg (λ x=>x U),hw',if_pos (by simp),<-h1,hw,A7]
 rw[if_neg c4]at h
 have c4':AY (a::(u++v))=[]:=Classical.byContradiction c4
 by_cases c5:(a.toNat:Int)=34
 ·rw[if_pos c5]at h
  simp only[Prod.mk.injEq]at h
  obtain⟨h1,h2,h3⟩:=h
  have ha:a=34:=UInt8.toNat_inj.1 (by show a.toNat=34;omega)
  subst ha
  have hq:AS ((34::u)++v)=((AS (34::(u++v))).1,len ((34:UInt8)::u),0):=by
   rw[List.cons_append,show(AS (34::(u++v)))=((AS (34::(u++v))).1,(AS (34::(u++v))).2.1,(AS (34::(u++v))).2.2)from rfl,h3,h2,A7]
  have hq':=kJ (v':=v') hq
  rw[List.cons_append]at hq'
  have hw0:AY (34::(u++v'))=[]:=HU U
  have hm0:BX (34::(u++v'))=[]:=N9 U
  rw[if_neg (λ x=>absurd x.1 (by decide)),if_neg (λ x=>absurd x.1 (by decide)),hm0,if_neg (λ x=>x U),hw0,if_neg (λ x=>x U),if_pos c5,hq',<-h1,A7]
 rw[if_neg c5]at h
 by_cases c6:(a.toNat:Int)=45\/BM (a.toNat:Int)=true
 ·rw[if_pos c6]at h
  by_cases c7:(C3 (runN (a::(u++v)))).2.2≠0
  ·rw[if_pos c7]at h
   simp only[Prod.mk.injEq]at h
   exact absurd h.2.2 c7
  ·rw[if_neg c7]at h
   simp only[Prod.mk.injEq]at h
   obtain⟨h1,h2,_⟩:=h
   have hr:runN ((a::u)++v)=a::u:=by
    have hpre:=List.takeWhile_prefix HJ (l:=(a::u)++v)
    rw[<-RW]at hpre
    obtain⟨r,hr⟩:=hpre
    have hl:(runN ((a::u)++v)).length=(a::u).length:=by rw[List.length_cons,List.cons_append];unfold len at h2;omega
    exact(List.append_inj hr hl).1
   have hr':=bG hr hv
   rw[List.cons_append]at hr hr'
   obtain⟨g1,g2⟩:=bI c6
   have ha46: ¬(a.toNat:Int)=46:=λ e=>by rw[e]at c6;revert c6;decide
   rw[hr]at c7 h1
   rw[if_neg (λ x=>ha46 x.1),if_neg (λ x=>ha46 x.1),N9 g1,if_neg (λ x=>x U),HU (s:=a::(u++v')) g2,if_neg (λ x=>x U),if_neg c5,if_pos c6,hr',if_neg c7,<-h1,A7]
 ·rw[if_neg c6]at h
  simp only[Prod.mk.injEq]at h
  exact absurd h.2.2 (by decide)
end Go.Eng
