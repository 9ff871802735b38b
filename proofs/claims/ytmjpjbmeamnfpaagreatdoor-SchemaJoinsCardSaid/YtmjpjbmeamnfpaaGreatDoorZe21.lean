/-
  Parts Ig Ih Kh EngS Xm Ij, put together and made short by wip/py/merge.py (mini.py).
-/
import Derived.Test.YtmjpjbmeamnfpaaGreatDoorZe20
import Derived.Test.YtmjpjbmeamnfpaaGreatDoorZe11
import Derived.Test.YtmjpjbmeamnfpaaGreatDoorProg
import Derived.Shelf.Spec.SlicesGrow
import Derived.Test.YtmjpjbmeamnfpaaGreatDoorZe4
import Derived.Test.YtmjpjbmeamnfpaaGreatDoorZe12
import Derived.Test.YtmjpjbmeamnfpaaGreatDoorZe10
import Derived.Test.YtmjpjbmeamnfpaaGreatDoorZe0
set_option linter.unusedVariables false
set_option linter.unusedSimpArgs false
set_option maxRecDepth 100000
namespace Go.Eng
def RH(l:List Tk)(i:Int):PR Int:=(DU l i).bind λ n j=>(AR l j [93]).bind λ _ k=>.ok n k
def JA(l:List Tk)(i:Int):PR (List Sp):=
 if A9 l i [46]then DQ true l.length l [] (i+1)
 else if(at' l i).kind≠3 then B8 l i 1 else DQ false l.length l [] i
theorem Z8(q:A1->A1)(l:List Tk)(i:Int):GJ q l i=(JA l i).bind λ xs j=>.ok (FZ q xs) j:=by
 unfold GJ JA
 split
 ·rfl
 ·split<;>rfl
theorem wO{l:List Tk}(ok:C6 l){i n k:Int}(h0:0<=i)(h1:i<len l)(h:RH l i= .ok n k):k=i+1+1/\k<len l/\0<=n/\n<=1000000:=by
 obtain⟨m,j,h2,h3⟩:=BA h
 obtain⟨rfl,h4,h5,_⟩:=R7 ok h0 h1 h2
 obtain⟨_,k',h6,h7⟩:=BA h3
 obtain⟨rfl,h8,_⟩:=DS ok (by omega) h4 h6
 cases h7
 exact⟨rfl,h8,sX ok h0 h1 h2,h5⟩
theorem iH{l:List Tk}(ok:C6 l){i:Int}{xs:List Sp}{j:Int}(h0:0<=i)(h1:i<len l)(h:JA l i= .ok xs j):i<=j/\j<len l:=
 fH (q:=id) ok h0 h1 (s:=FZ id xs) (by rw[Z8,h];rfl)
theorem wP{dot:Bool}{f:Nat}{l:List Tk}{xs:List Sp}{i:Int}(hc:A9 l i [91]=true\/(at' l i).kind=3/\(dot=false\/xs≠[]))(h20:len xs≠20)(hk:(at' l i).kind=1):
  DQ dot (f+1) l xs i=(RH l (i+1)).bind λ n k=>DQ dot f l (xs++[⟨true,[],n⟩]) k:=by
 rw[DQ,if_pos hc,if_neg h20,if_pos hk]
 unfold RH
 rw[PR.assoc]
 refine PR.congr λ n j=>?_
 rw[PR.assoc];rfl
theorem iI{l:List Tk}(ok:C6 l): ∀(f:Nat) {m i n j:Int},0<=i->i<len l->0<=m->m<32->H0 f l m i= .ok n j->i<=j/\j<len l/\0<=n/\n<32
 |0,m,i,n,j,_,_,_,_,h=>(CO h).elim
 |f+1,m,i,n,j,h0,h1,hm0,hm1,h=>by
  unfold H0 at h
  split at h
  ·rename_i hb
   obtain⟨n1,j1,h2,h3⟩:=BA h
   have:=DW ok h0 h1 hb
   unfold GL at h2
   split at h2
   ·rename_i q
    have q5:GK.idxOf (at' l (i+1)).s<5:=List.idxOf_lt_length_of_mem q.2.1
    have:=Go.Proofs.YtmjpjbmeamnfpaaGreatDoor.UR (n:=n1) (j:=j1) ok (by omega) this hm0 hm1 (by unfold GL;rw[if_pos q];exact h2)
    obtain⟨r1,r2,r3,r4⟩:=this
    have:=iI ok f (by omega) r2 r3 r4 h3
    exact⟨by omega,this.2⟩
   ·exact(CO h2).elim
  ·cases h;exact⟨by omega,h1,hm0,hm1⟩
theorem P9{l:List Tk}(ok:C6 l){i:Int}{x:Tf}{j:Int}(h0:0<=i)(h1:i<len l)(h:HM l i= .ok x j):j=i+2/\j<len l/\x.flat=[x.t]/\x.t.op=9/\x.t.name=[]:=by
 unfold HM at h
 split at h
 ·rename_i q
  obtain⟨c,k,h2,h3⟩:=BA h
  cases h3
  obtain⟨rfl,h4⟩:=fI ok (by omega) (EZ ok h0 h1 q.1 (by decide)) h2
  exact⟨by omega,h4,rfl,rfl,rfl⟩
 ·exact(CO h).elim
def RI(xs:List Tf):Prop:=AL xs=xs.map Tf.t
theorem RI.snoc {xs:List Tf}{x:Tf}(h:RI xs)(hx:x.flat=[x.t]):RI (xs++[x]):=by
 unfold RI at*
 rw[HR,h,List.map_append]
 show _++(x.flat++[])=_
 rw[hx];rfl
end Go.Eng
namespace Go.Proofs.YtmjpjbmeamnfpaaGreatDoor
open Go.Eng
theorem MZ{w0 wv:World}{M0 M:Mem}{Rs:List HO}{b:Nat}{v:Value}{l:List Tk}{i d:Int}(m:A1)(h:G4 w0 wv M0 M Rs b v l i d)(hd:0<=d/\d<=64):
 Calls Tryz.prog 95 [.pointer (some ⟨b,0,none⟩),str m].toArray wv (OW w0 M0 M Rs b v (C9 l d i m) (d+1)):=by have:=h.ok.few;exact sJ m h.st h.sl h.h0 h.h1 (by omega) hd
theorem N1{w0 wv:World}{M0 M:Mem}{Rs:List HO}{b:Nat}{v:Value}{l:List Tk}{i d d2:Int}(m:A1)(h:G4 w0 wv M0 M Rs b v l i d)(hd:0<=d/\d<=65)(hd2:d-1=d2):
 Calls Tryz.prog 96 [.pointer (some ⟨b,0,none⟩),str m].toArray wv (OW w0 M0 M Rs b v (AR l i m) d2):=by have:=h.ok.few;subst hd2;exact sK m h.st h.sl h.h0 h.h1 (by omega) hd
theorem wQ{w0 wv:World}{M0 M:Mem}{Rs:List HO}{b:Nat}{v:Value}{l:List Tk}{i d:Int}(h:G4 w0 wv M0 M Rs b v l i d):
    Calls Tryz.prog 223 [.pointer (some ⟨b,0,none⟩)].toArray wv (RG w0 M0 M Rs b v d (RH l i) λ n=>i64 n):=by
 obtain⟨hS,hl,hg,ok,h0,h1⟩:=h
 have hfew:=ok.few
 have hnum:=ok.num _ (at_mem h0 h1)
 have hcs:=A8 (at' l i).c.s
 refine B3 (Hr:=Rs) AX Tryz.func223 U Tryz.ntmps223 [(0,kn v 9 l Tk.cells)] [(0,AS b v i d)] [.bx 0 b 0] U hS (fc 0 hl (λ _=>rfl) AA) (λ B hB=>?_) U
 refine CF [0] (DA (at' l i)) U (A0 U) (by omega) Tryz.call41 U U (A0 U) U (λ _ w M hS hF=>DR hS (hF.get (k:=0) U).sl h0 h1) U ?_
 refine CL 1 U (A0 U) (by omega) Tryz.zeroValue46 U λ b1=>?_
 refine CF [0] (DA (at' l i)) U (A0 U) (by omega) Tryz.call41 U U (A0 U) U (λ _ w M hS hF=>DR hS (hF.get (k:=0) U).sl h0 h1) U ?_
 unfold RH at hB
 refine AB U (A0 U) (by simp only[zb]<;>omega) (λ hb1=>?_) (λ hb1=>?_)<;>simp only[zb]at hb1
 ·have e:DU l i= .er 1 (at' l i).pos:=by
   unfold DU B8
   rw[if_pos (by simpa only[or_assoc]using hb1)]
  rw[e]at hB
  refine CF [0] (DA (at' l i)) U (A0 U) (by omega) Tryz.call41 U U (A0 U) U (λ _ w M hS hF=>DR hS (hF.get (k:=0) U).sl h0 h1) U ?_
  exact F7 [0] U (A0 U) (by omega) U Tryz.call42 U (A0 U) U (λ w M hS hF=>HP (at' l i) 1 hS) λ a w M hs hS hle=>E5 _ (hB.p ⟨M,rfl,hS.drop _ (List.sublist_cons_self _ _),hle⟩ a hs)
 ·have hk: ¬((at' l i).kind≠5\/(at' l i).c.neg=true\/(at' l i).c.e<0\/7<len (at' l i).c.s+(at' l i).c.e):=by
   rintro(q|q|q|q)
   · exact q hb1.1.1.1
   · rw[q]at hb1;cases hb1.1.1.2
   · omega
   · omega
  have h5:(at' l i).kind=5:=Decidable.byContradiction λ q=>hk (.inl q)
  have he: ¬(at' l i).c.e<0:=λ q=>hk (.inr (.inr (.inl q)))
  have hs7: ¬7<len (at' l i).c.s+(at' l i).c.e:=λ q=>hk (.inr (.inr (.inr q)))
  have hj2:=EZ ok h0 h1 h5 (by decide)
  obtain⟨ha,ha0,ha1⟩:=tA ok h0 h1 h5 (by omega) (by omega)
  have hrl:len (List.replicate (at' l i).c.e.toNat (48:UInt8))=(at' l i).c.e:=by unfold len;rw[List.length_replicate];omega
  refine LC U (A0 U) (by omega) EV (by decide+kernel) ?_
  refine LF U (A0 U) (by simp only[zb,AK,len_nil]<;>omega) Tryz.call169 U U (A0 U) (λ _ w M hX=>oO 48 (at' l i).c.e w (by omega) (by omega)) U ?_
  refine LF U (A0 U) (by simp only[zb,AK,len_nil,AG]<;>omega) Tryz.call120 U U (A0 U) (λ _ w M hX=>WC _ _ w (by simp only[AK,len_nil,AG];omega) ha) U ?_
  refine LD U (A0 U) (by simp only[zb]<;>omega) ?_
  refine AB U (A0 U) (by simp only[zb]<;>omega) (λ hb2=>?_) (λ hb2=>?_)<;>simp only[zb]at hb2
  ·have e:DU l i= .er 1 (at' l i).pos:=by
    unfold DU B8
    rw[if_neg hk,if_pos hb2]
   rw[e]at hB
   refine CF [0] (DA (at' l i)) U (A0 U) (by omega) Tryz.call41 U U (A0 U) U (λ _ w M hS hF=>DR hS (hF.get (k:=0) U).sl h0 h1) U ?_
   exact F7 [0] U (A0 U) (by omega) U Tryz.call42 U (A0 U) U (λ w M hS hF=>HP (at' l i) 1 hS) λ a w M hs hS hle=>E5 _ (hB.p ⟨M,rfl,hS.drop _ (List.sublist_cons_self _ _),hle⟩ a hs)
  ·have e:DU l i= .ok (GI (at' l i)) (i+1):=by
    unfold DU
    rw[if_neg hk,if_neg (by omega)]
   rw[e,PR.HS]at hB
   refine BO [0] [] (λ _ (_:Unit)=>.tu []) (λ _ j _=>[(0,AS b v j d)]) hB U (A0 U) (by simp only[zb]<;>omega) U Tryz.call97 U U (A0 U) U (List.sublist_cons_self _ _) (λ w M hS hF=>OX [93] hS (hF.get (k:=0) U).sl (by omega) hj2 (by omega)) (λ _ _=>rfl) (λ _ _ _=>rfl) λ _ k hk hB _ _=>?_
   exact AH hB U U (A0 U) (by simp only[zb]<;>omega) U (A0 U) λ w M' hX=>⟨(),M',rfl,trivial,hX.le,hX.st.drop _ ((List.sublist_cons_self _ _).cons_cons _),AA⟩
theorem wR{w0 wv:World}{M0 M:Mem}{Rs:List HO}{b:Nat}{v:Value}{l:List Tk}{i d:Int}(h:G4 w0 wv M0 M Rs b v l i d):
    Calls Tryz.prog 174 [.pointer (some ⟨b,0,none⟩)].toArray wv (LG w0 M0 M Rs 82 (JA l i) λ xs j=>CX w0 M0 M Rs (λ u:Value=>u) (λ _=>J5 xs) (λ u=>[(1,kn u 3 xs Sp.cells)]) λ _=>[EJ b v j d]):=by
 obtain⟨hS,hl,hg,ok,h0,h1⟩:=h
 have hfew:=ok.few
 refine B3 (Hr:=Rs) AX Tryz.func174 U Tryz.ntmps174 [(0,kn v 9 l Tk.cells)] [(0,AS b v i d)] [.bx 0 b 0] U hS (fc 0 hl (λ _=>rfl) AA) (λ B hB=>?_) U
 refine CF [0] (.v (.bool (A9 l i [46]))) U (A0 U) (by omega) Tryz.call63 U U (A0 U) U (λ _ w M hS hF=>I9 [46] hS (hF.get (k:=0) U).sl h0 h1) U ?_
 refine HH 0 (λ s=> ∃(dot:Bool) (i0:Int),i<=i0/\i0<len l/\JA l i=DQ dot l.length l [] i0/\s=⟨[(0,kn v 9 l Tk.cells)],[(0,AS b v i0 d)],[Z 0 (.bx 0 b 0),Z 3 (.v (.slice none 0 0)),Z 4 (.v (.bool dot))]⟩) U (A0 U) (by simp only[zb]<;>omega) U (λ hb1=>?_) (λ hb1=>?_) ?_
 ·exact BF _ U (A0 U) (by omega) U ⟨A9 l i [46],i+1,by omega,DW ok h0 h1 hb1,by unfold JA;rw[if_pos hb1,hb1],rfl⟩
 ·refine CF [0] (DA (at' l i)) U (A0 U) (by omega) Tryz.call41 U U (A0 U) U (λ _ w M hS hF=>DR hS (hF.get (k:=0) U).sl h0 h1) U ?_
  refine AB U (A0 U) (by omega) (λ hb2=>?_) (λ hb2=>?_)<;>simp only[zb]at hb2
  ·have e:JA l i= .er 1 (at' l i).pos:=by unfold JA B8;rw[if_neg (by rw[hb1];decide),if_pos hb2]
   rw[e]at hB
   refine CF [0] (DA (at' l i)) U (A0 U) (by omega) Tryz.call41 U U (A0 U) U (λ _ w M hS hF=>DR hS (hF.get (k:=0) U).sl h0 h1) U ?_
   exact F7 [0] U (A0 U) (by omega) U Tryz.call42 U (A0 U) U (λ w M hS hF=>HP (at' l i) 1 hS) λ a w M hs hS hle=>E5 _ (hB.p ⟨M,rfl,hS,hle⟩ a hs)
  ·exact BF _ U (A0 U) (by omega) U ⟨A9 l i [46],i,by omega,h1,by unfold JA;rw[if_neg (by rw[hb1];decide),if_neg (by omega),hb1],rfl⟩
 rintro s ⟨dot,i0,hi0,hi1,e0,rfl⟩
 rw[e0]at hB
 generalize hR:DQ dot l.length l [] i0=R at hB
 refine QF 1 3 68 3 Sp.cells Sp.BZ U ?_
 refine EA (σ:=Int×Value×List Sp×Nat) (λ(j,u,xs,f)=>⟨[(0,kn v 9 l Tk.cells),(1,kn u 3 xs Sp.cells)],[(0,AS b v j d),(1,.ho (RF u xs))],[Z 0 (.bx 0 b 0),Z 3 (.sl 1 u),Z 4 (.v (.bool dot))]⟩)
   (λ(j,u,xs,f)=>0<=j/\j<len l/\J5 xs/\len l<=j+f/\DQ dot f l xs j=R) (λ(j,u,xs,f)=>(len l-j).toNat) (i0,.slice none 0 0,[],l.length) U (A0 U) (by omega) U ⟨by omega,hi1,.nil,by unfold len at*;omega,hR⟩ ?_
 rintro⟨j,u,xs,f⟩ ⟨hj0,hj1,hxs,hf,hst⟩
 have hx0:=A8 xs
 have hx20:=hxs.1
 refine CF [0] (.v (.bool (A9 l j [91]))) U (A0 U) (by omega) Tryz.call63 U U (A0 U) U (λ _ w M hS hF=>I9 [91] hS (hF.get (k:=0) U).sl hj0 hj1) U ?_
 refine CF [0] (DA (at' l j)) U (A0 U) (by simp only[zb]<;>omega) Tryz.call41 U U (A0 U) U (λ _ w M hS hF=>DR hS (hF.get (k:=0) U).sl hj0 hj1) U ?_
 cases f with
 |zero=>exfalso;omega
 |succ f=>
 refine AB U (A0 U) (by simp only[zb]<;>omega) (λ hb1=>?_) (λ hb1=>?_)<;>simp only[zb]at hb1
 ·have hc:A9 l j [91]=true\/(at' l j).kind=3/\(dot=false\/xs≠[]):=hb1.imp id λ⟨q1,q2⟩=>⟨q1,q2.imp id λ q3 q4=>by rw[q4]at q3;cases q3⟩
  have hj2:j+1<len l:=hc.elim (DW ok hj0 hj1) λ q=>EZ ok hj0 hj1 q.1 (by decide)
  refine AB U (A0 U) (by omega) (λ hb2=>?_) (λ hb2=>?_)<;>simp only[zb]at hb2
  ·unfold DQ at hst
   rw[if_pos hc,if_pos hb2]at hst
   rw[<-hst]at hB
   refine CF [0] (DA (at' l j)) U (A0 U) (by omega) Tryz.call41 U U (A0 U) U (λ _ w M hS hF=>DR hS (hF.get (k:=0) U).sl hj0 hj1) U ?_
   exact F7 [0] U (A0 U) (by omega) U Tryz.call42 U (A0 U) U (λ w M hS hF=>HP (at' l j) 1 hS) λ a w M hs hS hle=>E5 _ (hB.p ⟨M,rfl,hS.drop _ (List.sublist_cons_self _ _),hle⟩ a hs)
  refine CF [0] (DA (at' l j)) U (A0 U) (by omega) Tryz.call41 U U (A0 U) U (λ _ w M hS hF=>DR hS (hF.get (k:=0) U).sl hj0 hj1) U ?_
  refine CL 5 U (A0 U) (by omega) Tryz.zeroValue68 U λ b5=>?_
  have ej:j+1-1=j:=by omega
  refine LC U (A0 U) (by simp only[zb]<;>omega) EV (by decide+kernel) (LD U (A0 U) (by simp only[zb]<;>omega) ?_)
  refine AB U (A0 U) (by omega) (λ hb3=>?_) (λ hb3=>?_)<;>simp only[zb]at hb3<;>rw[ej]at hb3
  ·rw[wP hc hb2 hb3]at hst
   rw[<-hst]at hB
   refine BO [0] [] (λ n (_:Unit)=>I n) (λ _ k _=>[(0,AS b v k d)]) hB U (A0 U) (by omega) U Tryz.call223 U U (A0 U) U IB (λ w M hS hF=>wQ ⟨hS,(hF.get (k:=0) U).sl,hg,ok,by omega,hj2⟩) (λ _ _=>rfl) (λ _ _ _=>rfl) λ n k hw hB _ _=>?_
   obtain⟨rfl,hj3,hn0,hn6⟩:=wO ok (by omega) hj2 hw
   rw[hw,PR.HS]at hst
   refine EN 6 [(⟨true,[],n⟩:Sp)] Sp.cells 3 68 Sp.BZ U (A0 U) (by omega) U (A0 U) (λ w=>by kernel_rfl) U λ v6=>?_
   refine O9 32 U (A0 U) (by omega) U (A0 U) U Tryz.underlying70 Tryz.type68 U U Sp.cells_one (by simp only[AK,len_nil];omega) λ v'=>?_
   exact DO (j+1+1+1,v',xs++[⟨true,[],n⟩],f) U (A0 U) (by omega) U ⟨by omega,hj3,⟨by rw[AG];show len xs+1<=20;omega,λ s hs=>by
      rcases List.mem_append.1 hs with hs|hs
      · exact hxs.2 s hs
      · rw[List.mem_singleton]at hs;subst hs;exact⟨(by show len ([]:A1)<=1048576;decide),λ _=>⟨hn0,hn6⟩⟩⟩,by omega,hst⟩ (by show Int.toNat _<Int.toNat _;omega)
  ·unfold DQ at hst
   rw[if_pos hc,if_neg hb2,if_neg hb3]at hst
   refine EN 6 [(⟨false,(at' l j).s,0⟩:Sp)] Sp.cells 3 68 Sp.BZ U (A0 U) (by omega) U (A0 U) (λ w=>by kernel_rfl) U λ v6=>?_
   refine O9 32 U (A0 U) (by omega) U (A0 U) U Tryz.underlying70 Tryz.type68 U U Sp.cells_one (by simp only[AK,len_nil];omega) λ v'=>?_
   exact DO (j+1,v',xs++[⟨false,(at' l j).s,0⟩],f) U (A0 U) (by omega) U ⟨by omega,hj2,⟨by rw[AG];show len xs+1<=20;omega,λ s hs=>by
    rcases List.mem_append.1 hs with hs|hs
    · exact hxs.2 s hs
    · rw[List.mem_singleton]at hs;subst hs;exact⟨ok.bd _ (at_mem hj0 hj1),λ q=>by cases q⟩⟩,by omega,hst⟩ (by show Int.toNat _<Int.toNat _;omega)
 ·unfold DQ at hst
  rw[if_neg (λ q=>?_)]at hst
  ·rw[<-hst]at hB
   exact AH hB U U (A0 U) (by omega) U (A0 U) λ w M' hX=>⟨u,M',rfl,hxs,hX.le,hX.C5 [0] U,C0 (hX.f.get (k:=1) U) AA⟩
  ·rcases q with q|⟨q1,q2⟩
   · rw[q]at hb1;cases hb1.1
   · rcases hb1.2 with r|r
     · exact r q1
     · rcases q2 with q2|q2
       · rw[q2]at r;cases r.1
       · have:=JG q2;omega
abbrev RJ(u:Value)(x:Fl):HO:=.priv 48 11 u x.length (x.flatMap Tm.cells)
abbrev C2(u:Value)(x:Fl):HX:=.pv 48 (kn u 11 x Tm.cells) Tm.BZ
abbrev LS(w0:World)(M0 M:Mem)(Rs:List HO)(b:Nat)(v:Value)(d:Int)(r:PR Tf):Ending->World->Prop:=
 LG w0 M0 M Rs 82 r λ x j=>CX w0 M0 M Rs (λ h:AO=>h.v) (λ _=>True) (λ _=>[]) λ h=>[EJ b v j d,RJ h.v x.flat]
theorem Z9{w0 w:World}{M0 M:Mem}{Rs:List HO}{b:Nat}{v:Value}{j d:Int}{x:Fl}{e:Ending}(h:CX w0 M0 M Rs (λ u:Value=>u) (λ _=>True) (λ _=>[]) (λ u=>[EJ b v j d,RJ u x]) e w):
  CX w0 M0 M Rs (λ h:AO=>h.v) (λ _=>True) (λ _=>[]) (λ h=>[EJ b v j d,RJ h.v x]) e w:=by
 obtain⟨u,M',h1,h2,h3,h4,h5⟩:=h
 have ht:=h4.told (k:=1) U
 obtain⟨a,c,hv,_⟩:=(ht.sl (i:=1) rfl).val
 exact⟨⟨a,x.length,c⟩,M',by rw[h1,hv],trivial,h3,by rw[hv]at h4;exact h4,AA⟩
end Go.Proofs.YtmjpjbmeamnfpaaGreatDoor
set_option maxRecDepth 100000
namespace Go.Proofs.YtmjpjbmeamnfpaaGreatDoor
open Go.Eng
theorem wS{w0 wv:World}{M0 M:Mem}{Rs:List HO}{b:Nat}{v:Value}{l:List Tk}{i d:Int}(h:G4 w0 wv M0 M Rs b v l i d)(hd:0<=d/\d<=64):
    Calls Tryz.prog 94 [.pointer (some ⟨b,0,none⟩)].toArray wv (LS w0 M0 M Rs b v d (J4 l d i)):=by
 obtain⟨hS,hl,hg,ok,h0,h1⟩:=h
 have hfew:=ok.few
 refine B3 (Hr:=Rs) AX Tryz.func94 U Tryz.ntmps94 [(0,kn v 9 l Tk.cells)] [(0,AS b v i d)] [.bx 0 b 0] U hS (fc 0 hl (λ _=>rfl) AA) (λ B hB=>?_) U
 unfold J4 at hB
 refine BO [0] [] (λ n (_:Unit)=>I n) (λ _ j _=>[(0,AS b v j d)]) hB U (A0 U) (by omega) U Tryz.call136 U U (A0 U) U (List.Sublist.refl _) (λ w M hS hF=>iG 0 ⟨hS,(hF.get (k:=0) U).sl,hg,ok,h0,h1⟩ (by omega) (by omega)) (λ _ _=>rfl) (λ _ _ _=>rfl) λ m0 i0 hk hB _ _=>?_
 obtain⟨rfl,hi1,hm0,hm1⟩:=UR ok h0 h1 (by omega) (by omega) hk
 generalize hR:H0 l.length l m0 (i+1)=R at hB
 refine EA (σ:=Int×Int×Nat) (λ(j,m,f)=>⟨[(0,kn v 9 l Tk.cells)],[(0,AS b v j d)],[Z 0 (.bx 0 b 0),Z 3 (I m)]⟩)
   (λ(j,m,f)=>i<j/\j<len l/\0<=m/\m<32/\len l<=j+f/\H0 f l m j=R) (λ(j,m,f)=>(len l-j).toNat) (i+1,m0,l.length) U (A0 U) (by omega) U ⟨by omega,hi1,hm0,hm1,by unfold len at*;omega,hR⟩ ?_
 rintro⟨j,m,f⟩ ⟨hj0,hj1,hm0,hm1,hf,hst⟩
 cases f with
 |zero=>exfalso;omega
 |succ f=>
 unfold H0 at hst
 refine CF [0] (.v (.bool (A9 l j [124]))) U (A0 U) (by omega) Tryz.call63 U U (A0 U) U (λ _ w M hS hF=>I9 [124] hS (hF.get (k:=0) U).sl (by omega) hj1) U ?_
 refine AB U (A0 U) (by omega) (λ hb1=>?_) (λ hb1=>?_)
 ·have hj2:=DW ok (by omega) hj1 hb1
  rw[if_pos hb1]at hst
  rw[<-hst,PR.assoc]at hB
  refine BO [0] [] (λ n (_:Unit)=>I n) (λ _ j _=>[(0,AS b v j d)]) hB U (A0 U) (by simp only[zb]<;>omega) U Tryz.call136 U U (A0 U) U (List.Sublist.refl _) (λ w M hS hF=>iG m ⟨hS,(hF.get (k:=0) U).sl,hg,ok,by omega,hj2⟩ hm0 hm1) (λ _ _=>rfl) (λ _ _ _=>rfl) λ m2 i2 hk hB _ _=>?_
  rw[hk,PR.HS]at hst
  obtain⟨rfl,hi2,hn0,hn1⟩:=UR ok (by omega) hj2 hm0 hm1 hk
  exact DO (j+1+1,m2,f) U (A0 U) (by omega) U ⟨by omega,hi2,hn0,hn1,by omega,hst⟩ (by show Int.toNat _<Int.toNat _;omega)
 rw[if_neg (by rw[hb1];decide)]at hst
 rw[<-hst]at hB
 refine ML 1 [({ AN 1 with n:=m}:Tm)] Tm.cells 11 48 Tm.BZ U (A0 U) (by omega) U (A0 U) (λ w=>by kernel_rfl) U λ u=>?_
 refine CF [0] (.v (.bool (A9 l j [40]))) U (A0 U) (by omega) Tryz.call63 U U (A0 U) U (λ _ w M hS hF=>I9 [40] hS (hF.get (k:=0) U).sl (by omega) hj1) U ?_
 rw[PR.HS]at hB
 refine AB U (A0 U) (by omega) (λ hb2=>?_) (λ hb2=>?_)
 ·rw[if_neg (by simpa using hb2)]at hB
  exact AH hB U U (A0 U) (by omega) U (A0 U) λ w M' hX=>Z9 (d:=d) (x:=(KL m []).flat) ⟨u,M',rfl,trivial,hX.le,hX.C5 [0,1] U,AA⟩
 have hb3:A9 l j [40]=true:=by simpa using hb2
 rw[if_pos hb3]at hB
 refine BO [0] [] (λ _ (_:Unit)=>.tu []) (λ _ j _=>[(0,AS b v j (d+1))]) hB U (A0 U) (by omega) U Tryz.call95 U U (A0 U) U (List.sublist_cons_self _ _) (λ w M hS hF=>MZ [40] ⟨hS,(hF.get (k:=0) U).sl,hg,ok,by omega,hj1⟩ hd) (λ _ _=>rfl) (λ _ _ _=>rfl) λ _ k hk hB _ _=>?_
 obtain⟨rfl,hk1,hd2,_⟩:=E6 ok (by omega) hj1 hk
 refine BO [0] [] (λ x (_:Unit)=>.ag (HF x.t.cells)) (λ _ j _=>[(0,AS b v j (d+1))]) hB U (A0 U) (by omega) U Tryz.call137 U U (A0 U) U (List.sublist_cons_self _ _) (λ w M hS hF=>iC ⟨hS,(hF.get (k:=0) U).sl,hg,ok,by omega,hk1⟩) (λ _ _=>rfl) (λ _ _ _=>rfl) λ x n hx hB _ _=>?_
 obtain⟨rfl,hn1,hxf,_,_⟩:=P9 ok (by omega) hk1 hx
 refine EN 2 [x.t] Tm.cells 11 48 Tm.BZ U (A0 U) (by omega) U (A0 U) (λ w=>by kernel_rfl) U λ v2=>?_
 refine KB 120 U (A0 U) (by omega) U (A0 U) U Tryz.underlying36 Tryz.type48 U U Tm.cells_one (by simp only[AK,len_nil];omega) λ u1=>?_
 generalize hR2:I8 l.length l [x] (j+1+2)=R2 at hB
 refine EA (σ:=Int×Value×Fl×List Tf×Nat) (λ(k,u,y,xs,f)=>⟨[(0,kn v 9 l Tk.cells)],[(0,AS b v k (d+1)),(1,C2 u y)],[Z 0 (.bx 0 b 0),Z 4 (.sl 1 u)]⟩)
   (λ(k,u,y,xs,f)=>j<k/\k<len l/\RI xs/\y=({ AN 1 with n:=m}:Tm)::xs.map Tf.t/\len l<=k+f/\len xs<=k/\I8 f l xs k=R2) (λ(k,u,y,xs,f)=>(len l-k).toNat) (j+1+2,u1,_,[x],l.length) U (A0 U) (by omega) U ⟨by omega,hn1,by show x.flat++[]=_;rw[hxf];rfl,rfl,by unfold len at*;omega,by show(1:Int)<=_;omega,hR2⟩ ?_
 rintro⟨k,u2,y,xs,f⟩ ⟨hk0,hk1,hxs,hy,hf,hxl,hst⟩
 have hx0:=A8 xs
 have hml:len y=1+len xs:=by rw[hy,AK];unfold len;rw[List.length_map];omega
 cases f with
 |zero=>exfalso;omega
 |succ f=>
 unfold I8 at hst
 refine CF [0] (.v (.bool (A9 l k [44]))) U (A0 U) (by omega) Tryz.call63 U U (A0 U) U (λ _ w M hS hF=>I9 [44] hS (hF.get (k:=0) U).sl (by omega) hk1) U ?_
 refine AB U (A0 U) (by omega) (λ hb4=>?_) (λ hb4=>?_)
 ·have hk2:=DW ok (by omega) hk1 hb4
  rw[if_pos hb4]at hst
  rw[<-hst,PR.assoc]at hB
  refine BO [0] [] (λ x (_:Unit)=>.ag (HF x.t.cells)) (λ _ j _=>[(0,AS b v j (d+1))]) hB U (A0 U) (by simp only[zb]<;>omega) U Tryz.call137 U U (A0 U) U (List.sublist_cons_self _ _) (λ w M hS hF=>iC ⟨hS,(hF.get (k:=0) U).sl,hg,ok,by omega,hk2⟩) (λ _ _=>rfl) (λ _ _ _=>rfl) λ z n hz hB _ _=>?_
  rw[hz,PR.HS]at hst
  obtain⟨rfl,hn2,hzf,_,_⟩:=P9 ok (by omega) hk2 hz
  refine EN 2 [z.t] Tm.cells 11 48 Tm.BZ U (A0 U) (by omega) U (A0 U) (λ w=>by kernel_rfl) U λ v2=>?_
  refine KB 120 U (A0 U) (by omega) U (A0 U) U Tryz.underlying36 Tryz.type48 U U Tm.cells_one (by simp only[AK,len_nil];omega) λ u3=>?_
  exact DO (k+1+2,u3,y++[z.t],xs++[z],f) U (A0 U) (by omega) U ⟨by omega,hn2,hxs.snoc hzf,by rw[hy,List.map_append];rfl,by omega,by rw[AG];show len xs+1<=_;omega,hst⟩ (by show Int.toNat _<Int.toNat _;omega)
 rw[if_neg (by rw[hb4];decide)]at hst
 rw[<-hst]at hB
 rw[PR.HS]at hB
 refine BO [0] [] (λ _ (_:Unit)=>.tu []) (λ _ j _=>[(0,AS b v j d)]) hB U (A0 U) (by omega) U Tryz.call96 U U (A0 U) U (List.sublist_cons_self _ _) (λ w M hS hF=>N1 [41] ⟨hS,(hF.get (k:=0) U).sl,hg,ok,by omega,hk1⟩ (by omega) (by omega)) (λ _ _=>rfl) (λ _ _ _=>rfl) λ _ n hn hB _ _=>?_
 refine OA { at' y 0 with many:=len y-1} rfl (A0 U) (by simp only[zb]<;>omega) U (A0 U) U Tryz.sizeOf3 U U U (by omega) λ y' hy'=>?_
 have e:y'=(KL m xs).flat:=by
  rw[hy',hml,hy]
  unfold KL
  rw[Tf.IA]
  show({ AN 1 with n:=m,many:=1+len xs-1}:Tm)::xs.map Tf.t=_
  rw[<-(show AL xs=xs.map Tf.t from hxs),show 1+len xs-1=len xs by omega];rfl
 subst e
 exact AH hB U U (A0 U) (by omega) U (A0 U) λ w M' hX=>Z9 (d:=d) (x:=(KL m xs).flat) ⟨u2,M',rfl,trivial,hX.le,hX.C5 [0,1] U,AA⟩
end Go.Proofs.YtmjpjbmeamnfpaaGreatDoor
namespace Go.Proofs.YtmjpjbmeamnfpaaGreatDoor
open Go.Eng Go.RowKit
set_option maxHeartbeats 1000000 in
set_option maxRecDepth 100000 in
theorem wT(w:World):Calls Tryz.prog 227 #[.slice none 0 0,.int .i64 0] w λ e w'=>e= .returned (.slice none 0 0)/\w'=w:=by
 have mixed:Tryz.prog.follows .mixedOrders=true:=by kernel_rfl
 go_enter Tryz.func227,Tryz.ntmps227
 go_wp2
 all_goals (go_ret;exact⟨rfl,rfl⟩)
set_option maxHeartbeats 4000000 in
set_option maxRecDepth 100000 in
theorem wU(n:Nat)(w:World)(h0:0<n)(hbig:n*120<=140737488355328):Calls Tryz.prog 227 #[.slice none 0 0,.int .i64 n] w λ e w'=>
  ∃cap cur,e= .returned (.slice (some ⟨w.heap.size,0,none⟩) 0 cap)/\cap<=maxLen/\cur.size=cap*11/\w'=w.drew.alloc (.cells cur 48):=by
 obtain⟨i0,hi0,hz0,hs11,hb120⟩: ∃i,Tryz.prog.info? 48=some i/\i.zero.isSome=true/\i.size=11/\i.bytes=120:=by
  obtain⟨i,hi,he⟩:=Option.map_eq_some_iff.1 (show(Tryz.prog.info? 48).map (λ i=>(i.zero.isSome,i.size,i.bytes))=some (true,11,120) by kernel_rfl)
  exact⟨i,hi,by simpa using congrArg (·.1) he,by simpa using congrArg (·.2.1) he,by simpa using congrArg (·.2.2) he⟩
 obtain⟨z,hz⟩:=Option.isSome_iff_exists.1 hz0
 have hzc:z.cells.size=11:=by
  have:=show(Tryz.prog.info? 48).bind (λ i=>i.zero.map (λ z=>z.cells.size))=some 11 by kernel_rfl
  rw[hi0]at this;simp only[Option.bind_some,hz,Option.map_some,Option.some.injEq]at this;exact this
 have mixed:Tryz.prog.follows .mixedOrders=true:=by kernel_rfl
 have us:=λ w=>run_underlying (P:=Tryz.prog) (w:=w) Tryz.underlying36
 have ui:=λ w=>run_underlying (P:=Tryz.prog) (w:=w) Tryz.underlying3
 have h1: ¬((n:Int)<0):=by omega
 have h3:wrap64 ((n:Int)-0)=(n:Int):=by unfold wrap64;omega
 have h4:(n:Int)>0:=by omega
 have hold:(Builtin.firstCells i0.size 0 (.slice none 0 0)).run Tryz.prog w.drew= .ok #[] w.drew:=run_firstCells_none w.drew i0.size 0 0 0
 have hrz: ∀ty,(Builtin.append_ #[36,3] ty #[.slice none 0 0,.int .i64 (n:Int)]).run Tryz.prog w=
   .ok (.slice (some ⟨w.heap.size,0,none⟩) n (grownCap w n 0 48)) (w.drew.alloc (.cells (#[]++Builtin.zeroCells z.cells n++Builtin.zeroCells z.cells (grownCap w n 0 48-n)) 48)):=λ ty=>by
  have h:=Lib.run_append_grow_zeros w 36 3 ty 48 i0 z .i64 .i64 Tryz.underlying36 Tryz.underlying3 hi0 hz none 0 0 [] hold n (by omega) (by omega) (by omega) (by omega)
   (by rw[hb120];omega) (by rw[Nat.zero_add];exact growslice_fits h0 (by rw[hb120];omega))
  rw[Nat.zero_add]at h
  exact h
 have hGn:n<=grownCap w n 0 48:=grownCap_ge w _ _ _
 have hGm:grownCap w n 0 48<=maxLen:=grownCap_le_maxLen w n 0 48 (by unfold maxLen;omega)
 obtain⟨G,hG⟩: ∃G,G=grownCap w n 0 48:=⟨_,rfl⟩
 rw[<-hG]at hrz hGn hGm
 have hG63:G<=9223372036854775807:=by unfold maxLen at hGm;omega
 have hzs: ∀k,(Builtin.zeroCells z.cells k).size=k*11:=λ k=>by simp[Builtin.zeroCells,hzc]
 have hsz:(#[]++Builtin.zeroCells z.cells n++Builtin.zeroCells z.cells (G-n)).size=G*11:=by rw[Array.size_append,Array.size_append,hzs,hzs];simp;omega
 generalize (#[]++Builtin.zeroCells z.cells n++Builtin.zeroCells z.cells (G-n))=cur at hrz hsz
 clear hold hG hi0
 go_enter Tryz.func227,Tryz.ntmps227
 go_wp2_with (at_builtin;refine Lib.wpList_append_run _ U _ _ _ _ U _ _ U U _ _ (hrz _) ?_)
 all_goals (go_ret;exact⟨G,rfl,hGm,_,hsz,rfl⟩)
theorem wV{w wv:World}{M0 M:Mem}{Hs:List HO}(n:Int)(hS:St w M0 wv M Hs)(h0:0<=n)(hb:n<=1099511627776):
  Calls Tryz.prog 227 [.slice none 0 0,i64 n].toArray wv λ e w'=> ∃u,e= .returned u/\St w M0 w' M (.priv 48 11 u 0 []::Hs):=by
 by_cases hn:n=0
 ·subst hn
  exact(wT wv).mono λ e w' ⟨he,hw⟩=>⟨_,he,hw▸hS.cK _ _⟩
 ·have hg:=wU n.toNat wv (by omega) (by omega)
  rw[show((n.toNat:Nat):Int)=n from by omega]at hg
  refine hg.mono λ e w' ⟨cap,cur,he,hc,hs,hw⟩=>⟨_,he,?_⟩
  subst hw
  exact(hS.ext (Ext.drew wv)).sN _ 11 cap cur hs hc
end Go.Proofs.YtmjpjbmeamnfpaaGreatDoor
namespace Go.Eng
open Go.RowKit
structure SV where
 key:A1
 val:Value
 born:Nat
def SV.C8 (p:SV):MapEntry:= { key:=str p.key,val:=p.val,born:=p.born}
def CP(l:List SV)(clock:Nat):Obj:=.map ⟨l.map SV.C8⟩ clock
def G5:List SV->A1->Option Value
 |[],_=>none
 |p::l,x=>if x==p.key then some p.val else G5 l x
def JB:List SV->A1->Value->Option (List SV)
 |[],_,_=>none
 |p::l,x,v=>if x==p.key then some (⟨x,v,p.born⟩::l)else(JB l x v).map (p:: ·)
def sset(l:List SV)(c:Nat)(x:A1)(v:Value):List SV:=match JB l x v with|some l'=>l'|none=>l++[⟨x,v,c⟩]
def N2(l:List SV)(c:Nat)(x:A1)(v:Value):Nat:=match JB l x v with|some _=>c|none=>c+1
def IF:List SV->A1->Nat->Option (Nat×Value)
 |[],_,_=>none
 |p::l,x,i=>if x==p.key then some (i,p.val)else IF l x (i+1)
theorem iJ(x y:A1):((⟨⟨x⟩⟩:ByteArray)==⟨⟨y⟩⟩)=(x==y):=by
 show((⟨x⟩:Array UInt8)==⟨y⟩)=(x==y)
 simp
theorem iK(x:A1): ∀(l:List SV) (i:Nat),Instr.findNow .string (str x) (l.map SV.C8) i=some (IF l x i)
 |[],_=>rfl
 |p::l,i=>by
  simp only[List.map_cons,Instr.findNow,SV.C8,Instr.sameNow,IF,iJ]
  by_cases h:(x==p.key)=true
  ·rw[h];rfl
  ·rw[Bool.not_eq_true]at h;rw[h];exact iK x l (i+1)
theorem iL(x:A1): ∀(l:List SV) (i:Nat),(IF l x i).map (·.2)=G5 l x
 |[],_=>rfl
 |p::l,i=>by
  simp only[IF,G5];split
  ·rfl
  ·exact iL x l (i+1)
theorem iM(x:A1)(v:Value): ∀(l:List SV) (i:Nat),(IF l x i=none/\JB l x v=none)\/ ∃j u p l',IF l x i=some (i+j,u)/\l[j]? =some p/\x=p.key/\JB l x v=some l'/\l'=l.modify j (λ p=>⟨x,v,p.born⟩)
 |[],_=>.inl ⟨rfl,rfl⟩
 |p::l,i=>by
  by_cases h:(x==p.key)=true
  ·refine .inr ⟨0,p.val,p,⟨x,v,p.born⟩::l,?_,rfl,by simpa using h,?_,by simp⟩
   ·simp only[IF,h,if_true];rfl
   ·simp only[JB,h,if_true]
  ·rcases iM x v l (i+1)with⟨h1,h2⟩|⟨j,u,q,l',h1,h2,h3,h4,h5⟩
   ·refine .inl ⟨?_,?_⟩
    ·simp only[IF,h];exact h1
    ·simp only[JB,h,h2];rfl
   ·refine .inr ⟨j+1,u,q,p::l',?_,by simpa using h2,h3,?_,?_⟩
    ·simp only[IF,h];rw[show i+(j+1)=i+1+j from by omega];exact h1
    ·simp only[JB,h,h4];rfl
    ·subst h5;simp
theorem iN{P:Program}{t:TypeId}(h:P.underlying t=some .string)(b:Bool)(x:A1)(w:World):(Instr.checkKey b 10000 t (str x)).run P w= .ok () w:=by
 show(Instr.checkKey b (9999+1) t (str x)).run P w= .ok () w
 unfold Instr.checkKey
 rw[Sem.run_bind,run_underlying h];rfl
theorem iO{P:Program}{t:TypeId}(h:P.underlying t=some .string)(x:A1)(l:List SV)(w:World):(Instr.findKey t (str x) (l.map SV.C8)).run P w= .ok (IF l x 0) w:=by
 simp only[Instr.findKey,Sem.run_bind,run_underlying h,Result.andThen_ok,iK];rfl
theorem iP{P:Program}{w:World}{b:Nat}{l:List SV}{c:Nat}(h:w.heap[b]? =some (CP l c)):(getObj b).run P w= .ok (CP l c) w:=by
 simp[getObj,Sem.run,h,CP]
theorem iQ{P:Program}{w:World}{b:Nat}{l:List SV}{c:Nat}(h:w.heap[b]? =some (CP l c))(o':Obj):(setObj b o').run P w= .ok () (EL w b o'):=by
 simp[setObj,Sem.run,h,EL,CP]
theorem iR{P:Program}{w:World}{b:Nat}{l:List SV}{c:Nat}{t kt e:TypeId}{z:Value}{x:A1}{ok:Bool}(ht:P.underlying t=some (.map kt e))(hk:P.underlying kt=some .string)(hz: ∀w,(zeroValue e).run P w= .ok z w)
  (h:w.heap[b]? =some (CP l c)):(Instr.lookup t (.map (some b)) (str x) ok).run P w= .ok (if ok then .tuple #[(G5 l x).getD z,.bool (G5 l x).isSome]else(G5 l x).getD z) w:=by
 simp only[Instr.lookup,Sem.run_bind,run_underlying ht,Result.andThen_ok,iP h,CP,Sem.run_pure,iN hk,iO hk]
 have hg:=iL x l 0
 cases hf:IF l x 0 with
 |none=>rw[hf]at hg;rw[<-hg];simp[Sem.run_bind,hz]
 |some q=>rw[hf]at hg;rw[<-hg];simp
theorem wW{P:Program}{w:World}(x:A1):(Instr.keyThatStays (str x) (str x)).run P w= .ok (str x) w:=by
 unfold Instr.keyThatStays
 rw[show Instr.sameBits 10000 (str x) (str x)=true from by simp[Instr.sameBits,iJ]];rfl
theorem wX{P:Program}{w:World}{b:Nat}{l:List SV}{c:Nat}{t kt e:TypeId}{x:A1}{v:Value}(ht:P.underlying t=some (.map kt e))(hk:P.underlying kt=some .string)
  (h:w.heap[b]? =some (CP l c)):(Instr.mapUpdate t (.map (some b)) (str x) v).run P w= .ok () (EL w b (CP (sset l c x v) (N2 l c x v))):=by
 simp only[Instr.mapUpdate,Sem.run_bind,run_underlying ht,Result.andThen_ok,iP h,CP,iN hk,iO hk]
 rcases iM x v l 0 with⟨h1,h2⟩|⟨j,u,p,l',h1,h2,h3,h4,h5⟩
 ·rw[h1]
  simp only[sset,N2,h2]
  rw[iQ h];simp[SV.C8]
 ·rw[h1]
  have e1:((l.map SV.C8).toArray[0+j]?)=some (SV.C8 p):=by simp[h2]
  have e2:(Array.mk (l.map SV.C8))[0+j]? =some (SV.C8 p):=e1
  simp only[Sem.run_bind,e2,Option.map_some,Option.getD_some]
  rw[show(SV.C8 p).key=str x from by rw[h3];rfl,wW]
  simp only[Result.andThen_ok,sset,N2,h4]
  rw[iQ h]
  congr 3
  subst h5
  rw[Nat.zero_add]
  apply Array.ext'
  rw[Array.toList_modify]
  exact W7 SV.C8 _ _ (λ x=>rfl) l j
section rl
variable {P:Program} {ops:Array Oper} {Q:Exit->Act->World->Prop} {N:Nat} {rest:List Oper} {L:Env} {w0 w:World} {M0 M:Mem} {Hs:List HO} {d:Nat} {ty:TypeId} {ps:String} {af:Array Edge}
theorem RL.wY {t:TypeId}(hS:St w0 M0 w M Hs)(hd:Nat.blt d N=true)
  (h: ∀w' b,St w0 M0 w' M (.raw b (CP [] 0)::Hs)->RL P ops Q N rest ((d,true,.map (some b))::L) w'):RL P ops Q N (⟨some d,.makeMap t none,ty,ps,af,none⟩::rest) L w:=by
 intro a hs
 refine wpList_plain U λ K hK=>?_
 have key:(execOp a.eval ⟨some d,.makeMap t none,ty,ps,af,none⟩).run P w= .ok (.value (.map (some w.heap.size))) (w.alloc (.map #[] 0)):=rfl
 simp only[Oper.wp,key,Oper.upon_value]
 exact hK _ _ (h _ _ (hS.MA (CP [] 0)) _ (hs.put hd true _))
theorem RL.wZ {t kt e:TypeId}{m x y:Operand}{i b c c':Nat}{l l':List SV}{n:A1}{v:Value}{Hs':List HO}(ins:Bool)(hS:St w0 M0 w M Hs)(hi:Hs[i]? =some (.raw b (CP l c)))(hm:A5 L true m (.map (some b)))(hx:A5 L true x (str n))(hy:A5 L true y v)
  (ht:P.underlying t=some (.map kt e)) (hk:P.underlying kt=some .string) (hl:sset l c n v=l') (hc:N2 l c n v=c') (hHs:Hs.set i (.raw b (CP l' c'))=Hs')
  (h: ∀w',St w0 M0 w' M Hs'->RL P ops Q N rest L w'):RL P ops Q N (⟨none,if ins then .insert t m x y else .mapUpdate t m x y,ty,ps,af,none⟩::rest) L w:=by
 intro a hs
 refine wpList_plain U λ K hK=>?_
 have hb:=(hS.obj hi).2.1
 have key:(execOp a.eval ⟨none,if ins then .insert t m x y else .mapUpdate t m x y,ty,ps,af,none⟩).run P w= .ok .skip (EL w b (CP l' c')):=by
  have:=wX (P:=P) (x:=n) (v:=v) ht hk hb
  cases ins<;>simp only[execOp,hm a N hs rfl,hx a N hs rfl,hy a N hs rfl,Bool.false_eq_true,if_true,if_false]<;>rw[Sem.run_bind,this,hl,hc]<;>rfl
 simp only[Oper.wp,key,Oper.upon_skip]
 exact hK _ _ (h _ (hHs▸hS.NM hi _) _ hs)
theorem RL.x6 {t kt e:TypeId}{x:Operand}{i b c:Nat}{l:List SV}(hS:St w0 M0 w M Hs)(hi:Hs[i]? =some (.raw b (CP l c)))(hx:A5 L true x (.map (some b)))(ht:P.underlying t=some (.map kt e))(hd:Nat.blt d N=true)
  (h: ∀w' r,St w0 M0 w' M (.raw r (.mapIter (some b) c #[] c)::Hs)->RL P ops Q N rest ((d,true,.pointer (some ⟨r,0,none⟩))::L) w'):RL P ops Q N (⟨some d,.range t x,ty,ps,af,none⟩::rest) L w:=by
 intro a hs
 refine wpList_plain U λ K hK=>?_
 have hb:=(hS.obj hi).2.1
 have key:(execOp a.eval ⟨some d,.range t x,ty,ps,af,none⟩).run P w= .ok (.value (.pointer (some ⟨w.heap.size,0,none⟩))) (w.alloc (.mapIter (some b) c #[] c)):=by
  simp only[execOp,hx a N hs U];rw[Sem.run_bind,run_range_map w t kt e b _ _ ht hb];rfl
 simp only[Oper.wp,key,Oper.upon_value]
 exact hK _ _ (h _ _ (hS.MA _) _ (hs.put hd true _))
theorem RL.x7 {x:Operand}{i j b r c since c0:Nat}{seen:Array Nat}{l:List SV}(hS:St w0 M0 w M Hs)(hi:Hs[i]? =some (.raw b (CP l c)))(hj:Hs[j]? =some (.raw r (.mapIter (some b) since seen c0)))(hx:A5 L true x (.pointer (some ⟨r,0,none⟩)))
  (hold: ∀p∈l,p.born<since) (hsc:since<=c0) (hd:Nat.blt d N=true)
  (h1: ∀p∈l,¬seen.contains p.born=true-> ∀w',St w0 M0 w' M (Hs.set j (.raw r (.mapIter (some b) since (seen.push p.born) c)))->RL P ops Q N rest ((d,true,.tuple #[.bool true,str p.key,p.val])::L) w')
  (h2:(∀p∈l,seen.contains p.born=true)->RL P ops Q N rest ((d,true,.tuple #[.bool false])::L) w):RL P ops Q N (⟨some d,.next x false,ty,ps,af,none⟩::rest) L w:=by
 intro a hs
 refine wpList_plain U λ K hK=>?_
 have hb:=(hS.obj hi).2.1
 have hr:=(hS.obj hj).2.1
 rcases run_next_at (P:=P) w ty r b since c0 seen ⟨l.map SV.C8⟩ c hr hb (by intro x hx;simp only[List.mem_map]at hx;obtain⟨p,hp,rfl⟩:=hx;exact hold p hp) hsc with⟨he,hrun⟩|⟨en,hen,w1,hw1,hrun⟩
 ·have key:(execOp a.eval ⟨some d,.next x false,ty,ps,af,none⟩).run P w= .ok (.value (.tuple #[.bool false])) w:=by
   simp only[execOp,hx a N hs U];rw[Sem.run_bind,hrun];rfl
  simp only[Oper.wp,key,Oper.upon_value]
  refine hK _ _ (h2 ?_ _ (hs.put hd true _))
  intro p hp
  by_cases hc:seen.contains p.born=true
  ·exact hc
  ·exfalso
   have:(leftOf ⟨l.map SV.C8⟩ seen).size=0:=he
   unfold leftOf at this
   rw[Array.size_eq_zero_iff,Array.filter_eq_empty_iff]at this
   have:=this (SV.C8 p) (by simp only[List.mem_toArray,Array.mem_def,List.mem_map];exact⟨p,hp,rfl⟩)
   apply this;show(!seen.contains p.born)=true
   simpa using hc
 ·unfold leftOf at hen
  simp only[Array.toList_filter,List.mem_filter,List.mem_map,Bool.not_eq_true']at hen
  obtain⟨⟨p,hp,rfl⟩,hns⟩:=hen
  have key:(execOp a.eval ⟨some d,.next x false,ty,ps,af,none⟩).run P w= .ok (.value (.tuple #[.bool true,str p.key,p.val])) (EL w1 r (.mapIter (some b) since (seen.push p.born) c)):=by
   simp only[execOp,hx a N hs U];rw[Sem.run_bind,hrun];rfl
  simp only[Oper.wp,key,Oper.upon_value]
  have hS1:St w0 M0 w1 M Hs:=by rcases hw1 with rfl|rfl;exact hS;exact hS.ext (Ext.drew _)
  exact hK _ _ (h1 p hp (by show ¬seen.contains p.born=true;have:seen.contains p.born=false:=hns;rw[this];simp) _ (hS1.NM hj _) _ (hs.put hd true _))
end rl
section pv
variable {P:Program} {C:World->Prop} {L:Env} {W:Bool} {d:Option Tmp} {ty:TypeId} {ps:String} {af:Array Edge} {gd:Option (Nat×Bool)} {w0 w:World} {M0 M:Mem} {Hs:List HO}
theorem PV.x8 {x:Operand}{i j b r c since:Nat}{seen:Array Nat}{l:List SV}{p:SV}(hS:St w0 M0 w M Hs)(hC: ∀w',C w'->Ext w w')(hi:Hs[i]? =some (.raw b (CP l c)))(hj:Hs[j]? =some (.raw r (.mapIter (some b) since (seen.push p.born) c)))(hx:A5 L W x (.pointer (some ⟨r,0,none⟩)))
  (hp:p∈l) (hn:(l.map (·.born)).Nodup):PV P C L W ⟨d,.entry x,ty,ps,af,gd⟩ (.tuple #[str p.key,p.val]):=by
 intro a N hs hW w' hw'
 have hS':=hS.ext (hC w' hw')
 have hb:=(hS'.obj hi).2.1
 have hr:=(hS'.obj hj).2.1
 have:=run_entry_at (P:=P) w' r b since seen ⟨l.map SV.C8⟩ c (SV.C8 p) hr hb (List.mem_map.2 ⟨p,hp,rfl⟩) (by simpa[List.map_map,Function.comp_def,SV.C8]using hn)
 simp only[execOp,hx a N hs hW];rw[Sem.run_bind,this];rfl
theorem PV.x9 {t kt e:TypeId}{x y:Operand}{i b c:Nat}{l:List SV}{n:A1}{z v:Value}(hS:St w0 M0 w M Hs)(hC: ∀w',C w'->Ext w w')(hi:Hs[i]? =some (.raw b (CP l c)))(hx:A5 L W x (.map (some b)))(hy:A5 L W y (str n))
  (ht:P.underlying t=some (.map kt e)) (hk:P.underlying kt=some .string) (hz: ∀w,(zeroValue e).run P w= .ok z w) (hv:(G5 l n).getD z=v):PV P C L W ⟨d,.lookup t x y false,ty,ps,af,gd⟩ v:=by
 intro a N hs hW w' hw'
 have hb:=((hS.ext (hC w' hw')).obj hi).2.1
 have:=iR (P:=P) (x:=n) (ok:=false) ht hk hz hb
 simp only[execOp,hx a N hs hW,hy a N hs hW];rw[Sem.run_bind,this,<-hv];rfl
theorem PV.xA {t kt e:TypeId}{x y:Operand}{i b c:Nat}{l:List SV}{n:A1}{z v:Value}{q:Bool}(hS:St w0 M0 w M Hs)(hC: ∀w',C w'->Ext w w')(hi:Hs[i]? =some (.raw b (CP l c)))(hx:A5 L W x (.map (some b)))(hy:A5 L W y (str n))
  (ht:P.underlying t=some (.map kt e)) (hk:P.underlying kt=some .string) (hz: ∀w,(zeroValue e).run P w= .ok z w) (hv:(G5 l n).getD z=v) (hq:(G5 l n).isSome=q):PV P C L W ⟨d,.lookup t x y true,ty,ps,af,gd⟩ (.tuple #[v,.bool q]):=by
 intro a N hs hW w' hw'
 have hb:=((hS.ext (hC w' hw')).obj hi).2.1
 have:=iR (P:=P) (x:=n) (ok:=true) ht hk hz hb
 simp only[execOp,hx a N hs hW,hy a N hs hW];rw[Sem.run_bind,this,<-hv,<-hq];rfl
end pv
end Go.Eng
namespace Go.Eng
open Go.RowKit
section
variable {c:Cx} {B:Exit->Act->World->Prop} {k k':List Fr} {m:Md} {s s':XS} {O:Prop} {E:List Ck} {all:Array Oper} {rest:List Oper} {d:Nat} {ty:TypeId} {ps:String} {af:Array Edge}
theorem iS(kk:Nat){t:TypeId}(h:run c.T c.N k m s=⟨k',.ops all (⟨some d,.makeMap t none,ty,ps,af,none⟩::rest),s',O,E⟩)(hE:A6 E)(hO:O)(hd:Nat.blt d c.N=true)
  (hn: ∀b,XG c B k' (.ops all rest) ⟨s'.F,(kk,.ho (.raw b (CP [] 0)))::s'.H,(d,.t,.v (.map (some b)))::s'.L⟩):XG c B k m s:=
 FL h hE hO λ w M hX=>RL.wY hX.st hd λ w' b hS=>FV (hn b) ⟨hS,hX.f,hX.le⟩ U
theorem RM(ins:Bool)(kk:Nat){t kt e:TypeId}{x y z:Operand}{b cl:Nat}{l:List SV}{n:A1}{u:XV}{E1 E2 E3:List Ck}(l':List SV)(c':Nat)(h:run c.T c.N k m s=⟨k',.ops all (⟨none,if ins then .insert t x y z else .mapUpdate t x y z,ty,ps,af,none⟩::rest),s',O,E⟩)(hE:A6 E)(hO:O)
  (hx:BI s'.L .t x=some (.v (.map (some b)),E1)) (hy:BI s'.L .t y=some (.v (str n),E2)) (hz:BI s'.L .t z=some (u,E3)) (hE1:A6 (E1++(E2++E3))) (hk:F5 s'.H kk=some (.ho (.raw b (CP l cl))))
  (ht:c.P.underlying t=some (.map kt e)) (hkt:c.P.underlying kt=some .string) (hl:sset l cl n u.d=l') (hc:N2 l cl n u.d=c')
  (hn:XG c B k' (.ops all rest) ⟨s'.F,DH s'.H kk (.ho (.raw b (CP l' c'))),s'.L⟩):XG c B k m s:=by
 refine FL h hE hO λ w M hX=>?_
 obtain⟨i,hi,hset'⟩:=GW (Hr:=c.Hr) hk
 exact RL.wZ ins hX.st hi (AT hx hE1.app.1) (AT hy hE1.app.2.app.1) (AT hz hE1.app.2.app.2) ht hkt hl hc (Hs':=HD (DH s'.H kk (.ho (.raw b (CP l' c'))))++c.Hr) (hset' (.ho (.raw b (CP l' c')))).symm λ w' hS=>FV hn ⟨hS,hX.f,hX.le⟩ U
theorem xB(kk:Nat){t kt e:TypeId}{x y:Operand}{gd:Option (Nat×Bool)}{W:Gd}{b cl:Nat}{l:List SV}{n:A1}{z v:Value}{E1:List Ck}(h:run c.T c.N k m s=⟨k',.ops all (⟨some d,.lookup t x y false,ty,ps,af,gd⟩::rest),s',O,E⟩)(hE:A6 E)(hO:O)(hg:(GY all s'.L gd,Nat.blt d c.N)=(some W,true))
  (hx:IS s'.L W x y=some (.v (.map (some b)),.v (str n),E1)) (hE1:A6 E1) (hk:F5 s'.H kk=some (.ho (.raw b (CP l cl))))
  (ht:c.P.underlying t=some (.map kt e)) (hkt:c.P.underlying kt=some .string) (hz: ∀w,(zeroValue e).run c.P w= .ok z w) (hv:(G5 l n).getD z=v)
  (hn:XG c B k' (.ops all rest) ⟨s'.F,s'.H,(d,W,.v v)::s'.L⟩):XG c B k m s:=
 DT (.v v) h hE hO hg (λ w M hX=>by
  obtain⟨i,hi,_⟩:=GW (Hr:=c.Hr) hk
  obtain⟨hx1,hx2⟩:=JP hx hE1
  exact .x9 hX.st BG hi hx1 hx2 ht hkt hz hv) hn
theorem PA(kk:Nat){t kt e:TypeId}{x y:Operand}{gd:Option (Nat×Bool)}{W:Gd}{b cl:Nat}{l:List SV}{n:A1}{z v:Value}{q:Bool}{E1:List Ck}(h:run c.T c.N k m s=⟨k',.ops all (⟨some d,.lookup t x y true,ty,ps,af,gd⟩::rest),s',O,E⟩)(hE:A6 E)(hO:O)(hg:(GY all s'.L gd,Nat.blt d c.N)=(some W,true))
  (hx:IS s'.L W x y=some (.v (.map (some b)),.v (str n),E1)) (hE1:A6 E1) (hk:F5 s'.H kk=some (.ho (.raw b (CP l cl))))
  (ht:c.P.underlying t=some (.map kt e)) (hkt:c.P.underlying kt=some .string) (hz: ∀w,(zeroValue e).run c.P w= .ok z w) (hv:(G5 l n).getD z=v) (hq:(G5 l n).isSome=q)
  (hn:XG c B k' (.ops all rest) ⟨s'.F,s'.H,(d,W,.tu [.v v,.v (.bool q)])::s'.L⟩):XG c B k m s:=
 DT (.tu [.v v,.v (.bool q)]) h hE hO hg (λ w M hX=>by
  obtain⟨i,hi,_⟩:=GW (Hr:=c.Hr) hk
  obtain⟨hx1,hx2⟩:=JP hx hE1
  exact .xA hX.st BG hi hx1 hx2 ht hkt hz hv hq) hn
end
end Go.Eng
namespace Go.Eng
def BC(l:List A1):List A1:=l.mergeSort (λ x y=>decide (x<=y))
theorem iT(a b:A1):(decide (a<=b)||decide (b<=a))=true:=by
 rcases Classical.em (a<=b)with h|h
 ·simp[h]
 ·simp[List.le_of_lt (List.not_le.1 h)]
theorem iU(a b c:A1)(h1:decide (a<=b)=true)(h2:decide (b<=c)=true):decide (a<=c)=true:=by
 simp only[decide_eq_true_eq]at*;exact List.le_trans h1 h2
theorem xC{ns:List A1}{n:A1}:n∈BC ns↔n∈ns:=(List.mergeSort_perm ns _).mem_iff
theorem xD(ns:List A1):len (BC ns)=len ns:=by unfold len BC;rw[List.length_mergeSort]
theorem iV{a b:List A1}(h:a.Perm b)(hr:a.Pairwise (· <= ·)):a=BC b:=by
 unfold BC
 refine List.Perm.eq_of_pairwise (le:=λ x y=>decide (x<=y)=true) (λ x y _ _ h1 h2=>?_) (hr.imp λ h=>by simpa using h) (List.pairwise_mergeSort iU iT _) (h.trans (List.mergeSort_perm _ _).symm)
 simp only[decide_eq_true_eq]at h1 h2
 exact List.le_antisymm h1 h2
theorem xE{a b:List A1}(h:a.Perm b):BC a=BC b:=by
 refine iV ((List.mergeSort_perm a _).trans h) ?_
 have:=List.pairwise_mergeSort (le:=λ x y:A1=>decide (x<=y)) iU iT a
 exact this.imp λ h=>by simpa using h
theorem ZA(x:Tf): ∀l:List Tf,(OV x l).Perm (x::l)
 |[]=>.refl _
 |y::l=>by
  unfold OV
  split
  ·exact .refl _
  ·exact((ZA x l).cons y).trans (.swap _ _ _)
theorem N3: ∀l:List Tf,(LN l).Perm l
 |[]=>.refl _
 |x::l=>(ZA x _).trans ((N3 l).cons x)
theorem iW(x:Tf): ∀ {l:List Tf},l.Pairwise (λ a b=>a.t.name<=b.t.name)->(OV x l).Pairwise (λ a b=>a.t.name<=b.t.name)
 |[],_=>List.pairwise_singleton _ _
 |y::l,h=>by
  unfold OV
  have hp:=List.pairwise_cons.1 h
  split
  ·rename_i hxy
   refine List.pairwise_cons.2 ⟨λ z hz=>?_,h⟩
   rcases List.mem_cons.1 hz with rfl|hz
   ·exact hxy
   ·exact List.le_trans hxy (hp.1 z hz)
  ·rename_i hxy
   refine List.pairwise_cons.2 ⟨λ z hz=>?_,iW x hp.2⟩
   rcases List.mem_cons.1 ((ZA x l).mem_iff.1 hz)with rfl|hz
   ·exact List.le_of_lt (List.not_le.1 hxy)
   ·exact hp.1 z hz
theorem iX: ∀l:List Tf,(LN l).Pairwise (λ a b=>a.t.name<=b.t.name)
 |[]=>.nil
 |x::l=>iW x (iX l)
theorem xF(l:List Tf):(LN l).map (λ x=>x.t.name)=BC (l.map λ x=>x.t.name):=
 iV ((N3 l).map _) (List.pairwise_map.2 (iX l))
def E7(ns:List A1)(n:A1):Int:=(ns.idxOf n:Nat)
theorem xG{ns:List A1}{n:A1}(h:n∈ns):0<=E7 ns n/\E7 ns n<len ns:=⟨Int.natCast_nonneg _,Int.ofNat_lt.2 (List.idxOf_lt_length_of_mem h)⟩
def DL(ns:List A1)(gs:List Tf):List Tf:=(ns.zip gs).map λ q=>q.2.named q.1
theorem Tf.iY (g:Tf)(n:A1):(g.named n).t.name=n:=by cases g;rfl
theorem ZB{ns:List A1}{gs:List Tf}(h:ns.length=gs.length)(n:A1)(g:Tf):DL (ns++[n]) (gs++[g])=DL ns gs++[g.named n]:=by
 unfold DL;rw[List.zip_append h];simp
theorem US{ns:List A1}{gs:List Tf}(h:ns.length=gs.length):(DL ns gs).map (λ x=>x.t.name)=ns:=by
 unfold DL
 rw[List.map_map]
 have:((λ x:Tf=>x.t.name) ∘ λ q:A1×Tf=>q.2.named q.1)=Prod.fst:=by funext q;exact Tf.iY _ _
 rw[this];exact List.map_fst_zip (by omega)
theorem xH{ns:List A1}{gs:List Tf}(h:ns.length=gs.length)(hn:ns.Nodup){y:Tf}(hy:y∈DL ns gs):y=(at' gs (E7 ns y.t.name)).named y.t.name:=by
 unfold DL at hy
 obtain⟨⟨n,g⟩,hq,rfl⟩:=List.mem_map.1 hy
 obtain⟨i,hi,he⟩:=List.getElem_of_mem hq
 rw[List.length_zip]at hi
 rw[List.getElem_zip]at he
 simp only[Prod.mk.injEq]at he
 obtain⟨rfl,rfl⟩:=he
 rw[Tf.iY]
 have e:E7 ns (ns[i]'(by omega))=(i:Int):=by
  unfold E7;congr 1
  exact List.Nodup.idxOf_getElem hn i (by omega)
 rw[e]
 congr 1
 unfold at'
 simp[List.getElem?_eq_getElem (show i<gs.length by omega)]
def D7:List A1->List AO->Nat->List SV
 |n::ns,h::hs,k=>⟨n,h.v,k⟩::D7 ns hs (k+1)
 |_,_,_=>[]
theorem ZC: ∀(ns:List A1) (hs:List AO) (k:Nat),ns.length=hs.length->(D7 ns hs k).map (·.key)=ns
 |[],_,_,_=>by simp[D7]
 |n::ns,[],_,h=>by simp at h
 |n::ns,x::hs,k,h=>by simp only[D7,List.map_cons,ZC ns hs (k+1) (by simpa using h)]
theorem iZ: ∀(ns:List A1) (hs:List AO) (k:Nat),ns.length=hs.length->(D7 ns hs k).map (·.born)=List.range' k ns.length
 |[],_,_,_=>by simp[D7]
 |n::ns,[],_,h=>by simp at h
 |n::ns,x::hs,k,h=>by simp only[D7,List.map_cons,iZ ns hs (k+1) (by simpa using h),List.length_cons,List.range'_succ]
theorem UT: ∀(ns:List A1) (hs:List AO) (k:Nat) (n:A1),ns.length=hs.length->G5 (D7 ns hs k) n=if n∈ns then some (at' hs (E7 ns n)).v else none
 |[],_,_,n,_=>by simp[D7,G5]
 |m::ns,[],_,_,h=>by simp at h
 |m::ns,x::hs,k,n,h=>by
  show(if n==m then some x.v else G5 (D7 ns hs (k+1)) n)=_
  rw[UT ns hs (k+1) n (by simpa using h)]
  by_cases e:n=m
  ·subst e
   rw[if_pos (by simp),if_pos (by simp)]
   unfold E7;rw[List.idxOf_cons_self];rfl
  ·rw[if_neg (by simpa using e)]
   by_cases h2:n∈ns
   ·rw[if_pos h2,if_pos (by simp[h2])]
    congr 2
    unfold E7
    rw[List.idxOf_cons,show(m==n)=false from by simpa using λ h=>e h.symm]
    unfold at'
    simp
   ·rw[if_neg h2,if_neg (by simp[e,h2])]
theorem xI{ns:List A1}{hs:List AO}{n:A1}{x:AO}(h:ns.length=hs.length)(hn:n ∉ ns):sset (D7 ns hs 0) ns.length n x.v=D7 (ns++[n]) (hs++[x]) 0/\N2 (D7 ns hs 0) ns.length n x.v=(ns++[n]).length:=by
 have put: ∀(ns:List A1) (hs:List AO) (k:Nat),ns.length=hs.length->n ∉ ns->JB (D7 ns hs k) n x.v=none:=by
  intro ns
  induction ns with
  |nil=>intro hs k _ _;simp[D7,JB]
  |cons m ns ih=>
   intro hs k hl hm
   cases hs with
   |nil=>simp at hl
   |cons y hs=>
    simp only[D7,JB]
    rw[if_neg (by intro e;apply hm;rw[eq_of_beq e];simp),ih hs (k+1) (by simpa using hl) (λ e=>hm (by simp[e]))];rfl
 have app: ∀(ns:List A1) (hs:List AO) (k:Nat),ns.length=hs.length->D7 ns hs k++[⟨n,x.v,k+ns.length⟩]=D7 (ns++[n]) (hs++[x]) k:=by
  intro ns
  induction ns with
  |nil=>intro hs k hl;cases hs with|nil=>rfl|cons y hs=>simp at hl
  |cons m ns ih=>
   intro hs k hl
   cases hs with
   |nil=>simp at hl
   |cons y hs=>
    simp only[D7,List.cons_append]
    rw[<-ih hs (k+1) (by simpa using hl),List.length_cons,show k+1+ns.length=k+(ns.length+1) by omega]
 have hp:=put ns hs 0 h hn
 constructor
 ·unfold sset;rw[hp];dsimp only
  have:=app ns hs 0 h
  rw[Nat.zero_add]at this;exact this
 ·unfold N2;rw[hp];simp
theorem xJ{ns:List A1}{hs:List AO}(h:ns.length=hs.length):(∀p∈D7 ns hs 0,p.born<ns.length)/\((D7 ns hs 0).map (·.born)).Nodup:=by
 have hb:=iZ ns hs 0 h
 constructor
 ·intro p hp
  have:p.born∈(D7 ns hs 0).map (·.born):=List.mem_map.2 ⟨p,hp,rfl⟩
  rw[hb,List.mem_range']at this
  obtain⟨i,hi,he⟩:=this;omega
 ·rw[hb];exact List.nodup_range'
theorem xK{ns:List A1}{hs:List AO}(h:ns.length=hs.length){vs:List SV}(hp:vs.Perm (D7 ns hs 0)):BC (vs.map (·.key))=BC ns:=by
 rw[xE (hp.map (·.key)),ZC ns hs 0 h]
end Go.Eng
