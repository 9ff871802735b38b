/- Lemmas for the card. -/
import Derived.Test.YtmjpjbmeamnfpaaGreatDoorZf13
set_option linter.unusedVariables false
set_option linter.unusedSimpArgs false
set_option maxRecDepth 100000
namespace Go.Eng
def TZ(l:List Tk)(i:Int):PR Int:=(EZ l i).bind λ n j=>(B6 l j [93]).bind λ _ k=>.ok n k
def LD(l:List Tk)(i:Int):PR (List Sp):=
 if AG l i [46]then EV true l.length l [] (i+1)
 else if(at' l i).kind≠3 then D0 l i 1 else EV false l.length l [] i
theorem cA(q:A1->A1)(l:List Tk)(i:Int):OF q l i=(LD l i).bind λ xs j=>.ok (FP q xs) j:=by
 unfold OF LD
 split
 ·rfl
 ·split<;>rfl
theorem AF8{l:List Tk}(ok:EO l){i n k:Int}(h0:0<=i)(h1:i<len l)(h:TZ l i= .ok n k):k=i+1+1/\k<len l/\0<=n/\n<=1000000:=by
 obtain⟨m,j,h2,h3⟩:=BM h
 obtain⟨rfl,h4,h5,_⟩:=aS ok h0 h1 h2
 obtain⟨_,k',h6,h7⟩:=BM h3
 obtain⟨rfl,h8,_⟩:=GB ok (by omega) h4 h6
 cases h7
 exact⟨rfl,h8,yK ok h0 h1 h2,h5⟩
theorem lY{l:List Tk}(ok:EO l){i:Int}{xs:List Sp}{j:Int}(h0:0<=i)(h1:i<len l)(h:LD l i= .ok xs j):i<=j/\j<len l:=
 yL (q:=id) ok h0 h1 (s:=FP id xs) (by rw[cA,h];rfl)
theorem AF9{dot:Bool}{f:Nat}{l:List Tk}{xs:List Sp}{i:Int}(hc:AG l i [91]=true\/(at' l i).kind=3/\(dot=false\/xs≠[]))(h20:len xs≠20)(hk:(at' l i).kind=1):
  EV dot (f+1) l xs i=(TZ l (i+1)).bind λ n k=>EV dot f l (xs++[⟨true,[],n⟩]) k:=by
 rw[EV,if_pos hc,if_neg h20,if_pos hk]
 unfold TZ
 rw[PR.assoc]
 refine PR.congr λ n j=>?_
 rw[PR.assoc];rfl
theorem lZ{l:List Tk}(ok:EO l): ∀(f:Nat) {m i n j:Int},0<=i->i<len l->0<=m->m<32->JD f l m i= .ok n j->i<=j/\j<len l/\0<=n/\n<32
 |0,m,i,n,j,_,_,_,_,h=>(DU h).elim
 |f+1,m,i,n,j,h0,h1,hm0,hm1,h=>by
  unfold JD at h
  split at h
  ·rename_i hb
   obtain⟨n1,j1,h2,h3⟩:=BM h
   have:=I2 ok h0 h1 hb
   unfold MI at h2
   split at h2
   ·rename_i q
    have q5:C0.idxOf (at' l (i+1)).s<5:=List.idxOf_lt_length_of_mem q.2.1
    have:=Go.Proofs.YtmjpjbmeamnfpaaGreatDoor.X1 (n:=n1) (j:=j1) ok (by omega) this hm0 hm1 (by unfold MI;rw[if_pos q];exact h2)
    obtain⟨r1,r2,r3,r4⟩:=this
    have:=lZ ok f (by omega) r2 r3 r4 h3
    exact⟨by omega,this.2⟩
   ·exact(DU h2).elim
  ·cases h;exact⟨by omega,h1,hm0,hm1⟩
theorem X3{l:List Tk}(ok:EO l){i:Int}{x:Tf}{j:Int}(h0:0<=i)(h1:i<len l)(h:L4 l i= .ok x j):j=i+2/\j<len l/\x.flat=[x.t]/\x.t.op=9/\x.t.name=[]:=by
 unfold L4 at h
 split at h
 ·rename_i q
  obtain⟨c,k,h2,h3⟩:=BM h
  cases h3
  obtain⟨rfl,h4⟩:=k0 ok (by omega) (IQ ok h0 h1 q.1 (by decide)) h2
  exact⟨by omega,h4,rfl,rfl,rfl⟩
 ·exact(DU h).elim
def MO(xs:List Tf):Prop:=AM xs=xs.map Tf.t
theorem MO.snoc {xs:List Tf}{x:Tf}(h:MO xs)(hx:x.flat=[x.t]):MO (xs++[x]):=by
 unfold MO at*
 rw[JG,h,List.map_append]
 show _++(x.flat++[])=_
 rw[hx];rfl
end Go.Eng
namespace Go.Proofs.YtmjpjbmeamnfpaaGreatDoor
open Go.Proofs.Tryz
open Go.Eng
theorem PT{w0 wv:World}{M0 M:Mem}{Rs:List HO}{b:Nat}{v:Value}{l:List Tk}{i d:Int}(m:A1)(h:HI w0 wv M0 M Rs b v l i d)(hd:0<=d/\d<=64):
 Calls prog 95 [.pointer (some ⟨b,0,none⟩),str m].toArray wv (RO w0 M0 M Rs b v (EA l d i m) (d+1)):=by have:=h.ok.few;exact xY m h.st h.sl h.h0 h.h1 (by omega) hd
theorem PU{w0 wv:World}{M0 M:Mem}{Rs:List HO}{b:Nat}{v:Value}{l:List Tk}{i d d2:Int}(m:A1)(h:HI w0 wv M0 M Rs b v l i d)(hd:0<=d/\d<=65)(hd2:d-1=d2):
 Calls prog 96 [.pointer (some ⟨b,0,none⟩),str m].toArray wv (RO w0 M0 M Rs b v (B6 l i m) d2):=by have:=h.ok.few;subst hd2;exact xZ m h.st h.sl h.h0 h.h1 (by omega) hd
theorem AG0{w0 wv:World}{M0 M:Mem}{Rs:List HO}{b:Nat}{v:Value}{l:List Tk}{i d:Int}(h:HI w0 wv M0 M Rs b v l i d):
    Calls prog 223 [.pointer (some ⟨b,0,none⟩)].toArray wv (TY w0 M0 M Rs b v d (TZ l i) λ n=>i64 n):=by
 obtain⟨hS,hl,hg,ok,h0,h1⟩:=h
 have hfew:=ok.few
 have hnum:=ok.num _ (at_mem h0 h1)
 have hcs:=A4 (at' l i).c.s
 refine AU (Hr:=Rs) AP func223 U ntmps223 [(0,kn v 9 l Tk.cells)] [(0,AV b v i d)] [.bx 0 b 0] U hS (fc 0 hl (λ _=>rfl) AA) (λ B hB=>?_) U
 refine CZ [0] (EB (at' l i)) U (A0 U) U call41 U U (A0 U) U (λ _ w M hS hF=>EN hS (hF.get (k:=0) U).sl h0 h1) U ?_
 refine CU 1 U (A0 U) U zeroValue46 U λ b1=>?_
 refine CZ [0] (EB (at' l i)) U (A0 U) U call41 U U (A0 U) U (λ _ w M hS hF=>EN hS (hF.get (k:=0) U).sl h0 h1) U ?_
 unfold TZ at hB
 refine A7 U (A0 U) (by simp only[zb]<;>omega) (λ hb1=>?_) (λ hb1=>?_)<;>simp only[zb]at hb1
 ·have e:EZ l i= .er 1 (at' l i).pos:=by
   unfold EZ D0
   rw[if_pos (by simpa only[or_assoc]using hb1)]
  rw[e]at hB
  refine CZ [0] (EB (at' l i)) U (A0 U) U call41 U U (A0 U) U (λ _ w M hS hF=>EN hS (hF.get (k:=0) U).sl h0 h1) U ?_
  exact GM [0] U (A0 U) U U call42 U (A0 U) U (λ w M hS hF=>JF (at' l i) 1 hS) λ a w M hs hS hle=>EW _ (hB.p ⟨M,rfl,hS.drop _ (List.sublist_cons_self _ _),hle⟩ a hs)
 ·have hk: ¬((at' l i).kind≠5\/(at' l i).c.neg=true\/(at' l i).c.e<0\/7<len (at' l i).c.s+(at' l i).c.e):=by
   rintro(q|q|q|q)
   · exact q hb1.1.1.1
   · rw[q]at hb1;cases hb1.1.1.2
   · omega
   · omega
  have h5:(at' l i).kind=5:=Decidable.byContradiction λ q=>hk (.inl q)
  have he: ¬(at' l i).c.e<0:=λ q=>hk (.inr (.inr (.inl q)))
  have hs7: ¬7<len (at' l i).c.s+(at' l i).c.e:=λ q=>hk (.inr (.inr (.inr q)))
  have hj2:=IQ ok h0 h1 h5 (by decide)
  obtain⟨ha,ha0,ha1⟩:=yO ok h0 h1 h5 (by omega) (by omega)
  have hrl:len (List.replicate (at' l i).c.e.toNat (48:UInt8))=(at' l i).c.e:=by unfold len;rw[List.length_replicate];omega
  refine J8 U (A0 U) U EM (by decide+kernel) ?_
  refine K7 U (A0 U) (by simp only[zb,A6,len_nil]<;>omega) call169 U U (A0 U) (λ _ w M hX=>u5 48 (at' l i).c.e w (by omega) (by omega)) U ?_
  refine K7 U (A0 U) (by simp only[zb,A6,len_nil,A5]<;>omega) call120 U U (A0 U) (λ _ w M hX=>Z2 _ _ w (by simp only[A6,len_nil,A5];omega) ha) U ?_
  refine JA U (A0 U) (by simp only[zb]<;>omega) ?_
  refine A7 U (A0 U) (by simp only[zb]<;>omega) (λ hb2=>?_) (λ hb2=>?_)<;>simp only[zb]at hb2
  ·have e:EZ l i= .er 1 (at' l i).pos:=by
    unfold EZ D0
    rw[if_neg hk,if_pos hb2]
   rw[e]at hB
   refine CZ [0] (EB (at' l i)) U (A0 U) U call41 U U (A0 U) U (λ _ w M hS hF=>EN hS (hF.get (k:=0) U).sl h0 h1) U ?_
   exact GM [0] U (A0 U) U U call42 U (A0 U) U (λ w M hS hF=>JF (at' l i) 1 hS) λ a w M hs hS hle=>EW _ (hB.p ⟨M,rfl,hS.drop _ (List.sublist_cons_self _ _),hle⟩ a hs)
  ·have e:EZ l i= .ok (IG (at' l i)) (i+1):=by
    unfold EZ
    rw[if_neg hk,if_neg (by omega)]
   rw[e,PR.JH]at hB
   refine C9 [0] [] (λ _ (_:Unit)=>.tu []) (λ _ j _=>[(0,AV b v j d)]) hB U (A0 U) (by simp only[zb]<;>omega) U call97 U U (A0 U) U (List.sublist_cons_self _ _) (λ w M hS hF=>RP [93] hS (hF.get (k:=0) U).sl (by omega) hj2 (by omega)) (λ _ _=>rfl) (λ _ _ _=>rfl) λ _ k hk hB _ _=>?_
   exact A9 hB U U (A0 U) (by simp only[zb]<;>omega) U (A0 U) λ w M' hX=>⟨(),M',rfl,trivial,hX.le,hX.st.drop _ ((List.sublist_cons_self _ _).cons_cons _),AA⟩
theorem AG1{w0 wv:World}{M0 M:Mem}{Rs:List HO}{b:Nat}{v:Value}{l:List Tk}{i d:Int}(h:HI w0 wv M0 M Rs b v l i d):
    Calls prog 174 [.pointer (some ⟨b,0,none⟩)].toArray wv (OM w0 M0 M Rs 82 (LD l i) λ xs j=>DT w0 M0 M Rs (λ u:Value=>u) (λ _=>L8 xs) (λ u=>[(1,kn u 3 xs Sp.cells)]) λ _=>[FF b v j d]):=by
 obtain⟨hS,hl,hg,ok,h0,h1⟩:=h
 have hfew:=ok.few
 refine AU (Hr:=Rs) AP func174 U ntmps174 [(0,kn v 9 l Tk.cells)] [(0,AV b v i d)] [.bx 0 b 0] U hS (fc 0 hl (λ _=>rfl) AA) (λ B hB=>?_) U
 refine CZ [0] (.v (.bool (AG l i [46]))) U (A0 U) U call63 U U (A0 U) U (λ _ w M hS hF=>KB [46] hS (hF.get (k:=0) U).sl h0 h1) U ?_
 refine ES 0 (λ s=> ∃(dot:Bool) (i0:Int),i<=i0/\i0<len l/\LD l i=EV dot l.length l [] i0/\s=⟨[(0,kn v 9 l Tk.cells)],[(0,AV b v i0 d)],[Z 0 (.bx 0 b 0),Z 3 (.v (.slice none 0 0)),Z 4 (.v (.bool dot))]⟩) U (A0 U) (by simp only[zb]<;>omega) U (λ hb1=>?_) (λ hb1=>?_) ?_
 ·exact B5 _ U (A0 U) (by omega) U ⟨AG l i [46],i+1,by omega,I2 ok h0 h1 hb1,by unfold LD;rw[if_pos hb1,hb1],rfl⟩
 ·refine CZ [0] (EB (at' l i)) U (A0 U) U call41 U U (A0 U) U (λ _ w M hS hF=>EN hS (hF.get (k:=0) U).sl h0 h1) U ?_
  refine A7 U (A0 U) U (λ hb2=>?_) (λ hb2=>?_)<;>simp only[zb]at hb2
  ·have e:LD l i= .er 1 (at' l i).pos:=by unfold LD D0;rw[if_neg (by rw[hb1];decide),if_pos hb2]
   rw[e]at hB
   refine CZ [0] (EB (at' l i)) U (A0 U) U call41 U U (A0 U) U (λ _ w M hS hF=>EN hS (hF.get (k:=0) U).sl h0 h1) U ?_
   exact GM [0] U (A0 U) U U call42 U (A0 U) U (λ w M hS hF=>JF (at' l i) 1 hS) λ a w M hs hS hle=>EW _ (hB.p ⟨M,rfl,hS,hle⟩ a hs)
  ·exact B5 _ U (A0 U) U U ⟨AG l i [46],i,by omega,h1,by unfold LD;rw[if_neg (by rw[hb1];decide),if_neg (by omega),hb1],rfl⟩
 rintro s ⟨dot,i0,hi0,hi1,e0,rfl⟩
 rw[e0]at hB
 generalize hR:EV dot l.length l [] i0=R at hB
 refine TB 1 3 68 3 Sp.cells Sp.B4 U ?_
 refine CD (σ:=Int×Value×List Sp×Nat) (λ(j,u,xs,f)=>⟨[(0,kn v 9 l Tk.cells),(1,kn u 3 xs Sp.cells)],[(0,AV b v j d),(1,.ho (TX u xs))],[Z 0 (.bx 0 b 0),Z 3 (.sl 1 u),Z 4 (.v (.bool dot))]⟩)
   (λ(j,u,xs,f)=>0<=j/\j<len l/\L8 xs/\len l<=j+f/\EV dot f l xs j=R) (λ(j,u,xs,f)=>(len l-j).toNat) (i0,.slice none 0 0,[],l.length) U (A0 U) U U ⟨by omega,hi1,.nil,by unfold len at*;omega,hR⟩ ?_
 rintro⟨j,u,xs,f⟩ ⟨hj0,hj1,hxs,hf,hst⟩
 have hx0:=A4 xs
 have hx20:=hxs.1
 refine CZ [0] (.v (.bool (AG l j [91]))) U (A0 U) U call63 U U (A0 U) U (λ _ w M hS hF=>KB [91] hS (hF.get (k:=0) U).sl hj0 hj1) U ?_
 refine CZ [0] (EB (at' l j)) U (A0 U) (by simp only[zb]<;>omega) call41 U U (A0 U) U (λ _ w M hS hF=>EN hS (hF.get (k:=0) U).sl hj0 hj1) U ?_
 cases f with
 |zero=>exfalso;omega
 |succ f=>
 refine A7 U (A0 U) (by simp only[zb]<;>omega) (λ hb1=>?_) (λ hb1=>?_)<;>simp only[zb]at hb1
 ·have hc:AG l j [91]=true\/(at' l j).kind=3/\(dot=false\/xs≠[]):=hb1.imp id λ⟨q1,q2⟩=>⟨q1,q2.imp id λ q3 q4=>by rw[q4]at q3;cases q3⟩
  have hj2:j+1<len l:=hc.elim (I2 ok hj0 hj1) λ q=>IQ ok hj0 hj1 q.1 (by decide)
  refine A7 U (A0 U) U (λ hb2=>?_) (λ hb2=>?_)<;>simp only[zb]at hb2
  ·unfold EV at hst
   rw[if_pos hc,if_pos hb2]at hst
   rw[<-hst]at hB
   refine CZ [0] (EB (at' l j)) U (A0 U) U call41 U U (A0 U) U (λ _ w M hS hF=>EN hS (hF.get (k:=0) U).sl hj0 hj1) U ?_
   exact GM [0] U (A0 U) U U call42 U (A0 U) U (λ w M hS hF=>JF (at' l j) 1 hS) λ a w M hs hS hle=>EW _ (hB.p ⟨M,rfl,hS.drop _ (List.sublist_cons_self _ _),hle⟩ a hs)
  refine CZ [0] (EB (at' l j)) U (A0 U) U call41 U U (A0 U) U (λ _ w M hS hF=>EN hS (hF.get (k:=0) U).sl hj0 hj1) U ?_
  refine CU 5 U (A0 U) U zeroValue68 U λ b5=>?_
  have ej:j+1-1=j:=by omega
  refine J8 U (A0 U) (by simp only[zb]<;>omega) EM (by decide+kernel) (JA U (A0 U) (by simp only[zb]<;>omega) ?_)
  refine A7 U (A0 U) U (λ hb3=>?_) (λ hb3=>?_)<;>simp only[zb]at hb3<;>rw[ej]at hb3
  ·rw[AF9 hc hb2 hb3]at hst
   rw[<-hst]at hB
   refine C9 [0] [] (λ n (_:Unit)=>I n) (λ _ k _=>[(0,AV b v k d)]) hB U (A0 U) U U call223 U U (A0 U) U KD (λ w M hS hF=>AG0 ⟨hS,(hF.get (k:=0) U).sl,hg,ok,by omega,hj2⟩) (λ _ _=>rfl) (λ _ _ _=>rfl) λ n k hw hB _ _=>?_
   obtain⟨rfl,hj3,hn0,hn6⟩:=AF8 ok (by omega) hj2 hw
   rw[hw,PR.JH]at hst
   refine DS 6 [(⟨true,[],n⟩:Sp)] Sp.cells 3 68 Sp.B4 U (A0 U) U U (A0 U) (λ w=>by kernel_rfl) U λ v6=>?_
   refine ME 32 U (A0 U) U U (A0 U) U underlying70 type68 U U Sp.cells_one (by simp only[A6,len_nil];omega) λ v'=>?_
   exact C7 (j+1+1+1,v',xs++[⟨true,[],n⟩],f) U (A0 U) U U ⟨by omega,hj3,⟨by rw[A5];show len xs+1<=20;omega,λ s hs=>by
      rcases List.mem_append.1 hs with hs|hs
      · exact hxs.2 s hs
      · rw[List.mem_singleton]at hs;subst hs;exact⟨(by show len ([]:A1)<=1048576;decide),λ _=>⟨hn0,hn6⟩⟩⟩,by omega,hst⟩ (by show Int.toNat _<Int.toNat _;omega)
  ·unfold EV at hst
   rw[if_pos hc,if_neg hb2,if_neg hb3]at hst
   refine DS 6 [(⟨false,(at' l j).s,0⟩:Sp)] Sp.cells 3 68 Sp.B4 U (A0 U) U U (A0 U) (λ w=>by kernel_rfl) U λ v6=>?_
   refine ME 32 U (A0 U) U U (A0 U) U underlying70 type68 U U Sp.cells_one (by simp only[A6,len_nil];omega) λ v'=>?_
   exact C7 (j+1,v',xs++[⟨false,(at' l j).s,0⟩],f) U (A0 U) U U ⟨by omega,hj2,⟨by rw[A5];show len xs+1<=20;omega,λ s hs=>by
    rcases List.mem_append.1 hs with hs|hs
    · exact hxs.2 s hs
    · rw[List.mem_singleton]at hs;subst hs;exact⟨ok.bd _ (at_mem hj0 hj1),λ q=>by cases q⟩⟩,by omega,hst⟩ (by show Int.toNat _<Int.toNat _;omega)
 ·unfold EV at hst
  rw[if_neg (λ q=>?_)]at hst
  ·rw[<-hst]at hB
   exact A9 hB U U (A0 U) U U (A0 U) λ w M' hX=>⟨u,M',rfl,hxs,hX.le,hX.CQ [0] U,CK (hX.f.get (k:=1) U) AA⟩
  ·rcases q with q|⟨q1,q2⟩
   · rw[q]at hb1;cases hb1.1
   · rcases hb1.2 with r|r
     · exact r q1
     · rcases q2 with q2|q2
       · rw[q2]at r;cases r.1
       · have:=G0 q2;omega
abbrev U0(u:Value)(x:Fl):HO:=.priv 48 11 u x.length (x.flatMap Tm.cells)
abbrev DF(u:Value)(x:Fl):HX:=.pv 48 (kn u 11 x Tm.cells) Tm.B4
abbrev OQ(w0:World)(M0 M:Mem)(Rs:List HO)(b:Nat)(v:Value)(d:Int)(r:PR Tf):Ending->World->Prop:=
 OM w0 M0 M Rs 82 r λ x j=>DT w0 M0 M Rs (λ h:AX=>h.v) (λ _=>True) (λ _=>[]) λ h=>[FF b v j d,U0 h.v x.flat]
theorem cB{w0 w:World}{M0 M:Mem}{Rs:List HO}{b:Nat}{v:Value}{j d:Int}{x:Fl}{e:Ending}(h:DT w0 M0 M Rs (λ u:Value=>u) (λ _=>True) (λ _=>[]) (λ u=>[FF b v j d,U0 u x]) e w):
  DT w0 M0 M Rs (λ h:AX=>h.v) (λ _=>True) (λ _=>[]) (λ h=>[FF b v j d,U0 h.v x]) e w:=by
 obtain⟨u,M',h1,h2,h3,h4,h5⟩:=h
 have ht:=h4.told (k:=1) U
 obtain⟨a,c,hv,_⟩:=(ht.sl (i:=1) rfl).val
 exact⟨⟨a,x.length,c⟩,M',by rw[h1,hv],trivial,h3,by rw[hv]at h4;exact h4,AA⟩
theorem AG2{w0 wv:World}{M0 M:Mem}{Rs:List HO}{b:Nat}{v:Value}{l:List Tk}{i d:Int}(h:HI w0 wv M0 M Rs b v l i d)(hd:0<=d/\d<=64):
    Calls prog 94 [.pointer (some ⟨b,0,none⟩)].toArray wv (OQ w0 M0 M Rs b v d (NH l d i)):=by
 obtain⟨hS,hl,hg,ok,h0,h1⟩:=h
 have hfew:=ok.few
 refine AU (Hr:=Rs) AP func94 U ntmps94 [(0,kn v 9 l Tk.cells)] [(0,AV b v i d)] [.bx 0 b 0] U hS (fc 0 hl (λ _=>rfl) AA) (λ B hB=>?_) U
 unfold NH at hB
 refine C9 [0] [] (λ n (_:Unit)=>I n) (λ _ j _=>[(0,AV b v j d)]) hB U (A0 U) U U call136 U U (A0 U) U (List.Sublist.refl _) (λ w M hS hF=>lX 0 ⟨hS,(hF.get (k:=0) U).sl,hg,ok,h0,h1⟩ (by omega) (by omega)) (λ _ _=>rfl) (λ _ _ _=>rfl) λ m0 i0 hk hB _ _=>?_
 obtain⟨rfl,hi1,hm0,hm1⟩:=X1 ok h0 h1 (by omega) (by omega) hk
 generalize hR:JD l.length l m0 (i+1)=R at hB
 refine CD (σ:=Int×Int×Nat) (λ(j,m,f)=>⟨[(0,kn v 9 l Tk.cells)],[(0,AV b v j d)],[Z 0 (.bx 0 b 0),Z 3 (I m)]⟩)
   (λ(j,m,f)=>i<j/\j<len l/\0<=m/\m<32/\len l<=j+f/\JD f l m j=R) (λ(j,m,f)=>(len l-j).toNat) (i+1,m0,l.length) U (A0 U) U U ⟨by omega,hi1,hm0,hm1,by unfold len at*;omega,hR⟩ ?_
 rintro⟨j,m,f⟩ ⟨hj0,hj1,hm0,hm1,hf,hst⟩
 cases f with
 |zero=>exfalso;omega
 |succ f=>
 unfold JD at hst
 refine CZ [0] (.v (.bool (AG l j [124]))) U (A0 U) U call63 U U (A0 U) U (λ _ w M hS hF=>KB [124] hS (hF.get (k:=0) U).sl (by omega) hj1) U ?_
 refine A7 U (A0 U) U (λ hb1=>?_) (λ hb1=>?_)
 ·have hj2:=I2 ok (by omega) hj1 hb1
  rw[if_pos hb1]at hst
  rw[<-hst,PR.assoc]at hB
  refine C9 [0] [] (λ n (_:Unit)=>I n) (λ _ j _=>[(0,AV b v j d)]) hB U (A0 U) (by simp only[zb]<;>omega) U call136 U U (A0 U) U (List.Sublist.refl _) (λ w M hS hF=>lX m ⟨hS,(hF.get (k:=0) U).sl,hg,ok,by omega,hj2⟩ hm0 hm1) (λ _ _=>rfl) (λ _ _ _=>rfl) λ m2 i2 hk hB _ _=>?_
  rw[hk,PR.JH]at hst
  obtain⟨rfl,hi2,hn0,hn1⟩:=X1 ok (by omega) hj2 hm0 hm1 hk
  exact C7 (j+1+1,m2,f) U (A0 U) U U ⟨by omega,hi2,hn0,hn1,by omega,hst⟩ (by show Int.toNat _<Int.toNat _;omega)
 rw[if_neg (by rw[hb1];decide)]at hst
 rw[<-hst]at hB
 refine PK 1 [({ BJ 1 with n:=m}:Tm)] Tm.cells 11 48 Tm.B4 U (A0 U) U U (A0 U) (λ w=>by kernel_rfl) U λ u=>?_
 refine CZ [0] (.v (.bool (AG l j [40]))) U (A0 U) U call63 U U (A0 U) U (λ _ w M hS hF=>KB [40] hS (hF.get (k:=0) U).sl (by omega) hj1) U ?_
 rw[PR.JH]at hB
 refine A7 U (A0 U) U (λ hb2=>?_) (λ hb2=>?_)
 ·rw[if_neg (by simpa using hb2)]at hB
  exact A9 hB U U (A0 U) U U (A0 U) λ w M' hX=>cB (d:=d) (x:=(L5 m []).flat) ⟨u,M',rfl,trivial,hX.le,hX.CQ [0,1] U,AA⟩
 have hb3:AG l j [40]=true:=by simpa using hb2
 rw[if_pos hb3]at hB
 refine C9 [0] [] (λ _ (_:Unit)=>.tu []) (λ _ j _=>[(0,AV b v j (d+1))]) hB U (A0 U) U U call95 U U (A0 U) U (List.sublist_cons_self _ _) (λ w M hS hF=>PT [40] ⟨hS,(hF.get (k:=0) U).sl,hg,ok,by omega,hj1⟩ hd) (λ _ _=>rfl) (λ _ _ _=>rfl) λ _ k hk hB _ _=>?_
 obtain⟨rfl,hk1,hd2,_⟩:=IS ok (by omega) hj1 hk
 refine C9 [0] [] (λ x (_:Unit)=>.ag (K6 x.t.cells)) (λ _ j _=>[(0,AV b v j (d+1))]) hB U (A0 U) U U call137 U U (A0 U) U (List.sublist_cons_self _ _) (λ w M hS hF=>lT ⟨hS,(hF.get (k:=0) U).sl,hg,ok,by omega,hk1⟩) (λ _ _=>rfl) (λ _ _ _=>rfl) λ x n hx hB _ _=>?_
 obtain⟨rfl,hn1,hxf,_,_⟩:=X3 ok (by omega) hk1 hx
 refine DS 2 [x.t] Tm.cells 11 48 Tm.B4 U (A0 U) U U (A0 U) (λ w=>by kernel_rfl) U λ v2=>?_
 refine NC 120 U (A0 U) U U (A0 U) U underlying36 type48 U U Tm.cells_one (by simp only[A6,len_nil];omega) λ u1=>?_
 generalize hR2:KA l.length l [x] (j+1+2)=R2 at hB
 refine CD (σ:=Int×Value×Fl×List Tf×Nat) (λ(k,u,y,xs,f)=>⟨[(0,kn v 9 l Tk.cells)],[(0,AV b v k (d+1)),(1,DF u y)],[Z 0 (.bx 0 b 0),Z 4 (.sl 1 u)]⟩)
   (λ(k,u,y,xs,f)=>j<k/\k<len l/\MO xs/\y=({ BJ 1 with n:=m}:Tm)::xs.map Tf.t/\len l<=k+f/\len xs<=k/\KA f l xs k=R2) (λ(k,u,y,xs,f)=>(len l-k).toNat) (j+1+2,u1,_,[x],l.length) U (A0 U) U U ⟨by omega,hn1,by show x.flat++[]=_;rw[hxf];rfl,rfl,by unfold len at*;omega,by show(1:Int)<=_;omega,hR2⟩ ?_
 rintro⟨k,u2,y,xs,f⟩ ⟨hk0,hk1,hxs,hy,hf,hxl,hst⟩
 have hx0:=A4 xs
 have hml:len y=1+len xs:=by rw[hy,A6];unfold len;rw[List.length_map];omega
 cases f with
 |zero=>exfalso;omega
 |succ f=>
 unfold KA at hst
 refine CZ [0] (.v (.bool (AG l k [44]))) U (A0 U) U call63 U U (A0 U) U (λ _ w M hS hF=>KB [44] hS (hF.get (k:=0) U).sl (by omega) hk1) U ?_
 refine A7 U (A0 U) U (λ hb4=>?_) (λ hb4=>?_)
 ·have hk2:=I2 ok (by omega) hk1 hb4
  rw[if_pos hb4]at hst
  rw[<-hst,PR.assoc]at hB
  refine C9 [0] [] (λ x (_:Unit)=>.ag (K6 x.t.cells)) (λ _ j _=>[(0,AV b v j (d+1))]) hB U (A0 U) (by simp only[zb]<;>omega) U call137 U U (A0 U) U (List.sublist_cons_self _ _) (λ w M hS hF=>lT ⟨hS,(hF.get (k:=0) U).sl,hg,ok,by omega,hk2⟩) (λ _ _=>rfl) (λ _ _ _=>rfl) λ z n hz hB _ _=>?_
  rw[hz,PR.JH]at hst
  obtain⟨rfl,hn2,hzf,_,_⟩:=X3 ok (by omega) hk2 hz
  refine DS 2 [z.t] Tm.cells 11 48 Tm.B4 U (A0 U) U U (A0 U) (λ w=>by kernel_rfl) U λ v2=>?_
  refine NC 120 U (A0 U) U U (A0 U) U underlying36 type48 U U Tm.cells_one (by simp only[A6,len_nil];omega) λ u3=>?_
  exact C7 (k+1+2,u3,y++[z.t],xs++[z],f) U (A0 U) U U ⟨by omega,hn2,hxs.snoc hzf,by rw[hy,List.map_append];rfl,by omega,by rw[A5];show len xs+1<=_;omega,hst⟩ (by show Int.toNat _<Int.toNat _;omega)
 rw[if_neg (by rw[hb4];decide)]at hst
 rw[<-hst]at hB
 rw[PR.JH]at hB
 refine C9 [0] [] (λ _ (_:Unit)=>.tu []) (λ _ j _=>[(0,AV b v j d)]) hB U (A0 U) U U call96 U U (A0 U) U (List.sublist_cons_self _ _) (λ w M hS hF=>PU [41] ⟨hS,(hF.get (k:=0) U).sl,hg,ok,by omega,hk1⟩ (by omega) (by omega)) (λ _ _=>rfl) (λ _ _ _=>rfl) λ _ n hn hB _ _=>?_
 refine RG { at' y 0 with many:=len y-1} rfl (A0 U) (by simp only[zb]<;>omega) U (A0 U) U sizeOf3 U U U (by omega) λ y' hy'=>?_
 have e:y'=(L5 m xs).flat:=by
  rw[hy',hml,hy]
  unfold L5
  rw[Tf.KC]
  show({ BJ 1 with n:=m,many:=1+len xs-1}:Tm)::xs.map Tf.t=_
  rw[<-(show AM xs=xs.map Tf.t from hxs),show 1+len xs-1=len xs by omega];rfl
 subst e
 exact A9 hB U U (A0 U) U U (A0 U) λ w M' hX=>cB (d:=d) (x:=(L5 m xs).flat) ⟨u2,M',rfl,trivial,hX.le,hX.CQ [0,1] U,AA⟩
open Go.Eng Go.RowKit
set_option maxHeartbeats 1000000 in
set_option maxRecDepth 100000 in
theorem AG3(w:World):Calls prog 227 #[.slice none 0 0,.int .i64 0] w λ e w'=>e= .returned (.slice none 0 0)/\w'=w:=by
 have mixed:prog.follows .mixedOrders=true:=by kernel_rfl
 go_enter func227,ntmps227
 go_wp2
 all_goals (go_ret;exact⟨rfl,rfl⟩)
set_option maxHeartbeats 4000000 in
set_option maxRecDepth 100000 in
theorem AG4(n:Nat)(w:World)(h0:0<n)(hbig:n*120<=140737488355328):Calls prog 227 #[.slice none 0 0,.int .i64 n] w λ e w'=>
  ∃cap cur,e= .returned (.slice (some ⟨w.heap.size,0,none⟩) 0 cap)/\cap<=maxLen/\cur.size=cap*11/\w'=w.drew.alloc (.cells cur 48):=by
 obtain⟨i0,hi0,hz0,hs11,hb120⟩: ∃i,prog.info? 48=some i/\i.zero.isSome=true/\i.size=11/\i.bytes=120:=by
  obtain⟨i,hi,he⟩:=Option.map_eq_some_iff.1 (show(prog.info? 48).map (λ i=>(i.zero.isSome,i.size,i.bytes))=some (true,11,120) by kernel_rfl)
  exact⟨i,hi,by simpa using congrArg (·.1) he,by simpa using congrArg (·.2.1) he,by simpa using congrArg (·.2.2) he⟩
 obtain⟨z,hz⟩:=Option.isSome_iff_exists.1 hz0
 have hzc:z.cells.size=11:=by
  have:=show(prog.info? 48).bind (λ i=>i.zero.map (λ z=>z.cells.size))=some 11 by kernel_rfl
  rw[hi0]at this;simp only[Option.bind_some,hz,Option.map_some,Option.some.injEq]at this;exact this
 have mixed:prog.follows .mixedOrders=true:=by kernel_rfl
 have us:=λ w=>run_underlying (P:=prog) (w:=w) underlying36
 have ui:=λ w=>run_underlying (P:=prog) (w:=w) underlying3
 have h1: ¬((n:Int)<0):=by omega
 have h3:wrap64 ((n:Int)-0)=(n:Int):=by unfold wrap64;omega
 have h4:(n:Int)>0:=by omega
 have hold:(Builtin.firstCells i0.size 0 (.slice none 0 0)).run prog w.drew= .ok #[] w.drew:=run_firstCells_none w.drew i0.size 0 0 0
 have hrz: ∀ty,(Builtin.append_ #[36,3] ty #[.slice none 0 0,.int .i64 (n:Int)]).run prog w=
   .ok (.slice (some ⟨w.heap.size,0,none⟩) n (grownCap w n 0 48)) (w.drew.alloc (.cells (#[]++Builtin.zeroCells z.cells n++Builtin.zeroCells z.cells (grownCap w n 0 48-n)) 48)):=λ ty=>by
  have h:=Lib.run_append_grow_zeros w 36 3 ty 48 i0 z .i64 .i64 underlying36 underlying3 hi0 hz none 0 0 [] hold n (by omega) (by omega) (by omega) (by omega)
   (by rw[hb120];omega) (by rw[Nat.zero_add];exact growslice_fits h0 (by rw[hb120];omega))
  rw[Nat.zero_add]at h
  exact h
 have hGn:n<=grownCap w n 0 48:=grownCap_ge w _ _ _
 have hGm:grownCap w n 0 48<=maxLen:=grownCap_le_maxLen w n 0 48 (by unfold maxLen;omega)
 obtain⟨G,hG⟩: ∃G,G=grownCap w n 0 48:=⟨_,rfl⟩
 rw[<-hG]at hrz hGn hGm
 have hG63:G<=9223372036854775807:=by unfold maxLen at hGm;omega
 have hzs: ∀k,(Builtin.zeroCells z.cells k).size=k*11:=λ k=>by simp[Builtin.zeroCells,hzc]
 have hsz:(#[]++Builtin.zeroCells z.cells n++Builtin.zeroCells z.cells (G-n)).size=G*11:=by rw[Array.size_append,Array.size_append,hzs,hzs];simp;omega
 generalize (#[]++Builtin.zeroCells z.cells n++Builtin.zeroCells z.cells (G-n))=cur at hrz hsz
 clear hold hG hi0
 go_enter func227,ntmps227
 go_wp2_with (at_builtin;refine Lib.wpList_append_run _ U _ _ _ _ U _ _ U U _ _ (hrz _) ?_)
 all_goals (go_ret;exact⟨G,rfl,hGm,_,hsz,rfl⟩)
theorem AG5{w wv:World}{M0 M:Mem}{Hs:List HO}(n:Int)(hS:St w M0 wv M Hs)(h0:0<=n)(hb:n<=1099511627776):
  Calls prog 227 [.slice none 0 0,i64 n].toArray wv λ e w'=> ∃u,e= .returned u/\St w M0 w' M (.priv 48 11 u 0 []::Hs):=by
 by_cases hn:n=0
 ·subst hn
  exact(AG3 wv).mono λ e w' ⟨he,hw⟩=>⟨_,he,hw▸hS.iI _ _⟩
 ·have hg:=AG4 n.toNat wv (by omega) (by omega)
  rw[show((n.toNat:Nat):Int)=n from by omega]at hg
  refine hg.mono λ e w' ⟨cap,cur,he,hc,hs,hw⟩=>⟨_,he,?_⟩
  subst hw
  exact(hS.ext (Ext.drew wv)).y8 _ 11 cap cur hs hc
end Go.Proofs.YtmjpjbmeamnfpaaGreatDoor
namespace Go.Eng
open Go.RowKit
structure SV where
 key:A1
 val:Value
 born:Nat
def SV.CS (p:SV):MapEntry:= { key:=str p.key,val:=p.val,born:=p.born}
def DH(l:List SV)(clock:Nat):Obj:=.map ⟨l.map SV.CS⟩ clock
def HJ:List SV->A1->Option Value
 |[],_=>none
 |p::l,x=>if x==p.key then some p.val else HJ l x
def LF:List SV->A1->Value->Option (List SV)
 |[],_,_=>none
 |p::l,x,v=>if x==p.key then some (⟨x,v,p.born⟩::l)else(LF l x v).map (p:: ·)
def sset(l:List SV)(c:Nat)(x:A1)(v:Value):List SV:=match LF l x v with|some l'=>l'|none=>l++[⟨x,v,c⟩]
def PW(l:List SV)(c:Nat)(x:A1)(v:Value):Nat:=match LF l x v with|some _=>c|none=>c+1
def KG:List SV->A1->Nat->Option (Nat×Value)
 |[],_,_=>none
 |p::l,x,i=>if x==p.key then some (i,p.val)else KG l x (i+1)
theorem mA(x y:A1):((⟨⟨x⟩⟩:ByteArray)==⟨⟨y⟩⟩)=(x==y):=by
 show((⟨x⟩:Array UInt8)==⟨y⟩)=(x==y)
 simp
theorem mB(x:A1): ∀(l:List SV) (i:Nat),Instr.findNow .string (str x) (l.map SV.CS) i=some (KG l x i)
 |[],_=>rfl
 |p::l,i=>by
  simp only[List.map_cons,Instr.findNow,SV.CS,Instr.sameNow,KG,mA]
  by_cases h:(x==p.key)=true
  ·rw[h];rfl
  ·rw[Bool.not_eq_true]at h;rw[h];exact mB x l (i+1)
theorem mC(x:A1): ∀(l:List SV) (i:Nat),(KG l x i).map (·.2)=HJ l x
 |[],_=>rfl
 |p::l,i=>by
  simp only[KG,HJ];split
  ·rfl
  ·exact mC x l (i+1)
theorem mD(x:A1)(v:Value): ∀(l:List SV) (i:Nat),(KG l x i=none/\LF l x v=none)\/ ∃j u p l',KG l x i=some (i+j,u)/\l[j]? =some p/\x=p.key/\LF l x v=some l'/\l'=l.modify j (λ p=>⟨x,v,p.born⟩)
 |[],_=>.inl ⟨rfl,rfl⟩
 |p::l,i=>by
  by_cases h:(x==p.key)=true
  ·refine .inr ⟨0,p.val,p,⟨x,v,p.born⟩::l,?_,rfl,by simpa using h,?_,by simp⟩
   ·simp only[KG,h,if_true];rfl
   ·simp only[LF,h,if_true]
  ·rcases mD x v l (i+1)with⟨h1,h2⟩|⟨j,u,q,l',h1,h2,h3,h4,h5⟩
   ·refine .inl ⟨?_,?_⟩
    ·simp only[KG,h];exact h1
    ·simp only[LF,h,h2];rfl
   ·refine .inr ⟨j+1,u,q,p::l',?_,by simpa using h2,h3,?_,?_⟩
    ·simp only[KG,h];rw[show i+(j+1)=i+1+j from by omega];exact h1
    ·simp only[LF,h,h4];rfl
    ·subst h5;simp
theorem mE{P:Program}{t:TypeId}(h:P.underlying t=some .string)(b:Bool)(x:A1)(w:World):(Instr.checkKey b 10000 t (str x)).run P w= .ok () w:=by
 show(Instr.checkKey b (9999+1) t (str x)).run P w= .ok () w
 unfold Instr.checkKey
 rw[Sem.run_bind,run_underlying h];rfl
theorem mF{P:Program}{t:TypeId}(h:P.underlying t=some .string)(x:A1)(l:List SV)(w:World):(Instr.findKey t (str x) (l.map SV.CS)).run P w= .ok (KG l x 0) w:=by
 simp only[Instr.findKey,Sem.run_bind,run_underlying h,Result.andThen_ok,mB];rfl
theorem mG{P:Program}{w:World}{b:Nat}{l:List SV}{c:Nat}(h:w.heap[b]? =some (DH l c)):(getObj b).run P w= .ok (DH l c) w:=by
 simp[getObj,Sem.run,h,DH]
theorem mH{P:Program}{w:World}{b:Nat}{l:List SV}{c:Nat}(h:w.heap[b]? =some (DH l c))(o':Obj):(setObj b o').run P w= .ok () (FL w b o'):=by
 simp[setObj,Sem.run,h,FL,DH]
theorem mI{P:Program}{w:World}{b:Nat}{l:List SV}{c:Nat}{t kt e:TypeId}{z:Value}{x:A1}{ok:Bool}(ht:P.underlying t=some (.map kt e))(hk:P.underlying kt=some .string)(hz: ∀w,(zeroValue e).run P w= .ok z w)
  (h:w.heap[b]? =some (DH l c)):(Instr.lookup t (.map (some b)) (str x) ok).run P w= .ok (if ok then .tuple #[(HJ l x).getD z,.bool (HJ l x).isSome]else(HJ l x).getD z) w:=by
 simp only[Instr.lookup,Sem.run_bind,run_underlying ht,Result.andThen_ok,mG h,DH,Sem.run_pure,mE hk,mF hk]
 have hg:=mC x l 0
 cases hf:KG l x 0 with
 |none=>rw[hf]at hg;rw[<-hg];simp[Sem.run_bind,hz]
 |some q=>rw[hf]at hg;rw[<-hg];simp
theorem AG6{P:Program}{w:World}(x:A1):(Instr.keyThatStays (str x) (str x)).run P w= .ok (str x) w:=by
 unfold Instr.keyThatStays
 rw[show Instr.sameBits 10000 (str x) (str x)=true from by simp[Instr.sameBits,mA]];rfl
theorem AG7{P:Program}{w:World}{b:Nat}{l:List SV}{c:Nat}{t kt e:TypeId}{x:A1}{v:Value}(ht:P.underlying t=some (.map kt e))(hk:P.underlying kt=some .string)
  (h:w.heap[b]? =some (DH l c)):(Instr.mapUpdate t (.map (some b)) (str x) v).run P w= .ok () (FL w b (DH (sset l c x v) (PW l c x v))):=by
 simp only[Instr.mapUpdate,Sem.run_bind,run_underlying ht,Result.andThen_ok,mG h,DH,mE hk,mF hk]
 rcases mD x v l 0 with⟨h1,h2⟩|⟨j,u,p,l',h1,h2,h3,h4,h5⟩
 ·rw[h1]
  simp only[sset,PW,h2]
  rw[mH h];simp[SV.CS]
 ·rw[h1]
  have e1:((l.map SV.CS).toArray[0+j]?)=some (SV.CS p):=by simp[h2]
  have e2:(Array.mk (l.map SV.CS))[0+j]? =some (SV.CS p):=e1
  simp only[Sem.run_bind,e2,Option.map_some,Option.getD_some]
  rw[show(SV.CS p).key=str x from by rw[h3];rfl,AG6]
  simp only[Result.andThen_ok,sset,PW,h4]
  rw[mH h]
  congr 3
  subst h5
  rw[Nat.zero_add]
  apply Array.ext'
  rw[Array.toList_modify]
  exact YX SV.CS _ _ (λ x=>rfl) l j
section rl
variable {P:Program} {ops:Array Oper} {Q:Exit->Act->World->Prop} {N:Nat} {rest:List Oper} {L:Env} {w0 w:World} {M0 M:Mem} {Hs:List HO} {d:Nat} {ty:TypeId} {ps:String} {af:Array Edge}
theorem RL.AG8 {t:TypeId}(hS:St w0 M0 w M Hs)(hd:Nat.blt d N=true)
  (h: ∀w' b,St w0 M0 w' M (.raw b (DH [] 0)::Hs)->RL P ops Q N rest ((d,true,.map (some b))::L) w'):RL P ops Q N (⟨some d,.makeMap t none,ty,ps,af,none⟩::rest) L w:=by
 intro a hs
 refine wpList_plain U λ K hK=>?_
 have key:(execOp a.eval ⟨some d,.makeMap t none,ty,ps,af,none⟩).run P w= .ok (.value (.map (some w.heap.size))) (w.alloc (.map #[] 0)):=rfl
 simp only[Oper.wp,key,Oper.upon_value]
 exact hK _ _ (h _ _ (hS.P4 (DH [] 0)) _ (hs.put hd true _))
theorem RL.AG9 {t kt e:TypeId}{m x y:Operand}{i b c c':Nat}{l l':List SV}{n:A1}{v:Value}{Hs':List HO}(ins:Bool)(hS:St w0 M0 w M Hs)(hi:Hs[i]? =some (.raw b (DH l c)))(hm:A8 L true m (.map (some b)))(hx:A8 L true x (str n))(hy:A8 L true y v)
  (ht:P.underlying t=some (.map kt e)) (hk:P.underlying kt=some .string) (hl:sset l c n v=l') (hc:PW l c n v=c') (hHs:Hs.set i (.raw b (DH l' c'))=Hs')
  (h: ∀w',St w0 M0 w' M Hs'->RL P ops Q N rest L w'):RL P ops Q N (⟨none,if ins then .insert t m x y else .mapUpdate t m x y,ty,ps,af,none⟩::rest) L w:=by
 intro a hs
 refine wpList_plain U λ K hK=>?_
 have hb:=(hS.obj hi).2.1
 have key:(execOp a.eval ⟨none,if ins then .insert t m x y else .mapUpdate t m x y,ty,ps,af,none⟩).run P w= .ok .skip (FL w b (DH l' c')):=by
  have:=AG7 (P:=P) (x:=n) (v:=v) ht hk hb
  cases ins<;>simp only[execOp,hm a N hs rfl,hx a N hs rfl,hy a N hs rfl,Bool.false_eq_true,if_true,if_false]<;>rw[Sem.run_bind,this,hl,hc]<;>rfl
 simp only[Oper.wp,key,Oper.upon_skip]
 exact hK _ _ (h _ (hHs▸hS.QK hi _) _ hs)
theorem RL.AH0 {t kt e:TypeId}{x:Operand}{i b c:Nat}{l:List SV}(hS:St w0 M0 w M Hs)(hi:Hs[i]? =some (.raw b (DH l c)))(hx:A8 L true x (.map (some b)))(ht:P.underlying t=some (.map kt e))(hd:Nat.blt d N=true)
  (h: ∀w' r,St w0 M0 w' M (.raw r (.mapIter (some b) c #[] c)::Hs)->RL P ops Q N rest ((d,true,.pointer (some ⟨r,0,none⟩))::L) w'):RL P ops Q N (⟨some d,.range t x,ty,ps,af,none⟩::rest) L w:=by
 intro a hs
 refine wpList_plain U λ K hK=>?_
 have hb:=(hS.obj hi).2.1
 have key:(execOp a.eval ⟨some d,.range t x,ty,ps,af,none⟩).run P w= .ok (.value (.pointer (some ⟨w.heap.size,0,none⟩))) (w.alloc (.mapIter (some b) c #[] c)):=by
  simp only[execOp,hx a N hs U];rw[Sem.run_bind,run_range_map w t kt e b _ _ ht hb];rfl
 simp only[Oper.wp,key,Oper.upon_value]
 exact hK _ _ (h _ _ (hS.P4 _) _ (hs.put hd true _))
theorem RL.AH1 {x:Operand}{i j b r c since c0:Nat}{seen:Array Nat}{l:List SV}(hS:St w0 M0 w M Hs)(hi:Hs[i]? =some (.raw b (DH l c)))(hj:Hs[j]? =some (.raw r (.mapIter (some b) since seen c0)))(hx:A8 L true x (.pointer (some ⟨r,0,none⟩)))
  (hold: ∀p∈l,p.born<since) (hsc:since<=c0) (hd:Nat.blt d N=true)
  (h1: ∀p∈l,¬seen.contains p.born=true-> ∀w',St w0 M0 w' M (Hs.set j (.raw r (.mapIter (some b) since (seen.push p.born) c)))->RL P ops Q N rest ((d,true,.tuple #[.bool true,str p.key,p.val])::L) w')
  (h2:(∀p∈l,seen.contains p.born=true)->RL P ops Q N rest ((d,true,.tuple #[.bool false])::L) w):RL P ops Q N (⟨some d,.next x false,ty,ps,af,none⟩::rest) L w:=by
 intro a hs
 refine wpList_plain U λ K hK=>?_
 have hb:=(hS.obj hi).2.1
 have hr:=(hS.obj hj).2.1
 rcases run_next_at (P:=P) w ty r b since c0 seen ⟨l.map SV.CS⟩ c hr hb (by intro x hx;simp only[List.mem_map]at hx;obtain⟨p,hp,rfl⟩:=hx;exact hold p hp) hsc with⟨he,hrun⟩|⟨en,hen,w1,hw1,hrun⟩
 ·have key:(execOp a.eval ⟨some d,.next x false,ty,ps,af,none⟩).run P w= .ok (.value (.tuple #[.bool false])) w:=by
   simp only[execOp,hx a N hs U];rw[Sem.run_bind,hrun];rfl
  simp only[Oper.wp,key,Oper.upon_value]
  refine hK _ _ (h2 ?_ _ (hs.put hd true _))
  intro p hp
  by_cases hc:seen.contains p.born=true
  ·exact hc
  ·exfalso
   have:(leftOf ⟨l.map SV.CS⟩ seen).size=0:=he
   unfold leftOf at this
   rw[Array.size_eq_zero_iff,Array.filter_eq_empty_iff]at this
   have:=this (SV.CS p) (by simp only[List.mem_toArray,Array.mem_def,List.mem_map];exact⟨p,hp,rfl⟩)
   apply this;show(!seen.contains p.born)=true
   simpa using hc
 ·unfold leftOf at hen
  simp only[Array.toList_filter,List.mem_filter,List.mem_map,Bool.not_eq_true']at hen
  obtain⟨⟨p,hp,rfl⟩,hns⟩:=hen
  have key:(execOp a.eval ⟨some d,.next x false,ty,ps,af,none⟩).run P w= .ok (.value (.tuple #[.bool true,str p.key,p.val])) (FL w1 r (.mapIter (some b) since (seen.push p.born) c)):=by
   simp only[execOp,hx a N hs U];rw[Sem.run_bind,hrun];rfl
  simp only[Oper.wp,key,Oper.upon_value]
  have hS1:St w0 M0 w1 M Hs:=by rcases hw1 with rfl|rfl;exact hS;exact hS.ext (Ext.drew _)
  exact hK _ _ (h1 p hp (by show ¬seen.contains p.born=true;have:seen.contains p.born=false:=hns;rw[this];simp) _ (hS1.QK hj _) _ (hs.put hd true _))
end rl
section pv
variable {P:Program} {C:World->Prop} {L:Env} {W:Bool} {d:Option Tmp} {ty:TypeId} {ps:String} {af:Array Edge} {gd:Option (Nat×Bool)} {w0 w:World} {M0 M:Mem} {Hs:List HO}
theorem PV.AH2 {x:Operand}{i j b r c since:Nat}{seen:Array Nat}{l:List SV}{p:SV}(hS:St w0 M0 w M Hs)(hC: ∀w',C w'->Ext w w')(hi:Hs[i]? =some (.raw b (DH l c)))(hj:Hs[j]? =some (.raw r (.mapIter (some b) since (seen.push p.born) c)))(hx:A8 L W x (.pointer (some ⟨r,0,none⟩)))
  (hp:p∈l) (hn:(l.map (·.born)).Nodup):PV P C L W ⟨d,.entry x,ty,ps,af,gd⟩ (.tuple #[str p.key,p.val]):=by
 intro a N hs hW w' hw'
 have hS':=hS.ext (hC w' hw')
 have hb:=(hS'.obj hi).2.1
 have hr:=(hS'.obj hj).2.1
 have:=run_entry_at (P:=P) w' r b since seen ⟨l.map SV.CS⟩ c (SV.CS p) hr hb (List.mem_map.2 ⟨p,hp,rfl⟩) (by simpa[List.map_map,Function.comp_def,SV.CS]using hn)
 simp only[execOp,hx a N hs hW];rw[Sem.run_bind,this];rfl
theorem PV.AH3 {t kt e:TypeId}{x y:Operand}{i b c:Nat}{l:List SV}{n:A1}{z v:Value}(hS:St w0 M0 w M Hs)(hC: ∀w',C w'->Ext w w')(hi:Hs[i]? =some (.raw b (DH l c)))(hx:A8 L W x (.map (some b)))(hy:A8 L W y (str n))
  (ht:P.underlying t=some (.map kt e)) (hk:P.underlying kt=some .string) (hz: ∀w,(zeroValue e).run P w= .ok z w) (hv:(HJ l n).getD z=v):PV P C L W ⟨d,.lookup t x y false,ty,ps,af,gd⟩ v:=by
 intro a N hs hW w' hw'
 have hb:=((hS.ext (hC w' hw')).obj hi).2.1
 have:=mI (P:=P) (x:=n) (ok:=false) ht hk hz hb
 simp only[execOp,hx a N hs hW,hy a N hs hW];rw[Sem.run_bind,this,<-hv];rfl
theorem PV.AH4 {t kt e:TypeId}{x y:Operand}{i b c:Nat}{l:List SV}{n:A1}{z v:Value}{q:Bool}(hS:St w0 M0 w M Hs)(hC: ∀w',C w'->Ext w w')(hi:Hs[i]? =some (.raw b (DH l c)))(hx:A8 L W x (.map (some b)))(hy:A8 L W y (str n))
  (ht:P.underlying t=some (.map kt e)) (hk:P.underlying kt=some .string) (hz: ∀w,(zeroValue e).run P w= .ok z w) (hv:(HJ l n).getD z=v) (hq:(HJ l n).isSome=q):PV P C L W ⟨d,.lookup t x y true,ty,ps,af,gd⟩ (.tuple #[v,.bool q]):=by
 intro a N hs hW w' hw'
 have hb:=((hS.ext (hC w' hw')).obj hi).2.1
 have:=mI (P:=P) (x:=n) (ok:=true) ht hk hz hb
 simp only[execOp,hx a N hs hW,hy a N hs hW];rw[Sem.run_bind,this,<-hv,<-hq];rfl
end pv
section
variable {c:Cx} {B:Exit->Act->World->Prop} {k k':List Fr} {m:Md} {s s':XS} {O:Prop} {E:List Ck} {all:Array Oper} {rest:List Oper} {d:Nat} {ty:TypeId} {ps:String} {af:Array Edge}
theorem mJ(kk:Nat){t:TypeId}(h:run c.T c.N k m s=⟨k',.ops all (⟨some d,.makeMap t none,ty,ps,af,none⟩::rest),s',O,E⟩)(hE:AD E)(hO:O)(hd:Nat.blt d c.N=true)
  (hn: ∀b,XG c B k' (.ops all rest) ⟨s'.F,(kk,.ho (.raw b (DH [] 0)))::s'.H,(d,.t,.v (.map (some b)))::s'.L⟩):XG c B k m s:=
 H0 h hE hO λ w M hX=>RL.AG8 hX.st hd λ w' b hS=>HF (hn b) ⟨hS,hX.f,hX.le⟩ U
theorem U1(ins:Bool)(kk:Nat){t kt e:TypeId}{x y z:Operand}{b cl:Nat}{l:List SV}{n:A1}{u:XV}{E1 E2 E3:List Ck}(l':List SV)(c':Nat)(h:run c.T c.N k m s=⟨k',.ops all (⟨none,if ins then .insert t x y z else .mapUpdate t x y z,ty,ps,af,none⟩::rest),s',O,E⟩)(hE:AD E)(hO:O)
  (hx:BZ s'.L .t x=some (.v (.map (some b)),E1)) (hy:BZ s'.L .t y=some (.v (str n),E2)) (hz:BZ s'.L .t z=some (u,E3)) (hE1:AD (E1++(E2++E3))) (hk:GL s'.H kk=some (.ho (.raw b (DH l cl))))
  (ht:c.P.underlying t=some (.map kt e)) (hkt:c.P.underlying kt=some .string) (hl:sset l cl n u.d=l') (hc:PW l cl n u.d=c')
  (hn:XG c B k' (.ops all rest) ⟨s'.F,EG s'.H kk (.ho (.raw b (DH l' c'))),s'.L⟩):XG c B k m s:=by
 refine H0 h hE hO λ w M hX=>?_
 obtain⟨i,hi,hset'⟩:=IH (Hr:=c.Hr) hk
 exact RL.AG9 ins hX.st hi (AN hx hE1.app.1) (AN hy hE1.app.2.app.1) (AN hz hE1.app.2.app.2) ht hkt hl hc (Hs':=HD (EG s'.H kk (.ho (.raw b (DH l' c'))))++c.Hr) (hset' (.ho (.raw b (DH l' c')))).symm λ w' hS=>HF hn ⟨hS,hX.f,hX.le⟩ U
theorem AH5(kk:Nat){t kt e:TypeId}{x y:Operand}{gd:Option (Nat×Bool)}{W:Gd}{b cl:Nat}{l:List SV}{n:A1}{z v:Value}{E1:List Ck}(h:run c.T c.N k m s=⟨k',.ops all (⟨some d,.lookup t x y false,ty,ps,af,gd⟩::rest),s',O,E⟩)(hE:AD E)(hO:O)(hg:(IJ all s'.L gd,Nat.blt d c.N)=(some W,true))
  (hx:KX s'.L W x y=some (.v (.map (some b)),.v (str n),E1)) (hE1:AD E1) (hk:GL s'.H kk=some (.ho (.raw b (DH l cl))))
  (ht:c.P.underlying t=some (.map kt e)) (hkt:c.P.underlying kt=some .string) (hz: ∀w,(zeroValue e).run c.P w= .ok z w) (hv:(HJ l n).getD z=v)
  (hn:XG c B k' (.ops all rest) ⟨s'.F,s'.H,(d,W,.v v)::s'.L⟩):XG c B k m s:=
 CY (.v v) h hE hO hg (λ w M hX=>by
  obtain⟨i,hi,_⟩:=IH (Hr:=c.Hr) hk
  obtain⟨hx1,hx2⟩:=M6 hx hE1
  exact .AH3 hX.st AR hi hx1 hx2 ht hkt hz hv) hn
theorem S2(kk:Nat){t kt e:TypeId}{x y:Operand}{gd:Option (Nat×Bool)}{W:Gd}{b cl:Nat}{l:List SV}{n:A1}{z v:Value}{q:Bool}{E1:List Ck}(h:run c.T c.N k m s=⟨k',.ops all (⟨some d,.lookup t x y true,ty,ps,af,gd⟩::rest),s',O,E⟩)(hE:AD E)(hO:O)(hg:(IJ all s'.L gd,Nat.blt d c.N)=(some W,true))
  (hx:KX s'.L W x y=some (.v (.map (some b)),.v (str n),E1)) (hE1:AD E1) (hk:GL s'.H kk=some (.ho (.raw b (DH l cl))))
  (ht:c.P.underlying t=some (.map kt e)) (hkt:c.P.underlying kt=some .string) (hz: ∀w,(zeroValue e).run c.P w= .ok z w) (hv:(HJ l n).getD z=v) (hq:(HJ l n).isSome=q)
  (hn:XG c B k' (.ops all rest) ⟨s'.F,s'.H,(d,W,.tu [.v v,.v (.bool q)])::s'.L⟩):XG c B k m s:=
 CY (.tu [.v v,.v (.bool q)]) h hE hO hg (λ w M hX=>by
  obtain⟨i,hi,_⟩:=IH (Hr:=c.Hr) hk
  obtain⟨hx1,hx2⟩:=M6 hx hE1
  exact .AH4 hX.st AR hi hx1 hx2 ht hkt hz hv hq) hn
end
def BN(l:List A1):List A1:=l.mergeSort (λ x y=>decide (x<=y))
theorem mK(a b:A1):(decide (a<=b)||decide (b<=a))=true:=by
 rcases Classical.em (a<=b)with h|h
 ·simp[h]
 ·simp[List.le_of_lt (List.not_le.1 h)]
theorem mL(a b c:A1)(h1:decide (a<=b)=true)(h2:decide (b<=c)=true):decide (a<=c)=true:=by
 simp only[decide_eq_true_eq]at*;exact List.le_trans h1 h2
theorem AH6{ns:List A1}{n:A1}:n∈BN ns↔n∈ns:=(List.mergeSort_perm ns _).mem_iff
theorem AH7(ns:List A1):len (BN ns)=len ns:=by unfold len BN;rw[List.length_mergeSort]
theorem mM{a b:List A1}(h:a.Perm b)(hr:a.Pairwise (· <= ·)):a=BN b:=by
 unfold BN
 refine List.Perm.eq_of_pairwise (le:=λ x y=>decide (x<=y)=true) (λ x y _ _ h1 h2=>?_) (hr.imp λ h=>by simpa using h) (List.pairwise_mergeSort mL mK _) (h.trans (List.mergeSort_perm _ _).symm)
 simp only[decide_eq_true_eq]at h1 h2
 exact List.le_antisymm h1 h2
theorem AH8{a b:List A1}(h:a.Perm b):BN a=BN b:=by
 refine mM ((List.mergeSort_perm a _).trans h) ?_
 have:=List.pairwise_mergeSort (le:=λ x y:A1=>decide (x<=y)) mL mK a
 exact this.imp λ h=>by simpa using h
theorem cC(x:Tf): ∀l:List Tf,(PN x l).Perm (x::l)
 |[]=>.refl _
 |y::l=>by
  unfold PN
  split
  ·exact .refl _
  ·exact((cC x l).cons y).trans (.swap _ _ _)
theorem PX: ∀l:List Tf,(MJ l).Perm l
 |[]=>.refl _
 |x::l=>(cC x _).trans ((PX l).cons x)
theorem mN(x:Tf): ∀ {l:List Tf},l.Pairwise (λ a b=>a.t.name<=b.t.name)->(PN x l).Pairwise (λ a b=>a.t.name<=b.t.name)
 |[],_=>List.pairwise_singleton _ _
 |y::l,h=>by
  unfold PN
  have hp:=List.pairwise_cons.1 h
  split
  ·rename_i hxy
   refine List.pairwise_cons.2 ⟨λ z hz=>?_,h⟩
   rcases List.mem_cons.1 hz with rfl|hz
   ·exact hxy
   ·exact List.le_trans hxy (hp.1 z hz)
  ·rename_i hxy
   refine List.pairwise_cons.2 ⟨λ z hz=>?_,mN x hp.2⟩
   rcases List.mem_cons.1 ((cC x l).mem_iff.1 hz)with rfl|hz
   ·exact List.le_of_lt (List.not_le.1 hxy)
   ·exact hp.1 z hz
theorem mO: ∀l:List Tf,(MJ l).Pairwise (λ a b=>a.t.name<=b.t.name)
 |[]=>.nil
 |x::l=>mN x (mO l)
theorem AH9(l:List Tf):(MJ l).map (λ x=>x.t.name)=BN (l.map λ x=>x.t.name):=
 mM ((PX l).map _) (List.pairwise_map.2 (mO l))
def EX(ns:List A1)(n:A1):Int:=(ns.idxOf n:Nat)
theorem AI0{ns:List A1}{n:A1}(h:n∈ns):0<=EX ns n/\EX ns n<len ns:=⟨Int.natCast_nonneg _,Int.ofNat_lt.2 (List.idxOf_lt_length_of_mem h)⟩
def EK(ns:List A1)(gs:List Tf):List Tf:=(ns.zip gs).map λ q=>q.2.named q.1
theorem Tf.mP (g:Tf)(n:A1):(g.named n).t.name=n:=by cases g;rfl
theorem cE{ns:List A1}{gs:List Tf}(h:ns.length=gs.length)(n:A1)(g:Tf):EK (ns++[n]) (gs++[g])=EK ns gs++[g.named n]:=by
 unfold EK;rw[List.zip_append h];simp
theorem X4{ns:List A1}{gs:List Tf}(h:ns.length=gs.length):(EK ns gs).map (λ x=>x.t.name)=ns:=by
 unfold EK
 rw[List.map_map]
 have:((λ x:Tf=>x.t.name) ∘ λ q:A1×Tf=>q.2.named q.1)=Prod.fst:=by funext q;exact Tf.mP _ _
 rw[this];exact List.map_fst_zip (by omega)
theorem AI1{ns:List A1}{gs:List Tf}(h:ns.length=gs.length)(hn:ns.Nodup){y:Tf}(hy:y∈EK ns gs):y=(at' gs (EX ns y.t.name)).named y.t.name:=by
 unfold EK at hy
 obtain⟨⟨n,g⟩,hq,rfl⟩:=List.mem_map.1 hy
 obtain⟨i,hi,he⟩:=List.getElem_of_mem hq
 rw[List.length_zip]at hi
 rw[List.getElem_zip]at he
 simp only[Prod.mk.injEq]at he
 obtain⟨rfl,rfl⟩:=he
 rw[Tf.mP]
 have e:EX ns (ns[i]'(by omega))=(i:Int):=by
  unfold EX;congr 1
  exact List.Nodup.idxOf_getElem hn i (by omega)
 rw[e]
 congr 1
 unfold at'
 simp[List.getElem?_eq_getElem (show i<gs.length by omega)]
def E6:List A1->List AX->Nat->List SV
 |n::ns,h::hs,k=>⟨n,h.v,k⟩::E6 ns hs (k+1)
 |_,_,_=>[]
theorem cF: ∀(ns:List A1) (hs:List AX) (k:Nat),ns.length=hs.length->(E6 ns hs k).map (·.key)=ns
 |[],_,_,_=>by simp[E6]
 |n::ns,[],_,h=>by simp at h
 |n::ns,x::hs,k,h=>by simp only[E6,List.map_cons,cF ns hs (k+1) (by simpa using h)]
theorem mQ: ∀(ns:List A1) (hs:List AX) (k:Nat),ns.length=hs.length->(E6 ns hs k).map (·.born)=List.range' k ns.length
 |[],_,_,_=>by simp[E6]
 |n::ns,[],_,h=>by simp at h
 |n::ns,x::hs,k,h=>by simp only[E6,List.map_cons,mQ ns hs (k+1) (by simpa using h),List.length_cons,List.range'_succ]
theorem X5: ∀(ns:List A1) (hs:List AX) (k:Nat) (n:A1),ns.length=hs.length->HJ (E6 ns hs k) n=if n∈ns then some (at' hs (EX ns n)).v else none
 |[],_,_,n,_=>by simp[E6,HJ]
 |m::ns,[],_,_,h=>by simp at h
 |m::ns,x::hs,k,n,h=>by
  show(if n==m then some x.v else HJ (E6 ns hs (k+1)) n)=_
  rw[X5 ns hs (k+1) n (by simpa using h)]
  by_cases e:n=m
  ·subst e
   rw[if_pos (by simp),if_pos (by simp)]
   unfold EX;rw[List.idxOf_cons_self];rfl
  ·rw[if_neg (by simpa using e)]
   by_cases h2:n∈ns
   ·rw[if_pos h2,if_pos (by simp[h2])]
    congr 2
    unfold EX
    rw[List.idxOf_cons,show(m==n)=false from by simpa using λ h=>e h.symm]
    unfold at'
    simp
   ·rw[if_neg h2,if_neg (by simp[e,h2])]
theorem AI2{ns:List A1}{hs:List AX}{n:A1}{x:AX}(h:ns.length=hs.length)(hn:n ∉ ns):sset (E6 ns hs 0) ns.length n x.v=E6 (ns++[n]) (hs++[x]) 0/\PW (E6 ns hs 0) ns.length n x.v=(ns++[n]).length:=by
 have put: ∀(ns:List A1) (hs:List AX) (k:Nat),ns.length=hs.length->n ∉ ns->LF (E6 ns hs k) n x.v=none:=by
  intro ns
  induction ns with
  |nil=>intro hs k _ _;simp[E6,LF]
  |cons m ns ih=>
   intro hs k hl hm
   cases hs with
   |nil=>simp at hl
   |cons y hs=>
    simp only[E6,LF]
    rw[if_neg (by intro e;apply hm;rw[eq_of_beq e];simp),ih hs (k+1) (by simpa using hl) (λ e=>hm (by simp[e]))];rfl
 have app: ∀(ns:List A1) (hs:List AX) (k:Nat),ns.length=hs.length->E6 ns hs k++[⟨n,x.v,k+ns.length⟩]=E6 (ns++[n]) (hs++[x]) k:=by
  intro ns
  induction ns with
  |nil=>intro hs k hl;cases hs with|nil=>rfl|cons y hs=>simp at hl
  |cons m ns ih=>
   intro hs k hl
   cases hs with
   |nil=>simp at hl
   |cons y hs=>
    simp only[E6,List.cons_append]
    rw[<-ih hs (k+1) (by simpa using hl),List.length_cons,show k+1+ns.length=k+(ns.length+1) by omega]
 have hp:=put ns hs 0 h hn
 constructor
 ·unfold sset;rw[hp];dsimp only
  have:=app ns hs 0 h
  rw[Nat.zero_add]at this;exact this
 ·unfold PW;rw[hp];simp
theorem AI3{ns:List A1}{hs:List AX}(h:ns.length=hs.length):(∀p∈E6 ns hs 0,p.born<ns.length)/\((E6 ns hs 0).map (·.born)).Nodup:=by
 have hb:=mQ ns hs 0 h
 constructor
 ·intro p hp
  have:p.born∈(E6 ns hs 0).map (·.born):=List.mem_map.2 ⟨p,hp,rfl⟩
  rw[hb,List.mem_range']at this
  obtain⟨i,hi,he⟩:=this;omega
 ·rw[hb];exact List.nodup_range'
theorem AI4{ns:List A1}{hs:List AX}(h:ns.length=hs.length){vs:List SV}(hp:vs.Perm (E6 ns hs 0)):BN (vs.map (·.key))=BN ns:=by
 rw[AH8 (hp.map (·.key)),cF ns hs 0 h]
def MP(ns:List A1)(k:Int)(x:Fl):Fl:=if k<len ns then x.set 0 { at' x 0 with name:=at' ns k}else x
def GF(ns:List A1)(xs:List Fl):List Fl:=xs.mapIdx λ k x=>MP ns k x
theorem AI5(ns:List A1)(k:Int)(x:Fl):(MP ns k x).length=x.length:=by unfold MP;split<;>simp
theorem AI6(ns:List A1)(xs:List Fl)(x:Fl):GF ns (xs++[x])=GF ns xs++[MP ns (len xs) x]:=by unfold GF;rw[List.mapIdx_concat];rfl
theorem mR(ns:List A1)(xs:List Fl):len (GF ns xs)=len xs:=by unfold GF len;rw[List.length_mapIdx]
theorem mS(ns:List A1)(xs:List Fl):len (GF ns xs).flatten=len xs.flatten:=by
 have h:(GF ns xs).map List.length=xs.map List.length:=by
  apply List.ext_getElem?
  intro i
  unfold GF
  rw[List.getElem?_map,List.getElem?_map,List.getElem?_mapIdx]
  cases xs[i]? with
  |none=>rfl
  |some x=>simp[AI5]
 unfold len
 rw[List.length_flatten,List.length_flatten,h]
theorem mT(xs:List Fl):GF [] xs=xs:=by
 unfold GF
 have:(λ(k:Nat) (x:Fl)=>MP [] k x)=λ _ x=>x:=by funext k x;unfold MP;rw[if_neg (by rw[len_nil];omega)]
 rw[this];apply List.ext_getElem?;intro i;simp
theorem AI7{ns:List A1}{gs:List Tf}(h:ns.length=gs.length)(hn:ns.Nodup):GF (BN ns) ((BN ns).map λ n=>(at' gs (EX ns n)).flat)=(MJ (EK ns gs)).map Tf.flat:=by
 have e1:GF (BN ns) ((BN ns).map λ n=>(at' gs (EX ns n)).flat)=(BN ns).map λ n=>((at' gs (EX ns n)).named n).flat:=by
  unfold GF
  apply List.ext_getElem?
  intro i
  rw[List.getElem?_mapIdx,List.getElem?_map,List.getElem?_map]
  cases hi:(BN ns)[i]? with
  |none=>rfl
  |some n=>
   simp only[Option.map_some,Option.some.injEq]
   have hlt:=(List.getElem?_eq_some_iff.1 hi).1
   have ha:at' (BN ns) (i:Int)=n:=by unfold at';simp[hi]
   unfold MP
   rw[if_pos (by unfold len;omega),ha]
   exact Tf.jT _ _
 rw[e1]
 have e2:=AH9 (EK ns gs)
 rw[X4 h]at e2
 rw[<-e2,List.map_map]
 refine List.map_congr_left λ y hy=>?_
 have:=AI1 h hn ((PX _).mem_iff.1 hy)
 show((at' gs (EX ns y.t.name)).named y.t.name).flat=y.flat
 rw[<-this]
end Go.Eng
namespace Go.Proofs.YtmjpjbmeamnfpaaGreatDoor
open Go.Proofs.Tryz
open Go.Eng
abbrev PY(w0:World)(M0 M:Mem)(Rs:List HO)(x:Fl):Ending->World->Prop:=DT w0 M0 M Rs (λ h:AX=>h.v) (λ _=>True) (λ _=>[]) λ h=>[U0 h.v x]
theorem X6{w0 w:World}{M0 M:Mem}{Rs:List HO}{x:Fl}{e:Ending}(h:DT w0 M0 M Rs (λ u:Value=>u) (λ _=>True) (λ _=>[]) (λ u=>[U0 u x]) e w):PY w0 M0 M Rs x e w:=by
 obtain⟨u,M',h1,h2,h3,h4,h5⟩:=h
 have ht:=h4.told (k:=0) U
 obtain⟨a,c,hv,_⟩:=(ht.sl (i:=0) rfl).val
 exact⟨⟨a,x.length,c⟩,M',by rw[h1,hv],trivial,h3,by rw[hv]at h4;exact h4,AA⟩
theorem mU{w0 wv:World}{M0 M:Mem}{Rs:List HO}(v:Value)(hs:List AX)(xs:List Fl)(hS:St w0 M0 wv M Rs)(hu:(GA v hs xs).ok M)(hb:len xs.flatten<=1099511627776)(hr:len hs<=1099511627776):
  Calls prog 179 [v].toArray wv (PY w0 M0 M Rs xs.flatten):=by
 have hlr:=jS hu
 have hln:=A4 hs
 have hfn:=A4 xs.flatten
 refine AU (Hr:=Rs) AP func179 U ntmps179 [(0,GA v hs xs)] [] [.sl 0 v] U hS (CK hu AA) (λ B hB=>?_) U
 refine CD (σ:=Int×Int) (λ(k,t)=>⟨[(0,GA v hs xs)],[],[Z 0 (.sl 0 v),Z 3 (I t),Z 9 (.sl 0 v),Z 10 (I (len hs)),Z 11 (I k)]⟩) (λ(k,t)=>0<=k/\k<=len hs/\t=len (L6 xs k)) (λ(k,t)=>(len hs-k).toNat) (0,0) U (A0 U) U U ⟨by omega,by omega,rfl⟩ ?_
 rintro⟨k,t⟩ ⟨h0,h1,ht⟩
 have hfl:=WI xs k
 have hfk:=A4 (L6 xs k)
 refine A7 U (A0 U) U (λ hb1=>?_) (λ hb1=>?_)<;>simp only[zb]at hb1
 ·have hft:=aP (xs:=xs) h0 (by omega)
  have hf2:=WI xs (k+1)
  rw[hft,A5]at hf2
  have hak:=A4 (at' xs k)
  refine CX U (A0 U) (by omega) ?_
  refine IK 1 (B7 (at' hs k).v (at' xs k)) (λ w M hX=>WJ (hX.f.get (k:=0) U) h0 hb1) (W0 16 1 U ?_)
  refine A7 U (A0 U) (by omega) (λ hb2=>?_) (λ hb2=>?_)<;>simp only[zb]at hb2
  ·exfalso;omega
  exact C7 (k+1,t+len (at' xs k)) U (A0 U) (by omega) U ⟨by omega,by omega,by rw[hft,A5,ht]⟩ (by show Int.toNat _<Int.toNat _;omega)
 have hke:k=len hs:=by omega
 subst hke
 rw[jR (by omega)]at ht
 subst ht
 refine BQ [] (λ u:Value=>.sl 2 u) [] (λ u=>[(2,DF u [])]) U (A0 U) U U call227 U U (A0 U) U (λ w M hS hF=>(AG5 (len xs.flatten) hS hfn hb).mono λ e w' ⟨u,he,hs⟩=>⟨u,M,he,trivial,Mem.le.refl _,hs,AA⟩) (λ _=>rfl) (λ _=>rfl) λ u _=>?_
 refine CD (σ:=Int×Value×Fl) (λ(k,u,y)=>⟨[(0,GA v hs xs)],[(2,DF u y)],[Z 6 (.sl 2 u),Z 25 (.sl 0 v),Z 26 (I (len hs)),Z 27 (I k)]⟩) (λ(k,u,y)=>0<=k/\k<=len hs/\y=L6 xs k) (λ(k,u,y)=>(len hs-k).toNat) (0,u,[]) U (A0 U) U U ⟨by omega,by omega,rfl⟩ ?_
 rintro⟨k,u,y⟩ ⟨h0,h1,hy⟩
 refine A7 U (A0 U) U (λ hb1=>?_) (λ hb1=>?_)<;>simp only[zb]at hb1
 ·have hft:=aP (xs:=xs) h0 (by omega)
  have hf2:=WI xs (k+1)
  rw[hft,A5]at hf2
  refine CX U (A0 U) (by omega) ?_
  refine IK 1 (B7 (at' hs k).v (at' xs k)) (λ w M hX=>WJ (hX.f.get (k:=0) U) h0 hb1) (W0 32 1 U ?_)
  refine NC 120 U (A0 U) U U (A0 U) U underlying36 type48 U U Tm.cells_one (by rw[hy];omega) λ v'=>?_
  exact C7 (k+1,v',y++at' xs k) U (A0 U) (by omega) U ⟨by omega,by omega,by rw[hft,hy]⟩ (by show Int.toNat _<Int.toNat _;omega)
 rw[jR (by omega)]at hy
 subst hy
 exact A9 hB U U (A0 U) U U (A0 U) λ w M' hX=>X6 ⟨u,M',rfl,trivial,hX.le,hX.st,AA⟩
theorem AI8{w0 wv:World}{M0 M:Mem}{Rs:List HO}(v:Value)(x:Fl)(hS:St w0 M0 wv M Rs)(hx:(B7 v x).ok M)(h0:x≠[])(hb:len x<=1099511627776):
  Calls prog 138 [v].toArray wv (PY w0 M0 M Rs x):=by
 refine AU (Hr:=Rs) AP func138 U ntmps138 [(0,B7 v x)] [] [.sl 0 v] U hS (CK hx AA) (λ B hB=>?_) U
 refine CY (.v (.bool false)) U (A0 U) U U (λ w M hX=>.yE (hX.sl 0 U) (List.length_pos_iff.2 h0) (AN (v:=.sl 0 v) (E:=[]) U (A0 U)) underlying36) ?_
 refine A7 U (A0 U) U (λ hb1=>?_) (λ hb1=>?_)
 ·cases hb1
 refine PK 2 ([]:List Tm) Tm.cells 11 48 Tm.B4 U (A0 U) U U (A0 U) (λ w=>by kernel_rfl) U λ u=>?_
 refine NC 120 U (A0 U) U U (A0 U) U underlying36 type48 U U Tm.cells_one (by rw[len_nil];omega) λ v'=>?_
 exact A9 hB U U (A0 U) U U (A0 U) λ w M' hX=>X6 ⟨v',M',rfl,trivial,hX.le,hX.st,AA⟩
theorem AI9{w0 wv:World}{M0 M:Mem}{Rs:List HO}(t:Tm)(v:Value)(hs:List AX)(xs:List Fl)(hS:St w0 M0 wv M Rs)(hu:(GA v hs xs).ok M)(hb:len xs.flatten<=1000000000000)(hr:len hs<=1099511627776):
  Calls prog 139 [.agg t.cells.toArray,v].toArray wv (PY w0 M0 M Rs (t::xs.flatten)):=by
 refine AU (Hr:=Rs) AP func139 U ntmps139 [(0,GA v hs xs)] [] [.ag (K6 t.cells),.sl 0 v] U hS (CK hu AA) (λ B hB=>?_) U
 have hfn:=A4 xs.flatten
 refine F0 1 U (A0 U) U U U (A0 U) λ b=>?_
 refine MK [1,3,4,5] 5 (λ _ _ _ _ _ h=>h) U (A0 U) U EM (by decide+kernel) ?_
 refine jQ 1 3 U (A0 U) U U U ?_ ?_
 ·refine PK 2 [t] Tm.cells 11 48 Tm.B4 U (A0 U) U U (A0 U) (λ w=>by kernel_rfl) U λ u=>?_
  refine CL U (A0 U) U ?_
  refine D2 3 U (A0 U) U U U ?_
  refine BQ [] (λ u:AX=>.sl 3 u.v) [] (λ u=>[(3,DF u.v xs.flatten)]) U (A0 U) U U call179 U U (A0 U) U (λ w M hS hF=>mU v hs xs hS (hF.get (k:=0) U) (by omega) hr) (λ _=>rfl) (λ _=>rfl) λ u' _=>?_
  refine J7 3 U ?_
  refine CL U (A0 U) U ?_
  refine D2 4 U (A0 U) U U U ?_
  refine NC 120 U (A0 U) U U (A0 U) U underlying36 type48 U U Tm.cells_one (by simp only[A6,len_nil];omega) λ v'=>?_
  refine CL U (A0 U) U ?_
  refine D2 5 U (A0 U) U U U ?_
  refine CL U (A0 U) U ?_
  refine IP U (A0 U) U U U ?_
  exact A9 hB U U (A0 U) U U (A0 U) λ w M' hX=>X6 ⟨v',M',rfl,trivial,hX.le,hX.st.drop _ ((List.sublist_cons_self _ _).cons_cons _),AA⟩
 ·refine BQ [] (λ u:AX=>.sl 3 u.v) [] (λ u=>[(3,DF u.v xs.flatten)]) U (A0 U) U U call179 U U (A0 U) U (λ w M hS hF=>mU v hs xs hS (hF.get (k:=0) U) (by omega) hr) (λ _=>rfl) (λ _=>rfl) λ u' _=>?_
  refine J7 3 U ?_
  refine CL U (A0 U) U ?_
  refine D2 1 U (A0 U) U U U ?_
  refine PK 2 [t] Tm.cells 11 48 Tm.B4 U (A0 U) U U (A0 U) (λ w=>by kernel_rfl) U λ u=>?_
  refine CL U (A0 U) U ?_
  refine D2 4 U (A0 U) U U U ?_
  refine NC 120 U (A0 U) U U (A0 U) U underlying36 type48 U U Tm.cells_one (by simp only[A6,len_nil];omega) λ v'=>?_
  refine CL U (A0 U) U ?_
  refine D2 5 U (A0 U) U U U ?_
  refine CL U (A0 U) U ?_
  refine IP U (A0 U) U U U ?_
  exact A9 hB U U (A0 U) U U (A0 U) λ w M' hX=>X6 ⟨v',M',rfl,trivial,hX.le,hX.st.drop _ ((List.sublist_cons_self _ _).cons_cons _),AA⟩
theorem cG{w0 wv:World}{M0 M:Mem}{Rs:List HO}(t:Tm)(vn:Value)(ns:List A1)(v:Value)(hs:List AX)(xs:List Fl)(hS:St w0 M0 wv M Rs)(hn:Sl M 1 ns.length vn (ns.flatMap AZ))(hu:(GA v hs xs).ok M)(hne: ∀x∈xs,x≠[])(hb:len xs.flatten<=100000000000)(hr:len hs<=1048576):
  Calls prog 99 [.agg t.cells.toArray,vn,v].toArray wv (PY w0 M0 M Rs ({ t with many:=len xs}::(GF ns xs).flatten)):=by
 have hlr:=jS hu
 have hln:=A4 hs
 have hnl:=A4 ns
 rw[<-hlr]
 refine AU (Hr:=Rs) AP func99 U ntmps99 [(0,GA v hs xs),(1,kn vn 1 ns AZ)] [] [.ag (K6 t.cells),.sl 1 vn,.sl 0 v] U hS (CK hu (fc 1 hn DZ AA)) (λ B hB=>?_) U
 refine F0 1 U (A0 U) U U U (A0 U) λ b=>?_
 refine CX U (A0 U) U ?_
 refine TB 6 7 36 1 DN GO U ?_
 refine IK 8 (KE [] []) (λ w M hX=>⟨Sl.nil M 1,DZ,trivial⟩) ?_
 refine CD (σ:=Int×Value×List AX×List Fl) (λ(k,u,gs,ys)=>⟨[(0,GA v hs xs),(1,kn vn 1 ns AZ),(6,kn u 1 gs DN),(8,KE gs ys)],[(1,.box b [I t.op,I (len hs),.v (str t.name),.v (str t.s),I t.n,I t.c.kind,I t.c.many,.v (str t.c.name),.v (str t.c.s),.v (.bool t.c.neg),I t.c.e] 48),(6,.ho (.own 36 1 u gs.length (gs.flatMap DN)))],[Z 1 (.sl 1 vn),Z 3 (.bx 1 b 0),Z 7 (.sl 6 u),Z 13 (.sl 0 v),Z 14 (I (len hs)),Z 15 (I k)]⟩)
   (λ(k,u,gs,ys)=>0<=k/\k<=len hs/\ys=GF ns (Eng.sub xs 0 k)/\len gs=k) (λ(k,u,gs,ys)=>(len hs-k).toNat) (0,.slice none 0 0,[],[]) U (A0 U) U U ⟨by omega,by omega,rfl,rfl⟩ ?_
 rintro⟨k,u,gs,ys⟩ ⟨h0,h1,hy,hgl⟩
 refine A7 U (A0 U) U (λ hb1=>?_) (λ hb1=>?_)<;>simp only[zb]at hb1
 ·have hxm:=hne _ (at_mem (l:=xs) h0 (by omega))
  have hxp:=G0 hxm
  have hft:=aP (xs:=xs) h0 (by omega)
  have hf2:=WI xs (k+1)
  have hf3:=A4 (L6 xs k)
  rw[hft,A5]at hf2
  refine CX U (A0 U) (by omega) ?_
  refine IK 2 (B7 (at' hs k).v (at' xs k)) (λ w M hX=>WJ (hX.f.get (k:=0) U) h0 hb1) (W0 20 2 U ?_)
  refine BQ [] (λ u:AX=>.sl 5 u.v) [] (λ u=>[(5,DF u.v (at' xs k))]) U (A0 U) U U call138 U U (A0 U) U (λ w M hS hF=>AI8 (at' hs k).v (at' xs k) hS (hF.get (k:=2) U) hxm (by omega)) (λ _=>rfl) (λ _=>rfl) λ h5 _=>?_
  refine ES 0 (λ s=> ∃z:Fl,z=MP ns k (at' xs k)/\s=⟨[(0,GA v hs xs),(1,kn vn 1 ns AZ),(6,kn u 1 gs DN),(8,KE gs ys)],[(5,DF h5.v z),(1,.box b [I t.op,I (len hs),.v (str t.name),.v (str t.s),I t.n,I t.c.kind,I t.c.many,.v (str t.c.name),.v (str t.c.s),.v (.bool t.c.neg),I t.c.e] 48),(6,.ho (.own 36 1 u gs.length (gs.flatMap DN)))],[Z 1 (.sl 1 vn),Z 3 (.bx 1 b 0),Z 7 (.sl 6 u),Z 9 (.sl 5 h5.v),Z 13 (.sl 0 v),Z 14 (I (len hs)),Z 15 (I k)]⟩) U (A0 U) U U (λ hb2=>?_) (λ hb2=>?_) ?_
  ·simp only[zb]at hb2
   refine RG { at' (at' xs k) 0 with name:=at' ns k} rfl (A0 U) (by simp only[zb]<;>omega) U (A0 U) U sizeOf9 U U U (by omega) λ z hz=>?_
   exact B5 _ U (A0 U) U U ⟨z,by rw[hz];unfold MP;rw[if_pos hb2];rfl,rfl⟩
  ·simp only[zb]at hb2
   exact B5 _ U (A0 U) U U ⟨_,by unfold MP;rw[if_neg (by omega)],rfl⟩
  rintro s ⟨z,hz,rfl⟩
  refine J7 5 U ?_
  refine DS 9 [h5] DN 1 36 GO U (A0 U) U U (A0 U) (λ w=>by kernel_rfl) U λ v9=>?_
  refine ME 24 U (A0 U) U U (A0 U) U underlying43 type36 U U WE (by simp only[A6,len_nil];omega) λ v'=>?_
  refine IK 8 (KE (gs++[h5]) (ys++[z])) (λ w M hX=>⟨Sl.nil M 1,DZ,D1.snoc (hX.sl 5 U) (hX.f.get (k:=8) U).more⟩) ?_
  exact C7 (k+1,v',gs++[h5],ys++[z]) U (A0 U) (by omega) U ⟨by omega,by omega,by
    rw[NJ h0 (by omega),AI6,hy,hz]
    have:len (Eng.sub xs 0 k)=k:=by unfold Eng.sub;unfold len at*;rw[List.length_take,List.length_drop];simp only[Int.toNat_zero];omega
    rw[this],by rw[A5];show len gs+1=_;omega⟩ (by show Int.toNat _<Int.toNat _;omega)
 have hke:k=len hs:=by omega
 rw[L7 (by omega)]at hy
 subst hy
 have hnf:=mS ns xs
 refine BQ [] (λ u:AX=>.sl 3 u.v) [] (λ u=>[(3,DF u.v ({ t with many:=len hs}::(GF ns xs).flatten))]) U (A0 U) U U call139 U U (A0 U) U (λ w M hS hF=>AI9 { t with many:=len hs} u gs (GF ns xs) hS ⟨(hF.get (k:=6) U).sl,GO,(hF.get (k:=8) U).more⟩ (by omega) (by omega)) (λ _=>rfl) (λ _=>rfl) λ h3 _=>?_
 exact A9 hB U U (A0 U) U U (A0 U) λ w M' hX=>⟨h3,M',rfl,trivial,hX.le,hX.CQ [3] U,AA⟩
theorem X7{w0 wv:World}{M0 M:Mem}{Rs:List HO}(t:Tm)(v:Value)(h:AX)(x:Tf)(hS:St w0 M0 wv M Rs)(hv:Sl M 1 [h].length v ([h].flatMap DN))(hx:Sl M 11 x.flat.length h.v (x.flat.flatMap Tm.cells))(hb:len x.flat<=100000000000):
  Calls prog 99 [.agg t.cells.toArray,.slice none 0 0,v].toArray wv (PY w0 M0 M Rs (Tf.mk t [x]).flat):=by
 have:=cG (Rs:=Rs) t (.slice none 0 0) [] v [h] [x.flat] hS (Sl.nil M 1) ⟨hv,GO,hx,trivial⟩ (λ y hy=>by rw[List.mem_singleton.1 hy];exact x.aQ) (by simp only[List.flatten_cons,List.flatten_nil,A5,len_nil];omega) (by simp only[A6,len_nil];omega)
 rw[mT]at this
 rw[Tf.aR];exact this
theorem AJ0{w0 wv:World}{M0 M:Mem}{Rs:List HO}(t:Tm)(v:Value)(hs:List AX)(xs:List Tf)(hS:St w0 M0 wv M Rs)(hv:Sl M 1 hs.length v (hs.flatMap DN))(hr:D1 M 11 Tm.cells hs (xs.map Tf.flat))(hb:len (AM xs)<=100000000000)(hn:len xs<=1048576):
  Calls prog 99 [.agg t.cells.toArray,.slice none 0 0,v].toArray wv (PY w0 M0 M Rs (Tf.mk t xs).flat):=by
 have hl:=D1.len hr
 rw[List.length_map]at hl
 have:=cG (Rs:=Rs) t (.slice none 0 0) [] v hs (xs.map Tf.flat) hS (Sl.nil M 1) ⟨hv,GO,hr⟩ (λ y hy=>by obtain⟨x,_,rfl⟩:=List.mem_map.1 hy;exact x.aQ) (by rw[<-RU];omega) (by unfold len at*;omega)
 rw[mT]at this
 rw[Tf.aR,show len xs=len (xs.map Tf.flat) by unfold len;rw[List.length_map]];exact this
end Go.Proofs.YtmjpjbmeamnfpaaGreatDoor
