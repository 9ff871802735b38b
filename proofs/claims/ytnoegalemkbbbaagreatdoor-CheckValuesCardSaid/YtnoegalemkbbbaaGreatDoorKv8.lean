/- Lemmas for the card. -/
import Derived.Test.YtnoegalemkbbbaaGreatDoorKv7
set_option linter.unusedVariables false
set_option linter.unusedSimpArgs false
set_option maxRecDepth 100000
set_option maxRecDepth 100000
namespace Go.Eng
theorem PV.nP {P:Program}{C:World->Prop}{L:Env}{W:Bool}{d:Option Tmp}{ty:TypeId}{ps:String}{af:Array Edge}{gd:Option (Nat×Bool)}{t j e:TypeId}{x:Operand}{M:Mem}{sz n h i:Nat}{v:Value}{cs:List Value}(hS:Sl M sz n v cs)(k:0<n)(hx:AB L W x v)(l:P.underlying t=some (.slice e)):
  PV P C L W ⟨d,.binOp .eql t x (.const (.slice none h i)) j,ty,ps,af,gd⟩ (.bool false):=
 .bin hx .c λ _ w _=>by
  obtain⟨p,cap,rfl,_,_,hp⟩:=hS.val
  obtain⟨b,o,rfl,_⟩:=hp k
  have:=Lib.run_eql_slice_nil (P:=P) w t e (some ⟨b,o,none⟩) n cap h i l
  simp[go_sem,this,eqGuard]
end Go.Eng
namespace Go.Proofs.YtnoegalemkbbbaaGreatDoor
open Go.Proofs.Tryz
open Go.Eng
theorem Tm.cells_one (x:Tm): ∀u∈x.cells,u.oneCell'=true:=by intro u hu;simp[Tm.cells]at hu;rcases hu with rfl|rfl|rfl|rfl|rfl|rfl|rfl|rfl|rfl|rfl|rfl<;>rfl
abbrev C7(u:Value)(hs:List AI)(xs:List Fl):Kn:=⟨u,1,hs,BN,λ M=>B3 M 11 Tm.cells hs xs,λ _ _ hm h=>B3.mono hm h⟩
abbrev nQ(u:Value)(x:Fl):HO:=.priv 48 11 u x.length (x.flatMap Tm.cells)
abbrev NI(u:Value)(x:Fl):HX:=.pv 48 (kn u 11 x Tm.cells) Tm.AT
abbrev A7(u:Value)(x:Fl):Kn:=kn u 11 x Tm.cells
theorem F9{M:Mem}{u:Value}{hs:List AI}{xs:List Fl}(h:(C7 u hs xs).ok M){k:Int}(h0:0<=k)(h1:k<len hs):(A7 (at' hs k).v (at' xs k)).ok M:=⟨B3.at h.more h0 h1,Tm.AT,trivial⟩
theorem YC{M:Mem}{u:Value}{hs:List AI}{xs:List Fl}(h:(C7 u hs xs).ok M):len hs=len xs:=by have:=B3.len (f:=Tm.cells) h.more;unfold len;omega
abbrev V7(w0:World)(M0 M:Mem)(Rs:List HO)(x:Fl):Ending->World->Prop:=BJ w0 M0 M Rs (λ h:AI=>h.v) (λ _=>True) (λ _=>[]) λ h=>[nQ h.v x]
theorem nR{w0 w:World}{M0 M:Mem}{Rs:List HO}{x:Fl}{e:Ending}(h:BJ w0 M0 M Rs (λ u:Value=>u) (λ _=>True) (λ _=>[]) (λ u=>[nQ u x]) e w):V7 w0 M0 M Rs x e w:=by
 obtain⟨u,M',h1,q,l,b,s⟩:=h
 have n:=b.told (k:=0) U
 obtain⟨a,c,j,_⟩:=(n.sl (i:=0) rfl).val
 exact⟨⟨a,x.length,c⟩,M',by rw[h1,j],trivial,l,by rw[j]at b;exact b,A4⟩
theorem AL6{w0 h:World}{M0 M:Mem}{Rs:List HO}(v:Value)(x:Fl)(hS:St w0 M0 h M Rs)(hx:(A7 v x).ok M)(h0:x≠[])(j:len x<=1099511627776):
  Calls prog 166 [v].toArray h (V7 w0 M0 M Rs x):=by
 refine AJ (Hr:=Rs) AG func166 U ntmps166 [(0,A7 v x)] [] [.sl 0 v] U hS (AH hx A4) (λ B i=>AU (.v (.bool false)) U U (λ w M e=>.nP (e.sl 0 U) (List.length_pos_iff.2 h0) (A8 (v:=.sl 0 v) (E:=[]) U) underlying23) <|A1 U (λ b=>?_) (λ b=>?_)) U
 ·cases b
 exact IN 2 ([]:List Tm) Tm.cells 11 48 Tm.AT U U Ah U λ u=>IC 120 U U U underlying23 type48 U U Tm.cells_one (by rw[len_nil];omega) λ v'=>A2 i U U U λ w M' e=>nR ⟨v',M',rfl,trivial,e.le,e.st,A4⟩
end Go.Proofs.YtnoegalemkbbbaaGreatDoor
namespace Go.Eng
def DE(f:Fl)(i:Int)(us:List Tf)(R:Fl):Prop:=0<=i/\f.drop i.toNat=AP us++R
theorem Tf.FJ (u:Tf):u.flat= { u.t with many:=len u.ps}::AP u.ps:=by cases u;rfl
theorem JJ: ∀(a b:List Tf),AP (a++b)=AP a++AP b
 |[],b=>rfl
 |x::a,b=>by show x.flat++AP (a++b)=(x.flat++AP a)++AP b;rw[JJ a b,List.append_assoc]
theorem DE.step {f:Fl}{i:Int}{u:Tf}{us:List Tf}{R:Fl}(h:DE f i (u::us) R):i<len f/\at' f i= { u.t with many:=len u.ps}/\DE f (i+1) (u.ps++us) R:=by
 obtain⟨h0,h1⟩:=h
 have e:f.drop i.toNat= { u.t with many:=len u.ps}::(AP u.ps++(AP us++R)):=by
  rw[h1];show(u.flat++AP us)++R=_;rw[Tf.FJ];simp
 have b:i.toNat<f.length:=by
  rcases Nat.lt_or_ge i.toNat f.length with h|h
  ·exact h
  ·rw[List.drop_of_length_le h]at e;cases e
 refine⟨by unfold len;omega,?_,Aa,?_⟩
 ·obtain⟨k,j⟩:=CJ f h0 (by unfold len;omega)
  rw[j]
  have:=congrArg (·[0]?) e
  simpa[b]using this
 ·rw[show(i+1).toNat=i.toNat+1 by omega,<-List.drop_drop,e]
  show AP u.ps++(AP us++R)=_
  rw[JJ,List.append_assoc]
theorem DE.L4 {f:Fl}{i:Int}{us:List Tf}{R:Fl}(h:DE f i us R)(hi:i<=len f):i+len (AP us)+len R=len f:=by
 have:=congrArg List.length h.2
 rw[List.length_drop,List.length_append]at this
 unfold len at*
 have:=h.1;omega
theorem DE.part {f:Fl}{i j:Int}{u:Tf}{R:Fl}(h:DE f i [u] R)(e:DE f j [] R)(k:i<=j)(l:j<=len f):Eng.sub f i j=u.flat:=by
 have n:=h.L4 Aa
 have q:=e.L4 l
 have b:AP [u]=u.flat:=by show u.flat++AP []=_;simp[AP]
 have e2:len (AP [])=0:=rfl
 rw[b]at n
 unfold Eng.sub
 rw[h.2,b,show j.toNat-i.toNat=u.flat.length by have:=h.1;unfold len at*;omega]
 exact List.take_left
theorem DE.root (t:Tf):DE t.flat 1 t.ps []:=⟨Aa,by rw[Tf.FJ];show AP t.ps=_;simp⟩
theorem DE.next {f:Fl}{i:Int}{us:List Tf}{k:Nat}(h:DE f i (us.drop k) [])(b:k<us.length):DE f i [at' us k] (AP (us.drop (k+1))):=by
 refine⟨h.1,?_⟩
 rw[h.2]
 have e:us.drop k=at' us (k:Int)::us.drop (k+1):=by
  obtain⟨h1,j⟩:=CJ us (i:=(k:Int)) Aa (by unfold len;omega)
  rw[j]
  rw[List.drop_eq_getElem_cons b];simp
 rw[e]
 show(at' us (k:Int)).flat++AP _++[]=_
 simp[AP]
theorem Tf.YD (t:Tf):(at' t.flat 0).many=len t.ps:=by rw[Tf.FJ];rfl
theorem Tf.SE (t:Tf):at' t.flat 0= { t.t with many:=len t.ps}:=by rw[Tf.FJ];rfl
theorem Tf.MI (t:Tf):t.flat≠[]:=by rw[Tf.FJ];exact List.cons_ne_nil _ _
theorem Tf.ER (t:Tf):0<len t.flat:=by rw[Tf.FJ,AM];have:=A9 (AP t.ps);omega
theorem Tf.YE (t:Tf)(n:A0):(t.flat).set 0 { at' t.flat 0 with name:=n}=(t.named n).flat:=by cases t;rfl
theorem eB: ∀xs:List Tf,AP xs=(xs.map Tf.flat).flatten
 |[]=>rfl
 |x::xs=>by show x.flat++AP xs=_;rw[eB xs];rfl
theorem Tf.OS (t:Tm)(ps:List Tf):(Tf.mk t ps).flat= { t with many:=len ps}::(ps.map Tf.flat).flatten:=by rw[<-eB];rfl
theorem nS{x:Tf}: ∀ {xs:List Tf},x∈xs->len x.flat<=len (AP xs)
 |y::xs,h=>by
  have h1:=A9 y.flat
  have b:=A9 (AP xs)
  show _<=len (y.flat++AP xs)
  rw[AQ]
  rcases List.mem_cons.1 h with rfl|h
  ·omega
  ·have:=nS h;omega
theorem JT: ∀xs:List Tf,len xs<=len (AP xs)
 |[]=>Int.le_refl _
 |x::xs=>by
  have h1:=x.ER
  have b:=JT xs
  show _<=len (x.flat++AP xs)
  rw[AQ,AM];omega
theorem Tf.JU {t:Tf}(h:t.t.name=[]):t.named []=t:=by
 obtain⟨tm,ps⟩:=t
 have b:tm.name=[]:=h
 show Tf.mk { tm with name:=[]} ps=_
 rw[<-b]
def V8:Tf->Prop
 | .mk t [a,b]=>t.op=4->a.t.name=[]/\b.t.name=[]/\V8 b
 | .mk t _=>t.op≠4
theorem eC{x g:Tf}(h:x.t.op≠4):FI x g= .mk (AD 4) [x,g]:=by
 obtain⟨t,ps⟩:=x
 have e:t.op≠4:=h
 unfold FI
 split
 ·rename_i t a b g h1
  cases h1
  rw[if_neg e]
 ·rfl
theorem V8.no {x:Tf}(h:x.t.op≠4):V8 x:=by
 obtain⟨t,ps⟩:=x
 have i:t.op≠4:=h
 unfold V8
 split
 ·rename_i t a b h1;cases h1;exact λ e=>absurd e i
 ·rename_i h1 e;cases e;exact i
theorem nT{α:Type}[Inhabited α](l m:List α){i:Int}(h0:0<=i)(h1:i<len l):at' (l++m) i=at' l i:=by
 unfold at' len at*
 simp only[List.getD]
 rw[List.getElem?_append_left Aa]
end Go.Eng
namespace Go.Proofs.YtnoegalemkbbbaaGreatDoor
open Go.Proofs.Tryz
open Go.Eng
theorem AL7{w0 w:World}{M0 M:Mem}{s z:HO}{Rs:List HO}{b:Nat}{v:Value}{t:Tf}(hl:(A7 v t.flat).ok M)(hb:len t.flat<=1099511627776):
    lM prog 165 [.pointer (some ⟨b,0,none⟩)] t.ps.length w0 M0 (s::z:: .box b [v] 23::Rs)
      (λ k (y:AI)=>[.v (str (at' t.ps k).t.name),.sl 5 y.v]) (λ _ _=>True) (λ k y=>[(5,A7 y.v ((at' t.ps k).named []).flat)]) w M:=by
 intro σ I' Hy T l g0 ⟨D,E,hx⟩ hS hF hI hy
 have V:St w0 M0 w M (.box b [v] 23::D g0::E g0::(s::z::Rs)):=by
  rw[hx]at hS
  exact hS.perm (List.perm_middle (l₁:=[D g0,E g0,s,z])).symm
 have hmny:=t.YD
 have hpos:=t.ER
 have hps:=JT t.ps
 have hpl:len t.flat=1+len (AP t.ps):=by rw[Tf.FJ,AM];omega
 have hln:len t.ps=(t.ps.length:Int):=rfl
 refine YB (Hr:=s::z::Rs) AG func165 rfl ntmps165 rfl (λ w h=>by obtain⟨g,M',h,_⟩:=h;cases h) [(0,A7 v t.flat),(9,IE (T g0))] [(0,.box b [.sl 0 v] 23),(1,.ho (D g0)),(2,.ho (E g0))] [.v (.func (.yield l) #[] #[]),.bx 0 b 0] rfl V (AH hl (AH ⟨Sl.nil M 1,DC,hF⟩ A4)) (λ B hB=>B5 (σ:=Int×Nat×σ) (λ(i,k,g)=>⟨[(0,A7 v t.flat),(9,IE (T g))],[(0,.box b [.sl 0 v] 23),(1,.ho (D g)),(2,.ho (E g))],[Z 0 (.v (.func (.yield l) #[] #[])),Z 1 (.bx 0 b 0),Z 3 (I i),Z 10 (I (at' t.flat 0).many),Z 11 (I k)]⟩) (λ(i,k,g)=>DE t.flat i (t.ps.drop k) []/\k<=t.ps.length/\I' k g) (λ(i,k,g)=>t.ps.length-k) (1,0,g0) U U ⟨DE.root t,Nat.zero_le _,hI⟩ ?_) rfl
 rintro⟨i,k,g⟩ ⟨hi,hk,J⟩
 refine A1 U (λ K=>?_) (λ K=>?_)<;>simp only[zb]at K
 ·have F:k<t.ps.length:=by omega
  have A:=hi.next F
  have hi2:=A.step.1
  have hi0:=hi.1
  have W:=A.step.2.1
  refine B5 (σ:=Int×Int×List Tf) (λ(j,H,st)=>⟨[(0,A7 v t.flat),(9,IE (T g))],[(0,.box b [.sl 0 v] 23),(1,.ho (D g)),(2,.ho (E g))],[Z 0 (.v (.func (.yield l) #[] #[])),Z 1 (.bx 0 b 0),Z 3 (I i),Z 10 (I (at' t.flat 0).many),Z 11 (I k),Z 4 (I j),Z 5 (I H)]⟩) (λ(j,H,st)=>DE t.flat j st (AP (t.ps.drop (k+1)))/\H=len st/\i<=j/\j<=len t.flat/\(j=i->st=[at' t.ps (k:Int)])) (λ(j,H,st)=>(len t.flat-j).toNat) (i,1,[at' t.ps (k:Int)]) U U ⟨A,rfl,Aa,Aa,λ _=>rfl⟩ ?_
  rintro⟨j,H,st⟩ ⟨n,G,hit,L,X⟩
  refine A1 U (λ N=>?_) (λ N=>?_)<;>simp only[zb]at N
  ·cases st with
   |nil=>rw[len_nil]at G;omega
   |cons u st=>
    obtain⟨q1,q2,q3⟩:=n.step
    have q4:=q3.L4 Aa
    have q5:=JT (u.ps++st)
    have q6:=A9 (AP (t.ps.drop (k+1)))
    have q7:(at' t.flat j).many=len u.ps:=by rw[q2]
    rw[AQ]at q5
    rw[AM]at G
    have q8:=A9 u.ps
    have q9:=A9 st
    have q0:=n.1
    exact AX (j+1,H+((at' t.flat j).many-1),u.ps++st) U U ⟨q3,by rw[AQ];omega,Aa,Aa,λ h=>by omega⟩ Ag
  have hse:st=[]:=by
   have:=A9 st
   cases st with
   |nil=>rfl
   |cons u st=>have:=A9 st;rw[AM]at G;omega
  subst hse
  have hlt:i<j:=by
   rcases Int.lt_or_eq_of_le hit with h|h
   · exact h
   · cases X h.symm
  have q:=A.part n hit L
  have hpp:=Tf.ER (at' t.ps (k:Int))
  have hpl2:len (at' t.ps (k:Int)).flat<=len t.flat:=by rw[<-q,FG Aa hit L];omega
  refine FO (gd:=none) 4 i j U U U ⟨.i64,_,rfl,AF U⟩ ⟨.i64,_,rfl,AF U⟩ underlying23 sizeOf48 Aa U λ v4=>?_
  rw[q]
  refine AR [] (λ u:AI=>.sl 5 u.v) [] (λ u=>[(5,NI u.v (at' t.ps (k:Int)).flat)]) U U call166 U U (λ w M hS hF=>AL6 v4 _ hS (hF.get (k:=4) U) (Tf.MI _) Aa) λ O _=>?_
  obtain⟨v5,P⟩: ∃v5,v5=O.v:=⟨_,rfl⟩
  rw[<-P]
  clear P O
  refine HW { at' (at' t.ps (k:Int)).flat 0 with name:=[]} rfl U U sizeOf9 U U U Aa λ x5 Q=>?_
  rw[show((0:Int).toNat)=0 from rfl,Tf.YE]at Q
  subst Q
  refine C1 5 U ?_
  have hnm:(at' t.flat i).name=(at' t.ps (k:Int)).t.name:=by rw[W]
  refine AL4 (λ C=>[(1,.ho (D C)),(2,.ho (E C))]) [1,2] (γ:=σ) (pu:=I' (k+1)) (Fg:=λ C=>[(9,IE (T C))]) (Hg:=Hy) [9] U U U U U (λ w' M' hS' R hle=>?_) (hH:=λ C=>by rw[hx];rfl) λ C hg'=>?_
  ·have O:=R.get (k:=5) U
   have h6:Sl M' 11 ((at' t.ps (k:Int)).named []).flat.length v5 (((at' t.ps (k:Int)).named []).flat.flatMap Tm.cells):=O.sl
   obtain⟨a,c,hv⟩:=h6.shape
   have hp:(Hy g++(s::z:: .box b [v] 23::Rs)).Perm (D g::E g:: .box b [v] 23::s::z::Rs):=by
    rw[hx]
    exact((List.perm_middle (l₁:=[s,z])).cons _).cons _
   replace hv:v5=AI.v ⟨a,((at' t.ps (k:Int)).named []).flat.length,c⟩:=hv
   subst hv
   obtain⟨fn,tt',asg,bd,e1,e2⟩:=hy k g ⟨a,_,c⟩ w' M' F J trivial (hS'.perm hp) hle (AH O A4) (R.get (k:=9) rfl).more
   dsimp only at e1
   rw[<-hnm]at e1
   refine⟨fn,tt',asg,bd,e1,e2.mono λ e w2 h=>?_⟩
   obtain⟨C,M2,r1,r2,r3,r4,r5⟩:=h
   refine⟨C,M2,r1,r2,r3,?_,AH ⟨Sl.nil M2 1,DC,r5⟩ A4⟩
   refine r4.perm (List.Perm.append_left _ ?_)
   exact(List.perm_middle (l₁:=[s,z])).symm
  ·refine A1 U (λ S=>?_) (λ S=>?_)
   ·cases S
   ·refine AX (j,k+1,C) U U ⟨⟨n.1,?_⟩,F,hg'⟩ (by show t.ps.length-(k+1)<t.ps.length-k;omega)
    rw[n.2];simp[AP]
 ·have hk3:k=t.ps.length:=by omega
  refine UM hB U U λ w' M' hX=>⟨g,M',rfl,by rw[<-hk3];exact J,hX.le,hX.st.perm ?_,(hX.f.get (k:=9) U).more⟩
  rw[hx]
  exact List.perm_middle (l₁:=[D g,E g,s,z])
theorem AL8{w0 i:World}{M0 M:Mem}{Rs:List HO}{v:Value}{t:Tf}(hS:St w0 M0 i M Rs)(hl:(A7 v t.flat).ok M):
  Calls prog 133 [v].toArray i (BJ w0 M0 M Rs (λ b:Nat=>.func (.func 165) #[] #[.pointer (some ⟨b,0,none⟩)]) (λ _=>True) (λ _=>[]) λ b=>[.box b [v] 23]):=AJ (Hr:=Rs) AG func133 U ntmps133 [(0,A7 v t.flat)] [] [.sl 0 v] U hS (AH hl A4) (λ B j=>BQ 1 U U U λ b=>AU (.v (.func (.func 165) #[] #[.pointer (some ⟨b,0,none⟩)])) U U (λ w M e=>PV.makeFunc (xs:=[]) (ys:=[.tmp 1]) (vs:=[]) (us:=[.pointer (some ⟨b,0,none⟩)]) trivial ⟨A8 (v:=.bx 1 b 0) (E:=[]) U,trivial⟩) <|A2 j rfl rfl rfl λ w' M' e=>⟨b,M',rfl,trivial,e.le,e.st,λ x h=>by cases h⟩) U
abbrev V9(v:Value)(hs:List AI):HO:=.own 23 1 v hs.length (hs.flatMap BN)
abbrev DW(t:Tf):List Fl:=t.ps.map λ x=>(x.named []).flat
theorem nU{t:Tf}{k:Nat}(b:k<t.ps.length):(DW t).take (k+1)=(DW t).take k++[((at' t.ps (k:Int)).named []).flat]:=by
 obtain⟨h1,e⟩:=CJ t.ps (i:=(k:Int)) Aa (by unfold len;omega)
 rw[e,List.take_add_one]
 simp[DW,b]
theorem AL9{α:Type}{a b c:α}{l:List α}:l.Sublist (a::b::c::l):=List.sublist_append_right [a,b,c] l
theorem nV{α:Type}{a b c d:α}{l:List α}:l.Sublist (a::b::c::d::l):=List.sublist_append_right [a,b,c,d] l
theorem SF{w0 A:World}{M0 M:Mem}{Rs:List HO}{v:Value}{t:Tf}(hS:St w0 M0 A M Rs)(hl:(A7 v t.flat).ok M)(E:len t.flat<=1099511627776):
    Calls prog 77 [v].toArray A (BJ w0 M0 M Rs (λ g:Value×List AI=>g.1) (λ g=>len g.2=len t.ps) (λ g=>[(0,C7 g.1 g.2 (DW t))]) λ _=>[]):=by
 have F:=JT t.ps
 have G:len t.flat=1+len (AP t.ps):=by rw[Tf.FJ,AM];omega
 have H:len t.ps=(t.ps.length:Int):=rfl
 refine UP (Hr:=Rs) AG func77 U ntmps77 [(0,A7 v t.flat)] [] [.sl 0 v] U hS (AH hl A4) (λ B J=>BB 1 U zeroValue55 U λ n=>AR [] (λ b:Nat=>.v (.func (.func 165) #[] #[.pointer (some ⟨b,0,none⟩)])) [] (λ b=>[(2,.box b [.sl 0 v] 23)]) U U call133 U U (λ w M hS hF=>AL8 hS (hF.get (k:=0) U)) λ L _=>XI [2] U U <|XL 6 23 1 BN CN <|DU 9 (C7 (.slice none 0 0) [] []) (λ w M j=>⟨Sl.nil M 1,CN,trivial⟩) <|lU ⟨_,[(6,.ho (V9 (.slice none 0 0) [])),(1,.box n [.sl 6 (.slice none 0 0)] 55)],_⟩ U U U ?_) U
 refine AC7 (σ:=Value×List AI×List Fl) (τ:=AI) (λ g=>⟨[(0,A7 v t.flat),(6,kn g.1 1 g.2.1 BN),(9,C7 g.1 g.2.1 g.2.2)],[(1,.box n [.sl 6 g.1] 55),(6,.ho (V9 g.1 g.2.1))],[Z 3 (.bx 1 n 0)]⟩) (λ k g=>g.2.2=(DW t).take k/\g.2.1.length=k) (.slice none 0 0,[],[]) (λ k g y=>⟨[(5,A7 y.v ((at' t.ps (k:Int)).named []).flat),(0,A7 v t.flat),(6,kn g.1 1 g.2.1 BN),(9,C7 g.1 g.2.1 g.2.2)],[(1,.box n [.sl 6 g.1] 55),(6,.ho (V9 g.1 g.2.1))],[Z 5 (.sl 5 y.v),Z 3 (.bx 1 n 0)]⟩)
   (λ _ _ _ _ h=>h) U U call165 U ⟨rfl,rfl⟩ (λ _=>rfl) ⟨_,_,λ _=>rfl⟩ (λ w M l D r w' j=>AL7 (j.f.get (k:=0) U) E) (λ _ _=>rfl)
   (λ k g y l D r M C z hp=>?_) U (λ k g y l D r M C z hp=>?_) U (λ D g a w z=>?_)
 ·exact AW _ U U U
 ·obtain⟨q,hs,xs⟩:=g
  obtain⟨e,i⟩:=z
  exact BA 7 [y] BN 1 23 CN U U Ah U λ N=>F5 24 U U U underlying55 type23 U U OR (by simp only[AM,len_nil];unfold len at*;dsimp only at i;omega) λ v'=>DU 9 (C7 v' (hs++[y]) (xs++[((at' t.ps (k:Int)).named []).flat])) (λ w M j=>⟨j.sl 6 U,CN,B3.snoc (j.sl 5 U) (j.f.get (k:=9) U).more⟩) <|AW _ U U ⟨(v',hs++[y],xs++[((at' t.ps (k:Int)).named []).flat]),rfl,by dsimp only at e ⊢;rw[e,nU C],by dsimp only at i ⊢;rw[List.length_append,i];rfl⟩
 ·obtain⟨q,hs,xs⟩:=g
  obtain⟨e,i⟩:=z
  dsimp only at e
  rw[List.take_of_length_le (by simp[DW])]at e
  subst e
  refine XC 8 (λ _ _ _ _ h=>h) U (s:=⟨[(0,A7 v t.flat),(6,kn q 1 hs BN),(9,C7 q hs (DW t))],[(1,.box n [.sl 6 q] 55),(6,.ho (V9 q hs))],[Z 3 (.bx 1 n 0)]⟩) ?_ a w
  refine A2 (J.E6 U D) U U U λ w M j=>?_
  obtain⟨h1,K⟩:=j.shut
  exact⟨by simp,h1,(q,hs),M,rfl,by show(hs.length:Int)=_;rw[i];rfl,j.le,K.drop _ AL9,AH (j.f.get (k:=9) U) A4⟩
theorem A7.shape {M:Mem}{v:Value}{x:Fl}(h:(A7 v x).ok M): ∃s:AI,v=s.v:=by
 obtain⟨a,c,b⟩:=h.sl.shape
 exact⟨⟨a,_,c⟩,b⟩
abbrev FU(hs:List AI)(xs:List Fl):Kn:=⟨.slice none 0 0,1,([]:List A0),CX,λ M=>B3 M 11 Tm.cells hs xs,λ _ _ hm h=>B3.mono hm h⟩
end Go.Proofs.YtnoegalemkbbbaaGreatDoor
namespace Go.Eng
structure SG (l:List Tk):Prop where
 last: ∀i,0<=i->i<len l->(at' l i).kind≠6->i+1<len l
 JA: ∀t∈l,t.kind=5-> ∀b∈t.c.s,DO b=true
 num: ∀t∈l,t.kind=5->len t.c.s<=1048576/\t.c.e<=1000000000
 bd: ∀t∈l,len t.s<=1048576
 few:len l<=1048576
theorem KH{α β:Type}{r:PR α}{k:α->Int->PR β}{y:β}{m:Int}(h:r.bind k= .ok y m): ∃x j,r= .ok x j/\k x j= .ok y m:=by
 cases r with
 |er c p=>cases h
 |ok x j=>exact⟨x,j,rfl,h⟩
theorem eD{α:Type}{l:List Tk}{i e:Int}{x:α}{j:Int}(h:JS l i e= .ok x j):False:=by cases h
section
variable {l:List Tk} (hl:SG l) {i:Int} (h0:0<=i) (h1:i<len l)
include hl h0 h1
theorem AM0{m:A0}(h:CM l i m=true):i+1<len l:=hl.last i h0 h1 λ e=>by
 unfold CM at h;rw[e]at h;simp at h
theorem AM1{k:Int}(h:(at' l i).kind=k)(b:k≠6):i+1<len l:=hl.last i h0 h1 λ e=>b (by rw[<-h,e])
theorem BK3{m:A0}{u:Unit}{j:Int}(h:HC l i m= .ok u j):j=i+1/\j<len l/\CM l i m=true:=by
 unfold HC at h
 split at h
 ·rename_i hm;cases h;exact⟨rfl,AM0 hl h0 h1 hm,hm⟩
 ·exact(eD h).elim
theorem BK4{x:Int}{j:Int}(h:NG l i= .ok x j):j=i+1/\j<len l/\x<=1000000/\(at' l i).kind=5:=by
 unfold NG at h
 split at h
 ·exact(eD h).elim
 ·rename_i k
  split at h
  ·exact(eD h).elim
  ·cases h
   have b:(at' l i).kind=5:=Decidable.byContradiction λ e=>k (.inl e)
   exact⟨rfl,AM1 hl h0 h1 b Ab,Aa,b⟩
structure nW (l:List Tk) (i:Int) (x:Tf) (j:Int):Prop where
 lt:i<j
 le:j<len l
 pipe:V8 x
 name:x.t.name=[]
 size:len x.flat<=4*(j-i)
omit hl h0 h1 in
theorem Tf.eE (t:Tm):len (Tf.mk t []).flat=1:=by rw[Tf.OS];rfl
omit hl h0 h1 in
theorem nW.leaf {t:Tm}{j:Int}(ho:t.op≠4)(b:t.name=[])(e:i<j)(h:j<len l):nW l i (.mk t []) j:=⟨e,h,.no ho,b,by rw[Tf.eE];omega⟩
end
section
variable {l:List Tk} (hl:SG l) (q:A0->A0)
end
open Go.RowKit
theorem eF{s:A0}{p:Int}(c:UInt8):((A3 s p).toNat.toUInt8=c)↔A3 s p=(c.toNat:Int):=by
 unfold A3
 rw[Int.toNat_natCast,<-UInt8.toNat_inj]
 simp;omega
theorem eG(x:UInt8): ¬0<=Lib.indexByte [] x:=by unfold Lib.indexByte;decide
theorem eH(c x:UInt8)(l:List UInt8):0<=Lib.indexByte (c::l) x↔c=x\/0<=Lib.indexByte l x:=by
 have hm: ∀l:List UInt8,-1<=Lib.indexByte l x:=by
  intro l
  induction l with
  |nil=>unfold Lib.indexByte;decide
  |cons a l i=>unfold Lib.indexByte;(repeat' split)<;>omega
 have:=hm l
 rw[Lib.indexByte]
 by_cases h:c=x
 ·rw[if_pos (by simpa using h)];exact⟨λ _=>.inl h,λ _=>Int.le_refl _⟩
 ·rw[if_neg (by simpa using h)]
  by_cases h2:Lib.indexByte l x= -1
  ·rw[if_pos (by simpa using h2)];exact⟨λ b=>by omega,λ b=>b.elim (λ e=>absurd e h) (λ e=>by omega)⟩
  ·rw[if_neg (by simpa using h2)];exact⟨λ _=>.inr Aa,λ _=>by omega⟩
theorem SH{s:A0}{c:UInt8}{p:Int}:DA s [c] p=true↔p<len s/\A3 s p=(c.toNat:Int):=by
 unfold DA
 simp only[Bool.and_eq_true,decide_eq_true_eq,eH,eG,or_false]
 rw[<-eF c,eq_comm (a:=c)]
theorem nX{s:A0}{c d:UInt8}{p:Int}:DA s [c,d] p=true↔p<len s/\(A3 s p=(c.toNat:Int)\/A3 s p=(d.toNat:Int)):=by
 unfold DA
 simp only[Bool.and_eq_true,decide_eq_true_eq,eH,eG,or_false]
 rw[<-eF c,<-eF d,eq_comm (a:=c),eq_comm (a:=d)]
def KI(s:A0):Int×Int×Bool:=
 let a:Int:=if 0<len s/\A3 s 0=45 then 1 else 0
 if AZ s a=a then(a,a,false)else if A3 s a=48 then(a,a+1,true)else(a,AZ s a,true)
def FV(s:A0)(i:Int):Int×A0×Int:=
 if i=len s\/ ¬(A3 s i=101\/A3 s i=69)then(0,[],i)
 else if i+1<len s/\(A3 s (i+1)=43\/A3 s (i+1)=45)then
  (if A3 s (i+1)=45 then-1 else 1,Eng.sub s (i+1+1) (AZ s (i+1+1)),AZ s (i+1+1))
 else(1,Eng.sub s (i+1) (AZ s (i+1)),AZ s (i+1))
def HF(s:A0)(fg:A0)(e:Int)(i:Int):Nd×Int×Int:=
 let p:=FV s i
 if p.2.2<len s\/(p.1≠0/\p.2.1=[])then(BY,p.2.2,1)
 else if 6<len (AY p.2.1)then(BY,0,2)
 else((CL (A3 s 0==45) fg (e+p.1*D7 (AY p.2.1))).1,0,(CL (A3 s 0==45) fg (e+p.1*D7 (AY p.2.1))).2)
def VA(s:A0):Nd×Int×Int:=
 let wh:=KI s
 if wh.2.2=false then(BY,wh.1,1)
 else if wh.2.1<len s/\A3 s wh.2.1=46 then
  if AZ s (wh.2.1+1)=wh.2.1+1 then(BY,AZ s (wh.2.1+1),1)
  else HF s (Eng.sub s wh.1 wh.2.1++Eng.sub s (wh.2.1+1) (AZ s (wh.2.1+1))) (wh.2.1+1-AZ s (wh.2.1+1)) (AZ s (wh.2.1+1))
 else HF s (Eng.sub s wh.1 wh.2.1) 0 wh.2.1
theorem SI{α:Type}{s:List α}{i j:Int}(h0:0<=i)(h1:i<=j)(b:j<=len s):Eng.sub s i j=[]↔j=i:=by
 constructor
 ·intro h
  have:=FG h0 h1 b
  rw[h,len_nil]at this;omega
 ·rintro rfl;unfold Eng.sub;simp
theorem QC{s:A0}{i j k:Int}(h0:0<=i)(h1:0<=k)(b:i+k<j)(e:j<=len s):A3 (Eng.sub s i j) k=A3 s (i+k):=by
 unfold A3 Eng.sub
 rw[List.getD_eq_getElem?_getD,List.getElem?_take,if_pos Aa,List.getElem?_drop,<-List.getD_eq_getElem?_getD,show i.toNat+k.toNat=(i+k).toNat from by omega]
theorem eI{s h:A0}{x b c2 side:Int}{e:A0}(hp:FV s b=(side,e,c2))(h0:side≠0):HF s h x b=if e=[]\/c2<len s then(BY,c2,1)else JI (A3 s 0==45) h x e side:=by
 unfold HF JI
 rw[hp]
 dsimp only
 by_cases c3:e=[]\/c2<len s
 ·rw[if_pos c3,if_pos (by rcases c3 with c3|c3;exact .inr ⟨h0,c3⟩;exact .inl c3)]
 ·rw[if_neg c3,if_neg (by rintro(c4|⟨_,c4⟩);exact c3 (.inr c4);exact c3 (.inl c4))]
theorem nY{s:A0}{neg:Bool}{z:A0}{x b:Int}(j:neg=(A3 s 0==45))(h0:0<=b)(h1:b<=len s):
  IQ s neg z x b=HF s z x b:=by
 subst j
 have n:= @nX s 101 69 b
 have e2:= @SH s 45 (b+1)
 have e3:= @SH s 43 (b+1)
 simp only[show((101:UInt8).toNat:Int)=101 from rfl,show((69:UInt8).toNat:Int)=69 from rfl,show((45:UInt8).toNat:Int)=45 from rfl,show((43:UInt8).toNat:Int)=43 from rfl]at n e2 e3
 unfold IQ
 by_cases c1:DA s [101,69] b=true
 ·have q:=n.1 c1
  have e: ¬(b=len s\/ ¬(A3 s b=101\/A3 s b=69)):=by rintro(h|h);omega;exact h q.2
  rw[if_pos c1,S1 c1]
  unfold XR
  by_cases c2:DA s [45] (b+1)=true
  ·have i:=e2.1 c2
   have hp:FV s b=(-1,Eng.sub s (b+1+1) (AZ s (b+1+1)),AZ s (b+1+1)):=by
    unfold FV;rw[if_neg e,if_pos ⟨i.1,.inr i.2⟩,if_pos i.2]
   rw[eI hp Ab,S1 c2]
   simp only[c2,if_true]
  ·rw[S2 (by simpa using c2)]
   by_cases c4:DA s [43] (b+1)=true
   ·have k:=e3.1 c4
    have hp:FV s b=(1,Eng.sub s (b+1+1) (AZ s (b+1+1)),AZ s (b+1+1)):=by
     unfold FV;rw[if_neg e,if_pos ⟨k.1,.inl k.2⟩,if_neg Aa]
    rw[eI hp Ab,S1 c4]
    simp only[c2,Bool.false_eq_true,if_false]
   ·rw[S2 (by simpa using c4)]
    have w: ¬(b+1<len s/\(A3 s (b+1)=43\/A3 s (b+1)=45)):=by
     rintro⟨l,y|y⟩
     ·exact c4 (e3.2 ⟨l,y⟩)
     ·exact c2 (e2.2 ⟨l,y⟩)
    have hp:FV s b=(1,Eng.sub s (b+1) (AZ s (b+1)),AZ s (b+1)):=by
     unfold FV;rw[if_neg e,if_neg w]
    rw[eI hp Ab]
    simp only[c2,Bool.false_eq_true,if_false]
 ·have w:b=len s\/ ¬(A3 s b=101\/A3 s b=69):=by
   by_cases h:b=len s
   ·exact .inl h
   ·exact .inr λ l=>c1 (n.2 ⟨Aa,l⟩)
  have hp:FV s b=(0,[],b):=by unfold FV;rw[if_pos w]
  rw[if_neg c1,S2 (by simpa using c1)]
  unfold HF JI
  rw[hp]
  dsimp only
  by_cases c3:b<len s
  ·rw[if_pos c3,if_pos (.inl c3)]
  ·rw[if_neg c3,if_neg (show ¬(b<len s\/((0:Int)≠0/\([]:A0)=[]))from by rintro(h|h);exact c3 h;exact h.1 rfl)]
   simp only[show AY []=[]from rfl,len_nil,show ¬((6:Int)<0)from by decide,if_false,show D7 []=0 from rfl,Int.mul_zero]
theorem nZ{s:A0}{a:Int}(b:BL s [45] 0=a):GK s=
 if 1<len (Eng.sub s a (AZ s a))/\A3 (Eng.sub s a (AZ s a)) 0=48 then(BY,a+1,1)
 else if Eng.sub s a (AZ s a)=[]then(BY,AZ s a,1)
 else if DA s [46] (AZ s a)then
  if Eng.sub s (BL s [46] (AZ s a)) (AZ s (BL s [46] (AZ s a)))=[]then(BY,AZ s (BL s [46] (AZ s a)),1)
  else IQ s (DA s [45] 0) (Eng.sub s a (AZ s a)++Eng.sub s (BL s [46] (AZ s a)) (AZ s (BL s [46] (AZ s a)))) (-(len (Eng.sub s (BL s [46] (AZ s a)) (AZ s (BL s [46] (AZ s a)))))) (AZ s (BL s [46] (AZ s a)))
 else IQ s (DA s [45] 0) (Eng.sub s a (AZ s a)) 0 (BL s [46] (AZ s a)):=by subst b;rfl
theorem eJ{s:A0}{a b:Int}(hw:KI s=(a,b,true)):VA s=
  if b<len s/\A3 s b=46 then
   if AZ s (b+1)=b+1 then(BY,AZ s (b+1),1)
   else HF s (Eng.sub s a b++Eng.sub s (b+1) (AZ s (b+1))) (b+1-AZ s (b+1)) (AZ s (b+1))
  else HF s (Eng.sub s a b) 0 b:=by
 unfold VA;rw[hw];simp only[Bool.true_eq_false,if_false]
theorem o3{s:A0}{a b:Int}{neg:Bool}(l:neg=(A3 s 0==45))(h0:0<=a)(h1:a<=b)(w:b<=len s):
  (if DA s [46] b then
   if Eng.sub s (BL s [46] b) (AZ s (BL s [46] b))=[]then(BY,AZ s (BL s [46] b),1)
   else IQ s neg (Eng.sub s a b++Eng.sub s (BL s [46] b) (AZ s (BL s [46] b))) (-(len (Eng.sub s (BL s [46] b) (AZ s (BL s [46] b))))) (AZ s (BL s [46] b))
  else IQ s neg (Eng.sub s a b) 0 (BL s [46] b))=
  if b<len s/\A3 s b=46 then
   if AZ s (b+1)=b+1 then(BY,AZ s (b+1),1)
   else HF s (Eng.sub s a b++Eng.sub s (b+1) (AZ s (b+1))) (b+1-AZ s (b+1)) (AZ s (b+1))
  else HF s (Eng.sub s a b) 0 b:=by
 have n:= @SH s 46 b
 simp only[show((46:UInt8).toNat:Int)=46 from rfl]at n
 by_cases c3:DA s [46] b=true
 ·have q:=n.1 c3
  rw[if_pos c3,if_pos q,S1 c3]
  have e:=Q3 s (b+1) Aa Aa
  have k:=SI (s:=s) (i:=b+1) (j:=AZ s (b+1)) Aa e.1 e.2
  by_cases c4:AZ s (b+1)=b+1
  ·rw[if_pos c4,if_pos (k.2 c4)]
  ·rw[if_neg c4,if_neg (λ h=>c4 (k.1 h))]
   rw[nY l Aa e.2,FG Aa e.1 e.2]
   congr 1;omega
 ·rw[if_neg c3,if_neg (λ h=>c3 (n.2 h)),S2 (by simpa using c3)]
  rw[nY l Aa Aa]
theorem AM2(s:A0):VA s=GK s:=by
 have e:= @SH s 45 0
 simp only[show((45:UInt8).toNat:Int)=45 from rfl]at e
 have hl:=A9 s
 have i:DA s [45] 0=(A3 s 0==45):=by
  rw[Bool.eq_iff_iff,e,beq_iff_eq]
  refine⟨λ h=>h.2,λ h=>⟨?_,h⟩⟩
  rcases Int.lt_or_le 0 (len s)with w|w
  ·exact w
  ·have:s=[]:=by cases s with|nil=>rfl|cons a l=>rw[AM]at w;have:=A9 l;omega
   subst this;revert h;decide
 have y:(if 0<len s/\A3 s 0=45 then(1:Int)else 0)=BL s [45] 0:=by
  unfold BL
  by_cases c:DA s [45] 0=true
  ·rw[if_pos c,if_pos (e.1 c)];rfl
  ·rw[if_neg c,if_neg (λ h=>c (e.2 h))]
 have b:=dM s [45] 0 hl
 generalize hA:BL s [45] 0=a at*
 have hw:KI s=if AZ s a=a then(a,a,false)else if A3 s a=48 then(a,a+1,true)else(a,AZ s a,true):=by unfold KI;simp only[y]
 have n:=Q3 s a b.1 b.2
 have j:=SI b.1 n.1 n.2
 have z:=FG b.1 n.1 n.2
 rw[nZ hA]
 by_cases c0:AZ s a=a
 ·rw[if_pos c0]at hw
  have hs:=j.2 c0
  rw[hs,if_neg (by rw[len_nil];omega),if_pos U,c0]
  unfold VA;rw[hw];rfl
 ·rw[if_neg c0]at hw
  have hs: ¬Eng.sub s a (AZ s a)=[]:=λ h=>c0 (j.1 h)
  have q:A3 (Eng.sub s a (AZ s a)) 0=A3 s a:=by rw[QC b.1 Aa Aa n.2,Int.add_zero]
  by_cases c1:A3 s a=48
  ·rw[if_pos c1]at hw
   by_cases c2:1<len (Eng.sub s a (AZ s a))
   ·have k:= @mH s a (a+1) b.1 Aa Aa
    unfold CD at k
    simp only[Bool.and_eq_true,decide_eq_true_eq]at k
    have hp:FV s (a+1)=(0,[],a+1):=by unfold FV;rw[if_pos (.inr Aa)]
    rw[if_pos ⟨c2,by rw[q,c1]⟩,eJ hw,if_neg Aa]
    unfold HF;rw[hp];dsimp only
    rw[if_pos (.inl Aa)]
   ·have he:AZ s a=a+1:=by omega
    rw[he]at c2 hs n
    rw[he,if_neg (λ h=>c2 h.1),if_neg hs,o3 i b.1 Aa Aa,eJ hw]
  ·rw[if_neg c1]at hw
   rw[if_neg (λ h=>c1 (by rw[<-q];exact h.2)),if_neg hs,o3 i b.1 Aa Aa,eJ hw]
theorem AM3{s:A0}{i:Int}(h0:0<=i)(h1:i<=len s):(-1<=(FV s i).1/\(FV s i).1<=1)/\(0<=len (FV s i).2.1/\len (FV s i).2.1<=len s)/\(i<=(FV s i).2.2/\(FV s i).2.2<=len s)/\ ∀b∈(FV s i).2.1,DO b=true:=by
 unfold FV
 split
 ·refine⟨by dsimp only;omega,⟨Int.le_refl _,A9 s⟩,by dsimp only;omega,by intro b e;cases e⟩
 ·rename_i j
  have k:i<len s:=by
   rcases Int.lt_or_le i (len s)with h|h
   ·exact h
   ·exact absurd (.inl Aa) j
  split
  ·rename_i n
   have l:=Q3 s (i+1+1) Aa Aa
   refine⟨by dsimp only;split<;>omega,Q4 _ _ _,by dsimp only;omega,XU Aa⟩
  ·have l:=Q3 s (i+1) Aa Aa
   refine⟨by dsimp only;omega,Q4 _ _ _,by dsimp only;omega,XU Aa⟩
theorem AM4{t:A0}(h: ∀b∈t,DO b=true)(hl:len t<=6)(k:Int):0<=D7 (Eng.sub t 0 k)/\D7 (Eng.sub t 0 k)<1000000:=by
 have h1:=mN (Eng.sub t 0 k) 0 (λ b e=>h b ((List.take_sublist _ _).subset e|>λ x=>by simpa using x)) Aa
 have i:=Q4 t 0 k
 have j:(10:Int)^ (Eng.sub t 0 k).length<=10^6:=by
  have:(10:Nat)^ (Eng.sub t 0 k).length<=10^6:=Nat.pow_le_pow_right Aa (by unfold len at*;omega)
  exact_mod_cast this
 unfold D7;omega
theorem AM5(s:A0):0<=(KI s).1/\(KI s).1<=len s/\(KI s).1<=(KI s).2.1/\(KI s).2.1<=len s/\((KI s).2.2=true->0<len s):=by
 have hl:=A9 s
 have key: ∀a:Int,0<=a->a<=len s->(let w:=if AZ s a=a then(a,a,false)else if A3 s a=48 then(a,a+1,true)else(a,AZ s a,true);0<=w.1/\w.1<=len s/\w.1<=w.2.1/\w.2.1<=len s/\(w.2.2=true->0<len s)):=by
  intro a h0 h1
  have b:=Q3 s a h0 h1
  dsimp only
  split
  ·exact⟨h0,h1,Int.le_refl _,h1,λ h=>by cases h⟩
  ·split
   ·refine⟨h0,h1,?_,?_,λ _=>?_⟩<;>(try dsimp only)<;>omega
   ·refine⟨h0,h1,?_,?_,λ _=>?_⟩<;>(try dsimp only)<;>omega
 unfold KI
 exact key _ (by split<;>omega) (by split<;>omega)
theorem AM6(s:A0):0<=(GK s).2.1/\(GK s).2.1<=len s/\((GK s).2.2=0\/(GK s).2.2=1\/(GK s).2.2=2\/(GK s).2.2=4):=by
 have j: ∀(neg:Bool) (b:A0) (x:Int),(CL neg b x).2=0\/(CL neg b x).2=2\/(CL neg b x).2=4:=by
  intro neg b x;unfold CL;(repeat' split)<;>simp
 have hw:=AM5 s
 have hl:=A9 s
 have hx: ∀(b:A0) (e i:Int),0<=i->i<=len s->0<=(HF s b e i).2.1/\(HF s b e i).2.1<=len s/\((HF s b e i).2.2=0\/(HF s b e i).2.2=1\/(HF s b e i).2.2=2\/(HF s b e i).2.2=4):=by
  intro b e i h0 h1
  have hp:=AM3 h0 h1
  unfold HF
  dsimp only
  split
  ·exact⟨by dsimp only;omega,by dsimp only;omega,.inr (.inl U)⟩
  ·split
   ·exact⟨Int.le_refl _,hl,.inr (.inr (.inl U))⟩
   ·refine⟨Int.le_refl _,hl,?_⟩
    dsimp only
    have:=j (A3 s 0==45) b (e+(FV s i).1*D7 (AY (FV s i).2.1))
    rcases this with h|h|h<;>rw[h]<;>simp
 rw[<-AM2]
 unfold VA
 dsimp only
 split
 ·exact⟨by dsimp only;omega,by dsimp only;omega,.inr (.inl U)⟩
 ·split
  ·rename_i k
   have l:=Q3 s ((KI s).2.1+1) Aa Aa
   split
   ·exact⟨by dsimp only;omega,by dsimp only;omega,.inr (.inl U)⟩
   ·exact hx _ _ _ Aa Aa
  ·exact hx _ _ _ Aa Aa
def QD(e:Int×Int):A0×Int:=if e.2=0 then([],0)else(toStr (Lib.encodeRuneZ e.1),e.2)
def HZ(s:A0)(i:Int):A0×Int:=if A3 s i=92 then QD (C0 (A5 s i))else(Eng.sub s i (i+rune s i),rune s i)
def MJ(f:Nat)(s:A0)(i:Int)(o:A0):Prop:= ∃acc,o=toStr acc/\DV f s i acc=B4 s
theorem YF(a b:List Int):toStr (a++b)=toStr a++toStr b:=List.map_append
theorem JK{s:A0}{i:Int}(h0:0<=i)(h1:i<len s){c:Int}(h:c<128):B2 s i=c↔A3 s i=c:=by
 rcases ME h0 h1 with⟨_,b,_,e⟩|⟨_,_,_,_,b,e⟩<;>omega
theorem o4{s:A0}{i:Int}(h0:0<=i)(h1:i<len s){c:Int}(h:c<=128):B2 s i<c↔A3 s i<c:=by
 rcases ME h0 h1 with⟨_,b,_,e⟩|⟨_,_,_,_,b,e⟩<;>omega
theorem YG{s:A0}{i:Int}(h0:0<=i)(h1:i<len s):rune s i=0↔(B2 s i=65533/\runeLen s i=1):=by
 rcases ME h0 h1 with⟨e,j,b,_⟩|⟨e,j,b,_,_⟩
 ·exact⟨λ _=>⟨j,b⟩,λ _=>e⟩
 ·exact⟨λ h=>by omega,λ h=>absurd h b⟩
theorem MJ.quote {f:Nat}{s o:A0}{i:Int}(h:MJ f s i o)(b:(len s-i).toNat<=f)(h0:0<=i)(h1:i<len s)(e:A3 s i=34):B4 s=(o,i+1,0):=by
 obtain⟨acc,rfl,h⟩:=h
 rw[<-h,S3 b h1,if_pos (by rw[S5 s i h0,JK h0 h1 Ab];exact e)]
theorem MJ.bad {f:Nat}{s o:A0}{i:Int}(h:MJ f s i o)(e:(len s-i).toNat<=f)(h0:0<=i)(h1:i<len s)(j: ¬A3 s i=34)(b:(HZ s i).2=0\/A3 s i<32):B4 s=([],i,1):=by
 obtain⟨acc,rfl,h⟩:=h
 rw[<-h,S3 e h1,S5 s i h0,Q7 s i h0,if_neg (by rw[JK h0 h1 Ab];exact j)]
 unfold HZ QD at b
 by_cases h4:A3 s i=92
 ·rw[if_pos (by rw[JK h0 h1 Ab];exact h4)]
  rw[if_pos h4]at b
  have:(C0 (A5 s i)).2=0:=by
   rcases b with b|b
   ·split at b
    ·assumption
    ·exact b
   ·omega
  rw[if_pos this]
 ·rw[if_neg (by rw[JK h0 h1 Ab];exact h4)]
  rw[if_neg h4]at b
  dsimp only at b
  rw[if_pos]
  rcases b with b|b
  ·exact .inr ((YG h0 h1).1 b)
  ·exact .inl ((o4 h0 h1 Ab).2 b)
theorem MJ.step {f:Nat}{s o:A0}{i:Int}(h:MJ f s i o)(j:(len s-i).toNat<=f)(h0:0<=i)(h1:i<len s)(k: ¬A3 s i=34)(e: ¬((HZ s i).2=0\/A3 s i<32)):
  MJ (f-1) s (i+(HZ s i).2) (o++(HZ s i).1):=by
 obtain⟨acc,rfl,h⟩:=h
 rw[S3 j h1,S5 s i h0,Q7 s i h0,if_neg (by rw[JK h0 h1 Ab];exact k)]at h
 unfold HZ QD at*
 by_cases h4:A3 s i=92
 ·rw[if_pos (by rw[JK h0 h1 Ab];exact h4)]at h
  rw[if_pos h4]at e ⊢
  by_cases b:(C0 (A5 s i)).2=0
  ·rw[if_pos b]at e;exact absurd (.inl U) e
  ·rw[if_neg b]at h ⊢
   exact⟨_,(YF _ _).symm,h⟩
 ·rw[if_neg (by rw[JK h0 h1 Ab];exact h4)]at h
  rw[if_neg h4]at e ⊢
  dsimp only at e ⊢
  rw[if_neg]at h
  ·rcases ME h0 h1 with⟨b,_⟩|⟨_,b,_,l,_⟩
   ·exact absurd (.inl b) e
   ·rw[b]at h
    exact⟨_,by rw[YF,l],h⟩
  ·rintro(b|b)
   ·exact e (.inr ((o4 h0 h1 Ab).1 b))
   ·exact e (.inl ((YG h0 h1).2 b))
theorem MJ.eK {f:Nat}{s o:A0}{i:Int}(h:MJ f s i o)(h1: ¬i<len s):B4 s=([],len s,1):=by
 obtain⟨acc,rfl,h⟩:=h
 rw[<-h,mR h1]
theorem AM7{s:A0}{i:Int}(h0:0<=i)(h1:i<len s):0<=(HZ s i).2/\i+(HZ s i).2<=len s/\len (HZ s i).1<=4/\(¬A3 s i=92->len (HZ s i).1=rune s i):=by
 have l:=Y2 (A5 s i)
 have n:=EH s i h0 Aa
 have b:=rune_le s i h1
 have e:=LX s i
 have q:=FG (s:=s) (i:=i) (j:=i+rune s i) h0 Aa Aa
 have w:=Lib.encodeRuneZ_length (C0 (A5 s i)).1
 unfold HZ QD
 split
 ·rename_i k
  refine⟨?_,?_,?_,λ h=>absurd k h⟩
  ·split<;>(dsimp only;omega)
  ·split<;>(dsimp only;omega)
  ·split
   ·decide
   ·unfold len toStr;simp;omega
 ·dsimp only;exact⟨e.1,b,Aa,λ _=>by omega⟩
theorem MK{s:A0}{c:UInt8}:Lib.hasPrefix s [c]=true↔ ¬s=[]/\A3 s 0=(c.toNat:Int):=by
 cases s with
 |nil=>simp[Lib.hasPrefix]
 |cons a l=>
  have:A3 (a::l) 0=(a.toNat:Int):=rfl
  rw[this]
  simp only[Lib.hasPrefix,List.isPrefixOf,List.isPrefixOf_nil_left,Bool.and_true,beq_iff_eq,reduceCtorEq,not_false_eq_true,true_and]
  rw[<-UInt8.toNat_inj];omega
def JV:A0:=[34,92,47,98,102,110,114,116]
def eM:A0:=[34,92,47,8,12,10,13,9]
def SJ(c k:Int):Prop:= ∀j:Int,0<=j->j<k->c≠A3 JV j
theorem SJ.step {c k:Int}(h:SJ c k)(b: ¬c=A3 JV k):SJ c (k+1):=by
 intro j e i
 by_cases h5:j=k
 ·subst h5;exact b
 ·exact h j e Aa
theorem SJ.eK {c k:Int}(h:SJ c k)(b:8<=k):KY c=false:=by
 have h0:=h 0 Aa Aa
 have h1:=h 1 Aa Aa
 have i:=h 2 Aa Aa
 have j:=h 3 Aa Aa
 have l:=h 4 Aa Aa
 have n:=h 5 Aa Aa
 have q:=h 6 Aa Aa
 have s:=h 7 Aa Aa
 have e:A3 JV 0=34/\A3 JV 1=92/\A3 JV 2=47/\A3 JV 3=98/\A3 JV 4=102/\A3 JV 5=110/\A3 JV 6=114/\A3 JV 7=116:=by decide
 unfold KY;simp;omega
theorem AM8{c k:Int}(h0:0<=k)(h1:k<8)(b:c=A3 JV k):KY c=true/\toStr (Lib.encodeRuneZ (NB c))=Eng.sub eM k (k+1):=by
 subst b
 have:k=0\/k=1\/k=2\/k=3\/k=4\/k=5\/k=6\/k=7:=by omega
 rcases this with rfl|rfl|rfl|rfl|rfl|rfl|rfl|rfl<;>exact⟨Ab,Ab⟩
theorem AM9{s:A0}(h1: ¬len s<2)(b:KY (A3 s 1)=true):QD (C0 s)=(toStr (Lib.encodeRuneZ (NB (A3 s 1))),2):=by
 unfold C0;rw[if_neg h1,if_pos b];rfl
def GL(c:Int):Int:=if 48<=c/\c<=57 then c-48 else if 97<=c/\c<=102 then c-87 else if 65<=c/\c<=70 then c-55 else-1
theorem eN(b:UInt8):MC b=GL (b.toNat:Int):=by unfold MC GL;(repeat' split)<;>omega
theorem o5{s:A0}{i k:Int}(h:0<=i)(h0:i<=k)(h1:k<len s): ∃b,Eng.sub s i (k+1)=Eng.sub s i k++[b]/\(b.toNat:Int)=A3 s k:=by
 have e:k.toNat<s.length:=by unfold len at h1;omega
 refine⟨s[k.toNat],?_,by simp[A3,e]⟩
 unfold Eng.sub
 have j:k.toNat-i.toNat<(s.drop i.toNat).length:=by rw[List.length_drop];omega
 rw[show(k+1).toNat-i.toNat=(k.toNat-i.toNat)+1 from by omega,List.take_succ_eq_append_getElem j,List.getElem_drop]
 congr 3;omega
theorem o6{s:A0}{i k:Int}(h:0<=i)(h0:i<=k)(h1:k<len s)(l:EK (Eng.sub s i k)=true)(e:0<=GL (A3 s k)):
  EK (Eng.sub s i (k+1))=true/\F8 (Eng.sub s i (k+1))=F8 (Eng.sub s i k)*16+GL (A3 s k):=by
 obtain⟨b,n,j⟩:=o5 h h0 h1
 rw[n,<-j,<-eN]
 rw[<-j,<-eN]at e
 unfold EK F8 at*
 rw[List.all_append,l,List.foldl_append]
 simp[e]
theorem o7{s:A0}{i k j:Int}(h:0<=i)(h0:i<=k)(h1:k<j)(b:j<=len s)(l:GL (A3 s k)<0):EK (Eng.sub s i j)=false:=by
 unfold EK
 rw[List.all_eq_false]
 have e:k.toNat<s.length:=by unfold len at b;omega
 refine⟨s[k.toNat],?_,?_⟩
 ·unfold Eng.sub
  rw[List.mem_take_iff_getElem]
  refine⟨k.toNat-i.toNat,by rw[List.length_drop];omega,?_⟩
  rw[List.getElem_drop];congr 1;omega
 ·rw[eN]
  have:((s[k.toNat]).toNat:Int)=A3 s k:=by simp[A3,e]
  rw[this];simp;omega
theorem AN0{l:A0}(h:EK l=true)(hl:len l<=4):0<=F8 l/\F8 l<=65535:=by
 unfold EK at h
 have:=UY l 0 (by simpa[List.all_eq_true]using h) Aa
 have b:(16:Int)^l.length<=16^4:=by
  have:(16:Nat)^l.length<=16^4:=Nat.pow_le_pow_right Aa (by unfold len at hl;omega)
  exact_mod_cast this
 unfold F8;omega
theorem AN1{l:A0}(h:EK l=true)(hl:len l<=3):0<=F8 l/\F8 l<=4095:=by
 unfold EK at h
 have:=UY l 0 (by simpa[List.all_eq_true]using h) Aa
 have b:(16:Int)^l.length<=16^3:=by
  have:(16:Nat)^l.length<=16^3:=Nat.pow_le_pow_right Aa (by unfold len at hl;omega)
  exact_mod_cast this
 unfold F8;omega
theorem YH{s:A0}{i:Int}(h0:0<=i)(h1:i+6<=len s)(l:A3 s i=92)(n:A3 s (i+1)=117):
  C4 (A5 s i)=if EK (Eng.sub s (i+2) (i+6))then F8 (Eng.sub s (i+2) (i+6))else-1:=by
 have e:Eng.sub (A5 s i) 2 6=Eng.sub s (i+2) (i+6):=by
  unfold Eng.sub A5;rw[List.drop_drop];congr 1
  ·omega
  ·congr 1;omega
 unfold C4
 rw[if_neg (by rw[EH s i h0 Aa];omega),e,if_neg]
 obtain⟨a,b,q⟩:=KD s i h0 Aa
 obtain⟨c,h,hd⟩:=KD s (i+1) Aa Aa
 rw[b,h]
 have j:a=92:=by rw[<-UInt8.toNat_inj];show a.toNat=92;omega
 have k:c=117:=by rw[<-UInt8.toNat_inj];show c.toNat=117;omega
 rw[j,k];simp[Lib.hasPrefix]
theorem o8{s:A0}{i:Int}(h0:0<=i)(h:len s<i+6\/ ¬A3 s i=92\/ ¬A3 s (i+1)=117):C4 (A5 s i)= -1:=by
 unfold C4
 by_cases h1:len (A5 s i)<6
 ·rw[if_pos h1]
 ·rw[if_neg h1]
  have b:=Y1 s i h0
  have l:i+6<=len s:=by split at b<;>omega
  rw[if_pos]
  obtain⟨a,e,j⟩:=KD s i h0 Aa
  obtain⟨c,k,hd⟩:=KD s (i+1) Aa Aa
  rw[e,k]
  cases hp:Lib.hasPrefix (a::c::A5 s (i+1+1)) [92,117]with
  |false=>rfl
  |true=>
   exfalso
   simp[Lib.hasPrefix]at hp
   obtain⟨rfl,rfl⟩:=hp
   rcases h with h|h|h
   ·omega
   ·exact h (by rw[j];rfl)
   ·exact h (by rw[hd];rfl)
theorem o9{r:Int}(h:128<=r): ∀b∈toStr (Lib.encodeRuneZ r),128<=b.toNat:=by
 have key: ∀x∈Lib.encodeRuneZ r,128<=x:=by
  intro x hx
  unfold Lib.encodeRuneZ at hx
  (repeat' split at hx)<;>simp at hx<;>omega
 intro b e
 unfold toStr at e
 obtain⟨x,hx,rfl⟩:=List.mem_map.1 e
 have h1:=key x hx
 have i:=Lib.encodeRuneZ_byte r x hx
 simp;omega
theorem AN2: ∀n:Fin 128,KZ (UInt8.ofNat n.val)=EF (n.val:Int):=by decide+kernel
theorem AN3{b:UInt8}(h:b.toNat<128):KZ b=EF (b.toNat:Int):=by
 have:=AN2 ⟨b.toNat,h⟩
 simpa using this
theorem AN4{b:UInt8}(h:128<=b.toNat):KZ b=[b]:=by
 unfold KZ ND
 rw[if_neg Aa,if_neg Aa,if_neg Aa,if_neg Aa,if_neg Aa,if_neg Aa,if_neg Aa,if_neg Aa]
 simp only[toStr,List.map_cons,List.map_nil]
 rw[L0 b _ U]
theorem AN5{l:A0}(h: ∀b∈l,128<=b.toNat):l.flatMap KZ=l:=by
 induction l with
 |nil=>rfl
 |cons a l e=>rw[List.flatMap_cons,AN4 (h a (by simp)),e (λ b i=>h b (by simp[i]))];rfl
theorem SK{α:Type}(s:List α)(i j:Int)(h0:0<=i)(h1:i<=j):A5 s i=Eng.sub s i j++A5 s j:=by
 unfold A5 Eng.sub
 have:s.drop j.toNat=(s.drop i.toNat).drop (j.toNat-i.toNat):=by rw[List.drop_drop];congr 1;omega
 rw[this,List.take_append_drop]
theorem oA{r:Int}(h:128<=r):EF r=toStr (Lib.encodeRuneZ r):=by
 unfold EF
 rw[if_neg (by unfold KE;simp;omega),if_neg Aa];rfl
theorem oB{s:A0}{i:Int}(h0:0<=i)(h1:i<=len s)(h:GV s i=true):GY s i=(A5 s i).flatMap KZ:=by
 by_cases hlt:i<len s
 ·have A:=LX s i
  have hle:=rune_le s i hlt
  rcases ME h0 hlt with⟨k,_⟩|⟨k,n,_,q,w,l⟩
  ·rw[U0 s i h0 hlt k]at h;cases h
  ·rw[<-N3 s i h0 hlt Aa]at h
   rw[dN h0 hlt,n,oB (i:=i+rune s i) Aa Aa h,SK s i (i+rune s i) h0 Aa,List.flatMap_append]
   congr 1
   by_cases hc:A3 s i<128
   ·obtain⟨y,z⟩:=w hc
    obtain⟨b,e,j⟩:=KD s i h0 hlt
    rw[y]
    have:Eng.sub s i (i+1)=[b]:=by
     have:=SK s i (i+1) h0 Aa
     rw[e]at this
     exact(List.append_cancel_right (this.symm.trans (List.singleton_append).symm)).trans U
    rw[this,z,j]
    simp only[List.flatMap_cons,List.flatMap_nil,List.append_nil]
    rw[AN3 Aa]
   ·rw[<-q,AN5 (o9 (l Aa)),oA (l Aa)]
 ·rw[dO hlt,Q2 s i Aa];rfl
termination_by (len s-i).toNat
decreasing_by have:=LX s i;omega
theorem YI{s:A0}(h:CV s=true):E8 s=NF s:=by
 unfold E8 NF
 rw[oB Aa (A9 s) h];rfl
theorem oC{t:A0}{i:Int}(h0:0<=i):KT t i=true↔ ¬t=[]/\ ∀j:Int,i<=j->j<len t->CP (A3 t j) (j==0)=true:=by
 by_cases hlt:i<len t
 ·have k:(F3 (A3 t i)||i != 0&&CD (A3 t i))=CP (A3 t i) (i==0):=rfl
  by_cases hw:CP (A3 t i) (i==0)=true
  ·rw[<-jV t i h0 hlt (by rw[k];exact hw),oC (i:=i+1) Aa]
   refine and_congr_right λ _=>⟨λ h j h1 b=>?_,λ h j h1 b=>h j Aa b⟩
   by_cases e:j=i
   ·subst e;exact hw
   ·exact h j Aa b
  ·rw[jW t i h0 hlt (by rw[k];exact hw)]
   exact⟨λ h=>(by cases h),λ h=>absurd (h.2 i (Int.le_refl _) hlt) hw⟩
 ·rw[jX t i hlt,bne_iff_ne]
  exact Iff.intro (λ h=>And.intro h (λ j h1 b=>by omega)) (λ h=>h.1)
termination_by (len t-i).toNat
theorem VB{t:A0}:FM t=true↔ ¬t=[]/\ ∀j:Int,0<=j->j<len t->CP (A3 t j) (j==0)=true:=oC (Int.le_refl 0)
theorem YJ{α:Type}(s:List α)(i j:Int)(h0:0<=i)(h1:0<=j):Eng.sub (A5 s i) 0 j=Eng.sub s i (i+j):=by
 unfold Eng.sub A5
 simp only[Int.toNat_zero,List.drop_zero,Nat.sub_zero]
 congr 1;omega
theorem AN6: ∀n:Fin 256,IS (UInt8.ofNat n.val)=decide ((48<=n.val/\n.val<=57)\/n.val=43\/n.val=45\/n.val=46\/n.val=101\/n.val=69):=by decide+kernel
theorem eO(b:UInt8):IS b=true↔(48<=b.toNat/\b.toNat<=57)\/b.toNat=43\/b.toNat=45\/b.toNat=46\/b.toNat=101\/b.toNat=69:=by
 have:=AN6 ⟨b.toNat,b.toNat_lt⟩
 simp only[UInt8.ofNat_toNat]at this
 rw[this,decide_eq_true_eq]
section tok
variable {s:A0} {i:Int}
end tok
theorem AN7{s:A0}(h1:0<len s)(h:A3 s 0=45\/CD (A3 s 0)=true):1<=len (runN s):=by
 rw[XZ]
 cases s with
 |nil=>exact absurd h1 Ab
 |cons b l=>
  have i:IS b=true:=by
   rw[eO]
   have e:A3 (b::l) 0=(b.toNat:Int):=rfl
   rw[e]at h
   unfold CD at h
   simp only[Bool.and_eq_true,decide_eq_true_eq]at h
   omega
  rw[List.takeWhile_cons,i]
  simp[len];omega
theorem AN8{s:A0}(h1:0<len s):0<=(C5 s).2.1/\(C5 s).2.1<=len s/\((C5 s).2.2=0->1<=(C5 s).2.1)/\((C5 s).2.2=0\/(C5 s).2.2=1\/(C5 s).2.2=2\/(C5 s).2.2=4):=by
 have q:=EH s 1 Aa Aa
 have e:=V1 (A5 s 1)
 have i:=V1 s
 have j:=OL (A5 s 1)
 have k:=OL s
 have w:=AM6 (runN s)
 have l:len (runN s)<=len s:=by unfold runN;exact(Q4 _ _ _).2
 have b:=A9 (runN s)
 unfold C5
 split
 ·exact⟨by dsimp only;omega,by dsimp only;omega,λ _=>by dsimp only;omega,.inl U⟩
 ·split
  ·refine⟨by dsimp only;omega,by dsimp only;omega,λ _=>by dsimp only;omega,?_⟩
   dsimp only;omega
  ·split
   ·rename_i hm
    have hp:len (EP s)<=len s:=by
     rcases S6 s with h|h
     ·exact absurd h hm
     ·exact Y4 h.2
    have:=HS hm
    exact⟨by dsimp only;omega,by dsimp only;omega,λ _=>by dsimp only;omega,.inl U⟩
   ·split
    ·rename_i n
     have:=HS n
     exact⟨by dsimp only;omega,by dsimp only;omega,λ _=>by dsimp only;omega,.inl U⟩
    ·split
     ·refine⟨by dsimp only;omega,by dsimp only;omega,λ h=>by dsimp only at h ⊢;omega,?_⟩
      dsimp only;omega
     ·split
      ·rename_i hd
       have hp:=AN7 h1 hd
       split
       ·rename_i he
        exact⟨by dsimp only;omega,by dsimp only;omega,λ h=>absurd h he,by dsimp only;omega⟩
       ·exact⟨by dsimp only;omega,by dsimp only;omega,λ h=>by dsimp only;omega,.inl U⟩
      ·exact⟨Int.le_refl _,by dsimp only;omega,λ h=>absurd h Ab,.inr (.inl U)⟩
section pv
variable {P:Program} {C:World->Prop} {L:Env} {W:Bool} {d:Option Tmp} {ty:TypeId} {ps:String} {af:Array Edge} {gd:Option (Nat×Bool)}
theorem PV.oD {t h:TypeId}{x y:Operand}{k i:IntKind}{a b r:Int}(hx:AB L W x (.int k a))(j:AB L W y (.int i b))(l:W=true->0<=b)(n:W=true->a.fdiv (2^min b.toNat k.bits)=r):PV P C L W ⟨d,.binOp .shr t x y h,ty,ps,af,gd⟩ (.int k r):=
 .bin hx j λ e w _=>by rw[<-n e];simp[go_sem,binOp,Op.shift,Sem.run,pure,bind,Sem.bind,show ¬b<0 from by have:=l e;omega]
theorem PV.oE {t h:TypeId}{x y:Operand}{k i:IntKind}{a b r:Int}(hx:AB L W x (.int k a))(j:AB L W y (.int i b))(l:W=true->0<=b)(n:W=true->k.wrap (a*2^min b.toNat k.bits)=r):PV P C L W ⟨d,.binOp .shl t x y h,ty,ps,af,gd⟩ (.int k r):=
 .bin hx j λ e w _=>by rw[<-n e];simp[go_sem,binOp,Op.shift,Sem.run,pure,bind,Sem.bind,show ¬b<0 from by have:=l e;omega]
theorem PV.eP {t e:TypeId}{x y:Operand}{k:IntKind}{a b r:Int}(hx:AB L W x (.int k a))(h:AB L W y (.int k b))(i:W=true->k.wrap (BitVec.ofInt k.bits a&&& BitVec.ofInt k.bits b).toNat=r):PV P C L W ⟨d,.binOp .and t x y e,ty,ps,af,gd⟩ (.int k r):=
 .bin hx h λ j w _=>by rw[<-i j];simp[go_sem,binOp,Op.intBits,Sem.run,pure,bind,Sem.bind]
theorem PV.orK {t e:TypeId}{x y:Operand}{k:IntKind}{a b r:Int}(hx:AB L W x (.int k a))(h:AB L W y (.int k b))(i:W=true->k.wrap (BitVec.ofInt k.bits a|||BitVec.ofInt k.bits b).toNat=r):PV P C L W ⟨d,.binOp .or t x y e,ty,ps,af,gd⟩ (.int k r):=
 .bin hx h λ j w _=>by rw[<-i j];simp[go_sem,binOp,Op.intBits,Sem.run,pure,bind,Sem.bind]
end pv
section
variable {c:Cx} {B:Exit->Act->World->Prop} {k k':List Fr} {m:Md} {s s':XS} {O:Prop} {E:List Ck} {all:Array Oper} {rest:List Oper} {d:Nat} {ty:TypeId} {ps:String} {af:Array Edge} {E1 E2 E3:List Ck} {t kt e:TypeId} {x y z:Operand} {b r cl:Nat} {l:List KV} {ik:IntKind} {n:Int}
theorem AO0(kk:Nat){q:A0}(h:run c.T c.N k m s=⟨k',.ops all (⟨some d,.range t x,ty,ps,af,none⟩::rest),s',O,E⟩)(hx:B8 s'.L .t x=some (.v (str q),E1))(e:c.P.underlying t=some .string)
  (i: ∀r,XG c B k' (.ops all rest) ⟨s'.F,(kk,.ho (.raw r (.stringIter ⟨⟨q⟩⟩ (0:Int).toNat)))::s'.H,(d,.t,.v (.pointer (some ⟨r,0,none⟩)))::s'.L⟩)
  (hE:AA E:=by exact Ad) (hO:O:=by exact Af) (hE1:AA E1:=by exact Ad) (hd:Nat.blt d c.N=true:=by exact rfl):XG c B k m s:=
 DL h (hE:=hE) (hO:=hO) λ w M b=>RL.aX b.st (A8 hx (hE:=hE1)) e hd λ w' r hS=>DM (i r) ⟨hS,b.f,b.le⟩ U
theorem AO1(kk:Nat){q:A0}{p:Int}(h:run c.T c.N k m s=⟨k',.ops all (⟨some d,.next x true,ty,ps,af,none⟩::rest),s',O,E⟩)(hx:B8 s'.L .t x=some (.v (.pointer (some ⟨r,0,none⟩)),E1))(y:D5 s'.H kk=some (.ho (.raw r (.stringIter ⟨⟨q⟩⟩ p.toNat))))(hp:0<=p)
  (h1:p<len q->XG c B k' (.ops all rest) ⟨s'.F,CE s'.H kk (.ho (.raw r (.stringIter ⟨⟨q⟩⟩ (p+runeLen q p).toNat))),(d,.t,.tu [.v (.bool true),.v (i64 p),.v (.int .i32 (B2 q p))])::s'.L⟩)
  (z: ¬p<len q->XG c B k' (.ops all rest) ⟨s'.F,s'.H,(d,.t,.tu [.v (.bool false)])::s'.L⟩)
  (hE:AA E:=by exact Ad) (hO:O:=by exact Af) (hE1:AA E1:=by exact Ad) (hd:Nat.blt d c.N=true:=by exact rfl):XG c B k m s:=by
 refine DL h (hE:=hE) (hO:=hO) λ w M j=>?_
 obtain⟨i,hi,b⟩:=DS (Hr:=c.Hr) y
 refine RL.aY j.st hi (A8 hx (hE:=hE1)) hp hd (λ l w' hS=>DM (h1 l) ⟨?_,j.f,j.le⟩ U) λ n=>DM (z n) j U
 have e:=b (.ho (.raw r (.stringIter ⟨⟨q⟩⟩ (p+runeLen q p).toNat)))
 show St c.w0 c.M0 w' M (HD (CE s'.H kk (.ho (.raw r (.stringIter ⟨⟨q⟩⟩ (p+runeLen q p).toNat))))++c.Hr)
 rw[e];exact hS
theorem oF(kk:Nat)(ik:IntKind)(h:run c.T c.N k m s=⟨k',.ops all (⟨some d,.makeMap t none,ty,ps,af,none⟩::rest),s',O,E⟩)
  (i: ∀b,XG c B k' (.ops all rest) ⟨s'.F,(kk,.ho (.raw b (BS ik [] 0)))::s'.H,(d,.t,.v (.map (some b)))::s'.L⟩)
  (hE:AA E:=by exact Ad) (hO:O:=by exact Af) (hd:Nat.blt d c.N=true:=by exact rfl):XG c B k m s:=
 DL h (hE:=hE) (hO:=hO) λ w M e=>RL.makeMap ik e.st hd λ w' b hS=>DM (i b) ⟨hS,e.f,e.le⟩ U
theorem NJ(ins:Bool)(kk j:Nat)(l':List KV){v:Value}(h:run c.T c.N k m s=⟨k',.ops all (⟨none,if ins then .insert t y x z else .mapUpdate t y x z,ty,ps,af,none⟩::rest),s',O,E⟩)
  (D:B8 s'.L .t y=some (.v (.map (some b)),E1)) (hx:B8 s'.L .t x=some (.v (.int ik n),E2)) (G:B8 s'.L .t z=some (.v v,E3)) (J:D5 s'.H kk=some (.ho (.raw b (BS ik l cl)))) (K:c.P.underlying t=some (.map kt e)) (A:c.P.underlying kt=some (.int ik))
  (hl:LZ l cl n v=l') (Q:PM l cl n v=j) (R:XG c B k' (.ops all rest) ⟨s'.F,CE s'.H kk (.ho (.raw b (BS ik l' j))),s'.L⟩)
  (hE:AA E:=by exact Ad) (hO:O:=by exact Af) (h1:AA E1:=by exact Ad) (S:AA E2:=by exact Ad) (V:AA E3:=by exact Ad):XG c B k m s:=by
 refine DL h (hE:=hE) (hO:=hO) λ w M C=>?_
 obtain⟨q,W,i⟩:=DS (Hr:=c.Hr) J
 exact RL.mapUpdate ins C.st W (A8 D h1) (A8 hx S) (A8 G V) K A hl Q (Hs':=HD (CE s'.H kk (.ho (.raw b (BS ik l' j))))++c.Hr) (i (.ho (.raw b (BS ik l' j)))).symm λ w' hS=>DM R ⟨hS,C.f,C.le⟩ U
theorem AO2(kk:Nat)(l':List KV){u:TypeId}(h:run c.T c.N k m s=⟨k',.ops all (⟨none,.call ⟨.builtin .delete,#[y,x],#[t,u]⟩,ty,ps,af,none⟩::rest),s',O,E⟩)
  (A:B8 s'.L .t y=some (.v (.map (some b)),E1)) (hx:B8 s'.L .t x=some (.v (.int ik n),E2)) (C:D5 s'.H kk=some (.ho (.raw b (BS ik l cl)))) (D:c.P.underlying t=some (.map kt e)) (j:c.P.underlying kt=some (.int ik))
  (hl:I9 l n=l') (G:XG c B k' (.ops all rest) ⟨s'.F,CE s'.H kk (.ho (.raw b (BS ik l' cl))),s'.L⟩)
  (hE:AA E:=by exact Ad) (hO:O:=by exact Af) (h1:AA E1:=by exact Ad) (J:AA E2:=by exact Ad):XG c B k m s:=by
 refine DL h (hE:=hE) (hO:=hO) λ w M z=>?_
 obtain⟨q,K,i⟩:=DS (Hr:=c.Hr) C
 exact RL.delete z.st K (A8 A h1) (A8 hx J) D j hl (Hs':=HD (CE s'.H kk (.ho (.raw b (BS ik l' cl))))++c.Hr) (i (.ho (.raw b (BS ik l' cl)))).symm λ w' hS=>DM G ⟨hS,z.f,z.le⟩ U
theorem oG(kk:Nat)(u:Value)(q:Bool){v:Value}{gd:Option (Nat×Bool)}{W:Gd}(h:run c.T c.N k m s=⟨k',.ops all (⟨some d,.lookup t x y true,ty,ps,af,gd⟩::rest),s',O,E⟩)(hg:(HA all s'.L gd,Nat.blt d c.N)=(some W,true))
  (hx:B8 s'.L W x=some (.v (.map (some b)),E1)) (z:B8 s'.L W y=some (.v (.int ik n),E2)) (A:D5 s'.H kk=some (.ho (.raw b (BS ik l cl)))) (C:c.P.underlying t=some (.map kt e)) (j:c.P.underlying kt=some (.int ik)) (D: ∀w,(zeroValue e).run c.P w= .ok v w) (hu:(CA l n).getD v=u/\(CA l n).isSome=q)
  (G:XG c B k' (.ops all rest) ⟨s'.F,s'.H,(d,W,.tu [.v u,.v (.bool q)])::s'.L⟩)
  (hE:AA E:=by exact Ad) (hO:O:=by exact Af) (h1:AA E1:=by exact Ad) (J:AA E2:=by exact Ad):XG c B k m s:=by
 refine AU (.tu [.v u,.v (.bool q)]) h hg (λ w M K=>?_) G (hE:=hE) (hO:=hO)
 obtain⟨i,hi,_⟩:=DS (Hr:=c.Hr) A
 exact PV.zD K.st H8 hi (A8 hx h1) (A8 z J) C j D hu.1 hu.2
theorem AO3(kk n:Nat)(h:run c.T c.N k m s=⟨k',.ops all (⟨some d,.range t x,ty,ps,af,none⟩::rest),s',O,E⟩)
  (hx:B8 s'.L .t x=some (.v (.map (some b)),E1)) (q:D5 s'.H kk=some (.ho (.raw b (BS ik l cl)))) (y:c.P.underlying t=some (.map kt e))
  (z: ∀r,XG c B k' (.ops all rest) ⟨s'.F,(n,.ho (.raw r (.mapIter (some b) cl #[] cl)))::s'.H,(d,.t,.v (.pointer (some ⟨r,0,none⟩)))::s'.L⟩)
  (hE:AA E:=by exact Ad) (hO:O:=by exact Af) (hE1:AA E1:=by exact Ad) (hd:Nat.blt d c.N=true:=by exact rfl):XG c B k m s:=by
 refine DL h (hE:=hE) (hO:=hO) λ w M j=>?_
 obtain⟨i,hi,_⟩:=DS (Hr:=c.Hr) q
 exact RL.zB j.st hi (A8 hx hE1) y hd λ w' r hS=>DM (z r) ⟨hS,j.f,j.le⟩ U
theorem AO4(kk z:Nat){since c0:Nat}{seen:Array Nat}(h:run c.T c.N k m s=⟨k',.ops all (⟨some d,.next x false,ty,ps,af,none⟩::rest),s',O,E⟩)
  (hx:B8 s'.L .t x=some (.v (.pointer (some ⟨r,0,none⟩)),E1)) (G:D5 s'.H kk=some (.ho (.raw b (BS ik l cl)))) (J:D5 s'.H z=some (.ho (.raw r (.mapIter (some b) since seen c0))))
  (hold: ∀p∈l,p.born<since) (A:since<=c0)
  (h1: ∀p∈l,¬seen.contains p.born=true->XG c B k' (.ops all rest) ⟨s'.F,CE s'.H z (.ho (.raw r (.mapIter (some b) since (seen.push p.born) cl))),(d,.t,.tu [.v (.bool true),.v (.int ik p.key),.v p.val])::s'.L⟩)
  (K:(∀p∈l,seen.contains p.born=true)->XG c B k' (.ops all rest) ⟨s'.F,s'.H,(d,.t,.tu [.v (.bool false)])::s'.L⟩)
  (hE:AA E:=by exact Ad) (hO:O:=by exact Af) (hE1:AA E1:=by exact Ad) (hd:Nat.blt d c.N=true:=by exact rfl):XG c B k m s:=by
 refine DL h (hE:=hE) (hO:=hO) λ w M y=>?_
 obtain⟨i,hi,_⟩:=DS (Hr:=c.Hr) G
 obtain⟨j,C,n⟩:=DS (Hr:=c.Hr) J
 refine RL.zC y.st hi C (A8 hx hE1) hold A hd (λ p hp D w' hS=>DM (h1 p hp D) ⟨?_,y.f,y.le⟩ U) (λ q=>DM (K q) y U)
 have e:=n (.ho (.raw r (.mapIter (some b) since (seen.push p.born) cl)))
 show St c.w0 c.M0 w' M (HD (CE s'.H z (.ho (.raw r (.mapIter (some b) since (seen.push p.born) cl))))++c.Hr)
 rw[e];exact hS
theorem AO5(kk q:Nat)(p:KV)(u:Value){since:Nat}{seen:Array Nat}{gd:Option (Nat×Bool)}{W:Gd}(h:run c.T c.N k m s=⟨k',.ops all (⟨some d,.entry x,ty,ps,af,gd⟩::rest),s',O,E⟩)(hg:(HA all s'.L gd,Nat.blt d c.N)=(some W,true))
  (hx:B8 s'.L W x=some (.v (.pointer (some ⟨r,0,none⟩)),E1)) (y:D5 s'.H kk=some (.ho (.raw b (BS ik l cl)))) (z:D5 s'.H q=some (.ho (.raw r (.mapIter (some b) since (seen.push p.born) cl))))
  (hp:p∈l) (e:(l.map (·.born)).Nodup) (hu:p.val=u) (A:XG c B k' (.ops all rest) ⟨s'.F,s'.H,(d,W,.tu [.v (.int ik p.key),.v u])::s'.L⟩)
  (hE:AA E:=by exact Ad) (hO:O:=by exact Af) (hE1:AA E1:=by exact Ad):XG c B k m s:=
 AU (.tu [.v (.int ik p.key),.v u]) h hg (λ w M C=>by
  obtain⟨i,hi,_⟩:=DS (Hr:=c.Hr) y
  obtain⟨j,n,_⟩:=DS (Hr:=c.Hr) z
  exact .zI C.st H8 hi n (A8 hx hE1) hp e hu) A (hE:=hE) (hO:=hO)
theorem AO6{q:A0}{j:List Int}{C:TypeId}{i:TypeInfo}{v:Value}{kk:Nat}{g1:Mem->Prop}{z: ∀M M',M.le M'->g1 M->g1 M'}{inh:Inhabited Int}(h:run c.T c.N k m s=⟨k',.ops all (⟨some d,.call ⟨.builtin .append,#[x,y],#[t,C]⟩,ty,ps,af,none⟩::rest),s',O,E⟩)
  (hx:H9 s'.L .t x y=some (.sl kk v,.v (str q),E1)) (D:(KA s'.F kk,D5 s'.H kk)=(some (@Kn.mk Int inh v 1 j BZ g1 z),some (.ho (.own e 1 v j.length (j.flatMap BZ))))) (G:c.P.underlying t=some (.slice e)) (hu:c.P.underlying C=some .string) (hi:c.P.info? e=some i) (J:i.zero=some (.int .u8 0)) (hs:(i.size,i.bytes,Nat.blt d c.N)=(1,1,true))
  (K:len j+len q<=140737488355328) (Q: ∀v',XG c B k' (.ops all rest) ⟨(kk,kn v' 1 (j++ints q) BZ)::s'.F,CE s'.H kk (.ho (.own e 1 v' (j++ints q).length ((j++ints q).flatMap BZ))),(d,.t,.sl kk v')::s'.L⟩)
  (hE:AA E:=by exact Ad) (hO:O:=by exact Af) (hE1:AA E1:=by exact Ad):XG c B k m s:=by
 simp only[Prod.mk.injEq]at D hs
 refine DL h (hE:=hE) (hO:=hO) λ w M A=>?_
 obtain⟨n,l,b⟩:=DS (Hr:=c.Hr) D.2
 refine RL.zJ A.st l (FF hx hE1).1 (FF hx hE1).2 G hu hi J hs.1 hs.2.1 K hs.2.2 (Hs':=λ v'=>HD (CE s'.H kk (.ho (.own e 1 v' (j++ints q).length ((j++ints q).flatMap BZ))))++c.Hr) (λ v'=>(b (.ho (.own e 1 v' (j++ints q).length ((j++ints q).flatMap BZ)))).symm) λ v' w' M' hS hle=>DM (Q v') ⟨hS,AH ⟨?_,G2,trivial⟩ (A.f.mono hle),A.le.trans hle⟩ U
 have R:=b (.ho (.own e 1 v' (j++ints q).length ((j++ints q).flatMap BZ)))
 rw[R]at hS
 exact hS.sl (i:=n) (by rw[List.getElem?_set_self (List.getElem?_eq_some_iff.1 l).1];rfl)
theorem AO7(kk:Nat){q:A0}(h:run c.T c.N k m s=⟨k',.ops all (⟨some d,.convert t kt x,ty,ps,af,none⟩::rest),s',O,E⟩)(hx:B8 s'.L .t x=some (.v (str q),E1))(hs:c.P.underlying t=some .string)(j:c.P.underlying kt=some (.slice e))(he:c.P.underlying e=some (.int .u8))(hl:len q<=140737488355328)
  (l: ∀v,XG c B k' (.ops all rest) ⟨(kk,kn v 1 (ints q) BZ)::s'.F,s'.H,(d,.t,.sl kk v)::s'.L⟩)
  (hE:AA E:=by exact Ad) (hO:O:=by exact Af) (hE1:AA E1:=by exact Ad) (hd:Nat.blt d c.N=true:=by exact rfl):XG c B k m s:=
 DL h (hE:=hE) (hO:=hO) λ w M b=>RL.bytes b.st (A8 hx hE1) hs j he hl hd λ v w' M' hS hle i=>DM (l v) ⟨hS,AH ⟨i,G2,trivial⟩ (b.f.mono hle),b.le.trans hle⟩ U
theorem NK(q:Int){e:TypeId}{i:IntKind}{a:Int}{gd:Option (Nat×Bool)}{W:Gd}(h:run c.T c.N k m s=⟨k',.ops all (⟨some d,.binOp .shr t x y e,ty,ps,af,gd⟩::rest),s',O,E⟩)(hg:(HA all s'.L gd,Nat.blt d c.N)=(some W,true))
  (hx:H9 s'.L W x y=some (.v (.int ik a),.v (.int i n),E1)) (b:((0:Int)<=n/\n<=ik.bits)/\(2:Int)^n.toNat=q) (j:XG c B k' (.ops all rest) ⟨s'.F,s'.H,(d,W,.v (.int ik (a/q)))::s'.L⟩)
  (hE:AA E:=by exact Ad) (hO:O:=by exact Af) (hE1:AA E1:=by exact Ad):XG c B k m s:=
 AU _ h hg (λ w M l=>.oD (FF hx hE1).1 (FF hx hE1).2 (λ _=>b.1.1) λ _=>by
  rw[show min n.toNat ik.bits=n.toNat from by have:=b.1.2;omega,b.2]
  exact Int.fdiv_eq_ediv_of_nonneg _ (by rw[<-b.2];exact Int.pow_nonneg Ab)) j (hE:=hE) (hO:=hO)
theorem eQ(j:Nat){i:Int}{l:Nat}{gd:Option (Nat×Bool)}{W:Gd}(h:run c.T c.N k m s=⟨k',.ops all (⟨some d,.indexAddr t x y,ty,ps,af,gd⟩::rest),s',O,E⟩)(hg:(HA all s'.L gd,Nat.blt d c.N)=(some W,true))
  (hx:H9 s'.L W x y=some (.bx l b 0,.v (.int ik i),E1)) (n:c.P.underlying t=some (.array cl e)) (hs: ∀w,(sizeOf e).run c.P w= .ok 1 w) (q:Nat.blt j cl=true) (hi:W.d=true->i=(j:Int)) (z:XG c B k' (.ops all rest) ⟨s'.F,s'.H,(d,W,.bx l b j)::s'.L⟩)
  (hE:AA E:=by exact Ad) (hO:O:=by exact Af) (hE1:AA E1:=by exact Ad):XG c B k m s:=
 AU _ h hg (λ w M A=>by
  have:=PV.kE (P:=c.P) (C:=(· =w)) (d:=some d) (ty:=ty) (ps:=ps) (af:=af) (gd:=gd) j (FF hx hE1).1 (FF hx hE1).2 n hs hi q
  simpa[XV.d,XV.d1,XV.d0]using this) z (hE:=hE) (hO:=hO)
theorem GZ(r:Int){b:BinOp}{i:TypeId}{a:Int}{gd:Option (Nat×Bool)}{W:Gd}(h:run c.T c.N k m s=⟨k',.ops all (⟨some d,.binOp b t x y i,ty,ps,af,gd⟩::rest),s',O,E⟩)(hg:(HA all s'.L gd,Nat.blt d c.N)=(some W,true))
  (hx:H9 s'.L W x y=some (.v (.int ik a),.v (.int ik n),E1)) (e:W.d=true->bits b ik a n=r) (j:XG c B k' (.ops all rest) ⟨s'.F,s'.H,(d,W,.v (.int ik r))::s'.L⟩)
  (l:b= .and\/b= .or:=by simp) (hE:AA E:=by exact Ad) (hO:O:=by exact Af) (hE1:AA E1:=by exact Ad):XG c B k m s:=
 AU _ h hg (λ w M q=>by
  rcases l with rfl|rfl
  ·exact .eP (FF hx hE1).1 (FF hx hE1).2 e
  ·exact .orK (FF hx hE1).1 (FF hx hE1).2 e) j (hE:=hE) (hO:=hO)
theorem NL(r:Int){b:IntKind}{a:Int}{gd:Option (Nat×Bool)}{W:Gd}(h:run c.T c.N k m s=⟨k',.ops all (⟨some d,.convert t kt x,ty,ps,af,gd⟩::rest),s',O,E⟩)(hg:(HA all s'.L gd,Nat.blt d c.N)=(some W,true))
  (hx:B8 s'.L W x=some (.v (.int ik a),E1)) (e:c.P.underlying t=some (.int ik)) (i:c.P.underlying kt=some (.int b)) (j:W.d=true->b.wrap a=r) (l:XG c B k' (.ops all rest) ⟨s'.F,s'.H,(d,W,.v (.int b r))::s'.L⟩)
  (hE:AA E:=by exact Ad) (hO:O:=by exact Af) (hE1:AA E1:=by exact Ad):XG c B k m s:=
 AU _ h hg (λ w M n=>.aO (A8 hx hE1) e i j) l (hE:=hE) (hO:=hO)
end
def NM(n:Nat):TT->TT
 |[]=>[]
 |(t,d)::T=>match Nat.beq t n with
  |true=>NM n T
  |false=>(t,d)::NM n T
theorem eR(n:Nat): ∀T:TT,FN (NM n T) n=none
 |[]=>rfl
 |(t,d)::T=>by
  unfold NM
  split
  ·exact eR n T
  ·rename_i e
   unfold FN
   rw[e];exact eR n T
theorem eT{n t:Nat}{b:TD}: ∀ {T:TT},FN (NM n T) t=some b->FN T t=some b
 |[],h=>h
 |(u,d)::T,h=>by
  unfold NM at h
  unfold FN
  cases e2:Nat.beq u t with
  |true=>
   cases e:Nat.beq u n with
   |true=>
    rw[e]at h
    have:=eR n T
    rw[<-Nat.eq_of_beq_eq_true e,Nat.eq_of_beq_eq_true e2,show NM t T=NM n T from by rw[<-Nat.eq_of_beq_eq_true e,Nat.eq_of_beq_eq_true e2]]at this
    rw[h]at this;cases this
   |false=>rw[e]at h;unfold FN at h;rw[e2]at h;exact h
  |false=>
   cases e:Nat.beq u n with
   |true=>rw[e]at h;exact eT h
   |false=>rw[e]at h;unfold FN at h;rw[e2]at h;exact eT h
theorem DT.AO8 (n:Nat){P:Program}{T:TT}(h:DT P T):DT P (NM n T):=λ t b e=>h t b (eT e)
end Go.Eng
namespace Go.Proofs.YtnoegalemkbbbaaGreatDoor
open Go.Proofs.Tryz
open Go.Eng Go.RowKit
abbrev tB:=244
set_option maxHeartbeats 1000000 in
set_option maxRecDepth 100000 in
theorem AO9(b:Nat)(w:World)(h0:w.cell? ⟨b,0,none⟩=some (.pointer (some ⟨b,0,none⟩))):
  Calls prog 251 #[.pointer (some ⟨b,0,none⟩)] w λ e w'=>e= .returned (.tuple #[])/\w'=w:=by
 obtain⟨j,h,_⟩:=Option.map_eq_some_iff.1 (show(prog.info? 244).map (·.size)=some 2 by kernel_rfl)
 have mixed:prog.follows .mixedOrders=true:=by kernel_rfl
 have i:=λ w=>run_underlying (P:=prog) (w:=w) underlying242
 go_enter func251,ntmps251
 go_wp2
 rw[Lib.run_neq_ptr_same w _ underlying242 h]
 go_wp2
 go_end0
 exact⟨rfl,rfl⟩
set_option maxHeartbeats 1000000 in
set_option maxRecDepth 100000 in
theorem AP0(b:Nat)(w:World)(h0:w.cell? ⟨b,0,none⟩=some (.pointer none))(h:w.shape? b=some (244,2))(l:w.frozen? ⟨b,0,none⟩=false):
  Calls prog 251 #[.pointer (some ⟨b,0,none⟩)] w λ e w'=>e= .returned (.tuple #[])/\w'=w.setCell ⟨b,0,none⟩ (.pointer (some ⟨b,0,none⟩)):=by
 obtain⟨j,k,i⟩:=Option.map_eq_some_iff.1 (show(prog.info? 244).map (·.size)=some 2 by kernel_rfl)
 have mixed:prog.follows .mixedOrders=true:=by kernel_rfl
 have n:=λ w=>run_underlying (P:=prog) (w:=w) underlying242
 go_enter func251,ntmps251
 go_wp2
 rw[Lib.run_to_unsafe w ⟨b,0,none⟩ underlying242 underlying289 k (by rw[i];decide) h (Nat.zero_lt_succ 1)]
 simp only[Result.andThen]
 rw[Oper.upon_value]
 go_wp2
 rw[run_callFunc_extern func274 Ai Ai Ai (e:=Extern.AbiNoEscape.same) Ai]
 rw[Lib.run_noEscape]
 simp only[Result.andThen]
 rw[Oper.upon_value]
 go_wp2
 rw[Lib.run_from_unsafe w ⟨b,0,none⟩ underlying289 underlying242 k h Ai]
 simp only[Result.andThen]
 rw[Oper.upon_value]
 go_wp2
 go_end0
 exact⟨rfl,rfl⟩
end Go.Proofs.YtnoegalemkbbbaaGreatDoor
