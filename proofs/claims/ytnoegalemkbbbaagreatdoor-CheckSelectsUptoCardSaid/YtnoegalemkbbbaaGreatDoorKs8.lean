/- Lemmas for the card. -/
import Derived.Test.YtnoegalemkbbbaaGreatDoorKs7
set_option linter.unusedVariables false
set_option linter.unusedSimpArgs false
set_option maxRecDepth 100000
set_option maxRecDepth 100000
namespace Go.Eng
theorem PV.mM {P:Program}{C:World->Prop}{L:Env}{W:Bool}{d:Option Tmp}{ty:TypeId}{ps:String}{af:Array Edge}{gd:Option (Nat×Bool)}{t j e:TypeId}{x:Operand}{M:Mem}{sz n h i:Nat}{v:Value}{cs:List Value}(hS:Sl M sz n v cs)(k:0<n)(hx:AA L W x v)(l:P.underlying t=some (.slice e)):
  PV P C L W ⟨d,.binOp .eql t x (.const (.slice none h i)) j,ty,ps,af,gd⟩ (.bool false):=
 .bin hx .c λ _ w _=>by
  obtain⟨p,cap,rfl,_,_,hp⟩:=hS.val
  obtain⟨b,o,rfl,_⟩:=hp k
  have:=Lib.run_eql_slice_nil (P:=P) w t e (some ⟨b,o,none⟩) n cap h i l
  simp[go_sem,this,eqGuard]
end Go.Eng
namespace Go.Proofs.YtnoegalemkbbbaaGreatDoor
open Go.Proofs.Tryz
open Go.Eng
theorem Tm.cells_one (x:Tm): ∀u∈x.cells,u.oneCell'=true:=by intro u hu;simp[Tm.cells]at hu;rcases hu with rfl|rfl|rfl|rfl|rfl|rfl|rfl|rfl|rfl|rfl|rfl<;>rfl
abbrev C9(u:Value)(hs:List AI)(xs:List Fl):Kn:=⟨u,1,hs,BX,λ M=>B5 M 11 Tm.cells hs xs,λ _ _ hm h=>B5.mono hm h⟩
abbrev mN(u:Value)(x:Fl):HO:=.priv 48 11 u x.length (x.flatMap Tm.cells)
abbrev XW(u:Value)(x:Fl):HX:=.pv 48 (kn u 11 x Tm.cells) Tm.AS
abbrev A6(u:Value)(x:Fl):Kn:=kn u 11 x Tm.cells
theorem EN{M:Mem}{u:Value}{hs:List AI}{xs:List Fl}(h:(C9 u hs xs).ok M){k:Int}(h0:0<=k)(h1:k<len hs):(A6 (at' hs k).v (at' xs k)).ok M:=⟨B5.at h.more h0 h1,Tm.AS,trivial⟩
theorem dC{M:Mem}{u:Value}{hs:List AI}{xs:List Fl}(h:(C9 u hs xs).ok M):len hs=len xs:=by have:=B5.len (f:=Tm.cells) h.more;unfold len;omega
abbrev dD(w0:World)(M0 M:Mem)(Rs:List HO)(x:Fl):Ending->World->Prop:=BF w0 M0 M Rs (λ h:AI=>h.v) (λ _=>True) (λ _=>[]) λ h=>[mN h.v x]
theorem mO{w0 w:World}{M0 M:Mem}{Rs:List HO}{x:Fl}{e:Ending}(h:BF w0 M0 M Rs (λ u:Value=>u) (λ _=>True) (λ _=>[]) (λ u=>[mN u x]) e w):dD w0 M0 M Rs x e w:=by
 obtain⟨u,M',h1,q,l,b,s⟩:=h
 have n:=b.told (k:=0) U
 obtain⟨a,c,j,_⟩:=(n.sl (i:=0) rfl).val
 exact⟨⟨a,x.length,c⟩,M',by rw[h1,j],trivial,l,by rw[j]at b;exact b,A3⟩
theorem AH0{w0 h:World}{M0 M:Mem}{Rs:List HO}(v:Value)(x:Fl)(hS:St w0 M0 h M Rs)(hx:(A6 v x).ok M)(h0:x≠[])(j:len x<=1099511627776):
  Calls prog 166 [v].toArray h (dD w0 M0 M Rs x):=by
 refine AH (Hr:=Rs) AF func166 U ntmps166 [(0,A6 v x)] [] [.sl 0 v] U hS (AD hx A3) (λ B i=>AR (.v (.bool false)) U U (λ w M e=>.mM (e.sl 0 U) (List.length_pos_iff.2 h0) (A7 (v:=.sl 0 v) (E:=[]) U) underlying23) <|A1 U (λ b=>?_) (λ b=>?_)) U
 ·cases b
 exact IG 2 ([]:List Tm) Tm.cells 11 48 Tm.AS U U Ah U λ u=>G9 120 U U U underlying23 type48 U U Tm.cells_one (by rw[len_nil];omega) λ v'=>A2 i U U U λ w M' e=>mO ⟨v',M',rfl,trivial,e.le,e.st,A3⟩
end Go.Proofs.YtnoegalemkbbbaaGreatDoor
namespace Go.Eng
def D8(f:Fl)(i:Int)(us:List Tf)(R:Fl):Prop:=0<=i/\f.drop i.toNat=AN us++R
theorem Tf.FG (u:Tf):u.flat= { u.t with many:=len u.ps}::AN u.ps:=by cases u;rfl
theorem J8: ∀(a b:List Tf),AN (a++b)=AN a++AN b
 |[],b=>rfl
 |x::a,b=>by show x.flat++AN (a++b)=(x.flat++AN a)++AN b;rw[J8 a b,List.append_assoc]
theorem D8.step {f:Fl}{i:Int}{u:Tf}{us:List Tf}{R:Fl}(h:D8 f i (u::us) R):i<len f/\at' f i= { u.t with many:=len u.ps}/\D8 f (i+1) (u.ps++us) R:=by
 obtain⟨h0,h1⟩:=h
 have e:f.drop i.toNat= { u.t with many:=len u.ps}::(AN u.ps++(AN us++R)):=by
  rw[h1];show(u.flat++AN us)++R=_;rw[Tf.FG];simp
 have b:i.toNat<f.length:=by
  rcases Nat.lt_or_ge i.toNat f.length with h|h
  ·exact h
  ·rw[List.drop_of_length_le h]at e;cases e
 refine⟨by unfold len;omega,?_,Aa,?_⟩
 ·obtain⟨k,j⟩:=CE f h0 (by unfold len;omega)
  rw[j]
  have:=congrArg (·[0]?) e
  simpa[b]using this
 ·rw[show(i+1).toNat=i.toNat+1 by omega,<-List.drop_drop,e]
  show AN u.ps++(AN us++R)=_
  rw[J8,List.append_assoc]
theorem D8.KM {f:Fl}{i:Int}{us:List Tf}{R:Fl}(h:D8 f i us R)(hi:i<=len f):i+len (AN us)+len R=len f:=by
 have:=congrArg List.length h.2
 rw[List.length_drop,List.length_append]at this
 unfold len at*
 have:=h.1;omega
theorem D8.part {f:Fl}{i j:Int}{u:Tf}{R:Fl}(h:D8 f i [u] R)(e:D8 f j [] R)(k:i<=j)(l:j<=len f):Eng.sub f i j=u.flat:=by
 have n:=h.KM Aa
 have q:=e.KM l
 have b:AN [u]=u.flat:=by show u.flat++AN []=_;simp[AN]
 have e2:len (AN [])=0:=rfl
 rw[b]at n
 unfold Eng.sub
 rw[h.2,b,show j.toNat-i.toNat=u.flat.length by have:=h.1;unfold len at*;omega]
 exact List.take_left
theorem D8.root (t:Tf):D8 t.flat 1 t.ps []:=⟨Aa,by rw[Tf.FG];show AN t.ps=_;simp⟩
theorem D8.next {f:Fl}{i:Int}{us:List Tf}{k:Nat}(h:D8 f i (us.drop k) [])(b:k<us.length):D8 f i [at' us k] (AN (us.drop (k+1))):=by
 refine⟨h.1,?_⟩
 rw[h.2]
 have e:us.drop k=at' us (k:Int)::us.drop (k+1):=by
  obtain⟨h1,j⟩:=CE us (i:=(k:Int)) Aa (by unfold len;omega)
  rw[j]
  rw[List.drop_eq_getElem_cons b];simp
 rw[e]
 show(at' us (k:Int)).flat++AN _++[]=_
 simp[AN]
theorem Tf.XX (t:Tf):(at' t.flat 0).many=len t.ps:=by rw[Tf.FG];rfl
theorem Tf.S0 (t:Tf):at' t.flat 0= { t.t with many:=len t.ps}:=by rw[Tf.FG];rfl
theorem Tf.PU (t:Tf):t.flat≠[]:=by rw[Tf.FG];exact List.cons_ne_nil _ _
theorem Tf.EW (t:Tf):0<len t.flat:=by rw[Tf.FG,AL];have:=A8 (AN t.ps);omega
theorem Tf.XY (t:Tf)(n:A0):(t.flat).set 0 { at' t.flat 0 with name:=n}=(t.named n).flat:=by cases t;rfl
theorem dF: ∀xs:List Tf,AN xs=(xs.map Tf.flat).flatten
 |[]=>rfl
 |x::xs=>by show x.flat++AN xs=_;rw[dF xs];rfl
theorem Tf.UR (t:Tm)(ps:List Tf):(Tf.mk t ps).flat= { t with many:=len ps}::(ps.map Tf.flat).flatten:=by rw[<-dF];rfl
theorem mP{x:Tf}: ∀ {xs:List Tf},x∈xs->len x.flat<=len (AN xs)
 |y::xs,h=>by
  have h1:=A8 y.flat
  have b:=A8 (AN xs)
  show _<=len (y.flat++AN xs)
  rw[AO]
  rcases List.mem_cons.1 h with rfl|h
  ·omega
  ·have:=mP h;omega
theorem JJ: ∀xs:List Tf,len xs<=len (AN xs)
 |[]=>Int.le_refl _
 |x::xs=>by
  have h1:=x.EW
  have b:=JJ xs
  show _<=len (x.flat++AN xs)
  rw[AO,AL];omega
theorem Tf.dG {t:Tf}(h:t.t.name=[]):t.named []=t:=by
 obtain⟨tm,ps⟩:=t
 have b:tm.name=[]:=h
 show Tf.mk { tm with name:=[]} ps=_
 rw[<-b]
def US:Tf->Prop
 | .mk t [a,b]=>t.op=4->a.t.name=[]/\b.t.name=[]/\US b
 | .mk t _=>t.op≠4
theorem US.no {x:Tf}(h:x.t.op≠4):US x:=by
 obtain⟨t,ps⟩:=x
 have i:t.op≠4:=h
 unfold US
 split
 ·rename_i t a b h1;cases h1;exact λ e=>absurd e i
 ·rename_i h1 e;cases e;exact i
theorem mQ{α:Type}[Inhabited α](l m:List α){i:Int}(h0:0<=i)(h1:i<len l):at' (l++m) i=at' l i:=by
 unfold at' len at*
 simp only[List.getD]
 rw[List.getElem?_append_left Aa]
end Go.Eng
namespace Go.Proofs.YtnoegalemkbbbaaGreatDoor
open Go.Proofs.Tryz
open Go.Eng
theorem AH1{w0 w:World}{M0 M:Mem}{s z:HO}{Rs:List HO}{b:Nat}{v:Value}{t:Tf}(hl:(A6 v t.flat).ok M)(hb:len t.flat<=1099511627776):
    kN prog 165 [.pointer (some ⟨b,0,none⟩)] t.ps.length w0 M0 (s::z:: .box b [v] 23::Rs)
      (λ k (y:AI)=>[.v (str (at' t.ps k).t.name),.sl 5 y.v]) (λ _ _=>True) (λ k y=>[(5,A6 y.v ((at' t.ps k).named []).flat)]) w M:=by
 intro σ I' Hy T l g0 ⟨D,E,hx⟩ hS hF hI hy
 have V:St w0 M0 w M (.box b [v] 23::D g0::E g0::(s::z::Rs)):=by
  rw[hx]at hS
  exact hS.perm (List.perm_middle (l₁:=[D g0,E g0,s,z])).symm
 have hmny:=t.XX
 have hpos:=t.EW
 have hps:=JJ t.ps
 have hpl:len t.flat=1+len (AN t.ps):=by rw[Tf.FG,AL];omega
 have hln:len t.ps=(t.ps.length:Int):=rfl
 refine XR (Hr:=s::z::Rs) AF func165 rfl ntmps165 rfl (λ w h=>by obtain⟨g,M',h,_⟩:=h;cases h) [(0,A6 v t.flat),(9,I4 (T g0))] [(0,.box b [.sl 0 v] 23),(1,.ho (D g0)),(2,.ho (E g0))] [.v (.func (.yield l) #[] #[]),.bx 0 b 0] rfl V (AD hl (AD ⟨Sl.nil M 1,DO,hF⟩ A3)) (λ B hB=>B7 (σ:=Int×Nat×σ) (λ(i,k,g)=>⟨[(0,A6 v t.flat),(9,I4 (T g))],[(0,.box b [.sl 0 v] 23),(1,.ho (D g)),(2,.ho (E g))],[Z 0 (.v (.func (.yield l) #[] #[])),Z 1 (.bx 0 b 0),Z 3 (I i),Z 10 (I (at' t.flat 0).many),Z 11 (I k)]⟩) (λ(i,k,g)=>D8 t.flat i (t.ps.drop k) []/\k<=t.ps.length/\I' k g) (λ(i,k,g)=>t.ps.length-k) (1,0,g0) U U ⟨D8.root t,Nat.zero_le _,hI⟩ ?_) rfl
 rintro⟨i,k,g⟩ ⟨hi,hk,J⟩
 refine A1 U (λ K=>?_) (λ K=>?_)<;>simp only[zb]at K
 ·have F:k<t.ps.length:=by omega
  have A:=hi.next F
  have hi2:=A.step.1
  have hi0:=hi.1
  have W:=A.step.2.1
  refine B7 (σ:=Int×Int×List Tf) (λ(j,H,st)=>⟨[(0,A6 v t.flat),(9,I4 (T g))],[(0,.box b [.sl 0 v] 23),(1,.ho (D g)),(2,.ho (E g))],[Z 0 (.v (.func (.yield l) #[] #[])),Z 1 (.bx 0 b 0),Z 3 (I i),Z 10 (I (at' t.flat 0).many),Z 11 (I k),Z 4 (I j),Z 5 (I H)]⟩) (λ(j,H,st)=>D8 t.flat j st (AN (t.ps.drop (k+1)))/\H=len st/\i<=j/\j<=len t.flat/\(j=i->st=[at' t.ps (k:Int)])) (λ(j,H,st)=>(len t.flat-j).toNat) (i,1,[at' t.ps (k:Int)]) U U ⟨A,rfl,Aa,Aa,λ _=>rfl⟩ ?_
  rintro⟨j,H,st⟩ ⟨n,G,hit,L,X⟩
  refine A1 U (λ N=>?_) (λ N=>?_)<;>simp only[zb]at N
  ·cases st with
   |nil=>rw[len_nil]at G;omega
   |cons u st=>
    obtain⟨q1,q2,q3⟩:=n.step
    have q4:=q3.KM Aa
    have q5:=JJ (u.ps++st)
    have q6:=A8 (AN (t.ps.drop (k+1)))
    have q7:(at' t.flat j).many=len u.ps:=by rw[q2]
    rw[AO]at q5
    rw[AL]at G
    have q8:=A8 u.ps
    have q9:=A8 st
    have q0:=n.1
    exact AX (j+1,H+((at' t.flat j).many-1),u.ps++st) U U ⟨q3,by rw[AO];omega,Aa,Aa,λ h=>by omega⟩ Ag
  have hse:st=[]:=by
   have:=A8 st
   cases st with
   |nil=>rfl
   |cons u st=>have:=A8 st;rw[AL]at G;omega
  subst hse
  have hlt:i<j:=by
   rcases Int.lt_or_eq_of_le hit with h|h
   · exact h
   · cases X h.symm
  have q:=A.part n hit L
  have hpp:=Tf.EW (at' t.ps (k:Int))
  have hpl2:len (at' t.ps (k:Int)).flat<=len t.flat:=by rw[<-q,FF Aa hit L];omega
  refine ET (gd:=none) 4 i j U U U ⟨.i64,_,rfl,AG U⟩ ⟨.i64,_,rfl,AG U⟩ underlying23 sizeOf48 Aa U λ v4=>?_
  rw[q]
  refine AP [] (λ u:AI=>.sl 5 u.v) [] (λ u=>[(5,XW u.v (at' t.ps (k:Int)).flat)]) U U call166 U U (λ w M hS hF=>AH0 v4 _ hS (hF.get (k:=4) U) (Tf.PU _) Aa) λ O _=>?_
  obtain⟨v5,P⟩: ∃v5,v5=O.v:=⟨_,rfl⟩
  rw[<-P]
  clear P O
  refine I2 { at' (at' t.ps (k:Int)).flat 0 with name:=[]} rfl U U sizeOf9 U U U Aa λ x5 Q=>?_
  rw[show((0:Int).toNat)=0 from rfl,Tf.XY]at Q
  subst Q
  refine C6 5 U ?_
  have hnm:(at' t.flat i).name=(at' t.ps (k:Int)).t.name:=by rw[W]
  refine AG8 (λ C=>[(1,.ho (D C)),(2,.ho (E C))]) [1,2] (γ:=σ) (pu:=I' (k+1)) (Fg:=λ C=>[(9,I4 (T C))]) (Hg:=Hy) [9] U U U U U (λ w' M' hS' R hle=>?_) (hH:=λ C=>by rw[hx];rfl) λ C hg'=>?_
  ·have O:=R.get (k:=5) U
   have h6:Sl M' 11 ((at' t.ps (k:Int)).named []).flat.length v5 (((at' t.ps (k:Int)).named []).flat.flatMap Tm.cells):=O.sl
   obtain⟨a,c,hv⟩:=h6.shape
   have hp:(Hy g++(s::z:: .box b [v] 23::Rs)).Perm (D g::E g:: .box b [v] 23::s::z::Rs):=by
    rw[hx]
    exact((List.perm_middle (l₁:=[s,z])).cons _).cons _
   replace hv:v5=AI.v ⟨a,((at' t.ps (k:Int)).named []).flat.length,c⟩:=hv
   subst hv
   obtain⟨fn,tt',asg,bd,e1,e2⟩:=hy k g ⟨a,_,c⟩ w' M' F J trivial (hS'.perm hp) hle (AD O A3) (R.get (k:=9) rfl).more
   dsimp only at e1
   rw[<-hnm]at e1
   refine⟨fn,tt',asg,bd,e1,e2.mono λ e w2 h=>?_⟩
   obtain⟨C,M2,r1,r2,r3,r4,r5⟩:=h
   refine⟨C,M2,r1,r2,r3,?_,AD ⟨Sl.nil M2 1,DO,r5⟩ A3⟩
   refine r4.perm (List.Perm.append_left _ ?_)
   exact(List.perm_middle (l₁:=[s,z])).symm
  ·refine A1 U (λ S=>?_) (λ S=>?_)
   ·cases S
   ·refine AX (j,k+1,C) U U ⟨⟨n.1,?_⟩,F,hg'⟩ (by show t.ps.length-(k+1)<t.ps.length-k;omega)
    rw[n.2];simp[AN]
 ·have hk3:k=t.ps.length:=by omega
  refine U8 hB U U λ w' M' hX=>⟨g,M',rfl,by rw[<-hk3];exact J,hX.le,hX.st.perm ?_,(hX.f.get (k:=9) U).more⟩
  rw[hx]
  exact List.perm_middle (l₁:=[D g,E g,s,z])
theorem AH2{w0 i:World}{M0 M:Mem}{Rs:List HO}{v:Value}{t:Tf}(hS:St w0 M0 i M Rs)(hl:(A6 v t.flat).ok M):
  Calls prog 133 [v].toArray i (BF w0 M0 M Rs (λ b:Nat=>.func (.func 165) #[] #[.pointer (some ⟨b,0,none⟩)]) (λ _=>True) (λ _=>[]) λ b=>[.box b [v] 23]):=AH (Hr:=Rs) AF func133 U ntmps133 [(0,A6 v t.flat)] [] [.sl 0 v] U hS (AD hl A3) (λ B j=>BM 1 U U U λ b=>AR (.v (.func (.func 165) #[] #[.pointer (some ⟨b,0,none⟩)])) U U (λ w M e=>PV.makeFunc (xs:=[]) (ys:=[.tmp 1]) (vs:=[]) (us:=[.pointer (some ⟨b,0,none⟩)]) trivial ⟨A7 (v:=.bx 1 b 0) (E:=[]) U,trivial⟩) <|A2 j rfl rfl rfl λ w' M' e=>⟨b,M',rfl,trivial,e.le,e.st,λ x h=>by cases h⟩) U
abbrev UT(v:Value)(hs:List AI):HO:=.own 23 1 v hs.length (hs.flatMap BX)
abbrev DL(t:Tf):List Fl:=t.ps.map λ x=>(x.named []).flat
theorem mR{t:Tf}{k:Nat}(b:k<t.ps.length):(DL t).take (k+1)=(DL t).take k++[((at' t.ps (k:Int)).named []).flat]:=by
 obtain⟨h1,e⟩:=CE t.ps (i:=(k:Int)) Aa (by unfold len;omega)
 rw[e,List.take_add_one]
 simp[DL,b]
theorem AH3{α:Type}{a b c:α}{l:List α}:l.Sublist (a::b::c::l):=List.sublist_append_right [a,b,c] l
theorem mS{α:Type}{a b c d:α}{l:List α}:l.Sublist (a::b::c::d::l):=List.sublist_append_right [a,b,c,d] l
theorem S1{w0 A:World}{M0 M:Mem}{Rs:List HO}{v:Value}{t:Tf}(hS:St w0 M0 A M Rs)(hl:(A6 v t.flat).ok M)(E:len t.flat<=1099511627776):
    Calls prog 77 [v].toArray A (BF w0 M0 M Rs (λ g:Value×List AI=>g.1) (λ g=>len g.2=len t.ps) (λ g=>[(0,C9 g.1 g.2 (DL t))]) λ _=>[]):=by
 have F:=JJ t.ps
 have G:len t.flat=1+len (AN t.ps):=by rw[Tf.FG,AL];omega
 have H:len t.ps=(t.ps.length:Int):=rfl
 refine UB (Hr:=Rs) AF func77 U ntmps77 [(0,A6 v t.flat)] [] [.sl 0 v] U hS (AD hl A3) (λ B J=>B9 1 U zeroValue55 U λ n=>AP [] (λ b:Nat=>.v (.func (.func 165) #[] #[.pointer (some ⟨b,0,none⟩)])) [] (λ b=>[(2,.box b [.sl 0 v] 23)]) U U call133 U U (λ w M hS hF=>AH2 hS (hF.get (k:=0) U)) λ L _=>WW [2] U U <|WZ 6 23 1 BX E5 <|DW 9 (C9 (.slice none 0 0) [] []) (λ w M j=>⟨Sl.nil M 1,E5,trivial⟩) <|kV ⟨_,[(6,.ho (UT (.slice none 0 0) [])),(1,.box n [.sl 6 (.slice none 0 0)] 55)],_⟩ U U U ?_) U
 refine zI (σ:=Value×List AI×List Fl) (τ:=AI) (λ g=>⟨[(0,A6 v t.flat),(6,kn g.1 1 g.2.1 BX),(9,C9 g.1 g.2.1 g.2.2)],[(1,.box n [.sl 6 g.1] 55),(6,.ho (UT g.1 g.2.1))],[Z 3 (.bx 1 n 0)]⟩) (λ k g=>g.2.2=(DL t).take k/\g.2.1.length=k) (.slice none 0 0,[],[]) (λ k g y=>⟨[(5,A6 y.v ((at' t.ps (k:Int)).named []).flat),(0,A6 v t.flat),(6,kn g.1 1 g.2.1 BX),(9,C9 g.1 g.2.1 g.2.2)],[(1,.box n [.sl 6 g.1] 55),(6,.ho (UT g.1 g.2.1))],[Z 5 (.sl 5 y.v),Z 3 (.bx 1 n 0)]⟩)
   (λ _ _ _ _ h=>h) U U call165 U ⟨rfl,rfl⟩ (λ _=>rfl) ⟨_,_,λ _=>rfl⟩ (λ w M l D r w' j=>AH1 (j.f.get (k:=0) U) E) (λ _ _=>rfl)
   (λ k g y l D r M C z hp=>?_) U (λ k g y l D r M C z hp=>?_) U (λ D g a w z=>?_)
 ·exact AT _ U U U
 ·obtain⟨q,hs,xs⟩:=g
  obtain⟨e,i⟩:=z
  exact BH 7 [y] BX 1 23 E5 U U Ah U λ N=>F4 24 U U U underlying55 type23 U U O7 (by simp only[AL,len_nil];unfold len at*;dsimp only at i;omega) λ v'=>DW 9 (C9 v' (hs++[y]) (xs++[((at' t.ps (k:Int)).named []).flat])) (λ w M j=>⟨j.sl 6 U,E5,B5.snoc (j.sl 5 U) (j.f.get (k:=9) U).more⟩) <|AT _ U U ⟨(v',hs++[y],xs++[((at' t.ps (k:Int)).named []).flat]),rfl,by dsimp only at e ⊢;rw[e,mR C],by dsimp only at i ⊢;rw[List.length_append,i];rfl⟩
 ·obtain⟨q,hs,xs⟩:=g
  obtain⟨e,i⟩:=z
  dsimp only at e
  rw[List.take_of_length_le (by simp[DL])]at e
  subst e
  refine WT 8 (λ _ _ _ _ h=>h) U (s:=⟨[(0,A6 v t.flat),(6,kn q 1 hs BX),(9,C9 q hs (DL t))],[(1,.box n [.sl 6 q] 55),(6,.ho (UT q hs))],[Z 3 (.bx 1 n 0)]⟩) ?_ a w
  refine A2 (J.DX U D) U U U λ w M j=>?_
  obtain⟨h1,K⟩:=j.shut
  exact⟨by simp,h1,(q,hs),M,rfl,by show(hs.length:Int)=_;rw[i];rfl,j.le,K.drop _ AH3,AD (j.f.get (k:=9) U) A3⟩
theorem A6.shape {M:Mem}{v:Value}{x:Fl}(h:(A6 v x).ok M): ∃s:AI,v=s.v:=by
 obtain⟨a,c,b⟩:=h.sl.shape
 exact⟨⟨a,_,c⟩,b⟩
abbrev FP(hs:List AI)(xs:List Fl):Kn:=⟨.slice none 0 0,1,([]:List A0),DV,λ M=>B5 M 11 Tm.cells hs xs,λ _ _ hm h=>B5.mono hm h⟩
end Go.Proofs.YtnoegalemkbbbaaGreatDoor
namespace Go.Eng
structure S2 (l:List Tk):Prop where
 last: ∀i,0<=i->i<len l->(at' l i).kind≠6->i+1<len l
 IY: ∀t∈l,t.kind=5-> ∀b∈t.c.s,CS b=true
 num: ∀t∈l,t.kind=5->len t.c.s<=1048576/\t.c.e<=1000000000
 bd: ∀t∈l,len t.s<=1048576
 few:len l<=1048576
theorem K5{α β:Type}{r:PR α}{k:α->Int->PR β}{y:β}{m:Int}(h:r.bind k= .ok y m): ∃x j,r= .ok x j/\k x j= .ok y m:=by
 cases r with
 |er c p=>cases h
 |ok x j=>exact⟨x,j,rfl,h⟩
theorem dH{α:Type}{l:List Tk}{i e:Int}{x:α}{j:Int}(h:JI l i e= .ok x j):False:=by cases h
section
variable {l:List Tk} (hl:S2 l) {i:Int} (h0:0<=i) (h1:i<len l)
include hl h0 h1
theorem AH4{m:A0}(h:CI l i m=true):i+1<len l:=hl.last i h0 h1 λ e=>by
 unfold CI at h;rw[e]at h;simp at h
theorem AH5{k:Int}(h:(at' l i).kind=k)(b:k≠6):i+1<len l:=hl.last i h0 h1 λ e=>b (by rw[<-h,e])
theorem BD9{m:A0}{u:Unit}{j:Int}(h:H5 l i m= .ok u j):j=i+1/\j<len l/\CI l i m=true:=by
 unfold H5 at h
 split at h
 ·rename_i hm;cases h;exact⟨rfl,AH4 hl h0 h1 hm,hm⟩
 ·exact(dH h).elim
theorem BE0{x:Int}{j:Int}(h:MX l i= .ok x j):j=i+1/\j<len l/\x<=1000000/\(at' l i).kind=5:=by
 unfold MX at h
 split at h
 ·exact(dH h).elim
 ·rename_i k
  split at h
  ·exact(dH h).elim
  ·cases h
   have b:(at' l i).kind=5:=Decidable.byContradiction λ e=>k (.inl e)
   exact⟨rfl,AH5 hl h0 h1 b Ab,Aa,b⟩
structure mT (l:List Tk) (i:Int) (x:Tf) (j:Int):Prop where
 lt:i<j
 le:j<len l
 pipe:US x
 name:x.t.name=[]
 size:len x.flat<=4*(j-i)
omit hl h0 h1 in
theorem Tf.dI (t:Tm):len (Tf.mk t []).flat=1:=by rw[Tf.UR];rfl
omit hl h0 h1 in
theorem mT.leaf {t:Tm}{j:Int}(ho:t.op≠4)(b:t.name=[])(e:i<j)(h:j<len l):mT l i (.mk t []) j:=⟨e,h,.no ho,b,by rw[Tf.dI];omega⟩
end
section
variable {l:List Tk} (hl:S2 l) (q:A0->A0)
end
open Go.RowKit
theorem dJ{s:A0}{p:Int}(c:UInt8):((A4 s p).toNat.toUInt8=c)↔A4 s p=(c.toNat:Int):=by
 unfold A4
 rw[Int.toNat_natCast,<-UInt8.toNat_inj]
 simp;omega
theorem dK(x:UInt8): ¬0<=Lib.indexByte [] x:=by unfold Lib.indexByte;decide
theorem dL(c x:UInt8)(l:List UInt8):0<=Lib.indexByte (c::l) x↔c=x\/0<=Lib.indexByte l x:=by
 have hm: ∀l:List UInt8,-1<=Lib.indexByte l x:=by
  intro l
  induction l with
  |nil=>unfold Lib.indexByte;decide
  |cons a l i=>unfold Lib.indexByte;(repeat' split)<;>omega
 have:=hm l
 rw[Lib.indexByte]
 by_cases h:c=x
 ·rw[if_pos (by simpa using h)];exact⟨λ _=>.inl h,λ _=>Int.le_refl _⟩
 ·rw[if_neg (by simpa using h)]
  by_cases h2:Lib.indexByte l x= -1
  ·rw[if_pos (by simpa using h2)];exact⟨λ b=>by omega,λ b=>b.elim (λ e=>absurd e h) (λ e=>by omega)⟩
  ·rw[if_neg (by simpa using h2)];exact⟨λ _=>.inr Aa,λ _=>by omega⟩
theorem S3{s:A0}{c:UInt8}{p:Int}:D3 s [c] p=true↔p<len s/\A4 s p=(c.toNat:Int):=by
 unfold D3
 simp only[Bool.and_eq_true,decide_eq_true_eq,dL,dK,or_false]
 rw[<-dJ c,eq_comm (a:=c)]
theorem mU{s:A0}{c d:UInt8}{p:Int}:D3 s [c,d] p=true↔p<len s/\(A4 s p=(c.toNat:Int)\/A4 s p=(d.toNat:Int)):=by
 unfold D3
 simp only[Bool.and_eq_true,decide_eq_true_eq,dL,dK,or_false]
 rw[<-dJ c,<-dJ d,eq_comm (a:=c),eq_comm (a:=d)]
def K6(s:A0):Int×Int×Bool:=
 let a:Int:=if 0<len s/\A4 s 0=45 then 1 else 0
 if AY s a=a then(a,a,false)else if A4 s a=48 then(a,a+1,true)else(a,AY s a,true)
def FQ(s:A0)(i:Int):Int×A0×Int:=
 if i=len s\/ ¬(A4 s i=101\/A4 s i=69)then(0,[],i)
 else if i+1<len s/\(A4 s (i+1)=43\/A4 s (i+1)=45)then
  (if A4 s (i+1)=45 then-1 else 1,Eng.sub s (i+1+1) (AY s (i+1+1)),AY s (i+1+1))
 else(1,Eng.sub s (i+1) (AY s (i+1)),AY s (i+1))
def H7(s:A0)(fg:A0)(e:Int)(i:Int):Nd×Int×Int:=
 let p:=FQ s i
 if p.2.2<len s\/(p.1≠0/\p.2.1=[])then(C3,p.2.2,1)
 else if 6<len (AW p.2.1)then(C3,0,2)
 else((CH (A4 s 0==45) fg (e+p.1*CG (AW p.2.1))).1,0,(CH (A4 s 0==45) fg (e+p.1*CG (AW p.2.1))).2)
def UU(s:A0):Nd×Int×Int:=
 let wh:=K6 s
 if wh.2.2=false then(C3,wh.1,1)
 else if wh.2.1<len s/\A4 s wh.2.1=46 then
  if AY s (wh.2.1+1)=wh.2.1+1 then(C3,AY s (wh.2.1+1),1)
  else H7 s (Eng.sub s wh.1 wh.2.1++Eng.sub s (wh.2.1+1) (AY s (wh.2.1+1))) (wh.2.1+1-AY s (wh.2.1+1)) (AY s (wh.2.1+1))
 else H7 s (Eng.sub s wh.1 wh.2.1) 0 wh.2.1
theorem S4{α:Type}{s:List α}{i j:Int}(h0:0<=i)(h1:i<=j)(b:j<=len s):Eng.sub s i j=[]↔j=i:=by
 constructor
 ·intro h
  have:=FF h0 h1 b
  rw[h,len_nil]at this;omega
 ·rintro rfl;unfold Eng.sub;simp
theorem PW{s:A0}{i j k:Int}(h0:0<=i)(h1:0<=k)(b:i+k<j)(e:j<=len s):A4 (Eng.sub s i j) k=A4 s (i+k):=by
 unfold A4 Eng.sub
 rw[List.getD_eq_getElem?_getD,List.getElem?_take,if_pos Aa,List.getElem?_drop,<-List.getD_eq_getElem?_getD,show i.toNat+k.toNat=(i+k).toNat from by omega]
theorem dM{s h:A0}{x b c2 side:Int}{e:A0}(hp:FQ s b=(side,e,c2))(h0:side≠0):H7 s h x b=if e=[]\/c2<len s then(C3,c2,1)else J6 (A4 s 0==45) h x e side:=by
 unfold H7 J6
 rw[hp]
 dsimp only
 by_cases c3:e=[]\/c2<len s
 ·rw[if_pos c3,if_pos (by rcases c3 with c3|c3;exact .inr ⟨h0,c3⟩;exact .inl c3)]
 ·rw[if_neg c3,if_neg (by rintro(c4|⟨_,c4⟩);exact c3 (.inr c4);exact c3 (.inl c4))]
theorem mV{s:A0}{neg:Bool}{z:A0}{x b:Int}(j:neg=(A4 s 0==45))(h0:0<=b)(h1:b<=len s):
  II s neg z x b=H7 s z x b:=by
 subst j
 have n:= @mU s 101 69 b
 have e2:= @S3 s 45 (b+1)
 have e3:= @S3 s 43 (b+1)
 simp only[show((101:UInt8).toNat:Int)=101 from rfl,show((69:UInt8).toNat:Int)=69 from rfl,show((45:UInt8).toNat:Int)=45 from rfl,show((43:UInt8).toNat:Int)=43 from rfl]at n e2 e3
 unfold II
 by_cases c1:D3 s [101,69] b=true
 ·have q:=n.1 c1
  have e: ¬(b=len s\/ ¬(A4 s b=101\/A4 s b=69)):=by rintro(h|h);omega;exact h q.2
  rw[if_pos c1,RJ c1]
  unfold X5
  by_cases c2:D3 s [45] (b+1)=true
  ·have i:=e2.1 c2
   have hp:FQ s b=(-1,Eng.sub s (b+1+1) (AY s (b+1+1)),AY s (b+1+1)):=by
    unfold FQ;rw[if_neg e,if_pos ⟨i.1,.inr i.2⟩,if_pos i.2]
   rw[dM hp Ab,RJ c2]
   simp only[c2,if_true]
  ·rw[RM (by simpa using c2)]
   by_cases c4:D3 s [43] (b+1)=true
   ·have k:=e3.1 c4
    have hp:FQ s b=(1,Eng.sub s (b+1+1) (AY s (b+1+1)),AY s (b+1+1)):=by
     unfold FQ;rw[if_neg e,if_pos ⟨k.1,.inl k.2⟩,if_neg Aa]
    rw[dM hp Ab,RJ c4]
    simp only[c2,Bool.false_eq_true,if_false]
   ·rw[RM (by simpa using c4)]
    have w: ¬(b+1<len s/\(A4 s (b+1)=43\/A4 s (b+1)=45)):=by
     rintro⟨l,y|y⟩
     ·exact c4 (e3.2 ⟨l,y⟩)
     ·exact c2 (e2.2 ⟨l,y⟩)
    have hp:FQ s b=(1,Eng.sub s (b+1) (AY s (b+1)),AY s (b+1)):=by
     unfold FQ;rw[if_neg e,if_neg w]
    rw[dM hp Ab]
    simp only[c2,Bool.false_eq_true,if_false]
 ·have w:b=len s\/ ¬(A4 s b=101\/A4 s b=69):=by
   by_cases h:b=len s
   ·exact .inl h
   ·exact .inr λ l=>c1 (n.2 ⟨Aa,l⟩)
  have hp:FQ s b=(0,[],b):=by unfold FQ;rw[if_pos w]
  rw[if_neg c1,RM (by simpa using c1)]
  unfold H7 J6
  rw[hp]
  dsimp only
  by_cases c3:b<len s
  ·rw[if_pos c3,if_pos (.inl c3)]
  ·rw[if_neg c3,if_neg (show ¬(b<len s\/((0:Int)≠0/\([]:A0)=[]))from by rintro(h|h);exact c3 h;exact h.1 rfl)]
   simp only[show AW []=[]from rfl,len_nil,show ¬((6:Int)<0)from by decide,if_false,show CG []=0 from rfl,Int.mul_zero]
theorem mW{s:A0}{a:Int}(b:BJ s [45] 0=a):GC s=
 if 1<len (Eng.sub s a (AY s a))/\A4 (Eng.sub s a (AY s a)) 0=48 then(C3,a+1,1)
 else if Eng.sub s a (AY s a)=[]then(C3,AY s a,1)
 else if D3 s [46] (AY s a)then
  if Eng.sub s (BJ s [46] (AY s a)) (AY s (BJ s [46] (AY s a)))=[]then(C3,AY s (BJ s [46] (AY s a)),1)
  else II s (D3 s [45] 0) (Eng.sub s a (AY s a)++Eng.sub s (BJ s [46] (AY s a)) (AY s (BJ s [46] (AY s a)))) (-(len (Eng.sub s (BJ s [46] (AY s a)) (AY s (BJ s [46] (AY s a)))))) (AY s (BJ s [46] (AY s a)))
 else II s (D3 s [45] 0) (Eng.sub s a (AY s a)) 0 (BJ s [46] (AY s a)):=by subst b;rfl
theorem dN{s:A0}{a b:Int}(hw:K6 s=(a,b,true)):UU s=
  if b<len s/\A4 s b=46 then
   if AY s (b+1)=b+1 then(C3,AY s (b+1),1)
   else H7 s (Eng.sub s a b++Eng.sub s (b+1) (AY s (b+1))) (b+1-AY s (b+1)) (AY s (b+1))
  else H7 s (Eng.sub s a b) 0 b:=by
 unfold UU;rw[hw];simp only[Bool.true_eq_false,if_false]
theorem mX{s:A0}{a b:Int}{neg:Bool}(l:neg=(A4 s 0==45))(h0:0<=a)(h1:a<=b)(w:b<=len s):
  (if D3 s [46] b then
   if Eng.sub s (BJ s [46] b) (AY s (BJ s [46] b))=[]then(C3,AY s (BJ s [46] b),1)
   else II s neg (Eng.sub s a b++Eng.sub s (BJ s [46] b) (AY s (BJ s [46] b))) (-(len (Eng.sub s (BJ s [46] b) (AY s (BJ s [46] b))))) (AY s (BJ s [46] b))
  else II s neg (Eng.sub s a b) 0 (BJ s [46] b))=
  if b<len s/\A4 s b=46 then
   if AY s (b+1)=b+1 then(C3,AY s (b+1),1)
   else H7 s (Eng.sub s a b++Eng.sub s (b+1) (AY s (b+1))) (b+1-AY s (b+1)) (AY s (b+1))
  else H7 s (Eng.sub s a b) 0 b:=by
 have n:= @S3 s 46 b
 simp only[show((46:UInt8).toNat:Int)=46 from rfl]at n
 by_cases c3:D3 s [46] b=true
 ·have q:=n.1 c3
  rw[if_pos c3,if_pos q,RJ c3]
  have e:=PI s (b+1) Aa Aa
  have k:=S4 (s:=s) (i:=b+1) (j:=AY s (b+1)) Aa e.1 e.2
  by_cases c4:AY s (b+1)=b+1
  ·rw[if_pos c4,if_pos (k.2 c4)]
  ·rw[if_neg c4,if_neg (λ h=>c4 (k.1 h))]
   rw[mV l Aa e.2,FF Aa e.1 e.2]
   congr 1;omega
 ·rw[if_neg c3,if_neg (λ h=>c3 (n.2 h)),RM (by simpa using c3)]
  rw[mV l Aa Aa]
theorem AH6(s:A0):UU s=GC s:=by
 have e:= @S3 s 45 0
 simp only[show((45:UInt8).toNat:Int)=45 from rfl]at e
 have hl:=A8 s
 have i:D3 s [45] 0=(A4 s 0==45):=by
  rw[Bool.eq_iff_iff,e,beq_iff_eq]
  refine⟨λ h=>h.2,λ h=>⟨?_,h⟩⟩
  rcases Int.lt_or_le 0 (len s)with w|w
  ·exact w
  ·have:s=[]:=by cases s with|nil=>rfl|cons a l=>rw[AL]at w;have:=A8 l;omega
   subst this;revert h;decide
 have y:(if 0<len s/\A4 s 0=45 then(1:Int)else 0)=BJ s [45] 0:=by
  unfold BJ
  by_cases c:D3 s [45] 0=true
  ·rw[if_pos c,if_pos (e.1 c)];rfl
  ·rw[if_neg c,if_neg (λ h=>c (e.2 h))]
 have b:=cK s [45] 0 hl
 generalize hA:BJ s [45] 0=a at*
 have hw:K6 s=if AY s a=a then(a,a,false)else if A4 s a=48 then(a,a+1,true)else(a,AY s a,true):=by unfold K6;simp only[y]
 have n:=PI s a b.1 b.2
 have j:=S4 b.1 n.1 n.2
 have z:=FF b.1 n.1 n.2
 rw[mW hA]
 by_cases c0:AY s a=a
 ·rw[if_pos c0]at hw
  have hs:=j.2 c0
  rw[hs,if_neg (by rw[len_nil];omega),if_pos U,c0]
  unfold UU;rw[hw];rfl
 ·rw[if_neg c0]at hw
  have hs: ¬Eng.sub s a (AY s a)=[]:=λ h=>c0 (j.1 h)
  have q:A4 (Eng.sub s a (AY s a)) 0=A4 s a:=by rw[PW b.1 Aa Aa n.2,Int.add_zero]
  by_cases c1:A4 s a=48
  ·rw[if_pos c1]at hw
   by_cases c2:1<len (Eng.sub s a (AY s a))
   ·have k:= @lD s a (a+1) b.1 Aa Aa
    unfold C5 at k
    simp only[Bool.and_eq_true,decide_eq_true_eq]at k
    have hp:FQ s (a+1)=(0,[],a+1):=by unfold FQ;rw[if_pos (.inr Aa)]
    rw[if_pos ⟨c2,by rw[q,c1]⟩,dN hw,if_neg Aa]
    unfold H7;rw[hp];dsimp only
    rw[if_pos (.inl Aa)]
   ·have he:AY s a=a+1:=by omega
    rw[he]at c2 hs n
    rw[he,if_neg (λ h=>c2 h.1),if_neg hs,mX i b.1 Aa Aa,dN hw]
  ·rw[if_neg c1]at hw
   rw[if_neg (λ h=>c1 (by rw[<-q];exact h.2)),if_neg hs,mX i b.1 Aa Aa,dN hw]
theorem AH7{s:A0}{i:Int}(h0:0<=i)(h1:i<=len s):(-1<=(FQ s i).1/\(FQ s i).1<=1)/\(0<=len (FQ s i).2.1/\len (FQ s i).2.1<=len s)/\(i<=(FQ s i).2.2/\(FQ s i).2.2<=len s)/\ ∀b∈(FQ s i).2.1,CS b=true:=by
 unfold FQ
 split
 ·refine⟨by dsimp only;omega,⟨Int.le_refl _,A8 s⟩,by dsimp only;omega,by intro b e;cases e⟩
 ·rename_i j
  have k:i<len s:=by
   rcases Int.lt_or_le i (len s)with h|h
   ·exact h
   ·exact absurd (.inl Aa) j
  split
  ·rename_i n
   have l:=PI s (i+1+1) Aa Aa
   refine⟨by dsimp only;split<;>omega,PJ _ _ _,by dsimp only;omega,X6 Aa⟩
  ·have l:=PI s (i+1) Aa Aa
   refine⟨by dsimp only;omega,PJ _ _ _,by dsimp only;omega,X6 Aa⟩
theorem AH8{t:A0}(h: ∀b∈t,CS b=true)(hl:len t<=6)(k:Int):0<=CG (Eng.sub t 0 k)/\CG (Eng.sub t 0 k)<1000000:=by
 have h1:=lJ (Eng.sub t 0 k) 0 (λ b e=>h b ((List.take_sublist _ _).subset e|>λ x=>by simpa using x)) Aa
 have i:=PJ t 0 k
 have j:(10:Int)^ (Eng.sub t 0 k).length<=10^6:=by
  have:(10:Nat)^ (Eng.sub t 0 k).length<=10^6:=Nat.pow_le_pow_right Aa (by unfold len at*;omega)
  exact_mod_cast this
 unfold CG;omega
theorem AH9(s:A0):0<=(K6 s).1/\(K6 s).1<=len s/\(K6 s).1<=(K6 s).2.1/\(K6 s).2.1<=len s/\((K6 s).2.2=true->0<len s):=by
 have hl:=A8 s
 have key: ∀a:Int,0<=a->a<=len s->(let w:=if AY s a=a then(a,a,false)else if A4 s a=48 then(a,a+1,true)else(a,AY s a,true);0<=w.1/\w.1<=len s/\w.1<=w.2.1/\w.2.1<=len s/\(w.2.2=true->0<len s)):=by
  intro a h0 h1
  have b:=PI s a h0 h1
  dsimp only
  split
  ·exact⟨h0,h1,Int.le_refl _,h1,λ h=>by cases h⟩
  ·split
   ·refine⟨h0,h1,?_,?_,λ _=>?_⟩<;>(try dsimp only)<;>omega
   ·refine⟨h0,h1,?_,?_,λ _=>?_⟩<;>(try dsimp only)<;>omega
 unfold K6
 exact key _ (by split<;>omega) (by split<;>omega)
theorem AI0(s:A0):0<=(GC s).2.1/\(GC s).2.1<=len s/\((GC s).2.2=0\/(GC s).2.2=1\/(GC s).2.2=2\/(GC s).2.2=4):=by
 have j: ∀(neg:Bool) (b:A0) (x:Int),(CH neg b x).2=0\/(CH neg b x).2=2\/(CH neg b x).2=4:=by
  intro neg b x;unfold CH;(repeat' split)<;>simp
 have hw:=AH9 s
 have hl:=A8 s
 have hx: ∀(b:A0) (e i:Int),0<=i->i<=len s->0<=(H7 s b e i).2.1/\(H7 s b e i).2.1<=len s/\((H7 s b e i).2.2=0\/(H7 s b e i).2.2=1\/(H7 s b e i).2.2=2\/(H7 s b e i).2.2=4):=by
  intro b e i h0 h1
  have hp:=AH7 h0 h1
  unfold H7
  dsimp only
  split
  ·exact⟨by dsimp only;omega,by dsimp only;omega,.inr (.inl U)⟩
  ·split
   ·exact⟨Int.le_refl _,hl,.inr (.inr (.inl U))⟩
   ·refine⟨Int.le_refl _,hl,?_⟩
    dsimp only
    have:=j (A4 s 0==45) b (e+(FQ s i).1*CG (AW (FQ s i).2.1))
    rcases this with h|h|h<;>rw[h]<;>simp
 rw[<-AH6]
 unfold UU
 dsimp only
 split
 ·exact⟨by dsimp only;omega,by dsimp only;omega,.inr (.inl U)⟩
 ·split
  ·rename_i k
   have l:=PI s ((K6 s).2.1+1) Aa Aa
   split
   ·exact⟨by dsimp only;omega,by dsimp only;omega,.inr (.inl U)⟩
   ·exact hx _ _ _ Aa Aa
  ·exact hx _ _ _ Aa Aa
def PX(e:Int×Int):A0×Int:=if e.2=0 then([],0)else(toStr (Lib.encodeRuneZ e.1),e.2)
def HK(s:A0)(i:Int):A0×Int:=if A4 s i=92 then PX (BW (A5 s i))else(Eng.sub s i (i+rune s i),rune s i)
def LW(f:Nat)(s:A0)(i:Int)(o:A0):Prop:= ∃acc,o=toStr acc/\DQ f s i acc=B4 s
theorem XZ(a b:List Int):toStr (a++b)=toStr a++toStr b:=List.map_append
theorem J9{s:A0}{i:Int}(h0:0<=i)(h1:i<len s){c:Int}(h:c<128):B2 s i=c↔A4 s i=c:=by
 rcases LP h0 h1 with⟨_,b,_,e⟩|⟨_,_,_,_,b,e⟩<;>omega
theorem mY{s:A0}{i:Int}(h0:0<=i)(h1:i<len s){c:Int}(h:c<=128):B2 s i<c↔A4 s i<c:=by
 rcases LP h0 h1 with⟨_,b,_,e⟩|⟨_,_,_,_,b,e⟩<;>omega
theorem Y0{s:A0}{i:Int}(h0:0<=i)(h1:i<len s):rune s i=0↔(B2 s i=65533/\runeLen s i=1):=by
 rcases LP h0 h1 with⟨e,j,b,_⟩|⟨e,j,b,_,_⟩
 ·exact⟨λ _=>⟨j,b⟩,λ _=>e⟩
 ·exact⟨λ h=>by omega,λ h=>absurd h b⟩
theorem LW.quote {f:Nat}{s o:A0}{i:Int}(h:LW f s i o)(b:(len s-i).toNat<=f)(h0:0<=i)(h1:i<len s)(e:A4 s i=34):B4 s=(o,i+1,0):=by
 obtain⟨acc,rfl,h⟩:=h
 rw[<-h,RN b h1,if_pos (by rw[RP s i h0,J9 h0 h1 Ab];exact e)]
theorem LW.bad {f:Nat}{s o:A0}{i:Int}(h:LW f s i o)(e:(len s-i).toNat<=f)(h0:0<=i)(h1:i<len s)(j: ¬A4 s i=34)(b:(HK s i).2=0\/A4 s i<32):B4 s=([],i,1):=by
 obtain⟨acc,rfl,h⟩:=h
 rw[<-h,RN e h1,RP s i h0,PM s i h0,if_neg (by rw[J9 h0 h1 Ab];exact j)]
 unfold HK PX at b
 by_cases h4:A4 s i=92
 ·rw[if_pos (by rw[J9 h0 h1 Ab];exact h4)]
  rw[if_pos h4]at b
  have:(BW (A5 s i)).2=0:=by
   rcases b with b|b
   ·split at b
    ·assumption
    ·exact b
   ·omega
  rw[if_pos this]
 ·rw[if_neg (by rw[J9 h0 h1 Ab];exact h4)]
  rw[if_neg h4]at b
  dsimp only at b
  rw[if_pos]
  rcases b with b|b
  ·exact .inr ((Y0 h0 h1).1 b)
  ·exact .inl ((mY h0 h1 Ab).2 b)
theorem LW.step {f:Nat}{s o:A0}{i:Int}(h:LW f s i o)(j:(len s-i).toNat<=f)(h0:0<=i)(h1:i<len s)(k: ¬A4 s i=34)(e: ¬((HK s i).2=0\/A4 s i<32)):
  LW (f-1) s (i+(HK s i).2) (o++(HK s i).1):=by
 obtain⟨acc,rfl,h⟩:=h
 rw[RN j h1,RP s i h0,PM s i h0,if_neg (by rw[J9 h0 h1 Ab];exact k)]at h
 unfold HK PX at*
 by_cases h4:A4 s i=92
 ·rw[if_pos (by rw[J9 h0 h1 Ab];exact h4)]at h
  rw[if_pos h4]at e ⊢
  by_cases b:(BW (A5 s i)).2=0
  ·rw[if_pos b]at e;exact absurd (.inl U) e
  ·rw[if_neg b]at h ⊢
   exact⟨_,(XZ _ _).symm,h⟩
 ·rw[if_neg (by rw[J9 h0 h1 Ab];exact h4)]at h
  rw[if_neg h4]at e ⊢
  dsimp only at e ⊢
  rw[if_neg]at h
  ·rcases LP h0 h1 with⟨b,_⟩|⟨_,b,_,l,_⟩
   ·exact absurd (.inl b) e
   ·rw[b]at h
    exact⟨_,by rw[XZ,l],h⟩
  ·rintro(b|b)
   ·exact e (.inr ((mY h0 h1 Ab).1 b))
   ·exact e (.inl ((Y0 h0 h1).2 b))
theorem LW.dO {f:Nat}{s o:A0}{i:Int}(h:LW f s i o)(h1: ¬i<len s):B4 s=([],len s,1):=by
 obtain⟨acc,rfl,h⟩:=h
 rw[<-h,lN h1]
theorem AI1{s:A0}{i:Int}(h0:0<=i)(h1:i<len s):0<=(HK s i).2/\i+(HK s i).2<=len s/\len (HK s i).1<=4/\(¬A4 s i=92->len (HK s i).1=rune s i):=by
 have l:=XD (A5 s i)
 have n:=EB s i h0 Aa
 have b:=rune_le s i h1
 have e:=L9 s i
 have q:=FF (s:=s) (i:=i) (j:=i+rune s i) h0 Aa Aa
 have w:=Lib.encodeRuneZ_length (BW (A5 s i)).1
 unfold HK PX
 split
 ·rename_i k
  refine⟨?_,?_,?_,λ h=>absurd k h⟩
  ·split<;>(dsimp only;omega)
  ·split<;>(dsimp only;omega)
  ·split
   ·decide
   ·unfold len toStr;simp;omega
 ·dsimp only;exact⟨e.1,b,Aa,λ _=>by omega⟩
theorem LX{s:A0}{c:UInt8}:Lib.hasPrefix s [c]=true↔ ¬s=[]/\A4 s 0=(c.toNat:Int):=by
 cases s with
 |nil=>simp[Lib.hasPrefix]
 |cons a l=>
  have:A4 (a::l) 0=(a.toNat:Int):=rfl
  rw[this]
  simp only[Lib.hasPrefix,List.isPrefixOf,List.isPrefixOf_nil_left,Bool.and_true,beq_iff_eq,reduceCtorEq,not_false_eq_true,true_and]
  rw[<-UInt8.toNat_inj];omega
def JK:A0:=[34,92,47,98,102,110,114,116]
def dP:A0:=[34,92,47,8,12,10,13,9]
def S5(c k:Int):Prop:= ∀j:Int,0<=j->j<k->c≠A4 JK j
theorem S5.step {c k:Int}(h:S5 c k)(b: ¬c=A4 JK k):S5 c (k+1):=by
 intro j e i
 by_cases h5:j=k
 ·subst h5;exact b
 ·exact h j e Aa
theorem S5.dO {c k:Int}(h:S5 c k)(b:8<=k):KI c=false:=by
 have h0:=h 0 Aa Aa
 have h1:=h 1 Aa Aa
 have i:=h 2 Aa Aa
 have j:=h 3 Aa Aa
 have l:=h 4 Aa Aa
 have n:=h 5 Aa Aa
 have q:=h 6 Aa Aa
 have s:=h 7 Aa Aa
 have e:A4 JK 0=34/\A4 JK 1=92/\A4 JK 2=47/\A4 JK 3=98/\A4 JK 4=102/\A4 JK 5=110/\A4 JK 6=114/\A4 JK 7=116:=by decide
 unfold KI;simp;omega
theorem AI2{c k:Int}(h0:0<=k)(h1:k<8)(b:c=A4 JK k):KI c=true/\toStr (Lib.encodeRuneZ (MT c))=Eng.sub dP k (k+1):=by
 subst b
 have:k=0\/k=1\/k=2\/k=3\/k=4\/k=5\/k=6\/k=7:=by omega
 rcases this with rfl|rfl|rfl|rfl|rfl|rfl|rfl|rfl<;>exact⟨Ab,Ab⟩
theorem AI3{s:A0}(h1: ¬len s<2)(b:KI (A4 s 1)=true):PX (BW s)=(toStr (Lib.encodeRuneZ (MT (A4 s 1))),2):=by
 unfold BW;rw[if_neg h1,if_pos b];rfl
def GF(c:Int):Int:=if 48<=c/\c<=57 then c-48 else if 97<=c/\c<=102 then c-87 else if 65<=c/\c<=70 then c-55 else-1
theorem dQ(b:UInt8):LN b=GF (b.toNat:Int):=by unfold LN GF;(repeat' split)<;>omega
theorem mZ{s:A0}{i k:Int}(h:0<=i)(h0:i<=k)(h1:k<len s): ∃b,Eng.sub s i (k+1)=Eng.sub s i k++[b]/\(b.toNat:Int)=A4 s k:=by
 have e:k.toNat<s.length:=by unfold len at h1;omega
 refine⟨s[k.toNat],?_,by simp[A4,e]⟩
 unfold Eng.sub
 have j:k.toNat-i.toNat<(s.drop i.toNat).length:=by rw[List.length_drop];omega
 rw[show(k+1).toNat-i.toNat=(k.toNat-i.toNat)+1 from by omega,List.take_succ_eq_append_getElem j,List.getElem_drop]
 congr 3;omega
theorem n5{s:A0}{i k:Int}(h:0<=i)(h0:i<=k)(h1:k<len s)(l:EF (Eng.sub s i k)=true)(e:0<=GF (A4 s k)):
  EF (Eng.sub s i (k+1))=true/\F7 (Eng.sub s i (k+1))=F7 (Eng.sub s i k)*16+GF (A4 s k):=by
 obtain⟨b,n,j⟩:=mZ h h0 h1
 rw[n,<-j,<-dQ]
 rw[<-j,<-dQ]at e
 unfold EF F7 at*
 rw[List.all_append,l,List.foldl_append]
 simp[e]
theorem n7{s:A0}{i k j:Int}(h:0<=i)(h0:i<=k)(h1:k<j)(b:j<=len s)(l:GF (A4 s k)<0):EF (Eng.sub s i j)=false:=by
 unfold EF
 rw[List.all_eq_false]
 have e:k.toNat<s.length:=by unfold len at b;omega
 refine⟨s[k.toNat],?_,?_⟩
 ·unfold Eng.sub
  rw[List.mem_take_iff_getElem]
  refine⟨k.toNat-i.toNat,by rw[List.length_drop];omega,?_⟩
  rw[List.getElem_drop];congr 1;omega
 ·rw[dQ]
  have:((s[k.toNat]).toNat:Int)=A4 s k:=by simp[A4,e]
  rw[this];simp;omega
theorem AI4{l:A0}(h:EF l=true)(hl:len l<=4):0<=F7 l/\F7 l<=65535:=by
 unfold EF at h
 have:=UJ l 0 (by simpa[List.all_eq_true]using h) Aa
 have b:(16:Int)^l.length<=16^4:=by
  have:(16:Nat)^l.length<=16^4:=Nat.pow_le_pow_right Aa (by unfold len at hl;omega)
  exact_mod_cast this
 unfold F7;omega
theorem AI5{l:A0}(h:EF l=true)(hl:len l<=3):0<=F7 l/\F7 l<=4095:=by
 unfold EF at h
 have:=UJ l 0 (by simpa[List.all_eq_true]using h) Aa
 have b:(16:Int)^l.length<=16^3:=by
  have:(16:Nat)^l.length<=16^3:=Nat.pow_le_pow_right Aa (by unfold len at hl;omega)
  exact_mod_cast this
 unfold F7;omega
theorem Y1{s:A0}{i:Int}(h0:0<=i)(h1:i+6<=len s)(l:A4 s i=92)(n:A4 s (i+1)=117):
  C0 (A5 s i)=if EF (Eng.sub s (i+2) (i+6))then F7 (Eng.sub s (i+2) (i+6))else-1:=by
 have e:Eng.sub (A5 s i) 2 6=Eng.sub s (i+2) (i+6):=by
  unfold Eng.sub A5;rw[List.drop_drop];congr 1
  ·omega
  ·congr 1;omega
 unfold C0
 rw[if_neg (by rw[EB s i h0 Aa];omega),e,if_neg]
 obtain⟨a,b,q⟩:=K1 s i h0 Aa
 obtain⟨c,h,hd⟩:=K1 s (i+1) Aa Aa
 rw[b,h]
 have j:a=92:=by rw[<-UInt8.toNat_inj];show a.toNat=92;omega
 have k:c=117:=by rw[<-UInt8.toNat_inj];show c.toNat=117;omega
 rw[j,k];simp[Lib.hasPrefix]
theorem n8{s:A0}{i:Int}(h0:0<=i)(h:len s<i+6\/ ¬A4 s i=92\/ ¬A4 s (i+1)=117):C0 (A5 s i)= -1:=by
 unfold C0
 by_cases h1:len (A5 s i)<6
 ·rw[if_pos h1]
 ·rw[if_neg h1]
  have b:=XC s i h0
  have l:i+6<=len s:=by split at b<;>omega
  rw[if_pos]
  obtain⟨a,e,j⟩:=K1 s i h0 Aa
  obtain⟨c,k,hd⟩:=K1 s (i+1) Aa Aa
  rw[e,k]
  cases hp:Lib.hasPrefix (a::c::A5 s (i+1+1)) [92,117]with
  |false=>rfl
  |true=>
   exfalso
   simp[Lib.hasPrefix]at hp
   obtain⟨rfl,rfl⟩:=hp
   rcases h with h|h|h
   ·omega
   ·exact h (by rw[j];rfl)
   ·exact h (by rw[hd];rfl)
theorem n9{r:Int}(h:128<=r): ∀b∈toStr (Lib.encodeRuneZ r),128<=b.toNat:=by
 have key: ∀x∈Lib.encodeRuneZ r,128<=x:=by
  intro x hx
  unfold Lib.encodeRuneZ at hx
  (repeat' split at hx)<;>simp at hx<;>omega
 intro b e
 unfold toStr at e
 obtain⟨x,hx,rfl⟩:=List.mem_map.1 e
 have h1:=key x hx
 have i:=Lib.encodeRuneZ_byte r x hx
 simp;omega
theorem AI6: ∀n:Fin 128,KJ (UInt8.ofNat n.val)=E9 (n.val:Int):=by decide+kernel
theorem AI7{b:UInt8}(h:b.toNat<128):KJ b=E9 (b.toNat:Int):=by
 have:=AI6 ⟨b.toNat,h⟩
 simpa using this
theorem AI8{b:UInt8}(h:128<=b.toNat):KJ b=[b]:=by
 unfold KJ MV
 rw[if_neg Aa,if_neg Aa,if_neg Aa,if_neg Aa,if_neg Aa,if_neg Aa,if_neg Aa,if_neg Aa]
 simp only[toStr,List.map_cons,List.map_nil]
 rw[KK b _ U]
theorem AI9{l:A0}(h: ∀b∈l,128<=b.toNat):l.flatMap KJ=l:=by
 induction l with
 |nil=>rfl
 |cons a l e=>rw[List.flatMap_cons,AI8 (h a (by simp)),e (λ b i=>h b (by simp[i]))];rfl
theorem S6{α:Type}(s:List α)(i j:Int)(h0:0<=i)(h1:i<=j):A5 s i=Eng.sub s i j++A5 s j:=by
 unfold A5 Eng.sub
 have:s.drop j.toNat=(s.drop i.toNat).drop (j.toNat-i.toNat):=by rw[List.drop_drop];congr 1;omega
 rw[this,List.take_append_drop]
theorem nA{r:Int}(h:128<=r):E9 r=toStr (Lib.encodeRuneZ r):=by
 unfold E9
 rw[if_neg (by unfold K2;simp;omega),if_neg Aa];rfl
theorem nC{s:A0}{i:Int}(h0:0<=i)(h1:i<=len s)(h:GO s i=true):GR s i=(A5 s i).flatMap KJ:=by
 by_cases hlt:i<len s
 ·have A:=L9 s i
  have hle:=rune_le s i hlt
  rcases LP h0 hlt with⟨k,_⟩|⟨k,n,_,q,w,l⟩
  ·rw[TJ s i h0 hlt k]at h;cases h
  ·rw[<-MK s i h0 hlt Aa]at h
   rw[cL h0 hlt,n,nC (i:=i+rune s i) Aa Aa h,S6 s i (i+rune s i) h0 Aa,List.flatMap_append]
   congr 1
   by_cases hc:A4 s i<128
   ·obtain⟨y,z⟩:=w hc
    obtain⟨b,e,j⟩:=K1 s i h0 hlt
    rw[y]
    have:Eng.sub s i (i+1)=[b]:=by
     have:=S6 s i (i+1) h0 Aa
     rw[e]at this
     exact(List.append_cancel_right (this.symm.trans (List.singleton_append).symm)).trans U
    rw[this,z,j]
    simp only[List.flatMap_cons,List.flatMap_nil,List.append_nil]
    rw[AI7 Aa]
   ·rw[<-q,AI9 (n9 (l Aa)),nA (l Aa)]
 ·rw[cM hlt,PH s i Aa];rfl
termination_by (len s-i).toNat
decreasing_by have:=L9 s i;omega
theorem Y2{s:A0}(h:DJ s=true):DZ s=MW s:=by
 unfold DZ MW
 rw[nC Aa (A8 s) h];rfl
theorem nD{t:A0}{i:Int}(h0:0<=i):KF t i=true↔ ¬t=[]/\ ∀j:Int,i<=j->j<len t->CF (A4 t j) (j==0)=true:=by
 by_cases hlt:i<len t
 ·have k:(F2 (A4 t i)||i != 0&&C5 (A4 t i))=CF (A4 t i) (i==0):=rfl
  by_cases hw:CF (A4 t i) (i==0)=true
  ·rw[<-iY t i h0 hlt (by rw[k];exact hw),nD (i:=i+1) Aa]
   refine and_congr_right λ _=>⟨λ h j h1 b=>?_,λ h j h1 b=>h j Aa b⟩
   by_cases e:j=i
   ·subst e;exact hw
   ·exact h j Aa b
  ·rw[iZ t i h0 hlt (by rw[k];exact hw)]
   exact⟨λ h=>(by cases h),λ h=>absurd (h.2 i (Int.le_refl _) hlt) hw⟩
 ·rw[j3 t i hlt,bne_iff_ne]
  exact Iff.intro (λ h=>And.intro h (λ j h1 b=>by omega)) (λ h=>h.1)
termination_by (len t-i).toNat
theorem UW{t:A0}:FK t=true↔ ¬t=[]/\ ∀j:Int,0<=j->j<len t->CF (A4 t j) (j==0)=true:=nD (Int.le_refl 0)
theorem Y3{α:Type}(s:List α)(i j:Int)(h0:0<=i)(h1:0<=j):Eng.sub (A5 s i) 0 j=Eng.sub s i (i+j):=by
 unfold Eng.sub A5
 simp only[Int.toNat_zero,List.drop_zero,Nat.sub_zero]
 congr 1;omega
theorem AJ0: ∀n:Fin 256,IJ (UInt8.ofNat n.val)=decide ((48<=n.val/\n.val<=57)\/n.val=43\/n.val=45\/n.val=46\/n.val=101\/n.val=69):=by decide+kernel
theorem dR(b:UInt8):IJ b=true↔(48<=b.toNat/\b.toNat<=57)\/b.toNat=43\/b.toNat=45\/b.toNat=46\/b.toNat=101\/b.toNat=69:=by
 have:=AJ0 ⟨b.toNat,b.toNat_lt⟩
 simp only[UInt8.ofNat_toNat]at this
 rw[this,decide_eq_true_eq]
section tok
variable {s:A0} {i:Int}
end tok
theorem AJ1{s:A0}(h1:0<len s)(h:A4 s 0=45\/C5 (A4 s 0)=true):1<=len (runN s):=by
 rw[XA]
 cases s with
 |nil=>exact absurd h1 Ab
 |cons b l=>
  have i:IJ b=true:=by
   rw[dR]
   have e:A4 (b::l) 0=(b.toNat:Int):=rfl
   rw[e]at h
   unfold C5 at h
   simp only[Bool.and_eq_true,decide_eq_true_eq]at h
   omega
  rw[List.takeWhile_cons,i]
  simp[len];omega
theorem AJ2{s:A0}(h1:0<len s):0<=(C1 s).2.1/\(C1 s).2.1<=len s/\((C1 s).2.2=0->1<=(C1 s).2.1)/\((C1 s).2.2=0\/(C1 s).2.2=1\/(C1 s).2.2=2\/(C1 s).2.2=4):=by
 have q:=EB s 1 Aa Aa
 have e:=UL (A5 s 1)
 have i:=UL s
 have j:=O1 (A5 s 1)
 have k:=O1 s
 have w:=AI0 (runN s)
 have l:len (runN s)<=len s:=by unfold runN;exact(PJ _ _ _).2
 have b:=A8 (runN s)
 unfold C1
 split
 ·exact⟨by dsimp only;omega,by dsimp only;omega,λ _=>by dsimp only;omega,.inl U⟩
 ·split
  ·refine⟨by dsimp only;omega,by dsimp only;omega,λ _=>by dsimp only;omega,?_⟩
   dsimp only;omega
  ·split
   ·rename_i hm
    have hp:len (EM s)<=len s:=by
     rcases RT s with h|h
     ·exact absurd h hm
     ·exact XI h.2
    have:=GL hm
    exact⟨by dsimp only;omega,by dsimp only;omega,λ _=>by dsimp only;omega,.inl U⟩
   ·split
    ·rename_i n
     have:=GL n
     exact⟨by dsimp only;omega,by dsimp only;omega,λ _=>by dsimp only;omega,.inl U⟩
    ·split
     ·refine⟨by dsimp only;omega,by dsimp only;omega,λ h=>by dsimp only at h ⊢;omega,?_⟩
      dsimp only;omega
     ·split
      ·rename_i hd
       have hp:=AJ1 h1 hd
       split
       ·rename_i he
        exact⟨by dsimp only;omega,by dsimp only;omega,λ h=>absurd h he,by dsimp only;omega⟩
       ·exact⟨by dsimp only;omega,by dsimp only;omega,λ h=>by dsimp only;omega,.inl U⟩
      ·exact⟨Int.le_refl _,by dsimp only;omega,λ h=>absurd h Ab,.inr (.inl U)⟩
section pv
variable {P:Program} {C:World->Prop} {L:Env} {W:Bool} {d:Option Tmp} {ty:TypeId} {ps:String} {af:Array Edge} {gd:Option (Nat×Bool)}
theorem PV.nE {t h:TypeId}{x y:Operand}{k i:IntKind}{a b r:Int}(hx:AA L W x (.int k a))(j:AA L W y (.int i b))(l:W=true->0<=b)(n:W=true->a.fdiv (2^min b.toNat k.bits)=r):PV P C L W ⟨d,.binOp .shr t x y h,ty,ps,af,gd⟩ (.int k r):=
 .bin hx j λ e w _=>by rw[<-n e];simp[go_sem,binOp,Op.shift,Sem.run,pure,bind,Sem.bind,show ¬b<0 from by have:=l e;omega]
theorem PV.nF {t h:TypeId}{x y:Operand}{k i:IntKind}{a b r:Int}(hx:AA L W x (.int k a))(j:AA L W y (.int i b))(l:W=true->0<=b)(n:W=true->k.wrap (a*2^min b.toNat k.bits)=r):PV P C L W ⟨d,.binOp .shl t x y h,ty,ps,af,gd⟩ (.int k r):=
 .bin hx j λ e w _=>by rw[<-n e];simp[go_sem,binOp,Op.shift,Sem.run,pure,bind,Sem.bind,show ¬b<0 from by have:=l e;omega]
theorem PV.dS {t e:TypeId}{x y:Operand}{k:IntKind}{a b r:Int}(hx:AA L W x (.int k a))(h:AA L W y (.int k b))(i:W=true->k.wrap (BitVec.ofInt k.bits a&&& BitVec.ofInt k.bits b).toNat=r):PV P C L W ⟨d,.binOp .and t x y e,ty,ps,af,gd⟩ (.int k r):=
 .bin hx h λ j w _=>by rw[<-i j];simp[go_sem,binOp,Op.intBits,Sem.run,pure,bind,Sem.bind]
theorem PV.orK {t e:TypeId}{x y:Operand}{k:IntKind}{a b r:Int}(hx:AA L W x (.int k a))(h:AA L W y (.int k b))(i:W=true->k.wrap (BitVec.ofInt k.bits a|||BitVec.ofInt k.bits b).toNat=r):PV P C L W ⟨d,.binOp .or t x y e,ty,ps,af,gd⟩ (.int k r):=
 .bin hx h λ j w _=>by rw[<-i j];simp[go_sem,binOp,Op.intBits,Sem.run,pure,bind,Sem.bind]
end pv
section
variable {c:Cx} {B:Exit->Act->World->Prop} {k k':List Fr} {m:Md} {s s':XS} {O:Prop} {E:List Ck} {all:Array Oper} {rest:List Oper} {d:Nat} {ty:TypeId} {ps:String} {af:Array Edge} {E1 E2 E3:List Ck} {t kt e:TypeId} {x y z:Operand} {b r cl:Nat} {l:List KV} {ik:IntKind} {n:Int}
theorem AJ4(kk:Nat){q:A0}(h:run c.T c.N k m s=⟨k',.ops all (⟨some d,.range t x,ty,ps,af,none⟩::rest),s',O,E⟩)(hx:BB s'.L .t x=some (.v (str q),E1))(e:c.P.underlying t=some .string)
  (i: ∀r,XG c B k' (.ops all rest) ⟨s'.F,(kk,.ho (.raw r (.stringIter ⟨⟨q⟩⟩ (0:Int).toNat)))::s'.H,(d,.t,.v (.pointer (some ⟨r,0,none⟩)))::s'.L⟩)
  (hE:A9 E:=by exact Ad) (hO:O:=by exact Af) (hE1:A9 E1:=by exact Ad) (hd:Nat.blt d c.N=true:=by exact rfl):XG c B k m s:=
 DC h (hE:=hE) (hO:=hO) λ w M b=>RL.ZZ b.st (A7 hx (hE:=hE1)) e hd λ w' r hS=>DD (i r) ⟨hS,b.f,b.le⟩ U
theorem AJ5(kk:Nat){q:A0}{p:Int}(h:run c.T c.N k m s=⟨k',.ops all (⟨some d,.next x true,ty,ps,af,none⟩::rest),s',O,E⟩)(hx:BB s'.L .t x=some (.v (.pointer (some ⟨r,0,none⟩)),E1))(y:CY s'.H kk=some (.ho (.raw r (.stringIter ⟨⟨q⟩⟩ p.toNat))))(hp:0<=p)
  (h1:p<len q->XG c B k' (.ops all rest) ⟨s'.F,C8 s'.H kk (.ho (.raw r (.stringIter ⟨⟨q⟩⟩ (p+runeLen q p).toNat))),(d,.t,.tu [.v (.bool true),.v (i64 p),.v (.int .i32 (B2 q p))])::s'.L⟩)
  (z: ¬p<len q->XG c B k' (.ops all rest) ⟨s'.F,s'.H,(d,.t,.tu [.v (.bool false)])::s'.L⟩)
  (hE:A9 E:=by exact Ad) (hO:O:=by exact Af) (hE1:A9 E1:=by exact Ad) (hd:Nat.blt d c.N=true:=by exact rfl):XG c B k m s:=by
 refine DC h (hE:=hE) (hO:=hO) λ w M j=>?_
 obtain⟨i,hi,b⟩:=DK (Hr:=c.Hr) y
 refine RL.a6 j.st hi (A7 hx (hE:=hE1)) hp hd (λ l w' hS=>DD (h1 l) ⟨?_,j.f,j.le⟩ U) λ n=>DD (z n) j U
 have e:=b (.ho (.raw r (.stringIter ⟨⟨q⟩⟩ (p+runeLen q p).toNat)))
 show St c.w0 c.M0 w' M (HD (C8 s'.H kk (.ho (.raw r (.stringIter ⟨⟨q⟩⟩ (p+runeLen q p).toNat))))++c.Hr)
 rw[e];exact hS
theorem nG(kk:Nat)(ik:IntKind)(h:run c.T c.N k m s=⟨k',.ops all (⟨some d,.makeMap t none,ty,ps,af,none⟩::rest),s',O,E⟩)
  (i: ∀b,XG c B k' (.ops all rest) ⟨s'.F,(kk,.ho (.raw b (BO ik [] 0)))::s'.H,(d,.t,.v (.map (some b)))::s'.L⟩)
  (hE:A9 E:=by exact Ad) (hO:O:=by exact Af) (hd:Nat.blt d c.N=true:=by exact rfl):XG c B k m s:=
 DC h (hE:=hE) (hO:=hO) λ w M e=>RL.makeMap ik e.st hd λ w' b hS=>DD (i b) ⟨hS,e.f,e.le⟩ U
theorem MZ(ins:Bool)(kk j:Nat)(l':List KV){v:Value}(h:run c.T c.N k m s=⟨k',.ops all (⟨none,if ins then .insert t y x z else .mapUpdate t y x z,ty,ps,af,none⟩::rest),s',O,E⟩)
  (D:BB s'.L .t y=some (.v (.map (some b)),E1)) (hx:BB s'.L .t x=some (.v (.int ik n),E2)) (G:BB s'.L .t z=some (.v v,E3)) (J:CY s'.H kk=some (.ho (.raw b (BO ik l cl)))) (K:c.P.underlying t=some (.map kt e)) (A:c.P.underlying kt=some (.int ik))
  (hl:LB l cl n v=l') (Q:P4 l cl n v=j) (R:XG c B k' (.ops all rest) ⟨s'.F,C8 s'.H kk (.ho (.raw b (BO ik l' j))),s'.L⟩)
  (hE:A9 E:=by exact Ad) (hO:O:=by exact Af) (h1:A9 E1:=by exact Ad) (S:A9 E2:=by exact Ad) (V:A9 E3:=by exact Ad):XG c B k m s:=by
 refine DC h (hE:=hE) (hO:=hO) λ w M C=>?_
 obtain⟨q,W,i⟩:=DK (Hr:=c.Hr) J
 exact RL.mapUpdate ins C.st W (A7 D h1) (A7 hx S) (A7 G V) K A hl Q (Hs':=HD (C8 s'.H kk (.ho (.raw b (BO ik l' j))))++c.Hr) (i (.ho (.raw b (BO ik l' j)))).symm λ w' hS=>DD R ⟨hS,C.f,C.le⟩ U
theorem AJ6(kk:Nat)(l':List KV){u:TypeId}(h:run c.T c.N k m s=⟨k',.ops all (⟨none,.call ⟨.builtin .delete,#[y,x],#[t,u]⟩,ty,ps,af,none⟩::rest),s',O,E⟩)
  (A:BB s'.L .t y=some (.v (.map (some b)),E1)) (hx:BB s'.L .t x=some (.v (.int ik n),E2)) (C:CY s'.H kk=some (.ho (.raw b (BO ik l cl)))) (D:c.P.underlying t=some (.map kt e)) (j:c.P.underlying kt=some (.int ik))
  (hl:HZ l n=l') (G:XG c B k' (.ops all rest) ⟨s'.F,C8 s'.H kk (.ho (.raw b (BO ik l' cl))),s'.L⟩)
  (hE:A9 E:=by exact Ad) (hO:O:=by exact Af) (h1:A9 E1:=by exact Ad) (J:A9 E2:=by exact Ad):XG c B k m s:=by
 refine DC h (hE:=hE) (hO:=hO) λ w M z=>?_
 obtain⟨q,K,i⟩:=DK (Hr:=c.Hr) C
 exact RL.delete z.st K (A7 A h1) (A7 hx J) D j hl (Hs':=HD (C8 s'.H kk (.ho (.raw b (BO ik l' cl))))++c.Hr) (i (.ho (.raw b (BO ik l' cl)))).symm λ w' hS=>DD G ⟨hS,z.f,z.le⟩ U
theorem nH(kk:Nat)(u:Value)(q:Bool){v:Value}{gd:Option (Nat×Bool)}{W:Gd}(h:run c.T c.N k m s=⟨k',.ops all (⟨some d,.lookup t x y true,ty,ps,af,gd⟩::rest),s',O,E⟩)(hg:(H3 all s'.L gd,Nat.blt d c.N)=(some W,true))
  (hx:BB s'.L W x=some (.v (.map (some b)),E1)) (z:BB s'.L W y=some (.v (.int ik n),E2)) (A:CY s'.H kk=some (.ho (.raw b (BO ik l cl)))) (C:c.P.underlying t=some (.map kt e)) (j:c.P.underlying kt=some (.int ik)) (D: ∀w,(zeroValue e).run c.P w= .ok v w) (hu:(C4 l n).getD v=u/\(C4 l n).isSome=q)
  (G:XG c B k' (.ops all rest) ⟨s'.F,s'.H,(d,W,.tu [.v u,.v (.bool q)])::s'.L⟩)
  (hE:A9 E:=by exact Ad) (hO:O:=by exact Af) (h1:A9 E1:=by exact Ad) (J:A9 E2:=by exact Ad):XG c B k m s:=by
 refine AR (.tu [.v u,.v (.bool q)]) h hg (λ w M K=>?_) G (hE:=hE) (hO:=hO)
 obtain⟨i,hi,_⟩:=DK (Hr:=c.Hr) A
 exact PV.xR K.st GZ hi (A7 hx h1) (A7 z J) C j D hu.1 hu.2
theorem AJ7(kk n:Nat)(h:run c.T c.N k m s=⟨k',.ops all (⟨some d,.range t x,ty,ps,af,none⟩::rest),s',O,E⟩)
  (hx:BB s'.L .t x=some (.v (.map (some b)),E1)) (q:CY s'.H kk=some (.ho (.raw b (BO ik l cl)))) (y:c.P.underlying t=some (.map kt e))
  (z: ∀r,XG c B k' (.ops all rest) ⟨s'.F,(n,.ho (.raw r (.mapIter (some b) cl #[] cl)))::s'.H,(d,.t,.v (.pointer (some ⟨r,0,none⟩)))::s'.L⟩)
  (hE:A9 E:=by exact Ad) (hO:O:=by exact Af) (hE1:A9 E1:=by exact Ad) (hd:Nat.blt d c.N=true:=by exact rfl):XG c B k m s:=by
 refine DC h (hE:=hE) (hO:=hO) λ w M j=>?_
 obtain⟨i,hi,_⟩:=DK (Hr:=c.Hr) q
 exact RL.xP j.st hi (A7 hx hE1) y hd λ w' r hS=>DD (z r) ⟨hS,j.f,j.le⟩ U
theorem AJ8(kk z:Nat){since c0:Nat}{seen:Array Nat}(h:run c.T c.N k m s=⟨k',.ops all (⟨some d,.next x false,ty,ps,af,none⟩::rest),s',O,E⟩)
  (hx:BB s'.L .t x=some (.v (.pointer (some ⟨r,0,none⟩)),E1)) (G:CY s'.H kk=some (.ho (.raw b (BO ik l cl)))) (J:CY s'.H z=some (.ho (.raw r (.mapIter (some b) since seen c0))))
  (hold: ∀p∈l,p.born<since) (A:since<=c0)
  (h1: ∀p∈l,¬seen.contains p.born=true->XG c B k' (.ops all rest) ⟨s'.F,C8 s'.H z (.ho (.raw r (.mapIter (some b) since (seen.push p.born) cl))),(d,.t,.tu [.v (.bool true),.v (.int ik p.key),.v p.val])::s'.L⟩)
  (K:(∀p∈l,seen.contains p.born=true)->XG c B k' (.ops all rest) ⟨s'.F,s'.H,(d,.t,.tu [.v (.bool false)])::s'.L⟩)
  (hE:A9 E:=by exact Ad) (hO:O:=by exact Af) (hE1:A9 E1:=by exact Ad) (hd:Nat.blt d c.N=true:=by exact rfl):XG c B k m s:=by
 refine DC h (hE:=hE) (hO:=hO) λ w M y=>?_
 obtain⟨i,hi,_⟩:=DK (Hr:=c.Hr) G
 obtain⟨j,C,n⟩:=DK (Hr:=c.Hr) J
 refine RL.xQ y.st hi C (A7 hx hE1) hold A hd (λ p hp D w' hS=>DD (h1 p hp D) ⟨?_,y.f,y.le⟩ U) (λ q=>DD (K q) y U)
 have e:=n (.ho (.raw r (.mapIter (some b) since (seen.push p.born) cl)))
 show St c.w0 c.M0 w' M (HD (C8 s'.H z (.ho (.raw r (.mapIter (some b) since (seen.push p.born) cl))))++c.Hr)
 rw[e];exact hS
theorem AJ9(kk q:Nat)(p:KV)(u:Value){since:Nat}{seen:Array Nat}{gd:Option (Nat×Bool)}{W:Gd}(h:run c.T c.N k m s=⟨k',.ops all (⟨some d,.entry x,ty,ps,af,gd⟩::rest),s',O,E⟩)(hg:(H3 all s'.L gd,Nat.blt d c.N)=(some W,true))
  (hx:BB s'.L W x=some (.v (.pointer (some ⟨r,0,none⟩)),E1)) (y:CY s'.H kk=some (.ho (.raw b (BO ik l cl)))) (z:CY s'.H q=some (.ho (.raw r (.mapIter (some b) since (seen.push p.born) cl))))
  (hp:p∈l) (e:(l.map (·.born)).Nodup) (hu:p.val=u) (A:XG c B k' (.ops all rest) ⟨s'.F,s'.H,(d,W,.tu [.v (.int ik p.key),.v u])::s'.L⟩)
  (hE:A9 E:=by exact Ad) (hO:O:=by exact Af) (hE1:A9 E1:=by exact Ad):XG c B k m s:=
 AR (.tu [.v (.int ik p.key),.v u]) h hg (λ w M C=>by
  obtain⟨i,hi,_⟩:=DK (Hr:=c.Hr) y
  obtain⟨j,n,_⟩:=DK (Hr:=c.Hr) z
  exact .xW C.st GZ hi n (A7 hx hE1) hp e hu) A (hE:=hE) (hO:=hO)
theorem AK0{q:A0}{j:List Int}{C:TypeId}{i:TypeInfo}{v:Value}{kk:Nat}{g1:Mem->Prop}{z: ∀M M',M.le M'->g1 M->g1 M'}{inh:Inhabited Int}(h:run c.T c.N k m s=⟨k',.ops all (⟨some d,.call ⟨.builtin .append,#[x,y],#[t,C]⟩,ty,ps,af,none⟩::rest),s',O,E⟩)
  (hx:H0 s'.L .t x y=some (.sl kk v,.v (str q),E1)) (D:(JY s'.F kk,CY s'.H kk)=(some (@Kn.mk Int inh v 1 j BV g1 z),some (.ho (.own e 1 v j.length (j.flatMap BV))))) (G:c.P.underlying t=some (.slice e)) (hu:c.P.underlying C=some .string) (hi:c.P.info? e=some i) (J:i.zero=some (.int .u8 0)) (hs:(i.size,i.bytes,Nat.blt d c.N)=(1,1,true))
  (K:len j+len q<=140737488355328) (Q: ∀v',XG c B k' (.ops all rest) ⟨(kk,kn v' 1 (j++ints q) BV)::s'.F,C8 s'.H kk (.ho (.own e 1 v' (j++ints q).length ((j++ints q).flatMap BV))),(d,.t,.sl kk v')::s'.L⟩)
  (hE:A9 E:=by exact Ad) (hO:O:=by exact Af) (hE1:A9 E1:=by exact Ad):XG c B k m s:=by
 simp only[Prod.mk.injEq]at D hs
 refine DC h (hE:=hE) (hO:=hO) λ w M A=>?_
 obtain⟨n,l,b⟩:=DK (Hr:=c.Hr) D.2
 refine RL.xX A.st l (FE hx hE1).1 (FE hx hE1).2 G hu hi J hs.1 hs.2.1 K hs.2.2 (Hs':=λ v'=>HD (C8 s'.H kk (.ho (.own e 1 v' (j++ints q).length ((j++ints q).flatMap BV))))++c.Hr) (λ v'=>(b (.ho (.own e 1 v' (j++ints q).length ((j++ints q).flatMap BV)))).symm) λ v' w' M' hS hle=>DD (Q v') ⟨hS,AD ⟨?_,FW,trivial⟩ (A.f.mono hle),A.le.trans hle⟩ U
 have R:=b (.ho (.own e 1 v' (j++ints q).length ((j++ints q).flatMap BV)))
 rw[R]at hS
 exact hS.sl (i:=n) (by rw[List.getElem?_set_self (List.getElem?_eq_some_iff.1 l).1];rfl)
theorem AK1(kk:Nat){q:A0}(h:run c.T c.N k m s=⟨k',.ops all (⟨some d,.convert t kt x,ty,ps,af,none⟩::rest),s',O,E⟩)(hx:BB s'.L .t x=some (.v (str q),E1))(hs:c.P.underlying t=some .string)(j:c.P.underlying kt=some (.slice e))(he:c.P.underlying e=some (.int .u8))(hl:len q<=140737488355328)
  (l: ∀v,XG c B k' (.ops all rest) ⟨(kk,kn v 1 (ints q) BV)::s'.F,s'.H,(d,.t,.sl kk v)::s'.L⟩)
  (hE:A9 E:=by exact Ad) (hO:O:=by exact Af) (hE1:A9 E1:=by exact Ad) (hd:Nat.blt d c.N=true:=by exact rfl):XG c B k m s:=
 DC h (hE:=hE) (hO:=hO) λ w M b=>RL.bytes b.st (A7 hx hE1) hs j he hl hd λ v w' M' hS hle i=>DD (l v) ⟨hS,AD ⟨i,FW,trivial⟩ (b.f.mono hle),b.le.trans hle⟩ U
theorem N1(q:Int){e:TypeId}{i:IntKind}{a:Int}{gd:Option (Nat×Bool)}{W:Gd}(h:run c.T c.N k m s=⟨k',.ops all (⟨some d,.binOp .shr t x y e,ty,ps,af,gd⟩::rest),s',O,E⟩)(hg:(H3 all s'.L gd,Nat.blt d c.N)=(some W,true))
  (hx:H0 s'.L W x y=some (.v (.int ik a),.v (.int i n),E1)) (b:((0:Int)<=n/\n<=ik.bits)/\(2:Int)^n.toNat=q) (j:XG c B k' (.ops all rest) ⟨s'.F,s'.H,(d,W,.v (.int ik (a/q)))::s'.L⟩)
  (hE:A9 E:=by exact Ad) (hO:O:=by exact Af) (hE1:A9 E1:=by exact Ad):XG c B k m s:=
 AR _ h hg (λ w M l=>.nE (FE hx hE1).1 (FE hx hE1).2 (λ _=>b.1.1) λ _=>by
  rw[show min n.toNat ik.bits=n.toNat from by have:=b.1.2;omega,b.2]
  exact Int.fdiv_eq_ediv_of_nonneg _ (by rw[<-b.2];exact Int.pow_nonneg Ab)) j (hE:=hE) (hO:=hO)
theorem dU(j:Nat){i:Int}{l:Nat}{gd:Option (Nat×Bool)}{W:Gd}(h:run c.T c.N k m s=⟨k',.ops all (⟨some d,.indexAddr t x y,ty,ps,af,gd⟩::rest),s',O,E⟩)(hg:(H3 all s'.L gd,Nat.blt d c.N)=(some W,true))
  (hx:H0 s'.L W x y=some (.bx l b 0,.v (.int ik i),E1)) (n:c.P.underlying t=some (.array cl e)) (hs: ∀w,(sizeOf e).run c.P w= .ok 1 w) (q:Nat.blt j cl=true) (hi:W.d=true->i=(j:Int)) (z:XG c B k' (.ops all rest) ⟨s'.F,s'.H,(d,W,.bx l b j)::s'.L⟩)
  (hE:A9 E:=by exact Ad) (hO:O:=by exact Af) (hE1:A9 E1:=by exact Ad):XG c B k m s:=
 AR _ h hg (λ w M A=>by
  have:=PV.jE (P:=c.P) (C:=(· =w)) (d:=some d) (ty:=ty) (ps:=ps) (af:=af) (gd:=gd) j (FE hx hE1).1 (FE hx hE1).2 n hs hi q
  simpa[XV.d,XV.d1,XV.d0]using this) z (hE:=hE) (hO:=hO)
theorem GS(r:Int){b:BinOp}{i:TypeId}{a:Int}{gd:Option (Nat×Bool)}{W:Gd}(h:run c.T c.N k m s=⟨k',.ops all (⟨some d,.binOp b t x y i,ty,ps,af,gd⟩::rest),s',O,E⟩)(hg:(H3 all s'.L gd,Nat.blt d c.N)=(some W,true))
  (hx:H0 s'.L W x y=some (.v (.int ik a),.v (.int ik n),E1)) (e:W.d=true->bits b ik a n=r) (j:XG c B k' (.ops all rest) ⟨s'.F,s'.H,(d,W,.v (.int ik r))::s'.L⟩)
  (l:b= .and\/b= .or:=by simp) (hE:A9 E:=by exact Ad) (hO:O:=by exact Af) (hE1:A9 E1:=by exact Ad):XG c B k m s:=
 AR _ h hg (λ w M q=>by
  rcases l with rfl|rfl
  ·exact .dS (FE hx hE1).1 (FE hx hE1).2 e
  ·exact .orK (FE hx hE1).1 (FE hx hE1).2 e) j (hE:=hE) (hO:=hO)
theorem N2(r:Int){b:IntKind}{a:Int}{gd:Option (Nat×Bool)}{W:Gd}(h:run c.T c.N k m s=⟨k',.ops all (⟨some d,.convert t kt x,ty,ps,af,gd⟩::rest),s',O,E⟩)(hg:(H3 all s'.L gd,Nat.blt d c.N)=(some W,true))
  (hx:BB s'.L W x=some (.v (.int ik a),E1)) (e:c.P.underlying t=some (.int ik)) (i:c.P.underlying kt=some (.int b)) (j:W.d=true->b.wrap a=r) (l:XG c B k' (.ops all rest) ⟨s'.F,s'.H,(d,W,.v (.int b r))::s'.L⟩)
  (hE:A9 E:=by exact Ad) (hO:O:=by exact Af) (hE1:A9 E1:=by exact Ad):XG c B k m s:=
 AR _ h hg (λ w M n=>.ZR (A7 hx hE1) e i j) l (hE:=hE) (hO:=hO)
end
def N3(n:Nat):TT->TT
 |[]=>[]
 |(t,d)::T=>match Nat.beq t n with
  |true=>N3 n T
  |false=>(t,d)::N3 n T
theorem dW(n:Nat): ∀T:TT,FL (N3 n T) n=none
 |[]=>rfl
 |(t,d)::T=>by
  unfold N3
  split
  ·exact dW n T
  ·rename_i e
   unfold FL
   rw[e];exact dW n T
theorem dX{n t:Nat}{b:TD}: ∀ {T:TT},FL (N3 n T) t=some b->FL T t=some b
 |[],h=>h
 |(u,d)::T,h=>by
  unfold N3 at h
  unfold FL
  cases e2:Nat.beq u t with
  |true=>
   cases e:Nat.beq u n with
   |true=>
    rw[e]at h
    have:=dW n T
    rw[<-Nat.eq_of_beq_eq_true e,Nat.eq_of_beq_eq_true e2,show N3 t T=N3 n T from by rw[<-Nat.eq_of_beq_eq_true e,Nat.eq_of_beq_eq_true e2]]at this
    rw[h]at this;cases this
   |false=>rw[e]at h;unfold FL at h;rw[e2]at h;exact h
  |false=>
   cases e:Nat.beq u n with
   |true=>rw[e]at h;exact dX h
   |false=>rw[e]at h;unfold FL at h;rw[e2]at h;exact dX h
theorem DP.AK2 (n:Nat){P:Program}{T:TT}(h:DP P T):DP P (N3 n T):=λ t b e=>h t b (dX e)
end Go.Eng
namespace Go.Proofs.YtnoegalemkbbbaaGreatDoor
open Go.Proofs.Tryz
open Go.Eng Go.RowKit
abbrev tB:=244
set_option maxHeartbeats 1000000 in
set_option maxRecDepth 100000 in
theorem AK3(b:Nat)(w:World)(h0:w.cell? ⟨b,0,none⟩=some (.pointer (some ⟨b,0,none⟩))):
  Calls prog 251 #[.pointer (some ⟨b,0,none⟩)] w λ e w'=>e= .returned (.tuple #[])/\w'=w:=by
 obtain⟨j,h,_⟩:=Option.map_eq_some_iff.1 (show(prog.info? 244).map (·.size)=some 2 by kernel_rfl)
 have mixed:prog.follows .mixedOrders=true:=by kernel_rfl
 have i:=λ w=>run_underlying (P:=prog) (w:=w) underlying242
 go_enter func251,ntmps251
 go_wp2
 rw[Lib.run_neq_ptr_same w _ underlying242 h]
 go_wp2
 go_end0
 exact⟨rfl,rfl⟩
set_option maxHeartbeats 1000000 in
set_option maxRecDepth 100000 in
theorem AK4(b:Nat)(w:World)(h0:w.cell? ⟨b,0,none⟩=some (.pointer none))(h:w.shape? b=some (244,2))(l:w.frozen? ⟨b,0,none⟩=false):
  Calls prog 251 #[.pointer (some ⟨b,0,none⟩)] w λ e w'=>e= .returned (.tuple #[])/\w'=w.setCell ⟨b,0,none⟩ (.pointer (some ⟨b,0,none⟩)):=by
 obtain⟨j,k,i⟩:=Option.map_eq_some_iff.1 (show(prog.info? 244).map (·.size)=some 2 by kernel_rfl)
 have mixed:prog.follows .mixedOrders=true:=by kernel_rfl
 have n:=λ w=>run_underlying (P:=prog) (w:=w) underlying242
 go_enter func251,ntmps251
 go_wp2
 rw[Lib.run_to_unsafe w ⟨b,0,none⟩ underlying242 underlying289 k (by rw[i];decide) h (Nat.zero_lt_succ 1)]
 simp only[Result.andThen]
 rw[Oper.upon_value]
 go_wp2
 rw[run_callFunc_extern func274 Ai Ai Ai (e:=Extern.AbiNoEscape.same) Ai]
 rw[Lib.run_noEscape]
 simp only[Result.andThen]
 rw[Oper.upon_value]
 go_wp2
 rw[Lib.run_from_unsafe w ⟨b,0,none⟩ underlying289 underlying242 k h Ai]
 simp only[Result.andThen]
 rw[Oper.upon_value]
 go_wp2
 go_end0
 exact⟨rfl,rfl⟩
end Go.Proofs.YtnoegalemkbbbaaGreatDoor
