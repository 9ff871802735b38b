/- Lemmas for the card. -/
import Derived.Test.YtnoegalemkbbbaaGreatDoorKt12
set_option linter.unusedVariables false
set_option linter.unusedSimpArgs false
set_option maxRecDepth 100000
set_option maxRecDepth 100000
namespace Go.Eng
def OV(n:Nd):Bool:=
 if n.kind≠3\/n.many≠0\/n.name≠[]\/100<len n.s\/n.e< -1000\/1000<n.e\/1000<len n.s+n.e\/JB n.s=false then false
 else if n.s=[]then !n.neg&&decide (n.e=0)else Lib.trimB n.s 48==n.s
def K5(n:Nd):Bool:=
 if n.kind=0\/n.kind=1\/n.kind=2 then decide ((⟨n.kind,n.many,[],n.s,n.neg,n.e⟩:Nd)=⟨n.kind,0,[],[],false,0⟩)
 else if n.kind=3 then OV ⟨n.kind,n.many,[],n.s,n.neg,n.e⟩
 else if n.kind=4 then Lib.validD n.s&&decide ((⟨n.kind,n.many,[],n.s,n.neg,n.e⟩:Nd)=⟨n.kind,0,[],n.s,false,0⟩)
 else if n.kind=5\/n.kind=6 then decide (0<=n.many)&&decide ((⟨n.kind,n.many,[],n.s,n.neg,n.e⟩:Nd)=⟨n.kind,n.many,[],[],false,0⟩)
 else false
def GL(n:Nd):Bool:=K5 n&&decide (n.name=[])&&decide (n.many<=0)
def NP(n:Int)(c:Nd):Bool:=decide (0<=n)&&decide (n<=5)&&(decide (c.kind<5)&&GL c)
structure D1 where
 kind:Int
 left:Int
 first:Bool
 last:A0
deriving Inhabited
def D1.cells (x:D1):List Value:=[i64 x.kind,i64 x.left,.bool x.first,str x.last]
theorem D1.AO (x:D1):x.cells.length=4:=rfl
theorem D1.cells_one (x:D1): ∀u∈x.cells,u.oneCell'=true:=by intro u hu;simp[D1.cells]at hu;rcases hu with rfl|rfl|rfl|rfl<;>rfl
end Go.Eng
namespace Go.Proofs.YtnoegalemkbbbaaGreatDoor
open Go.Proofs.Tryz
open Go.Eng
theorem sB(s:A0)(w:World)(hg:Gl w)(b:len s<=9223372036854775807):Calls prog 263 [str s].toArray w λ e w'=>e= .returned (.bool (Lib.validD s))/\Ext w w':=
 Tryz.utf8_ValidString ⟨⟨s⟩⟩ w (by unfold len at b;show s.length<=_;omega) hg.u8
theorem Af2(s:A0)(w:World)(b:len s<=9223372036854775807):Calls prog 349 [str s,str [48]].toArray w λ e w'=>e= .returned (str (Lib.trimB s 48))/\Ext w w':=
 (Tryz.strings_Trim_one ⟨⟨s⟩⟩ 48 Ab w (by unfold len at b;show s.length<=_;omega)).mono λ e w' ⟨he,hw⟩=>⟨he,by rcases hw with rfl|rfl;exact Ext.refl _;exact Ext.drew _⟩
theorem Af3(c:Nd)(w:World)(hg:Gl w)(q:len c.s<=1099511627776):
   Calls prog 336 [EH c].toArray w λ e w'=>e= .returned (.bool (OV c))/\Ext w w':=by
 have n:=A6 c.s
 refine AE A8 func336 U ntmps336 [] [] [CU c] U (BB w) A3 (λ B l=>BO 1 U U U λ y=>AB U call305 U U (λ _ w M b=>VC (sA (len c.s) c.e w Aa)) U <|AB U call302 U U (λ _ w M b=>s9 c.s w (hg.low b.st.low) Aa) U <|A1 U (λ j=>?_) (λ j=>?_)) U
 ·exact A2 l U U U λ w M b=>⟨by unfold OV;rw[if_pos (by simpa[or_assoc]using j)];rfl,b.st.low⟩
 have k: ¬(c.kind≠3\/c.many≠0\/c.name≠[]\/100<len c.s\/c.e< -1000\/1000<c.e\/1000<len c.s+c.e\/JB c.s=false):=by
  intro h;have:=j;rw[<-Bool.not_eq_true]at this;exact this (by simpa[or_assoc]using h)
 refine A1 U (λ i=>?_) (λ i=>?_)<;>simp only[zb]at i
 ·exact A2 l U U U λ w M b=>⟨by unfold OV;rw[if_neg k,if_pos i];rfl,b.st.low⟩
 exact DQ U BI Ac <|EZ U call349 U U (λ _ w M b=>Af2 c.s w Aa) U <|DR U <|A2 l U U U λ w M b=>⟨by unfold OV;rw[if_neg k,if_neg i];rfl,b.st.low⟩
theorem Af4(c:Nd)(w:World)(hg:Gl w)(E:len c.s<=1099511627776):
    Calls prog 309 [EH c].toArray w λ e w'=>e= .returned (.bool (K5 c))/\Ext w w':=by
 refine AE A8 func309 U ntmps309 [] [] [CU c] U (BB w) A3 (λ B l=>BO 1 U U U λ q=>CZ 0 (λ s=> ∃b:Bool,(b=true↔(c.kind=0\/c.kind=1\/c.kind=2))/\s=⟨[],[(1,.box q [I c.kind,I c.many,.v (str []),.v (str c.s),.v (.bool c.neg),I c.e] 46)],[Z 1 (.bx 1 q 0),Z 5 (I c.kind),Z 6 (.v (.bool b))]⟩) U U (λ h1=>?_) (λ h1=>?_) ?_) U
 ·exact AQ _ U U ⟨_,by simp only[zb]at h1 ⊢;omega,rfl⟩
 ·exact A1 U (λ z=>AQ _ U U ⟨_,by simp only[zb]at z ⊢;omega,rfl⟩) (λ z=>AQ _ U U ⟨_,by simp only[zb]at h1 z ⊢;omega,rfl⟩)
 rintro _ ⟨b,j,rfl⟩
 refine A1 U (λ A=>?_) (λ A=>?_)
 ·refine AU (.v (.bool (decide ((⟨c.kind,c.many,[],c.s,c.neg,c.e⟩:Nd)=⟨c.kind,0,[],[],false,0⟩)))) U U (λ w M h=>PV.bin (AF (v:=CU ⟨c.kind,c.many,[],c.s,c.neg,c.e⟩) U) (AF (v:=CU ⟨c.kind,0,[],[],false,0⟩) U) (λ _ w _=>S7 _ _ _ _ w)) <|A2 l U U U λ w M h=>⟨?_,h.st.low⟩
  unfold K5;rw[if_pos (j.1 A)];rfl
 have y:=λ e=>(by rw[A]at j;simp at j;omega: ¬(c.kind=0\/c.kind=1\/c.kind=2)) e
 refine A1 U (λ k=>?_) (λ k=>?_)<;>simp only[zb]at k
 ·refine AB U call336 U U (λ _ w M h=>Af3 ⟨c.kind,c.many,[],c.s,c.neg,c.e⟩ w (hg.low h.st.low) E) U <|A2 l U U U λ w M h=>⟨?_,h.st.low⟩
  unfold K5;rw[if_neg y,if_pos k];rfl
 refine A1 U (λ n=>?_) (λ n=>?_)<;>simp only[zb]at n
 ·refine AB U call263 U U (λ _ w M h=>sB c.s w (hg.low h.st.low) Aa) U <|AU (.v (.bool (decide ((⟨c.kind,c.many,[],c.s,c.neg,c.e⟩:Nd)=⟨c.kind,0,[],c.s,false,0⟩)))) U U (λ w M h=>PV.bin (AF (v:=CU ⟨c.kind,c.many,[],c.s,c.neg,c.e⟩) U) (AF (v:=CU ⟨c.kind,0,[],c.s,false,0⟩) U) (λ _ w _=>S7 _ _ _ _ w)) <|A2 l U U U λ w M h=>⟨?_,h.st.low⟩
  unfold K5;rw[if_neg y,if_neg k,if_pos n];rfl
 refine CZ 0 (λ s=> ∃b:Bool,(b=true↔(c.kind=5\/c.kind=6))/\s=⟨[],[(1,.box q [I c.kind,I c.many,.v (str []),.v (str c.s),.v (.bool c.neg),I c.e] 46)],[Z 1 (.bx 1 q 0),Z 33 (.v (.bool b))]⟩) U U (λ h1=>?_) (λ h1=>?_) ?_
 ·exact AQ _ U U ⟨_,by simp only[zb]at h1 ⊢;omega,rfl⟩
 ·exact AQ _ U U ⟨_,by simp only[zb]at h1 ⊢;omega,rfl⟩
 rintro _ ⟨F,i,rfl⟩
 refine A1 U (λ C=>?_) (λ C=>?_)
 ·refine AU (.v (.bool (decide ((⟨c.kind,c.many,[],c.s,c.neg,c.e⟩:Nd)=⟨c.kind,c.many,[],[],false,0⟩)))) U U (λ w M h=>PV.bin (AF (v:=CU ⟨c.kind,c.many,[],c.s,c.neg,c.e⟩) U) (AF (v:=CU ⟨c.kind,c.many,[],[],false,0⟩) U) (λ _ w _=>S7 _ _ _ _ w)) <|A2 l U U U λ w M h=>⟨?_,h.st.low⟩
  unfold K5;rw[if_neg y,if_neg k,if_neg n,if_pos (i.1 C)];rfl
 ·have D: ¬(c.kind=5\/c.kind=6):=λ e=>by have:=i.2 e;rw[C]at this;cases this
  refine A2 l U U U λ w M h=>⟨?_,h.st.low⟩
  unfold K5;rw[if_neg y,if_neg k,if_neg n,if_neg D];rfl
theorem Af5(x:D1)(w:World):Calls prog 311 [.agg x.cells.toArray].toArray w λ e w'=>e= .returned (.bool (decide (0<x.left)))/\Ext w w':=AE A8 func311 U ntmps311 [] [] [.ag [I x.kind,I x.left,.v (.bool x.first),.v (str x.last)]] U (BB w) A3 (λ B b=>BO 1 U U U λ i=>A2 b U U U λ w M h=>⟨rfl,h.st.low⟩) U
theorem Af6(v:Value)(l:List D1)(w:World)(M:Mem)(s:Sat w M)(hl:Sl M 4 l.length v (l.flatMap D1.cells))(A:len l<=1099511627776):
    Calls prog 337 [v,.func (.func 311) #[] #[]].toArray w λ e w'=>(∃k:Int,e= .returned (i64 k)/\(0<=k↔l.any (λ x=>decide (0<x.left))=true))/\Ext w w':=by
 have y:=A6 l
 refine AE (Hr:=[]) A8 func337 U ntmps337 [(0,kn v 4 l D1.cells)] [] [.sl 0 v,.v (.func (.func 311) #[] #[])] U (Aj s) (fc 0 hl D1.AO A3) (λ B q=>AT (σ:=Int) (λ k=>⟨[(0,kn v 4 l D1.cells)],[],[Z 0 (.sl 0 v),Z 1 (.v (.func (.func 311) #[] #[])),Z 7 (I (len l)),Z 8 (I k)]⟩) (λ k=>0<=k/\k<=len l/\ ∀x∈Eng.sub l 0 k,¬0<x.left) (λ k=>(len l-k).toNat) 0 rfl rfl ⟨Aa,Aa,λ x hx=>by cases hx⟩ ?_) U
 intro k ⟨h0,h1,i⟩
 refine A1 U (λ b=>?_) (λ b=>?_)<;>simp only[zb]at b
 ·refine AY [] (λ _:Unit=>.v (.bool (decide (0<(at' l k).left)))) [] (λ _=>[]) (Fg:=λ _=>[]) (pu:=λ _=>True) U U call311 U U (λ w M hS hF=>(Af5 (at' l k) w).mono λ e w' ⟨he,hx⟩=>⟨(),M,he,trivial,Mem.le.refl _,hS.ext hx,A3⟩) λ _ _=>?_
  refine A1 U (λ j=>?_) (λ j=>?_)<;>simp only[zb]at j
  ·exact A2 q U U U λ w M n=>⟨⟨k,rfl,λ _=>List.any_eq_true.2 ⟨at' l k,at_mem h0 b,by simpa using j⟩,λ _=>h0⟩,n.st.low⟩
  ·exact AR (k+1) U U ⟨Aa,Aa,λ x hx=>by
    rw[HQ h0 b]at hx
    rcases List.mem_append.1 hx with hx|hx
    ·exact i x hx
    ·rw[List.mem_singleton.1 hx];omega⟩ Aa
 ·rw[ID Aa]at i
  exact A2 q U U U λ w M n=>⟨⟨-1,rfl,λ h=>by omega,λ h=>by
   obtain⟨x,hx,z⟩:=List.any_eq_true.1 h
   exact absurd (by simpa using z) (i x hx)⟩,n.st.low⟩
end Go.Proofs.YtnoegalemkbbbaaGreatDoor
namespace Go.Eng
theorem sC: ∀(f:Nat) (s:A0) (p:List Sp) (i:Int),len (FO f s p i).1<=len p+f
 |0,s,p,i=>by show len p<=_;omega
 |f+1,s,p,i=>by
  unfold FO
  split
  ·split
   ·show len p<=_;omega
   ·have:=sC f s (p++[(EP s i).1]) (i+(EP s i).2)
    rw[AN,AH,len_nil]at this
    push_cast;omega
  ·show len p<=_;omega
theorem gO(s:A0):len (CI s).1<=20:=by
 unfold CI
 split
 ·show(0:Int)<=_;omega
 ·split
  ·show(0:Int)<=_;omega
  ·have:=sC 20 s [] 0
   rw[len_nil]at this
   show len (FO 20 s [] 0).1<=20;omega
end Go.Eng
namespace Go.Proofs.YtnoegalemkbbbaaGreatDoor
open Go.Proofs.Tryz
open Go.Eng
theorem Af7(x:Sp)(w:World):Calls prog 287 [.agg x.cells.toArray].toArray w λ e w'=>e= .returned (.bool x.part)/\Ext w w':=AE A8 func287 U ntmps287 [] [] [.ag [.v (.bool x.part),.v (str x.name),I x.n]] U (BB w) A3 (λ B b=>BO 1 U U U λ i=>A2 b U U U λ w M h=>⟨rfl,h.st.low⟩) U
theorem Af8(v:Value)(l:List Sp)(w:World)(M:Mem)(s:Sat w M)(hl:Sl M 3 l.length v (l.flatMap Sp.cells))(A:len l<=1099511627776):
    Calls prog 152 [v,.func (.func 287) #[] #[]].toArray w λ e w'=>(∃k:Int,e= .returned (i64 k)/\(0<=k↔l.any (λ x=>x.part)=true))/\Ext w w':=by
 have y:=A6 l
 refine AE (Hr:=[]) A8 func152 U ntmps152 [(0,kn v 3 l Sp.cells)] [] [.sl 0 v,.v (.func (.func 287) #[] #[])] U (Aj s) (fc 0 hl Sp.AO A3) (λ B q=>AT (σ:=Int) (λ k=>⟨[(0,kn v 3 l Sp.cells)],[],[Z 0 (.sl 0 v),Z 1 (.v (.func (.func 287) #[] #[])),Z 7 (I (len l)),Z 8 (I k)]⟩) (λ k=>0<=k/\k<=len l/\ ∀x∈Eng.sub l 0 k,x.part≠true) (λ k=>(len l-k).toNat) 0 rfl rfl ⟨Aa,Aa,λ x hx=>by cases hx⟩ ?_) U
 intro k ⟨h0,h1,i⟩
 refine A1 U (λ b=>?_) (λ b=>?_)<;>simp only[zb]at b
 ·refine AY [] (λ _:Unit=>.v (.bool (at' l k).part)) [] (λ _=>[]) (Fg:=λ _=>[]) (pu:=λ _=>True) U U call287 U U (λ w M hS hF=>(Af7 (at' l k) w).mono λ e w' ⟨he,hx⟩=>⟨(),M,he,trivial,Mem.le.refl _,hS.ext hx,A3⟩) λ _ _=>A1 U (λ j=>?_) (λ j=>?_)
  ·exact A2 q U U U λ w M n=>⟨⟨k,rfl,λ _=>List.any_eq_true.2 ⟨at' l k,at_mem h0 b,j⟩,λ _=>h0⟩,n.st.low⟩
  ·exact AR (k+1) U U ⟨Aa,Aa,λ x hx=>by
    rw[HQ h0 b]at hx
    rcases List.mem_append.1 hx with hx|hx
    ·exact i x hx
    ·rw[List.mem_singleton.1 hx,j];decide⟩ Aa
 ·rw[ID Aa]at i
  exact A2 q U U U λ w M n=>⟨⟨-1,rfl,λ h=>by omega,λ h=>by
   obtain⟨x,hx,z⟩:=List.any_eq_true.1 h
   exact absurd z (i x hx)⟩,n.st.low⟩
theorem Af9(v:Value)(l:List Sp)(w:World)(M:Mem)(i:Sat w M)(hl:Sl M 3 l.length v (l.flatMap Sp.cells))(j:len l<=1099511627776):
  Calls prog 94 [v,.func (.func 287) #[] #[]].toArray w λ e w'=>e= .returned (.bool (l.any λ x=>x.part))/\Ext w w':=by
 refine AE (Hr:=[]) A8 func94 U ntmps94 [(0,kn v 3 l Sp.cells)] [] [.sl 0 v,.v (.func (.func 287) #[] #[])] U (Aj i) (fc 0 hl Sp.AO A3) (λ B n=>AY [] (λ k:Int=>I k) [] (λ _=>[]) (Fg:=λ _=>[]) (pu:=λ k=>0<=k↔l.any (λ x=>x.part)=true) U U call152 U U (λ w M hS hF=>(Af8 v l w M hS.sat (hF.get (k:=0) U).sl j).mono λ e w' ⟨⟨k,he,b⟩,hx⟩=>⟨k,M,he,b,Mem.le.refl _,hS.ext hx,A3⟩) λ k b=>A2 n U U U λ w M q=>⟨?_,q.st.low⟩) U
 suffices h:decide (0<=k)=l.any (λ x=>x.part) by rw[<-h];rfl
 cases h:l.any (λ x=>x.part)with
 |true=>simpa using b.2 h
 |false=>rw[h]at b;simpa using b
theorem sD{w0 e:World}{M0 M:Mem}{Rs:List HO}(s:A0)(hS:St w0 M0 e M Rs)(hg:Gl w0)(h:len s<=200000000000):
  Calls prog 264 [str s].toArray e (BY w0 M0 M Rs (λ u:Value=>.tuple #[u,.bool (HA s).2]) (λ _=>True) (λ u=>[(1,kn u 3 (HA s).1 Sp.cells)]) λ _=>[]):=by
 refine AE (Hr:=Rs) A8 func264 U ntmps264 [] [] [.v (str s)] U hS A3 (λ B i=>AY [] (λ u:Value=>.tu [.sl 1 u,I (CI s).2.1,I (CI s).2.2]) [1] (λ _=>[]) (Fg:=λ u=>[(1,kn u 3 (CI s).1 Sp.cells)]) U U call137 U U (λ w M hS hF=>s8 s hS hg h) λ u _=>AB U call94 U U (λ _ w M b=>Af9 u (CI s).1 w M b.st.sat (b.sl 1 U) (by have:=gO s;omega)) U <|A2 i U U U λ w M' b=>⟨u,M',rfl,trivial,b.le,b.C8 [] U,AA (b.f.get (k:=1) U) A3⟩) U
theorem Ag0(v:Value)(l:List D1)(w:World)(M:Mem)(i:Sat w M)(hl:Sl M 4 l.length v (l.flatMap D1.cells))(j:len l<=1099511627776):
  Calls prog 310 [v,.func (.func 311) #[] #[]].toArray w λ e w'=>e= .returned (.bool (l.any λ x=>decide (0<x.left)))/\Ext w w':=by
 refine AE (Hr:=[]) A8 func310 U ntmps310 [(0,kn v 4 l D1.cells)] [] [.sl 0 v,.v (.func (.func 311) #[] #[])] U (Aj i) (fc 0 hl D1.AO A3) (λ B n=>AY [] (λ k:Int=>I k) [] (λ _=>[]) (Fg:=λ _=>[]) (pu:=λ k=>0<=k↔l.any (λ x=>decide (0<x.left))=true) U U call337 U U (λ w M hS hF=>(Af6 v l w M hS.sat (hF.get (k:=0) U).sl j).mono λ e w' ⟨⟨k,he,b⟩,hx⟩=>⟨k,M,he,b,Mem.le.refl _,hS.ext hx,A3⟩) λ k b=>A2 n U U U λ w M q=>⟨?_,q.st.low⟩) U
 suffices h:decide (0<=k)=l.any (λ x=>decide (0<x.left)) by rw[<-h];rfl
 cases h:l.any (λ x=>decide (0<x.left))with
 |true=>simpa using b.2 h
 |false=>rw[h]at b;simpa using b
abbrev sE(u:Value)(l:List D1):HX:=.pv 316 (kn u 4 l D1.cells) D1.AO
theorem Ag1(v:Value)(c:Nd)(w:World)(M:Mem)(H:Sat w M)(hg:Gl w)(hl:(kn v 6 [c] Nd.cells).ok M)(Q:len c.s<=1048576):
    Calls prog 292 [v].toArray w λ e w'=>e= .returned (.bool (GL c))/\Ext w w':=by
 refine AE (Hr:=[]) A8 func292 U ntmps292 [(0,kn v 6 [c] Nd.cells)] [] [.sl 0 v] U (Aj H) (AA hl A3) (λ B E=>?_) U
 have F:len [c]=1:=rfl
 have J:len [(⟨5,1,false,[]⟩:D1)]=1:=rfl
 refine IB 3 [(⟨5,1,false,[]⟩:D1)] D1.cells 4 316 D1.AO U U Ah U λ u=>AT (σ:=Int×Value×List D1) (λ(k,u,l)=>⟨[(0,kn v 6 [c] Nd.cells)],[(3,sE u l)],[Z 0 (.sl 0 v),Z 3 (.sl 3 u),Z 10 (.sl 0 v),Z 11 (I 1),Z 12 (I k)]⟩) (λ(k,u,l)=>(k=0/\l=[⟨5,1,false,[]⟩])\/(k=1/\l=[⟨5,0,false,[]⟩,⟨c.kind,c.many,true,[]⟩]/\K5 c=true/\c.name=[])) (λ(k,u,l)=>(1-k).toNat) (0,u,[⟨5,1,false,[]⟩]) U U (.inl ⟨rfl,rfl⟩) ?_
 rintro⟨k,u,l⟩ (⟨rfl,rfl⟩|⟨rfl,rfl,y,z⟩)
 ·refine A1 U (λ i=>?_) (λ i=>?_)
  ·refine AZ 5 U zeroValue46 U λ G=>AT (σ:=Unit) (λ _=>⟨[(0,kn v 6 [c] Nd.cells)],[(5,.box G [I c.kind,I c.many,.v (str c.name),.v (str c.s),.v (.bool c.neg),I c.e] 46),(3,sE u [⟨5,1,false,[]⟩])],[Z 0 (.sl 0 v),Z 3 (.sl 3 u),Z 10 (.sl 0 v),Z 11 (I 1),Z 12 (I 0),Z 5 (.bx 5 G 0)]⟩) (λ _=>True) (λ _=>0) () U U trivial ?_
   intro _ _
   refine A1 U (λ A=>?_) (λ A=>?_)
   ·cases A
   refine AB U call309 U U (λ _ w M j=>Af4 c w (hg.low j.st.low) Aa) U ?_
   refine A1 U (λ n=>?_) (λ n=>?_)<;>simp only[zb]at n
   ·refine A2 E U U U λ w M j=>⟨?_,j.st.low⟩
    have e:GL c=false:=by
     unfold GL
     rcases n with(h|h)|h
     ·cases h
     ·rw[h];rfl
     ·rw[show decide (c.many<=0)=false by simp;omega,Bool.and_false]
    rw[e];rfl
   have y:=n.1.2
   have K:=n.2
   refine A1 U (λ q=>?_) (λ q=>?_)<;>simp only[zb]at q
   ·refine A2 E U U U λ w M j=>⟨?_,j.st.low⟩
    have e:GL c=false:=by unfold GL;rw[show decide (c.name=[])=false by simpa using q.2,Bool.and_false,Bool.false_and]
    rw[e];rfl
   have z:c.name=[]:=q.resolve_left (by show ¬(5:Int)=6;decide)
   refine DQ U BI Ac <|EZ U call263 U U (λ L w M j=>(absurd L Ab:Calls prog 263 [str c.name].toArray w λ e w'=>e= .returned (.bool true)/\Ext w w')) U <|DR U <|A1 U (λ C=>?_) (λ C=>?_)
   ·cases C
   have N:(at' [(⟨5,1,false,[]⟩:D1)] (len [(⟨5,1,false,[]⟩:D1)]-1)).left=1:=rfl
   refine L6 (⟨5,0,false,[]⟩:D1) U U U sizeOf3 U U U Aa λ D b=>?_
   replace b:D=[⟨5,0,false,[]⟩]:=b
   subst b
   have O:len [(⟨5,0,false,[]⟩:D1)]=1:=rfl
   refine EJ [6,9] 3 (λ _ _ _ _ _ h=>h) U BI Ac <|AL 6 U U U <|L6 (⟨5,0,false,[]⟩:D1) U U U sizeOf4 U U U Aa λ D b=>?_
   replace b:D=[⟨5,0,false,[]⟩]:=b
   subst b
   refine AI U <|AL 9 U U U <|L6 (⟨5,0,false,c.name⟩:D1) U U U sizeOf9 U U U Aa λ D b=>?_
   replace b:D=[⟨5,0,false,c.name⟩]:=b
   subst b
   rw[z]
   exact AI U <|BV U U U <|B9 6 [(⟨c.kind,c.many,true,[]⟩:D1)] D1.cells 4 316 D1.AO U U Ah U λ v6=>IT 40 U U U underlying317 type316 U U D1.cells_one (by simp only[AH,len_nil];omega) λ v'=>AR (1,v',[⟨5,0,false,[]⟩,⟨c.kind,c.many,true,[]⟩]) U U (.inr ⟨rfl,rfl,y,rfl⟩) Ag
  ·cases i
 ·refine A1 U (λ i=>?_) (λ i=>?_)
  ·cases i
  ·have P:len [(⟨5,0,false,[]⟩:D1),⟨c.kind,c.many,true,[]⟩]=2:=rfl
   refine H0 3 U <|AB U call310 U U (λ _ w M j=>Ag0 u [⟨5,0,false,[]⟩,⟨c.kind,c.many,true,[]⟩] w M j.st.sat (j.sl 3 U) Aa) U <|A2 E U U U λ w M j=>⟨?_,j.st.low⟩
   have e:GL c=(decide (0<len [c])&& !([(⟨5,0,false,[]⟩:D1),⟨c.kind,c.many,true,[]⟩].any λ x=>decide (0<x.left))):=by
    unfold GL
    rw[y,z,F]
    simp
    cases h:decide (c.many<=0)<;>simp at h ⊢ <;>omega
   rw[e];rfl
theorem sF(c:Nd)(w:World)(M:Mem)(l:Sat w M)(hg:Gl w)(n:len c.s<=1048576):
   Calls prog 267 [EH c].toArray w λ e w'=>e= .returned (.bool (decide (c.kind<5)&&GL c))/\Ext w w':=AE (Hr:=[]) A8 func267 U ntmps267 [] [] [CU c] U (Aj l) A3 (λ B j=>BO 1 U U U λ q=>F9 (.v (.slice none 0 0)) U U (λ b=>B9 2 [c] Nd.cells 6 46 Nd.AO U U (hE1:=L7 b U) Ah U λ v2=>AB U call292 U U (λ _ w M i=>Ag1 v2 c w M i.st.sat (hg.low i.st.low) (i.f.get (k:=2) U) n) U <|A2 j U U U λ w M i=>⟨rfl,i.st.low⟩) (λ b=>F9 (.v (.bool false)) U U (λ h=>absurd (b.symm.trans h) Ab) (λ _=>A2 j U U U λ w M i=>⟨by rw[b];rfl,i.st.low⟩))) U
theorem Ag2(n:Int)(c:Nd)(w:World)(M:Mem)(h:Sat w M)(hg:Gl w)(i:len c.s<=1048576):
  Calls prog 285 [.agg (i64 n::c.cells).toArray].toArray w λ e w'=>e= .returned (.bool (NP n c))/\Ext w w':=by
 refine AE (Hr:=[]) A8 func285 U ntmps285 [] [] [.ag [I n,I c.kind,I c.many,.v (str c.name),.v (str c.s),.v (.bool c.neg),I c.e]] U (Aj h) A3 (λ B j=>BO 1 U U U λ k=>AB U call267 U U (λ _ w M b=>sF c w M b.st.sat (hg.low b.st.low) i) U <|A2 j U U U λ w M b=>⟨?_,b.st.low⟩) U
 unfold NP
 rfl
end Go.Proofs.YtnoegalemkbbbaaGreatDoor
namespace Go.Eng
open Go.RowKit
def cw(c:Cx):Cx:= { c with W:=Wk.wide c.P}
section
variable {c:Cx} {B:Exit->Act->World->Prop} {k k':List Fr} {m:Md} {s s':XS} {O:Prop} {E:List Ck} {l:List Oper}
theorem Ag3{a:Act}{w:World}(h:HM c s a w):HM (cw c) s a w:=let⟨h1,M,h2⟩:=h;⟨h1,M,h2.st,h2.f,h2.le⟩
theorem Ag4{a:Act}{w:World}(h:HM (cw c) s a w):HM c s a w:=let⟨h1,M,h2⟩:=h;⟨h1,M,h2.st,h2.f,h2.le⟩
theorem sG(es:List Nat)(n:Nat){id:Nat}(h:run c.T c.N k m s=⟨k',.code (.region id ⟨l⟩ true),s',O,E⟩)(hm:c.P.follows .mixedOrders=true)(b:(WH l []&&FB (λ e=>Nat.blt e l.length) es)=true)(i:DG (cw c) (post c B k') [] l es n [] [] [] [] s')(hE:A9 E:=by exact Ad)(hO:O:=by exact Af):XG c B k m s:=by
 rw[Bool.and_eq_true]at b
 exact C5 h hE hO λ a w j=>c.W.drawS (mR (c:=cw c) (B:=post c B k') (k:=[]) (id:=id) es n (λ _ _ _ _ _ h=>h) hm b.1 b.2 i (Ag3 j))
theorem gP(h:XG c B k .next s):XG (cw c) (post c B k) [] .next s:=λ a w b=>h a w (Ag4 b)
end
def Z7(c:Cx)(Js:XS->Prop):Exit->Act->World->Prop
 | .ret,a,w=> ∃s,Js s/\HM c s a w
 |_,_,_=>False
theorem Ag5{c:Cx}{b:XS->Prop}: ¬LetsOut (Z7 c b):=λ⟨_,_,h⟩=>h
theorem VI{c:Cx}{k:List Fr}{m:Md}{s s':XS}{O:Prop}{E:List Ck}{b:XS->Prop}(s2:XS)(h:run c.T c.N k m s=⟨[],.ret,s',O,E⟩)(h0:(⟨JD s2.F s'.F,JE s2.H s'.H,GH (keys s2.L) s'.L⟩:XS)=s2)(e:b s2)(hE:A9 E:=by exact Ad)(hO:O:=by exact Af):XG c (Z7 c b) k m s:=
 C5 h hE hO λ a w i=>⟨s2,e,i.sub (XS.N9 h0)⟩
def SS(P:Program)(gf:FuncId)(lb:List Value)(n:Nat)(w0:World)(M0:Mem)(Rs:List HO){τ:Type}(av:Nat->τ->List XV)(pa:Nat->τ->Prop)(FA:Nat->τ->List (Nat×Kn))(w:World)(M:Mem):Prop:=
 ∀(γ:Type) (ub:γ->Bool) (I:Nat->γ->Prop) (J:γ->Prop) (Hy:γ->List HO) (Fy:γ->List (Nat×Kn)) (l:Nat) (g0:γ),(∃x1 x2 x3 x4 x5:γ->HO,∀g,Hy g=[x1 g,x2 g,x3 g,x4 g,x5 g])->St w0 M0 w M (Hy g0++Rs)->BH M (Fy g0)->I 0 g0->
  (∀k g y w' M',k<n->I k g->pa k y->St w0 M0 w' M' (Hy g++Rs)->M.le M'->BH M' (FA k y)->BH M' (Fy g)->
   X3 P l ((av k y).map XV.d).toArray w' (BY w0 M0 M' Rs (λ g:γ=>.bool (ub g)) (λ g=>if ub g=true then I (k+1) g else J g) Fy Hy))->
  Calls P gf (.func (.yield l) #[] #[]::lb).toArray w (BY w0 M0 M Rs (λ _:γ=>.tuple #[]) (λ g=>I n g\/J g) Fy Hy)
theorem gQ{c:Cx}{B:Exit->Act->World->Prop}{k k':List Fr}{m:Md}{s s':XS}{O:Prop}{E:List Ck}{σ τ:Type}(j:σ->XS)(I:Nat->σ->Prop)(J:σ->Prop)(g0:σ){gop:Operand}{ps:List Tmp}{assign body:Code}{gf:FuncId}{lb:List Value}{n:Nat}{av:Nat->τ->List XV}{pa:Nat->τ->Prop}{FA:Nat->τ->List (Nat×Kn)}{E1:List Ck}(Sa:Nat->σ->τ->XS->Prop)
  (hw: ∀x Q a w,x.wp c.P Q a w->c.W.wp x Q a w) (h:run c.T c.N k m s=⟨k',.code (.rangeFunc gop ⟨ps⟩ assign body),s',O,E⟩)
  (hg:B5 s'.L .t gop=some (.v (.func (.func gf) #[] ⟨lb⟩),E1)) (ct:CT c.P gf)
  (h0:(⟨JD (j g0).F s'.F,JE (j g0).H s'.H,GH (keys (j g0).L) s'.L⟩:XS)=j g0) (hI:I 0 g0) (hL: ∀g,(j g).L=(j g0).L)
  (hH: ∃x1 x2 x3 x4:σ->HO,∀g,HD (j g).H=[x1 g,x2 g,x3 g,x4 g]) (hit: ∀w M D w',D5 c s'.F s'.H w M->SS c.P gf lb n c.w0 c.M0 (.raw D CF::c.Hr) av pa FA w' M)
  (hps: ∀k y,OA c.N ps (av k y)=true)
  (ha: ∀k g y l D r M,k<n->I k g->pa k y->XG (cR c l D r M) nB [.loop (Sa k g y)] (.code assign) ⟨FA k y++(j g).F,(j g).H,pz ps (av k y) (j g).L⟩) (hsa:DC assign=true)
  (hb: ∀k g y l D r M,k<n->I k g->pa k y-> ∀t,Sa k g y t->XG (cR c l D r M) (Z7 (cR c l D r M) (λ t=> ∃g',t=j g'/\J g')) [.loop (λ t=> ∃g',t=j g'/\I (k+1) g')] (.code body) t) (hsb:DC body=true)
  (hn: ∀D g a w,I n g->AW a c.N (j g).L.d->(∃M,St c.w0 c.M0 w M (HD (j g).H++(.raw D CF::c.Hr))/\BH M (j g).F/\c.M1.le M)->post c B k' .normal (D0 [⟨.collected D,#[]⟩] a) w)
  (hr: ∀D g a w,J g->AW a c.N (j g).L.d->(∃M,St c.w0 c.M0 w M (HD (j g).H++(.raw D CF::c.Hr))/\BH M (j g).F/\c.M1.le M)->post c B k' .ret (D0 [⟨.collected D,#[]⟩] a) w) (hE:A9 E:=by exact Ad) (hO:O:=by exact Af) (hE1:A9 E1:=by exact Ad):XG c B k m s:=by
 refine C5 h hE hO λ a w hs=>?_
 obtain⟨hsl,M,hX⟩:=hs
 have hX0:=hX.sub (XS.N9 h0)
 have R:=cN hsl (XS.N9 h0).1
 refine hw _ _ _ _ ((wpIn_wide (n:=1)).1 (wpIn_rangeFunc λ fn _=>?_))
 obtain⟨rec,i⟩: ∃rec:LoopState->Option Code->Loop,rec=λ st pe=> { state:=st,pending:=pe,fn,tmps:=a.tmps,params:=⟨ps⟩,assign,body,defers:=w.heap.size}:=⟨_,rfl⟩
 obtain⟨rc,hrc⟩: ∃rc:Bool->Obj,rc=λ b=>if b=true then .loop (rec .ready none)else .loop (rec .done (some .ret)):=⟨_,rfl⟩
 have hrt:rc true= .loop (rec .ready none):=by rw[hrc];rfl
 have hrf:rc false= .loop (rec .done (some .ret)):=by rw[hrc];rfl
 have hS1:=(hX0.st.PL CF).PL (rc true)
 rw[World.size_alloc]at hS1
 have hS2:=hS1.perm mL
 have hgv:a.eval gop= .func (.func gf) #[] ⟨lb⟩:=AF hg (hE:=hE1) a c.N hsl U
 have pass: ∀(b:Bool) (x:Obj),∀ {A:List HO},(A++[HO.raw (w.heap.size+1) x])++(.raw w.heap.size CF::c.Hr)=A++(.raw (w.heap.size+1) x:: .raw w.heap.size CF::c.Hr):=λ _ _ _=>by simp
 refine⟨w.heap.size+1,[⟨.collected w.heap.size,#[]⟩],(w.alloc CF).alloc (rc true),⟨.fn (.func gf) ⟨lb⟩,#[.func (.yield (w.heap.size+1)) #[] #[]]⟩,(w.alloc CF).alloc (rc true),gf,
  (.func (.yield (w.heap.size+1)) #[] #[]::lb).toArray,(w.alloc CF).alloc (rc true),by rw[hrt,i];exact run_enterLoop_outer _ _ _ _ _,?_,λ _ _=>trivial,?_,(λ h=>by cases h),callsIn_wide.2 ?_⟩
 ·simp only[resolve,hgv]
  simp[go_sem]
 ·simp[invoke,go_sem,ct]
 ·obtain⟨x1,x2,x3,x4,hx⟩:=hH
  refine(hit w M _ _ hX (Bool×σ) (λ g=>g.1) (λ k g=>g.1=true/\I k g.2) (λ g=>g.1=false/\J g.2) (λ g=>HD (j g.2).H++[.raw (w.heap.size+1) (rc g.1)]) (λ g=>(j g.2).F) (w.heap.size+1) (true,g0)
   ⟨λ g=>x1 g.2,λ g=>x2 g.2,λ g=>x3 g.2,λ g=>x4 g.2,λ g=>.raw (w.heap.size+1) (rc g.1),λ g=>by rw[hx];rfl⟩ (by rw[pass true];exact hS2) hX0.f ⟨rfl,hI⟩ λ kk g y w' M' hk S hp hS hle hFA hF=>?_).mono ?_
  ·obtain⟨gb,g⟩:=g
   obtain⟨K,S⟩:=S
   dsimp only at K S hF
   subst K
   dsimp only at hS
   rw[pass true,hrt]at hS
   have hi:(HD (j g).H++(HO.raw (w.heap.size+1) (.loop (rec .ready none)):: .raw w.heap.size CF::c.Hr))[(HD (j g).H).length]? =some (.raw (w.heap.size+1) (.loop (rec .ready none))):=by simp
   have hl:=(hS.obj hi).2.1
   have hz:=dD ps (av kk y) (L:=(j g).L) (a:=a) (hps kk y) (by rw[hL];exact R)
   have hy:=run_yield (P:=c.P) (args:=((av kk y).map XV.d).toArray) hl (by rw[i];simp[dG (hps kk y)])
   refine⟨_,_,_,_,hy,roundIn_of_wpIn trivial ?_⟩
   have h1:=ha kk g y (w.heap.size+1) w.heap.size (.loop (rec .ready none)) M' hk S hp _ w' ⟨hz,M',hS,hFA.app hF,Mem.le.refl _⟩
   have h2:=h1 (S1 dF) hsa
   rw[i]
   dsimp only
   refine wpIn_mono (F:=FR (some (w.heap.size+1))) (by simpa using h2) λ e a1 w1 q=>?_
   cases e with
   |normal=>
    obtain⟨sa,hsa',hsat⟩:=q
    obtain⟨hl1,hsat1⟩:=UJ (r':=.loop { rec .ready none with state:=.busy}) hsat
    refine⟨_,run_beginRound hl1 (by rw[i]),?_⟩
    have h4:=hb kk g y (w.heap.size+1) w.heap.size (.loop { rec .ready none with state:=.busy}) M' hk S hp sa hsa' a1 _ hsat1 (S1 Ag5) hsb
    refine wpIn_mono (F:=FR (some (w.heap.size+1))) h4 λ e a3 w3 q=>?_
    cases e with
    |normal=>
     obtain⟨sb,⟨g',rfl,hI'⟩,z⟩:=q
     obtain⟨hl3,C⟩:=UJ (r':=rc true) z
     have hr:=run_endRound (P:=c.P) none hl3
     refine⟨_,_,hr,?_⟩
     obtain⟨_,M3,hS6,hF6,V⟩:=C
     refine⟨(true,g'),M3,rfl,⟨rfl,hI'⟩,V,?_,hF6⟩
     dsimp only
     rw[pass true]
     have e1:Obj.loop { { rec .ready none with state:=.busy}with state:=if(none:Option Code).isNone=true then LoopState.ready else LoopState.done,pending:=none}=rc true:=by rw[hrt,i];rfl
     rw[e1];exact hS6
    |ret=>
     obtain⟨sb,⟨g',rfl,hJ'⟩,z⟩:=q
     obtain⟨hl3,C⟩:=UJ (r':=rc false) z
     have hr:=run_endRound (P:=c.P) (some .ret) hl3
     refine⟨_,_,hr,?_⟩
     obtain⟨_,M3,hS6,hF6,V⟩:=C
     refine⟨(false,g'),M3,rfl,⟨rfl,hJ'⟩,V,?_,hF6⟩
     dsimp only
     rw[pass true]
     have e1:Obj.loop { { rec .ready none with state:=.busy}with state:=if(some Code.ret:Option Code).isNone=true then LoopState.ready else LoopState.done,pending:=some .ret}=rc false:=by rw[hrf,i];rfl
     rw[e1];exact hS6
    |_=>exact q.elim
   |_=>exact q.elim
  ·rintro e W2 ⟨⟨gb,g⟩,M',rfl,hIn,hle,hS3,hF3⟩
   dsimp only at hIn hS3 hF3
   rw[pass true]at hS3
   have hi:(HD (j g).H++(HO.raw (w.heap.size+1) (rc gb):: .raw w.heap.size CF::c.Hr))[(HD (j g).H).length]? =some (.raw (w.heap.size+1) (rc gb)):=by simp
   have hl:=(hS3.obj hi).2.1
   have hd:a.defers=[]:=hsl.E4
   have hupd: ∀a':Act,a'.defers=[]->D0 [⟨.collected w.heap.size,#[]⟩] a'= { a' with defers:=[⟨.collected w.heap.size,#[]⟩]++a'.defers}:=λ a' h=>by unfold D0;rw[h];rfl
   have hS5: ∀o',St c.w0 c.M0 (W2.putObj (w.heap.size+1) o') M' (HD (j g).H++(.raw w.heap.size CF::c.Hr)):=λ o'=>(hS3.S4 hi o').drop _ (by
    rw[List.set_append_right _ _ (Nat.le_refl _),Nat.sub_self]
    exact List.Sublist.append (List.Sublist.refl _) (List.sublist_cons_self _ _))
   rcases hIn with⟨K,hIn⟩|⟨K,hJn⟩
   ·subst K
    rw[hrt]at hl
    have X:=run_endLoop (P:=c.P) hl (by rw[i];simp)
    have G:(Instr.endLoop (w.heap.size+1)).run c.P W2= .ok none (W2.putObj (w.heap.size+1) (.loop { rec .ready none with state:=.exhausted})):=by rw[X];rw[i]
    refine⟨none,_,G,?_⟩
    have:=hn w.heap.size g a (W2.putObj (w.heap.size+1) (.loop { rec .ready none with state:=.exhausted})) hIn (by rw[hL];exact R) ⟨M',hS5 _,hF3,hX.le.trans hle⟩
    rw[hupd a hd]at this
    exact this
   ·subst K
    rw[hrf]at hl
    have X:=run_endLoop (P:=c.P) hl (by rw[i];simp)
    have G:(Instr.endLoop (w.heap.size+1)).run c.P W2= .ok (some .ret) (W2.putObj (w.heap.size+1) (.loop { rec .done (some .ret)with state:=.exhausted})):=by rw[X];rw[i]
    refine⟨some .ret,_,G,?_⟩
    have:=hr w.heap.size g a (W2.putObj (w.heap.size+1) (.loop { rec .done (some .ret)with state:=.exhausted})) hJn (by rw[hL];exact R) ⟨M',hS5 _,hF3,hX.le.trans hle⟩
    rw[hupd a hd]at this
    exact wpIn_ret this
theorem Ag6{c:Cx}{B:Exit->Act->World->Prop}{k k':List Fr}{m:Md}{s s':XS}{O:Prop}{E:List Ck}{σ τ:Type}(b:σ->XS)(I:Nat->σ->Prop)(J:σ->Prop)(g0:σ){e:Operand}{ps:List Tmp}{assign body:Code}{j:FuncId}{lb:List Value}{n:Nat}{av:Nat->τ->List XV}{q:Nat->τ->Prop}{K:Nat->τ->List (Nat×Kn)}{E1:List Ck}(z:Nat->σ->τ->XS)
  (hw: ∀x Q a w,x.wp c.P Q a w->c.W.wp x Q a w) (h:run c.T c.N k m s=⟨k',.code (.rangeFunc e ⟨ps⟩ assign body),s',O,E⟩)
  (hg:B5 s'.L .t e=some (.v (.func (.func j) #[] ⟨lb⟩),E1)) (R:CT c.P j)
  (h0:(⟨JD (b g0).F s'.F,JE (b g0).H s'.H,GH (keys (b g0).L) s'.L⟩:XS)=b g0) (S:I 0 g0) (V: ∀g,(b g).L=(b g0).L)
  (hH: ∃X x2 x3 x4:σ->HO,∀g,HD (b g).H=[X g,x2 g,x3 g,x4 g]) (hit: ∀w M D w',D5 c s'.F s'.H w M->SS c.P j lb n c.w0 c.M0 (.raw D CF::c.Hr) av q K w' M)
  (A: ∀k y,OA c.N ps (av k y)=true)
  (ha: ∀k g y l D r M,k<n->I k g->q k y->XG (cR c l D r M) nB [.loop (λ t=>t=z k g y)] (.code assign) ⟨K k y++(b g).F,(b g).H,pz ps (av k y) (b g).L⟩) (C:DC assign=true)
  (hb: ∀k g y l D r M,k<n->I k g->q k y->XG (cR c l D r M) (Z7 (cR c l D r M) (λ t=> ∃i,t=b i/\J i)) [.loop (λ t=> ∃i,t=b i/\I (k+1) i)] (.code body) (z k g y)) (G:DC body=true)
  (hn: ∀D g a w,I n g->AW a c.N (b g).L.d->(∃M,St c.w0 c.M0 w M (HD (b g).H++(.raw D CF::c.Hr))/\BH M (b g).F/\c.M1.le M)->post c B k' .normal (D0 [⟨.collected D,#[]⟩] a) w)
  (hr: ∀D g a w,J g->AW a c.N (b g).L.d->(∃M,St c.w0 c.M0 w M (HD (b g).H++(.raw D CF::c.Hr))/\BH M (b g).F/\c.M1.le M)->post c B k' .ret (D0 [⟨.collected D,#[]⟩] a) w) (hE:A9 E:=by exact Ad) (hO:O:=by exact Af) (hE1:A9 E1:=by exact Ad):XG c B k m s:=
 gQ b I J g0 (λ k g y t=>t=z k g y) hw h (hE:=hE) (hO:=hO) hg (hE1:=hE1) R h0 S V hH hit A ha C (λ k g y l D r M hk hi hp t ht=>by subst ht;exact hb k g y l D r M hk hi hp) G hn hr
theorem sH{P:Program}{N:Nat}{w0:World}{M0 M1:Mem}{Hr:List HO}{T:TT}{hT:DP P T}{B:Exit->Act->World->Prop}{k k':List Fr}{m:Md}{s s':XS}{O:Prop}{E:List Ck}{all:Array Oper}{rest:List Oper}{d:Nat}{ty:TypeId}{ps:String}{af:Array Edge}
  {γ:Type} (n:γ->List (Nat×HX)) (j:γ->Bool) (ids:List Nat) {pu:γ->Prop} {Fg:γ->List (Nat×Kn)} {Hg:γ->List HO} {l:Nat} {q:Operand} {E1 E2:List Ck} {xs:List Operand} {tys:Array TypeId} {vs:List XV} {A R:List (Nat×HX)} (D:List Nat)
  (h:run T N k m s=⟨k',.ops all (⟨some d,.call ⟨.value q,⟨xs⟩,tys⟩,ty,ps,af,none⟩::rest),s',O,E⟩) (G:B5 s'.L .t q=some (.v (.func (.yield l) #[] #[]),E1)) (hd:Nat.blt d N=true) (hx:JZ s'.L .t xs=some (vs,E2))
  (J:FK ids s'.H=some (A,R)) (K: ∀w M,St w0 M0 w M (HD A++(HD R++Hr))->BH M s'.F->M1.le M->X3 P l (vs.map XV.d).toArray w (BY w0 M0 M (HD R++Hr) (λ g:γ=>.bool (j g)) pu Fg Hg))
  (Q: ∀g,pu g->XG ⟨P,N,w0,M0,M1,Hr,T,hT,.S2 P none 1⟩ B k' (.ops all rest) ⟨PX D (Fg g)++s'.F,n g++R,(d,.t,.v (.bool (j g)))::s'.L⟩) (hE:A9 E:=by exact Ad) (hO:O:=by exact Af) (hE1:A9 E1:=by exact Ad) (hE2:A9 E2:=by exact Ad) (hH: ∀g,HD (n g)=Hg g:=by intros;rfl):XG ⟨P,N,w0,M0,M1,Hr,T,hT,.S2 P none 1⟩ B k m s:=by
 refine C5 h hE hO λ a w ⟨C,M,b⟩ hl i=>?_
 rw[List.all_cons,Bool.and_eq_true]at i
 have y:St w0 M0 w M (HD A++(HD R++Hr)):=b.st.perm (by rw[<-List.append_assoc];exact(PY J).append_right _)
 obtain⟨fn,tmps,assign,body,S,V⟩:=K w M y b.f b.le
 unfold wpListIn
 rw[if_pos (show Region.wanted ⟨some d,.call ⟨.value q,⟨xs⟩,tys⟩,ty,ps,af,none⟩ (yielded all a.tmps)=true from rfl)]
 refine⟨λ _ _=>trivial,?_⟩
 have key:=rR (P:=P) (w:=w) (AF G (hE:=hE1)) (MB hx hE2) C U (d:=some d) (tys:=tys) (ty:=ty) (ps:=ps) (af:=af) (gd:=none)
 rw[show(FR none).round=none from rfl,show ∀(o:Oper),Oper.semAt none a.eval o=execOp a.eval o from λ _=>rfl]
 have W:(⟨xs⟩:Array Operand)=xs.toArray:=rfl
 rw[W,key,S]
 refine⟨(λ h=>by cases h),RoundIn.mono (R:=BY w0 M0 M (HD R++Hr) (λ g:γ=>.bool (j g)) pu Fg Hg) V λ e w' he=>?_⟩
 obtain⟨g,M',rfl,hp,hle,hS,hF⟩:=he
 have z:=S0 C hd (.v (.bool (j g)))
 have e2:HD (n g++R)++Hr=Hg g++(HD R++Hr):=by rw[<-hH];unfold HD;rw[List.map_append,List.append_assoc]
 exact Q g hp _ w' ⟨z,M',by rw[e2];exact hS,(UH hF).app (b.f.mono hle),b.le.trans hle⟩ hl i.2
theorem NA.leave {P:Program}{T:TT}(hT:DP P T){fn:Func}{R:Ending->World->Prop}{Q:Exit->Act->World->Prop}(h:NA P fn R Q){D N:Nat}{H:List (Nat×HX)}{Hr:List HO}{L:XE}{a:Act}{w0 w:World}{M0 M:Mem}{rs:List ResultVar}{vs:List XV}{E2:List Ck}
  (hS:St w0 M0 w M (HD H++(.raw D CF::Hr))) (e:AW a N L.d) (i:fn.results=⟨rs⟩) (hl:O9 T H L rs=some (vs,E2)) (j: ∀w',St w0 M0 w' M (HD H++Hr)->R (.returned (PZ vs)) w') (hE2:A9 E2:=by exact Ad):Q .ret (D0 (IU D) a) w:=by
 have hi:(HD H++(HO.raw D CF::Hr))[(HD H).length]? =some (.raw D CF):=by simp
 have k:=(hS.obj hi).2.1
 have b:St w0 M0 (w.putObj D (.deferred none)) M (HD H++Hr):=(hS.S4 hi (.deferred none)).drop _ (by
  rw[List.set_append_right _ _ (Nat.le_refl _),Nat.sub_self]
  exact List.Sublist.append (List.Sublist.refl _) (List.sublist_cons_self _ _))
 refine h.all .ret (D0 (IU D) a) w ?_
 show LeavesInM _ _ _ _ _ _ (a.defers++IU D) _ _
 rw[e.E4]
 exact⟨by simp,.inl ⟨D,_,rfl,run_takeDeferred k,_,(gM (a:=a) hT b e i hl (hE2:=hE2):(results fn a.tmps).run P _=_),j _ b⟩⟩
theorem sI{c:Cx}{k:List Fr}{m:Md}{s s':XS}{O:Prop}{E:List Ck}{fn:Func}{R:Ending->World->Prop}{i:Exit->Act->World->Prop}{D j:Nat}{H:List (Nat×HX)}{rs:List ResultVar}{vs:List XV}{E2:List Ck}(l:NA c.P fn R i)(n:fn.results=⟨rs⟩)(h:run c.T c.N k m s=⟨[],.ret,s',O,E⟩)
  (hH:s'.H=(j,.ho (.raw D CF))::H) (hl:O9 c.T H s'.L rs=some (vs,E2)) (q: ∀w M,St c.w0 c.M0 w M (HD H++c.Hr)->BH M s'.F->c.M1.le M->R (.returned (PZ vs)) w) (hE:A9 E:=by exact Ad) (hO:O:=by exact Af) (hE2:A9 E2:=by exact Ad):XG c (bD D i) k m s:=
 C5 h hE hO λ a w ⟨h1,M,b⟩=>l.leave c.hT (D:=D) (H:=H) (Hr:=c.Hr) (M:=M) (by
  have:=b.st
  rw[hH]at this
  have e:HD ((j,HX.ho (HO.raw D CF))::H)++c.Hr= .raw D CF::(HD H++c.Hr):=rfl
  rw[e]at this
  exact this.perm List.perm_middle) h1 n hl (λ w' h=>q w' M h b.f b.le) hE2
def CC(t:Tf)(k:Nat):Int:=1+len (AM (t.ps.take k))
theorem SU(t:Tf)(k:Nat):DD t.flat (CC t k) (t.ps.drop k) []:=by
 have h0:=A6 (AM (t.ps.take k))
 refine⟨by unfold CC;omega,?_⟩
 rw[Tf.FM,show(CC t k).toNat=(AM (t.ps.take k)).length+1 by unfold CC len;omega,List.drop_succ_cons]
 conv=>lhs;rw[<-List.take_append_drop k t.ps,JK]
 simp
theorem SW{t:Tf}{k:Nat}(b:k<t.ps.length):CC t (k+1)=CC t k+len (at' t.ps (k:Int)).flat:=by
 obtain⟨h1,e⟩:=DB t.ps (i:=(k:Int)) Aa (by unfold len;omega)
 unfold CC
 rw[List.take_add_one,JK,AN,e]
 simp[b,AM]
 omega
theorem LN(t:Tf)(k:Nat):1<=CC t k/\CC t k<=len t.flat:=by
 have h0:=A6 (AM (t.ps.take k))
 have h1:=A6 (AM (t.ps.drop k))
 have b:len t.flat=1+(len (AM (t.ps.take k))+len (AM (t.ps.drop k))):=by
  rw[Tf.FM,AH,<-AN,<-JK,List.take_append_drop];omega
 unfold CC;omega
theorem sJ{t:Tf}{k:Nat}(b:k<t.ps.length):Eng.sub t.flat (CC t k) (CC t (k+1))=(at' t.ps (k:Int)).flat:=by
 have h:=(SU t k).next b
 have e:=SU t (k+1)
 have i:DD t.flat (CC t (k+1)) [] (AM (t.ps.drop (k+1))):=⟨e.1,by rw[e.2];simp[AM]⟩
 refine h.part i ?_ (LN t (k+1)).2
 rw[SW b];have:=(at' t.ps (k:Int)).D7;omega
theorem Ag7{t:Tf}{k:Nat}(b:k<t.ps.length):at' t.flat (CC t k)= { (at' t.ps (k:Int)).t with many:=len (at' t.ps (k:Int)).ps}/\CC t k<len t.flat:=
 let h:=((SU t k).next b).step;⟨h.2.1,h.1⟩
theorem SX{b:Bool}(e:b=true){E:List Ck}(h: ∀c∈E,c= .b true b):A9 E:=λ c i=>by rw[h c i];exact λ _=>e
def FP:List Tf->Int->A0->(Tf->Int×Bool)->Int×Bool
 |[],_,_,_=>(0,false)
 |x::l,o,n,F=>if x.t.name=n then(if(F x).2=true then(o+(F x).1,true)else(0,false))else FP l (o+len x.flat) n F
def BF:List Sp->Tf->Int×Bool
 |[],t=>(0,decide (t.t.op=1))
 |s::p,t=>if t.t.op≠2\/s.part=true then(0,false)else FP t.ps 1 s.name (BF p)
theorem sK{F:Tf->Int×Bool}{n:A0}: ∀ {l:List Tf} {o:Int},(∀x∈l,0<=(F x).1/\(F x).1<len x.flat)->0<o->0<=(FP l o n F).1/\(FP l o n F).1<o+len (AM l)
 |[],o,_,h0=>⟨by show(0:Int)<=0;omega,by have:=A6 (AM []);show(0:Int)<_;omega⟩
 |x::l,o,h,h0=>by
  have hx:=h x (.head _)
  have hl:=A6 (AM l)
  have b:=A6 x.flat
  have i:=sK (F:=F) (n:=n) (l:=l) (o:=o+len x.flat) (λ y j=>h y (.tail _ j)) Aa
  have e:len (AM (x::l))=len x.flat+len (AM l):=by show len (x.flat++AM l)=_;rw[AN]
  rw[e]
  unfold FP
  split
  ·split
   ·exact⟨by show 0<=o+(F x).1;omega,by show o+(F x).1<_;omega⟩
   ·exact⟨by show(0:Int)<=0;omega,by show(0:Int)<_;omega⟩
  ·exact⟨i.1,Aa⟩
theorem Z8: ∀(p:List Sp) (t:Tf),0<=(BF p t).1/\(BF p t).1<len t.flat
 |[],t=>⟨Int.le_refl _,t.D7⟩
 |s::p,t=>by
  unfold BF
  split
  ·exact⟨Int.le_refl _,t.D7⟩
  ·have h:=sK (F:=BF p) (n:=s.name) (l:=t.ps) (o:=1) (λ x _=>Z8 p x) Aa
   refine⟨h.1,?_⟩
   rw[Tf.FM,AH];omega
theorem gR{F:Tf->Int×Bool}{n:A0}: ∀ {k:Nat} {l:List Tf} {o:Int},(∀x∈l.take k,x.t.name≠n)->FP l o n F=FP (l.drop k) (o+len (AM (l.take k))) n F
 |0,l,o,_=>by simp[AM,len]
 |k+1,[],o,_=>rfl
 |k+1,x::l,o,h=>by
  have h1:x.t.name≠n:=h x (by simp)
  have b:=gR (F:=F) (n:=n) (k:=k) (l:=l) (o:=o+len x.flat) λ y e=>h y (by simp[e])
  rw[FP,if_neg h1,b]
  show _=FP (l.drop k) (o+len (x.flat++AM (l.take k))) n F
  rw[AN,Int.add_assoc]
theorem Ag8{t:Tf}{k:Nat}{n:A0}{F:Tf->Int×Bool}(h:k<t.ps.length)(b: ∀x∈t.ps.take k,x.t.name≠n)(j:(at' t.ps (k:Int)).t.name=n):
  FP t.ps 1 n F=if(F (at' t.ps (k:Int))).2=true then(CC t k+(F (at' t.ps (k:Int))).1,true)else(0,false):=by
 obtain⟨h1,l⟩:=DB t.ps (i:=(k:Int)) Aa (by unfold len;omega)
 have e:t.ps.drop k=at' t.ps (k:Int)::t.ps.drop (k+1):=by
  rw[l,List.drop_eq_getElem_cons h];simp
 rw[gR b,e,FP,if_pos j];rfl
theorem Ag9{t:Tf}{n:A0}{F:Tf->Int×Bool}(b: ∀x∈t.ps.take t.ps.length,x.t.name≠n):FP t.ps 1 n F=(0,false):=by
 rw[gR b,List.drop_length];rfl
theorem Z9{α:Type}(s:α)(p:List α):Eng.sub (s::p) 1 (len (s::p))=p:=by
 unfold Eng.sub len
 rw[show((1:Int).toNat)=1 from rfl,List.drop_succ_cons,List.drop_zero]
 exact List.take_of_length_le (by simp)
theorem Ah0{t:Tf}{k:Nat}{n:A0}(e:k<t.ps.length)(b: ∀x∈t.ps.take k,x.t.name≠n)(h:(at' t.ps (k:Int)).t.name≠n): ∀x∈t.ps.take (k+1),x.t.name≠n:=by
 obtain⟨h1,j⟩:=DB t.ps (i:=(k:Int)) Aa (by unfold len;omega)
 rw[j]at h
 intro x hx
 rw[List.take_add_one]at hx
 rcases List.mem_append.1 hx with hx|hx
 ·exact b x hx
 ·simp[e]at hx;subst hx;simpa using h
end Go.Eng
namespace Go.Proofs.YtnoegalemkbbbaaGreatDoor
open Go.Proofs.Tryz
open Go.Eng
theorem sL(v:Value)(f:Fl)(i:Int)(u:Tf)(R:Fl){w:World}{M:Mem}(C:Sat w M)(hl:(A7 v f).ok M)(h:DD f i [u] R)(hi:i<=len f)(O:len f<=1099511627776):
    Calls prog 191 [v,i64 i].toArray w λ e w'=>e= .returned (i64 (i+len u.flat))/\Ext w w':=by
 have D:=h.1
 have E:=u.D7
 have n:=h.LC hi
 have F:AM [u]=u.flat:=by show u.flat++AM []=_;simp[AM]
 rw[F]at n
 have G:=A6 R
 refine AE (Hr:=[]) A8 func191 U ntmps191 [(0,A7 v f)] [] [.sl 0 v,I i] U (Aj C) (AA hl A3) (λ B H=>AT (σ:=Int×Int×List Tf) (λ(b,l,st)=>⟨[(0,A7 v f)],[],[Z 0 (.sl 0 v),Z 1 (I b),Z 4 (I 0),Z 5 (I l)]⟩) (λ(b,l,st)=>DD f b st R/\l=len st/\i<=b/\b<=len f) (λ(b,l,st)=>(len f-b).toNat) (i,1,[u]) U U ⟨h,rfl,Aa,Aa⟩ ?_) U
 rintro⟨b,l,st⟩ ⟨j,k,hit,s⟩
 have P:=A6 R
 refine A1 U (λ q=>?_) (λ q=>?_)<;>simp only[zb]at q
 ·cases st with
   |nil=>rw[len_nil]at k;omega
   |cons u st=>
    obtain⟨Q,J,A⟩:=j.step
    have K:=A.LC Aa
    have L:=KP (u.ps++st)
    have S:(at' f b).many=len u.ps:=by rw[J]
    rw[AN]at L
    rw[AH]at k
    have T:=A6 u.ps
    have V:=A6 st
    have W:=j.1
    exact AR (b+1,l+((at' f b).many-1),u.ps++st) U U ⟨A,by rw[AN];omega,Aa,Aa⟩ Ag
 have y:st=[]:=by
  have:=A6 st
  cases st with
  |nil=>rfl
  |cons u st=>have:=A6 st;rw[AH]at k;omega
 subst y
 have K:=j.LC s
 have e2:len (AM [])=0:=rfl
 have z:b=i+len u.flat:=by omega
 subst z
 exact A2 H U U U λ w M N=>⟨rfl,N.st.low⟩
theorem sM{w0 w:World}{M0 M:Mem}{K:HO}{Rs:List HO}{b:Nat}{v:Value}{t:Tf}(hl:(A7 v t.flat).ok M)(hb:len t.flat<=1099511627776)(q:t.t.op≠1):
    SS prog 190 [.pointer (some ⟨b,0,none⟩)] t.ps.length w0 M0 (K:: .box b [v] 25::Rs)
      (λ k (_:Unit)=>[I (CC t k),I (CC t (k+1))]) (λ _ _=>True) (λ _ _=>[]) w M:=by
 intro γ X I' J Hy O l g0 ⟨D,E,F,G,H,hx⟩ hS hF hI hy
 have P:St w0 M0 w M (.box b [v] 25::D g0::E g0::F g0::G g0::H g0::(K::Rs)):=by
  rw[hx]at hS
  exact hS.perm (List.perm_middle (l₁:=[D g0,E g0,F g0,G g0,H g0,K])).symm
 have hmny:=t.Y1
 have hpos:=t.D7
 have hps:=KP t.ps
 have hpl:len t.flat=1+len (AM t.ps):=by rw[Tf.FM,AH];omega
 have hln:len t.ps=(t.ps.length:Int):=rfl
 have s:(at' t.flat 0).op=t.t.op:=by rw[Tf.SG]
 refine YZ (Hr:=K::Rs) A8 func190 rfl ntmps190 rfl (λ w h=>by obtain⟨g,M',h,_⟩:=h;cases h) [(0,A7 v t.flat),(9,IF (O g0))] [(0,.box b [.sl 0 v] 25),(1,.ho (D g0)),(2,.ho (E g0)),(3,.ho (F g0)),(4,.ho (G g0)),(5,.ho (H g0))] [.v (.func (.yield l) #[] #[]),.bx 0 b 0] rfl P (AA hl (AA ⟨Sl.nil M 1,FY,hF⟩ A3)) (λ B hB=>AT (σ:=Int×Nat×γ) (λ(i,k,g)=>⟨[(0,A7 v t.flat),(9,IF (O g))],[(0,.box b [.sl 0 v] 25),(1,.ho (D g)),(2,.ho (E g)),(3,.ho (F g)),(4,.ho (G g)),(5,.ho (H g))],[Z 0 (.v (.func (.yield l) #[] #[])),Z 1 (.bx 0 b 0),Z 3 (I i),Z 8 (I (at' t.flat 0).many),Z 9 (I k)]⟩) (λ(i,k,g)=>i=CC t k/\k<=t.ps.length/\I' k g) (λ(i,k,g)=>t.ps.length-k) (1,0,g0) U U ⟨rfl,Nat.zero_le _,hI⟩ ?_) rfl
 rintro⟨i,k,g⟩ ⟨hi,hk,L⟩
 have hpk:=LN t k
 refine A1 U (λ N=>?_) (λ N=>?_)<;>simp only[zb]at N
 ·have z:k<t.ps.length:=by omega
  have hpk2:=LN t (k+1)
  have Q:=SW z
  subst hi
  refine AB U call191 U U (λ _ w M y=>sL v t.flat (CC t k) _ _ y.st.sat (y.f.get (k:=0) U) ((SU t k).next z) Aa hb) U ?_
  rw[<-Q]
  refine F9 (.v (.bool true)) U U (λ n=>?_) (λ n=>?_)
  ·refine sH (λ j=>[(1,.ho (D j)),(2,.ho (E j)),(3,.ho (F j)),(4,.ho (G j)),(5,.ho (H j))]) X [1,2,3,4,5] (γ:=γ) (pu:=λ g=>if X g=true then I' (k+1) g else J g) (Fg:=λ j=>[(9,IF (O j))]) (Hg:=Hy) [9] U U (hE1:=L7 n U) U U (hE2:=SX n (by simp)) U (λ w' M' R S hle=>?_) (hH:=λ j=>by rw[hx];rfl) λ j A=>?_
   ·have hp:(Hy g++(K:: .box b [v] 25::Rs)).Perm (D g::E g::F g::G g::H g:: .box b [v] 25::K::Rs):=by
     rw[hx]
     exact((((((List.Perm.swap _ _ _).cons _).cons _).cons _).cons _).cons _)
    obtain⟨fn,T,V,bd,e1,e2⟩:=hy k g () w' M' z L trivial (R.perm hp) hle (λ x h=>by cases h) (S.get (k:=9) rfl).more
    refine⟨fn,T,V,bd,e1,e2.mono λ e w2 h=>?_⟩
    obtain⟨j,M2,r1,r2,r3,r4,r5⟩:=h
    refine⟨j,M2,r1,r2,r3,?_,AA ⟨Sl.nil M2 1,FY,r5⟩ A3⟩
    exact r4.perm (List.Perm.append_left _ (List.Perm.swap _ _ _))
   ·refine A1 U (hE:=SX n (by simp[s,q])) (λ C=>?_) (λ C=>?_)<;>simp only[zb]at C
    ·rw[if_neg (by rw[C.2];decide)]at A
     refine A2 hB U U (hE:=SX n (by simp[s,q])) U λ w' M' y=>⟨j,M',rfl,.inr A,y.le,y.st.perm ?_,(y.f.get (k:=9) U).more⟩
     rw[hx]
     exact List.Perm.append_left [D j,E j,F j,G j,H j] (List.Perm.swap _ _ _)
    ·rw[if_pos (C.resolve_left (by rw[s];exact q))]at A
     exact AR (CC t (k+1),k+1,j) U (hE:=SX n (by simp[s,q])) U ⟨rfl,z,A⟩ (by show t.ps.length-(k+1)<t.ps.length-k;omega)
  ·rw[s]at n;simp[q]at n
 ·have W:k=t.ps.length:=by omega
  refine WW hB U U λ w' M' y=>⟨g,M',rfl,.inl (by rw[<-W];exact L),y.le,y.st.perm ?_,(y.f.get (k:=9) U).more⟩
  rw[hx]
  exact List.perm_middle (l₁:=[D g,E g,F g,G g,H g,K])
theorem sN{w0 i:World}{M0 M:Mem}{Rs:List HO}{v:Value}{t:Tf}(hS:St w0 M0 i M Rs)(hl:(A7 v t.flat).ok M):
  Calls prog 167 [v].toArray i (BY w0 M0 M Rs (λ b:Nat=>.func (.func 190) #[] #[.pointer (some ⟨b,0,none⟩)]) (λ _=>True) (λ _=>[]) λ b=>[.box b [v] 25]):=AE (Hr:=Rs) A8 func167 U ntmps167 [(0,A7 v t.flat)] [] [.sl 0 v] U hS (AA hl A3) (λ B j=>BO 1 U U U λ b=>AU (.v (.func (.func 190) #[] #[.pointer (some ⟨b,0,none⟩)])) U U (λ w M e=>PV.makeFunc (xs:=[]) (ys:=[.tmp 1]) (vs:=[]) (us:=[.pointer (some ⟨b,0,none⟩)]) trivial ⟨AF (v:=.bx 1 b 0) (E:=[]) U,trivial⟩) <|A2 j rfl rfl rfl λ w' M' e=>⟨b,M',rfl,trivial,e.le,e.st,λ x h=>by cases h⟩) U
theorem gS: ∀(p:List Sp) {w0 S:World} {M0 M:Mem} {Rs:List HO} (v u:Value) (t:Tf),St w0 M0 S M Rs->(A7 v t.flat).ok M->(kn u 3 p Sp.cells).ok M->len t.flat<=1099511627776->len p<=1099511627776->
    Calls prog 134 [v,u].toArray S (BY w0 M0 M Rs (λ _:Unit=>.tuple #[i64 (BF p t).1,.bool (BF p t).2]) (λ _=>True) (λ _=>[]) λ _=>[]):=by
 intro p
 induction p with
 |nil=>
  intro w0 S M0 M Rs v u t hS hl hu hb O
  have P:=t.D7
  refine UK (Hr:=Rs) A8 func134 U ntmps134 [(0,A7 v t.flat),(1,kn u 3 [] Sp.cells)] [] [.sl 0 v,.sl 1 u] U hS (AA hl (AA hu A3)) (λ B Q=>?_) U
  refine BO 2 U U U λ C=>?_
  refine BO 3 U U U λ E=>?_
  refine AZ 4 U zeroValue3 U λ G=>?_
  refine AZ 5 U zeroValue4 U λ H=>?_
  refine A1 U (λ z=>?_) (λ z=>?_)<;>simp only[zb]at z
  ·refine EJ [5,6] 3 (λ _ _ _ _ _ h=>h) U BI Ac ?_
   refine AL 5 U U U ?_
   refine AI U ?_
   refine AL 6 U U U ?_
   refine AI U ?_
   refine BV U U U ?_
   exact A2 Q.ends U U U λ w M' L=>⟨(),M',by rw[Tf.SG];rfl,trivial,L.le,L.st.drop _ rS,A3⟩
  ·exfalso;exact z U
 |cons s p ih=>
  intro w0 S M0 M Rs v u t hS hl hu hb O
  have P:=t.D7
  have hp0:=A6 p
  rw[AH]at O
  have R:at' (s::p) 0=s:=rfl
  refine UK (Hr:=Rs) A8 func134 U ntmps134 [(0,A7 v t.flat),(1,kn u 3 (s::p) Sp.cells)] [] [.sl 0 v,.sl 1 u] U hS (AA hl (AA hu A3)) (λ B Q=>?_) U
  refine BO 2 U U U λ C=>?_
  refine BO 3 U U U λ E=>?_
  refine AZ 4 U zeroValue3 U λ G=>?_
  refine AZ 5 U zeroValue4 U λ H=>?_
  have hlc:len (s::p)=len p+1:=AH s p
  refine A1 U (λ z=>?_) (λ z=>?_)<;>simp only[zb]at z
  ·exfalso;omega
  refine A1 U (λ n=>?_) (λ n=>?_)<;>simp only[zb]at n<;>rw[Tf.SG,R]at n
  ·have e:BF (s::p) t=(0,false):=by unfold BF;rw[if_pos n]
   exact A2 Q.ends U U U λ w M' L=>⟨(),M',by rw[e];rfl,trivial,L.le,L.st.drop _ rS,A3⟩
  have V:t.t.op=2:=n.1
  have eL:BF (s::p) t=FP t.ps 1 s.name (BF p):=by rw[BF,if_neg (by rintro(q|q);exact q n.1;rw[n.2]at q;cases q)]
  refine AY [] (λ b:Nat=>.v (.func (.func 190) #[] #[.pointer (some ⟨b,0,none⟩)])) [] (λ b=>[(6,.box b [.sl 0 v] 25)]) U U call167 U U (λ w M hS hF=>sN hS (hF.get (k:=0) U)) λ b6 _=>?_
  refine X8 [6] U U ?_
  obtain⟨Sf,hSf⟩: ∃Sf:Int×Bool->XS,Sf=λ g=>⟨[(0,A7 v t.flat),(1,kn u 3 (s::p) Sp.cells)],[(2,.box C [.sl 0 v] 25),(3,.box E [.sl 1 u] 61),(4,.box G [I g.1] 3),(5,.box H [.v (.bool g.2)] 4)],[Z 2 (.bx 2 C 0),Z 3 (.bx 3 E 0),Z 4 (.bx 4 G 0),Z 5 (.bx 5 H 0)]⟩:=⟨_,rfl⟩
  refine Ag6 (σ:=Int×Bool) (τ:=Unit) (λ g=>⟨[(0,A7 v t.flat),(1,kn u 3 (s::p) Sp.cells)],[(2,.box C [.sl 0 v] 25),(3,.box E [.sl 1 u] 61),(4,.box G [I g.1] 3),(5,.box H [.v (.bool g.2)] 4)],[Z 2 (.bx 2 C 0),Z 3 (.bx 3 E 0),Z 4 (.bx 4 G 0),Z 5 (.bx 5 H 0)]⟩)
    (λ k g=>g=(0,false)/\ ∀x∈t.ps.take k,x.t.name≠s.name) (λ g=>g=FP t.ps 1 s.name (BF p)) (0,false)
    (λ k g y=>⟨[(0,A7 v t.flat),(1,kn u 3 (s::p) Sp.cells)],[(2,.box C [.sl 0 v] 25),(3,.box E [.sl 1 u] 61),(4,.box G [I g.1] 3),(5,.box H [.v (.bool g.2)] 4)],[Z 6 (I (CC t k)),Z 7 (I (CC t (k+1))),Z 2 (.bx 2 C 0),Z 3 (.bx 3 E 0),Z 4 (.bx 4 G 0),Z 5 (.bx 5 H 0)]⟩)
    (λ _ _ _ _ h=>h) U U call190 U ⟨rfl,λ x hx=>by simp at hx⟩ (λ _=>rfl) ⟨_,_,_,_,λ _=>rfl⟩ (λ w M D w' L=>sM (L.f.get (k:=0) U) hb (by rw[V];decide)) (λ _ _=>rfl)
    (λ k g y l D r M N T hp=>?_) U (λ k g y l D r M N T hp=>?_) U (λ D g a w T=>?_) (λ D g a w hJ=>?_)
  ·exact AQ _ U U U
  ·obtain⟨rfl,J⟩:=T
   have hpk:=LN t k
   have hpk2:=LN t (k+1)
   have hst:=SW N
   have hcp:=(at' t.ps (k:Int)).D7
   obtain⟨W,hrl⟩:=Ag7 N
   refine sG [] 1 U BI Ac ?_
   refine BV U U U ?_
   refine gP ?_
   refine A1 U (λ A=>?_) (λ A=>?_)<;>simp only[zb]at A<;>rw[W,R]at A
   ·have K:=sJ N
    have hcb:=Z8 p (at' t.ps (k:Int))
    have j:=Ag8 (F:=BF p) N J A
    refine sG [3,5,6,10,11] 6 U BI Ac ?_
    refine H3 3 5 U U U ?_ ?_
    ·refine HP (gd:=none) 8 (CC t k) (CC t (k+1)) U U U ⟨.i64,_,rfl,AG U⟩ ⟨.i64,_,rfl,AG U⟩ underlying25 sizeOf52 Aa U λ X=>?_
     rw[K]
     refine AI U ?_
     refine AL 5 U U U ?_
     refine HP (gd:=none) 9 1 (len (s::p)) U U U ⟨.i64,_,rfl,AG U⟩ U underlying61 sizeOf105 Aa U λ v9=>?_
     rw[Z9]
     refine AI U ?_
     refine AL 6 U U U ?_
     refine AY [] (λ _:Unit=>.tu [I (BF p (at' t.ps (k:Int))).1,.v (.bool (BF p (at' t.ps (k:Int))).2)]) [] (λ _=>[]) (Fg:=λ _=>[]) U U call134 U U (λ w M hS hF=>ih X v9 (at' t.ps (k:Int)) hS (hF.get (k:=8) U) (hF.get (k:=9) U) Aa Aa) λ _ _=>?_
     refine AI U ?_
     refine AL 10 U U U ?_
     refine AI U ?_
     refine AL 11 U U U ?_
     refine AI U ?_
     refine BV U U U ?_
     refine gP ?_
     refine A1 U (λ i=>?_) (λ i=>?_)<;>simp only[zb]at i
     ·rw[if_neg (by rw[i];decide)]at j
      exact VI _ U U ⟨(0,false),rfl,j.symm⟩
     ·rw[if_pos i]at j
      exact VI _ U U ⟨(CC t k+(BF p (at' t.ps (k:Int))).1,true),rfl,j.symm⟩
    ·refine HP (gd:=none) 9 1 (len (s::p)) U U U ⟨.i64,_,rfl,AG U⟩ U underlying61 sizeOf105 Aa U λ v9=>?_
     rw[Z9]
     refine AI U ?_
     refine AL 3 U U U ?_
     refine HP (gd:=none) 8 (CC t k) (CC t (k+1)) U U U ⟨.i64,_,rfl,AG U⟩ ⟨.i64,_,rfl,AG U⟩ underlying25 sizeOf52 Aa U λ X=>?_
     rw[K]
     refine AI U ?_
     refine AL 6 U U U ?_
     refine AY [] (λ _:Unit=>.tu [I (BF p (at' t.ps (k:Int))).1,.v (.bool (BF p (at' t.ps (k:Int))).2)]) [] (λ _=>[]) (Fg:=λ _=>[]) U U call134 U U (λ w M hS hF=>ih X v9 (at' t.ps (k:Int)) hS (hF.get (k:=8) U) (hF.get (k:=9) U) Aa Aa) λ _ _=>?_
     refine AI U ?_
     refine AL 10 U U U ?_
     refine AI U ?_
     refine AL 11 U U U ?_
     refine AI U ?_
     refine BV U U U ?_
     refine gP ?_
     refine A1 U (λ i=>?_) (λ i=>?_)<;>simp only[zb]at i
     ·rw[if_neg (by rw[i];decide)]at j
      exact VI _ U U ⟨(0,false),rfl,j.symm⟩
     ·rw[if_pos i]at j
      exact VI _ U U ⟨(CC t k+(BF p (at' t.ps (k:Int))).1,true),rfl,j.symm⟩
   ·exact AQ _ U U ⟨(0,false),rfl,rfl,Ah0 N J A⟩
  ·obtain⟨rfl,J⟩:=T
   have e:=Ag9 (F:=BF p) J
   refine X5 8 (λ _ _ _ _ h=>h) U (s:=⟨[(0,A7 v t.flat),(1,kn u 3 (s::p) Sp.cells)],[(2,.box C [.sl 0 v] 25),(3,.box E [.sl 1 u] 61),(4,.box G [I 0] 3),(5,.box H [.v (.bool false)] 4)],[Z 2 (.bx 2 C 0),Z 3 (.bx 3 E 0),Z 4 (.bx 4 G 0),Z 5 (.bx 5 H 0)]⟩) ?_ a w
   refine sI Q U U U U λ w' M' hS' hF' hle=>⟨(),M',by rw[eL,e];rfl,trivial,hle,hS'.drop _ (List.sublist_append_right [_,_,_,_,_] _),A3⟩
  ·rintro hs ⟨M',h1,h2,h3⟩
   subst hJ
   show B .ret (D0 (IU D) a) w
   refine Q.leave A8 h1 hs U U λ w' h=>⟨(),M',by rw[eL];rfl,trivial,h3,h.drop _ (List.sublist_append_right [_,_,_,_,_] _),A3⟩
end Go.Proofs.YtnoegalemkbbbaaGreatDoor
namespace Go.Eng
def C6(t:Tm):Tm:=⟨t.op,t.many,t.name,[],0,B6⟩
def IH(t:Tm):Bool×Tm:=
 if t.op=0 then(t.many==0,C6 t)
 else if t.op=1 then(decide (0<=t.many)&&decide (0<t.n)&&decide (t.n<=31),{ C6 t with n:=t.n})
 else if t.op=9 then(t.many==0&&NP t.n t.c,{ C6 t with n:=t.n,c:=t.c})
 else if t.op=2 then(decide (0<=t.many)&&decide (0<=t.n)&&decide (t.n<=1),{ C6 t with n:=t.n})
 else if t.op=4 then(decide (0<=t.many),C6 t)
 else if t.op=3\/t.op=5\/t.op=6 then(t.many==1,C6 t)
 else if t.op=7\/t.op=8 then((HA t.s).2&&t.many==1,{ C6 t with s:=t.s})
 else(false,C6 t)
def HY(t:Tm):Bool:=(IH t).1&&decide (t=(IH t).2)
end Go.Eng
namespace Go.Proofs.YtnoegalemkbbbaaGreatDoor
open Go.Proofs.Tryz
open Go.Eng
abbrev LO(t:Tm):List XV:=[I t.op,I t.many,.v (str t.name),.v (str t.s),I t.n,I t.c.kind,I t.c.many,.v (str t.c.name),.v (str t.c.s),.v (.bool t.c.neg),I t.c.e]
abbrev sO(t:Tm):Value:=.agg #[i64 t.op,i64 t.many,str t.name,str t.s,i64 t.n,i64 t.c.kind,i64 t.c.many,str t.c.name,str t.c.s,.bool t.c.neg,i64 t.c.e]
abbrev HB(t:Tm):XV:=.ag [I t.op,I t.many,.v (str t.name),.v (str t.s),I t.n,I t.c.kind,I t.c.many,.v (str t.c.name),.v (str t.c.s),.v (.bool t.c.neg),I t.c.e]
theorem Ah1(t:Tm)(w:World)(M:Mem)(K:Sat w M)(hg:Gl w)(L:t.small):Calls prog 262 [sO t].toArray w λ e w'=>e= .returned (.bool (HY t))/\Ext w w':=by
 obtain⟨N,O,F⟩:=L
 refine AE (Hr:=[]) A8 func262 U ntmps262 [] [] [HB t] U (Aj K) A3 (λ B P=>BO 1 U U U λ A=>AZ 3 U zeroValue52 U λ C=>CZ 1 (λ s=> ∃(ok:Bool) (y:Tm),IH t=(ok,y)/\s=⟨[],[(1,.box A (LO t) 52),(3,.box C (LO y) 52)],[Z 1 (.bx 1 A 0),Z 3 (.bx 3 C 0),Z 4 (.v (.bool ok))]⟩) U U (λ h0=>?_) (λ h0=>?_) ?_) U
 ·simp only[zb]at h0
  exact AQ _ U U ⟨_,C6 t,by unfold IH;rw[if_pos h0],rfl⟩
 ·simp only[zb]at h0
  refine A1 U (λ h1=>?_) (λ h1=>?_)<;>simp only[zb]at h1
  ·exact AQ _ U U ⟨_,{ C6 t with n:=t.n},by unfold IH;rw[if_neg h0,if_pos h1],rfl⟩
  refine A1 U (λ j=>?_) (λ j=>?_)<;>simp only[zb]at j
  ·exact EJ [5,7] 3 (λ _ _ _ _ _ h=>h) U BI Ac <|AL 5 U U U <|AI U <|AL 7 U U U <|AI U <|BV U U U <|AB U call285 U U (λ _ w M E=>Ag2 t.n t.c w M E.st.sat (hg.low E.st.low) F) U <|AQ _ U U ⟨_,{ C6 t with n:=t.n,c:=t.c},by unfold IH;rw[if_neg h0,if_neg h1,if_pos j],rfl⟩
  refine A1 U (λ q=>?_) (λ q=>?_)<;>simp only[zb]at q
  ·exact AQ _ U U ⟨_,{ C6 t with n:=t.n},by unfold IH;rw[if_neg h0,if_neg h1,if_neg j,if_pos q],rfl⟩
  refine A1 U (λ D=>?_) (λ D=>?_)<;>simp only[zb]at D
  ·exact AQ _ U U ⟨_,C6 t,by unfold IH;rw[if_neg h0,if_neg h1,if_neg j,if_neg q,if_pos D],rfl⟩
  refine CZ 0 (λ s=> ∃b:Bool,(b=true↔(t.op=3\/t.op=5\/t.op=6))/\s=⟨[],[(1,.box A (LO t) 52),(3,.box C (LO (C6 t)) 52)],[Z 1 (.bx 1 A 0),Z 3 (.bx 3 C 0),Z 4 (.v (.bool false)),Z 15 (I t.op),Z 81 (.v (.bool b))]⟩) U U (λ z=>?_) (λ z=>?_) ?_
  ·exact AQ _ U U ⟨_,by simp only[zb]at z ⊢;omega,rfl⟩
  ·exact A1 U (λ G=>AQ _ U U ⟨_,by simp only[zb]at G ⊢;omega,rfl⟩) (λ G=>AQ _ U U ⟨_,by simp only[zb]at z G ⊢;omega,rfl⟩)
  rintro _ ⟨b,i,rfl⟩
  refine A1 U (λ k=>?_) (λ k=>?_)
  ·exact AQ _ U U ⟨_,C6 t,by unfold IH;rw[if_neg h0,if_neg h1,if_neg j,if_neg q,if_neg D,if_pos (i.1 k)],rfl⟩
  have l: ¬(t.op=3\/t.op=5\/t.op=6):=λ e=>by have:=i.2 e;rw[k]at this;cases this
  clear i k
  refine CZ 0 (λ s=> ∃b:Bool,(b=true↔(t.op=7\/t.op=8))/\s=⟨[],[(1,.box A (LO t) 52),(3,.box C (LO (C6 t)) 52)],[Z 1 (.bx 1 A 0),Z 3 (.bx 3 C 0),Z 4 (.v (.bool false)),Z 88 (.v (.bool b))]⟩) U U (λ z=>?_) (λ z=>?_) ?_
  ·exact AQ _ U U ⟨_,by simp only[zb]at z ⊢;omega,rfl⟩
  ·exact AQ _ U U ⟨_,by simp only[zb]at z ⊢;omega,rfl⟩
  rintro _ ⟨b,i,rfl⟩
  refine A1 U (λ k=>?_) (λ k=>?_)
  ·exact AY [] (λ u:Value=>.tu [.sl 6 u,.v (.bool (HA t.s).2)]) [6] (λ _=>[]) (Fg:=λ u=>[(1,kn u 3 (HA t.s).1 Sp.cells)]) U U call264 U U (λ w M hS hF=>sD t.s hS hg Aa) λ u _=>AQ _ U U ⟨_,{ C6 t with s:=t.s},by unfold IH;rw[if_neg h0,if_neg h1,if_neg j,if_neg q,if_neg D,if_neg l,if_pos (i.1 k)],rfl⟩
  have H: ¬(t.op=7\/t.op=8):=λ e=>by have:=i.2 e;rw[k]at this;cases this
  exact AQ _ U U ⟨_,C6 t,by unfold IH;rw[if_neg h0,if_neg h1,if_neg j,if_neg q,if_neg D,if_neg l,if_neg H],rfl⟩
 rintro _ ⟨ok,y,J,rfl⟩
 refine AU (.v (.bool (decide (t=y)))) U U (λ w M E=>PV.bin (AF (v:=HB t) U) (AF (v:=HB y) U) (λ _ w _=>OJ _ _ _ _ w)) <|A2 P U U U λ w M E=>⟨?_,E.st.low⟩
 unfold HY;rw[J];rfl
end Go.Proofs.YtnoegalemkbbbaaGreatDoor
namespace Go.Eng
def QT(t:Tm):List Tf->Bool
 |[x]=>if t.op=7\/t.op=8 then(BF (HA t.s).1 x).2 else true
 |_=>if t.op=7\/t.op=8 then false else true
def QU(o:Int)(n:A0):List Tf->Bool
 |[]=>true
 |y::_=> !(decide (o=2)&&decide (y.t.name<=n))
mutual
def D2:Tf->Bool
 | .mk t ps=>HY { t with many:=len ps}&&FF t.op ps&&QT t ps
def FF(o:Int):List Tf->Bool
 |[]=>true
 |x::l=>(decide (x.t.op=9)==decide (o=1))&&(decide (o=2)||decide (x.t.name=[]))&&Lib.validD x.t.name&&D2 x&&QU o x.t.name l&&FF o l
end
def QV(t:Tf):Bool:=D2 t&&decide (t.t.name=[])&&decide (t.t.op≠9)
theorem gT(u:Tf):D2 u=(HY { u.t with many:=len u.ps}&&FF u.t.op u.ps&&QT u.t u.ps):=by cases u;rw[D2];rfl
theorem DD.skip {f:Fl}{i:Int}{u:Tf}{us:List Tf}{R:Fl}(h:DD f i (u::us) R):DD f (i+len u.flat) us R:=by
 have h0:=h.1
 have hl:=A6 u.flat
 refine⟨Aa,?_⟩
 rw[show(i+len u.flat).toNat=i.toNat+u.flat.length by unfold len at*;omega,<-List.drop_drop,h.2]
 show(u.flat++AM us++R).drop _=_
 rw[List.append_assoc,List.drop_left]
theorem DD.Ah2 {f:Fl}{i:Int}{u:Tf}{us:List Tf}{R:Fl}(h:DD f i (u::us) R):Eng.sub f i (i+len u.flat)=u.flat:=by
 have h0:=h.1
 have hl:=A6 u.flat
 unfold Eng.sub
 rw[h.2,show(i+len u.flat).toNat-i.toNat=u.flat.length by unfold len at*;omega]
 show(u.flat++AM us++R).take _=_
 rw[List.append_assoc,List.take_left]
theorem drop_cons{us:List Tf}{k:Nat}(b:k<us.length):us.drop k=at' us (k:Int)::us.drop (k+1):=by
 obtain⟨h1,e⟩:=DB us (i:=(k:Int)) Aa (by unfold len;omega)
 rw[e,List.drop_eq_getElem_cons b];simp
theorem sP{a b:A0}(h:Op.bytesLess a b=true\/a=b):a<=b:=by
 rcases h with h|h
 ·rw[Go.Proofs.bytesLess_eq,decide_eq_true_eq]at h;exact List.le_of_lt h
 ·rw[h];exact List.le_refl _
theorem sQ{a b:A0}(h1:Op.bytesLess a b=false)(e: ¬a=b): ¬a<=b:=λ h=>by
 rw[Go.Proofs.bytesLess_eq,decide_eq_false_iff_not]at h1
 exact e (List.le_antisymm h (List.not_lt.1 h1))
theorem Ah3{t:Tm}(h:HY t=true)(ho:t.op=7\/t.op=8):t.many=1:=by
 unfold HY IH at h
 rw[if_neg Aa,if_neg Aa,if_neg Aa,if_neg Aa,if_neg Aa,if_neg Aa,if_pos ho]at h
 simp only[Bool.and_eq_true,beq_iff_eq]at h
 exact h.1.2
theorem Ah4{o:Int}{x:Tf}{l:List Tf}(h: ¬(x.t.op==9)=(o==1)):FF o (x::l)=false:=by
 rw[FF]
 have e:(decide (x.t.op=9)==decide (o=1))=false:=by
  rw[beq_eq_false_iff_ne];intro q;exact h q
 rw[e];rfl
theorem Ah5{o:Int}{x:Tf}{l:List Tf}(h:(¬o=2/\ ¬x.t.name=[])\/Lib.validD x.t.name=false):FF o (x::l)=false:=by
 rw[FF]
 rcases h with⟨h1,b⟩|h
 ·have e:decide (o=2)=false:=by simpa using h1
  have e2:decide (x.t.name=[])=false:=by simpa using b
  rw[e,e2];simp
 ·rw[h];simp
theorem Ah6{o:Int}{x:Tf}{l:List Tf}(h:D2 x=false):FF o (x::l)=false:=by rw[FF,h];simp
theorem Ah7{o:Int}{x y:Tf}{l:List Tf}(h:o=2)(b:y.t.name<=x.t.name):FF o (x::y::l)=false:=by
 rw[FF]
 have e:QU o x.t.name (y::l)=false:=by unfold QU;simp[h,b]
 rw[e];simp
theorem Ah8{o:Int}{x:Tf}{l:List Tf}(h1:(x.t.op==9)=(o==1))(b:o=2\/x.t.name=[])(e:Lib.validD x.t.name=true)(h:D2 x=true)(i:QU o x.t.name l=true):FF o (x::l)=FF o l:=by
 conv=>lhs;rw[FF]
 have j:(decide (x.t.op=9)==decide (o=1))=true:=by rw[beq_iff_eq];exact h1
 have e2:(decide (o=2)||decide (x.t.name=[]))=true:=by simpa using b
 rw[j,e2,e,h,i];simp
end Go.Eng
namespace Go.Proofs.YtnoegalemkbbbaaGreatDoor
open Go.Proofs.Tryz
open Go.Eng
theorem Ah9: ∀(n:Nat) (u:Tf),u.flat.length<=n-> ∀ {w0 wv:World} {M0 M:Mem} {Rs:List HO} (v:Value) (f:Fl) (i:Int) (us:List Tf) (R:Fl),St w0 M0 wv M Rs->Gl w0->(A7 v f).ok M->DD f i (u::us) R->i<=len f->QQ f->len f<=1099511627776->
    Calls prog 238 [v,i64 i].toArray wv (BY w0 M0 M Rs (λ _:Unit=>.tuple #[i64 (if D2 u=true then i+len u.flat else 0),.bool (D2 u)]) (λ _=>True) (λ _=>[]) λ _=>[]):=by
 intro n
 induction n with
 |zero=>intro u hu;have:=u.D7;unfold len at this;omega
 |succ n ih=>
 intro u hun w0 wv M0 M Rs v f i us R hS hg hl W hif X hb
 obtain⟨hi1,hq,H⟩:=W.step
 have hi0:=W.1
 have hln:len u.ps=(u.ps.length:Int):=rfl
 have hule:=W.LC hif
 have hfu:AM (u::us)=u.flat++AM us:=rfl
 rw[hfu,AN]at hule
 have hR0:=A6 R
 have hus0:=A6 (AM us)
 have hpg:=KP u.ps
 have hul:len u.flat=1+len (AM u.ps):=by rw[Tf.FM,AH];omega
 have hqm:(at' f i).many=len u.ps:=by rw[hq]
 have A:(at' f i).op=u.t.op:=by rw[hq]
 have hqs:(at' f i).s=u.t.s:=by rw[hq]
 have hsq:(at' f i).small:=X _ (RG hi0 hi1)
 have C:D2 u=(HY (at' f i)&&FF u.t.op u.ps&&QT u.t u.ps):=by rw[hq,gT]
 refine AE (Hr:=Rs) A8 func238 U ntmps238 [(0,A7 v f)] [] [.sl 0 v,I i] U hS (AA hl A3) (λ B hB=>AB U call262 U U (λ _ w M b=>Ah1 (at' f i) w M b.st.sat (hg.low b.st.low) hsq) U ?_) U
 refine A1 U (λ O=>?_) (λ O=>?_)<;>simp only[zb]at O
 ·refine A2 hB U U U λ w M' b=>⟨(),M',?_,trivial,b.le,b.C8 [] U,A3⟩
  have e:D2 u=false:=by
   rw[C]
   rcases O with(h|h)|h
   · omega
   · rw[h];rfl
   · omega
  rw[e];rfl
 have hpl:=O.1.2
 rw[hpl,Bool.true_and]at C
 refine AZ 6 U zeroValue52 U λ b6=>AT (σ:=Int×Nat) (λ(j,k)=>⟨[(0,A7 v f)],[(6,.box b6 (LO (at' f i)) 52)],[Z 0 (.sl 0 v),Z 1 (I j),Z 6 (.bx 6 b6 0),Z 7 (I i),Z 46 (I (at' f i).many),Z 47 (I k)]⟩) (λ(j,k)=>DD f j (u.ps.drop k++us) R/\k<=u.ps.length/\j<=len f/\FF u.t.op u.ps=FF u.t.op (u.ps.drop k)) (λ(j,k)=>u.ps.length-k) (i+1,0) U U ⟨H,Nat.zero_le _,Aa,rfl⟩ ?_
 rintro⟨j,k⟩ ⟨hj,hk,hjl,D⟩
 have hj0:=hj.1
 refine A1 U (λ hb2=>?_) (λ hb2=>?_)<;>simp only[zb]at hb2
 ·have hk2:k<u.ps.length:=by omega
  have hdc:=drop_cons hk2
  rw[hdc]at hj D
  obtain⟨x,hx⟩: ∃x,x=at' u.ps (k:Int):=⟨_,rfl⟩
  rw[<-hx]at hj D hdc
  have P:DD f j (x::(u.ps.drop (k+1)++us)) R:=hj
  obtain⟨hj1,hjq,_⟩:=P.step
  have Q:(at' f j).name=x.t.name:=by rw[hjq]
  have hjo:(at' f j).op=x.t.op:=by rw[hjq]
  have hsx:(at' f j).small:=X _ (RG hj0 hj1)
  refine DQ U BI Ac <|DR U ?_
  refine A1 U (λ J=>?_) (λ J=>?_)<;>simp only[zb]at J
  ·refine A2 hB U U U λ w M' b=>⟨(),M',?_,trivial,b.le,b.st.drop _ (List.sublist_append_right [_] _),A3⟩
   have e:D2 u=false:=by
    rw[C,D,Ah4 (by rw[hjo,A]at J;exact J.resolve_left Aa)];rfl
   rw[e];rfl
  have h1:=J.2
  rw[hjo,A]at h1
  refine AB U call263 U U (λ _ w M b=>sB (at' f j).name w (hg.low b.st.low) (by have:=hsx.name;omega)) U ?_
  refine A1 U (λ E=>?_) (λ E=>?_)<;>simp only[zb]at E
  ·refine A2 hB U U U λ w M' b=>⟨(),M',?_,trivial,b.le,b.st.drop _ (List.sublist_append_right [_] _),A3⟩
   have e:D2 u=false:=by
    rw[C,D,Ah5 (by rw[Q,A]at E;exact E)];rfl
   rw[e];rfl
  rw[Q,A]at E
  have hxm:x∈u.ps:=by rw[hx];exact RG Aa Aa
  have hxl:=o4 hxm
  have hxp:=x.D7
  obtain⟨z,hz⟩: ∃z,z=if D2 x=true then j+len x.flat else 0:=⟨_,rfl⟩
  have hz0:0<=z:=by rw[hz];split<;>omega
  refine AY [] (λ _:Unit=>.tu [I z,.v (.bool (D2 x))]) [] (λ _=>[]) (Fg:=λ _=>[]) (pu:=λ _=>True) U U call238 U U (hu:=λ _=>rfl) (hH:=λ _=>rfl) (λ w M hS hF=>by rw[hz];exact ih x (by unfold len at*;omega) v f j (u.ps.drop (k+1)++us) R hS hg (hF.get (k:=0) U) P Aa X hb) λ _ _=>?_
  have K:=P.skip
  have hjs2:=P.LC Aa
  have hfx:AM (x::(u.ps.drop (k+1)++us))=x.flat++AM (u.ps.drop (k+1)++us):=rfl
  rw[hfx,AN]at hjs2
  have hfn:=A6 (AM (u.ps.drop (k+1)++us))
  refine A1 U (λ L=>?_) (λ L=>?_)<;>simp only[zb]at L
  ·refine A2 hB U U U λ w M' b=>⟨(),M',?_,trivial,b.le,b.st.drop _ (List.sublist_append_right [_] _),A3⟩
   have e:D2 u=false:=by
    cases F:D2 x with
    |false=>rw[C,D,Ah6 F];rfl
    |true=>
     rw[F,if_pos U]at hz
     rcases L with h|⟨⟨h2,h3⟩,h4⟩
     · rw[F]at h;cases h
     · have hk3:k+1<u.ps.length:=by omega
       have hd2:=drop_cons hk3
       rw[hd2]at K
       have N:=K.step
       rw[<-hz]at N
       have hle:(at' u.ps ((k+1:Nat):Int)).t.name<=x.t.name:=by
        rcases h4 with h|h
        · omega
        · rw[N.2.1,Q]at h;exact sP h
       rw[C,D,hd2,Ah7 (by rw[<-A];exact h2) hle];rfl
   rw[e];rfl
  ·have F:D2 x=true:=L.1
   rw[F,if_pos U]at hz
   refine AR (z,k+1) U U ⟨by rw[hz];exact K,hk2,Aa,?_⟩ (by show u.ps.length-(k+1)<u.ps.length-k;omega)
   rw[D]
   refine Ah8 h1 (by rcases Decidable.em (u.t.op=2)with h|h;exact .inl h;exact .inr (Decidable.byContradiction λ q=>(E.1.resolve_left h)|>λ r=>q r)) E.2 F ?_
   cases hd:u.ps.drop (k+1)with
   |nil=>rfl
   |cons y l=>
    have hk3:k+1<u.ps.length:=by
     rcases Nat.lt_or_ge (k+1) u.ps.length with h|h
     · exact h
     · rw[List.drop_of_length_le h]at hd;cases hd
    rw[hd]at K
    have N:=K.step
    rw[<-hz]at N
    have hy:y=at' u.ps ((k+1:Nat):Int):=by rw[drop_cons hk3]at hd;exact(List.cons.inj hd).1.symm
    unfold QU
    rcases L.2 with h|⟨_,h4,h5⟩
    · rcases h with h|h
      · rw[A]at h;simp[h]
      · omega
    · rw[N.2.1,Q]at h4 h5
      have:=sQ h4 h5
      simp only[Bool.not_eq_true',Bool.and_eq_false_iff,decide_eq_false_iff_not]
      exact .inr this
 ·have hke:k=u.ps.length:=by omega
  subst hke
  rw[List.drop_length]at hj D
  have hj3:DD f j us R:=hj
  have hjl2:=hj3.LC hjl
  have hje:j=i+len u.flat:=by omega
  have hkt:FF u.t.op u.ps=true:=by rw[D];rfl
  rw[hkt,Bool.true_and]at C
  refine A1 U (λ G=>?_) (λ G=>?_)<;>simp only[zb]at G
  ·rw[A]at G
   have S:=Ah3 hpl (by rw[A];exact G)
   obtain⟨x,hx⟩: ∃x,u.ps=[x]:=by
    match hps:u.ps,hqm with
    |[],h=>rw[h]at S;cases S
    |[x],_=>exact⟨x,rfl⟩
    |_::_::l,h=>rw[h]at S;simp only[AH]at S;have:=A6 l;omega
   have hul2:len u.flat=1+len x.flat:=by rw[hul,hx];show 1+len (x.flat++AM [])=_;simp[AM]
   rw[hx]at H
   have hat2:DD f (i+1) (x::us) R:=H
   have V:=hat2.Ah2
   rw[show i+1+len x.flat=j by omega]at V
   have hxl:=A6 x.flat
   have hrl:=gO (at' f i).s
   refine AY [] (λ u:Value=>.tu [.sl 9 u,.v (.bool (HA (at' f i).s).2)]) [9] (λ _=>[]) (Fg:=λ u=>[(1,kn u 3 (HA (at' f i).s).1 Sp.cells)]) U U call264 U U (λ w M hS hF=>sD (at' f i).s hS hg (by have:=hsq.s;omega)) λ u9 _=>HP (gd:=none) 8 (i+1) j U U U ⟨.i64,_,rfl,AG U⟩ ⟨.i64,_,rfl,AG U⟩ underlying25 sizeOf52 Aa U λ v8=>?_
   rw[V]
   refine AY [] (λ _:Unit=>.tu [I (BF (HA (at' f i).s).1 x).1,.v (.bool (BF (HA (at' f i).s).1 x).2)]) [] (λ _=>[]) (Fg:=λ _=>[]) (pu:=λ _=>True) U U call134 U U (λ w M hS hF=>gS (HA (at' f i).s).1 v8 u9 x hS (hF.get (k:=8) U) (hF.get (k:=9) U) Aa (by show len (CI (at' f i).s).1<=_;omega)) λ _ _=>?_
   have hwl:D2 u=(BF (HA (at' f i).s).1 x).2:=by
    rw[C,hx,hqs]
    show(if u.t.op=7\/u.t.op=8 then(BF (HA u.t.s).1 x).2 else true)=_
    rw[if_pos G]
   refine A1 U (λ T=>?_) (λ T=>?_)<;>simp only[zb]at T
   ·refine A2 hB U U U λ w M' b=>⟨(),M',?_,trivial,b.le,b.st.drop _ (List.sublist_append_right [_] _),A3⟩
    rw[hwl,T];rfl
   ·refine A2 hB U U U λ w M' b=>⟨(),M',?_,trivial,b.le,b.st.drop _ (List.sublist_append_right [_] _),A3⟩
    rw[hwl,T,if_pos U,<-hje];rfl
  ·refine A2 hB U U U λ w M' b=>⟨(),M',?_,trivial,b.le,b.st.drop _ (List.sublist_append_right [_] _),A3⟩
   have e:D2 u=true:=by
    rw[C]
    rw[A]at G
    unfold QT
    split
    · rw[if_neg Aa]
    · rw[if_neg Aa]
   rw[e,if_pos U,<-hje];rfl
theorem Ai0{w:World}{M:Mem}(v:Value)(x:Tf)(l:Sat w M)(hg:Gl w)(hl:Sl M 11 x.flat.length v (x.flat.flatMap Tm.cells))(y:len x.flat<=16777217)(b:QQ x.flat):
   Calls prog 205 [v].toArray w λ e w'=>e= .returned (.bool (QV x))/\Ext w w':=by
 have j:=x.D7
 have i:DD x.flat 0 [x] []:=⟨Aa,by show x.flat=(x.flat++AM [])++[];simp[AM]⟩
 have n:=x.SG
 refine AE (Hr:=[]) A8 func205 U ntmps205 [(0,A7 v x.flat)] [] [.sl 0 v] U (Aj l) (AA ⟨hl,Tm.AO,trivial⟩ A3) (λ B q=>AY [] (λ _:Unit=>.tu [I (if D2 x=true then 0+len x.flat else 0),.v (.bool (D2 x))]) [] (λ _=>[]) (Fg:=λ _=>[]) (pu:=λ _=>True) U U call238 U U (λ w M hS hF=>Ah9 _ x (Nat.le_refl _) v x.flat 0 [] [] hS hg (hF.get (k:=0) U) i Aa b Aa) λ _ _=>A2 q U U U λ w M s=>⟨?_,s.st.low⟩) U
 suffices e:QV x=(D2 x&&(if D2 x=true then 0+len x.flat else 0)==len x.flat&&(at' x.flat 0).name==[]&&(at' x.flat 0).op != 9) by rw[e];rfl
 unfold QV
 rw[n]
 cases h:D2 x with
 |false=>rfl
 |true=>
  rw[if_pos U,Int.zero_add]
  simp only[Bool.true_and,beq_self_eq_true]
  congr 1
  ·rw[Bool.eq_iff_iff,beq_iff_eq];simp
  ·rw[Bool.eq_iff_iff,bne_iff_ne];simp
end Go.Proofs.YtnoegalemkbbbaaGreatDoor
