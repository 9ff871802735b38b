/- Lemmas for the card. -/
import Derived.Test.YtnoegalemkbbbaaGreatDoorKs13
set_option linter.unusedVariables false
set_option linter.unusedSimpArgs false
set_option maxRecDepth 100000
namespace Go.Eng
end Go.Eng
set_option maxRecDepth 100000
namespace Go.Proofs.YtnoegalemkbbbaaGreatDoor
open Go.Proofs.Tryz
open Go.Eng
end Go.Proofs.YtnoegalemkbbbaaGreatDoor
namespace Go.Eng
theorem r6: ∀(f:Nat) (s:A0) (p:List Sp) (i:Int),len (FI f s p i).1<=len p+f
 |0,s,p,i=>by show len p<=_;omega
 |f+1,s,p,i=>by
  unfold FI
  split
  ·split
   ·show len p<=_;omega
   ·have:=r6 f s (p++[(EI s i).1]) (i+(EI s i).2)
    rw[AO,AL,len_nil]at this
    push_cast;omega
  ·show len p<=_;omega
theorem V9(s:A0):len (BZ s).1<=20:=by
 unfold BZ
 split
 ·show(0:Int)<=_;omega
 ·split
  ·show(0:Int)<=_;omega
  ·have:=r6 20 s [] 0
   rw[len_nil]at this
   show len (FI 20 s [] 0).1<=20;omega
end Go.Eng
namespace Go.Proofs.YtnoegalemkbbbaaGreatDoor
open Go.Proofs.Tryz
open Go.Eng
theorem Ac1(x:Sp)(w:World):Calls prog 287 [.agg x.cells.toArray].toArray w λ e w'=>e= .returned (.bool x.part)/\Ext w w':=AH AF func287 U ntmps287 [] [] [.ag [.v (.bool x.part),.v (str x.name),I x.n]] U (BE w) A3 (λ B b=>BM 1 U U U λ i=>A2 b U U U λ w M h=>⟨rfl,h.st.low⟩) U
theorem Ac2(v:Value)(l:List Sp)(w:World)(M:Mem)(s:Sat w M)(hl:Sl M 3 l.length v (l.flatMap Sp.cells))(A:len l<=1099511627776):
    Calls prog 152 [v,.func (.func 287) #[] #[]].toArray w λ e w'=>(∃k:Int,e= .returned (i64 k)/\(0<=k↔l.any (λ x=>x.part)=true))/\Ext w w':=by
 have y:=A8 l
 refine AH (Hr:=[]) AF func152 U ntmps152 [(0,kn v 3 l Sp.cells)] [] [.sl 0 v,.v (.func (.func 287) #[] #[])] U (Aj s) (fc 0 hl Sp.AS A3) (λ B q=>B7 (σ:=Int) (λ k=>⟨[(0,kn v 3 l Sp.cells)],[],[Z 0 (.sl 0 v),Z 1 (.v (.func (.func 287) #[] #[])),Z 7 (I (len l)),Z 8 (I k)]⟩) (λ k=>0<=k/\k<=len l/\ ∀x∈Eng.sub l 0 k,x.part≠true) (λ k=>(len l-k).toNat) 0 rfl rfl ⟨Aa,Aa,λ x hx=>by cases hx⟩ ?_) U
 intro k ⟨h0,h1,i⟩
 refine A1 U (λ b=>?_) (λ b=>?_)<;>simp only[zb]at b
 ·refine AP [] (λ _:Unit=>.v (.bool (at' l k).part)) [] (λ _=>[]) (Fg:=λ _=>[]) (pu:=λ _=>True) U U call287 U U (λ w M hS hF=>(Ac1 (at' l k) w).mono λ e w' ⟨he,hx⟩=>⟨(),M,he,trivial,Mem.le.refl _,hS.ext hx,A3⟩) λ _ _=>A1 U (λ j=>?_) (λ j=>?_)
  ·exact A2 q U U U λ w M n=>⟨⟨k,rfl,λ _=>List.any_eq_true.2 ⟨at' l k,at_mem h0 b,j⟩,λ _=>h0⟩,n.st.low⟩
  ·exact AX (k+1) U U ⟨Aa,Aa,λ x hx=>by
    rw[G0 h0 b]at hx
    rcases List.mem_append.1 hx with hx|hx
    ·exact i x hx
    ·rw[List.mem_singleton.1 hx,j];decide⟩ Aa
 ·rw[GD Aa]at i
  exact A2 q U U U λ w M n=>⟨⟨-1,rfl,λ h=>by omega,λ h=>by
   obtain⟨x,hx,z⟩:=List.any_eq_true.1 h
   exact absurd z (i x hx)⟩,n.st.low⟩
theorem Ac3(v:Value)(l:List Sp)(w:World)(M:Mem)(i:Sat w M)(hl:Sl M 3 l.length v (l.flatMap Sp.cells))(j:len l<=1099511627776):
  Calls prog 94 [v,.func (.func 287) #[] #[]].toArray w λ e w'=>e= .returned (.bool (l.any λ x=>x.part))/\Ext w w':=by
 refine AH (Hr:=[]) AF func94 U ntmps94 [(0,kn v 3 l Sp.cells)] [] [.sl 0 v,.v (.func (.func 287) #[] #[])] U (Aj i) (fc 0 hl Sp.AS A3) (λ B n=>AP [] (λ k:Int=>I k) [] (λ _=>[]) (Fg:=λ _=>[]) (pu:=λ k=>0<=k↔l.any (λ x=>x.part)=true) U U call152 U U (λ w M hS hF=>(Ac2 v l w M hS.sat (hF.get (k:=0) U).sl j).mono λ e w' ⟨⟨k,he,b⟩,hx⟩=>⟨k,M,he,b,Mem.le.refl _,hS.ext hx,A3⟩) λ k b=>A2 n U U U λ w M q=>⟨?_,q.st.low⟩) U
 suffices h:decide (0<=k)=l.any (λ x=>x.part) by rw[<-h];rfl
 cases h:l.any (λ x=>x.part)with
 |true=>simpa using b.2 h
 |false=>rw[h]at b;simpa using b
theorem r7{w0 e:World}{M0 M:Mem}{Rs:List HO}(s:A0)(hS:St w0 M0 e M Rs)(hg:Gl w0)(h:len s<=200000000000):
  Calls prog 264 [str s].toArray e (BF w0 M0 M Rs (λ u:Value=>.tuple #[u,.bool (H9 s).2]) (λ _=>True) (λ u=>[(1,kn u 3 (H9 s).1 Sp.cells)]) λ _=>[]):=by
 refine AH (Hr:=Rs) AF func264 U ntmps264 [] [] [.v (str s)] U hS A3 (λ B i=>AP [] (λ u:Value=>.tu [.sl 1 u,I (BZ s).2.1,I (BZ s).2.2]) [1] (λ _=>[]) (Fg:=λ u=>[(1,kn u 3 (BZ s).1 Sp.cells)]) U U call137 U U (λ w M hS hF=>pK s hS hg h) λ u _=>AJ U call94 U U (λ _ w M b=>Ac3 u (BZ s).1 w M b.st.sat (b.sl 1 U) (by have:=V9 s;omega)) U <|A2 i U U U λ w M' b=>⟨u,M',rfl,trivial,b.le,b.B6 [] U,AD (b.f.get (k:=1) U) A3⟩) U
theorem Ac4(v:Value)(l:List CV)(w:World)(M:Mem)(i:Sat w M)(hl:Sl M 4 l.length v (l.flatMap CV.cells))(j:len l<=1099511627776):
  Calls prog 310 [v,.func (.func 311) #[] #[]].toArray w λ e w'=>e= .returned (.bool (l.any λ x=>decide (0<x.left)))/\Ext w w':=by
 refine AH (Hr:=[]) AF func310 U ntmps310 [(0,kn v 4 l CV.cells)] [] [.sl 0 v,.v (.func (.func 311) #[] #[])] U (Aj i) (fc 0 hl CV.AS A3) (λ B n=>AP [] (λ k:Int=>I k) [] (λ _=>[]) (Fg:=λ _=>[]) (pu:=λ k=>0<=k↔l.any (λ x=>decide (0<x.left))=true) U U call337 U U (λ w M hS hF=>(AX7 v l w M hS.sat (hF.get (k:=0) U).sl j).mono λ e w' ⟨⟨k,he,b⟩,hx⟩=>⟨k,M,he,b,Mem.le.refl _,hS.ext hx,A3⟩) λ k b=>A2 n U U U λ w M q=>⟨?_,q.st.low⟩) U
 suffices h:decide (0<=k)=l.any (λ x=>decide (0<x.left)) by rw[<-h];rfl
 cases h:l.any (λ x=>decide (0<x.left))with
 |true=>simpa using b.2 h
 |false=>rw[h]at b;simpa using b
abbrev r8(u:Value)(l:List CV):HX:=.pv 316 (kn u 4 l CV.cells) CV.AS
theorem Ac5(v:Value)(c:Nd)(w:World)(M:Mem)(H:Sat w M)(hg:Gl w)(hl:(kn v 6 [c] Nd.cells).ok M)(Q:len c.s<=1048576):
    Calls prog 292 [v].toArray w λ e w'=>e= .returned (.bool (GI c))/\Ext w w':=by
 refine AH (Hr:=[]) AF func292 U ntmps292 [(0,kn v 6 [c] Nd.cells)] [] [.sl 0 v] U (Aj H) (AD hl A3) (λ B E=>?_) U
 have F:len [c]=1:=rfl
 have J:len [(⟨5,1,false,[]⟩:CV)]=1:=rfl
 refine IG 3 [(⟨5,1,false,[]⟩:CV)] CV.cells 4 316 CV.AS U U Ah U λ u=>B7 (σ:=Int×Value×List CV) (λ(k,u,l)=>⟨[(0,kn v 6 [c] Nd.cells)],[(3,r8 u l)],[Z 0 (.sl 0 v),Z 3 (.sl 3 u),Z 10 (.sl 0 v),Z 11 (I 1),Z 12 (I k)]⟩) (λ(k,u,l)=>(k=0/\l=[⟨5,1,false,[]⟩])\/(k=1/\l=[⟨5,0,false,[]⟩,⟨c.kind,c.many,true,[]⟩]/\JL c=true/\c.name=[])) (λ(k,u,l)=>(1-k).toNat) (0,u,[⟨5,1,false,[]⟩]) U U (.inl ⟨rfl,rfl⟩) ?_
 rintro⟨k,u,l⟩ (⟨rfl,rfl⟩|⟨rfl,rfl,y,z⟩)
 ·refine A1 U (λ i=>?_) (λ i=>?_)
  ·refine B9 5 U zeroValue46 U λ G=>B7 (σ:=Unit) (λ _=>⟨[(0,kn v 6 [c] Nd.cells)],[(5,.box G [I c.kind,I c.many,.v (str c.name),.v (str c.s),.v (.bool c.neg),I c.e] 46),(3,r8 u [⟨5,1,false,[]⟩])],[Z 0 (.sl 0 v),Z 3 (.sl 3 u),Z 10 (.sl 0 v),Z 11 (I 1),Z 12 (I 0),Z 5 (.bx 5 G 0)]⟩) (λ _=>True) (λ _=>0) () U U trivial ?_
   intro _ _
   refine A1 U (λ A=>?_) (λ A=>?_)
   ·cases A
   refine AJ U call309 U U (λ _ w M j=>AX5 c w (hg.low j.st.low) Aa) U ?_
   refine A1 U (λ n=>?_) (λ n=>?_)<;>simp only[zb]at n
   ·refine A2 E U U U λ w M j=>⟨?_,j.st.low⟩
    have e:GI c=false:=by
     unfold GI
     rcases n with(h|h)|h
     ·cases h
     ·rw[h];rfl
     ·rw[show decide (c.many<=0)=false by simp;omega,Bool.and_false]
    rw[e];rfl
   have y:=n.1.2
   have K:=n.2
   refine A1 U (λ q=>?_) (λ q=>?_)<;>simp only[zb]at q
   ·refine A2 E U U U λ w M j=>⟨?_,j.st.low⟩
    have e:GI c=false:=by unfold GI;rw[show decide (c.name=[])=false by simpa using q.2,Bool.and_false,Bool.false_and]
    rw[e];rfl
   have z:c.name=[]:=q.resolve_left (by show ¬(5:Int)=6;decide)
   refine FX U BK Ac <|H4 U call263 U U (λ L w M j=>(absurd L Ab:Calls prog 263 [str c.name].toArray w λ e w'=>e= .returned (.bool true)/\Ext w w')) U <|FY U <|A1 U (λ C=>?_) (λ C=>?_)
   ·cases C
   have N:(at' [(⟨5,1,false,[]⟩:CV)] (len [(⟨5,1,false,[]⟩:CV)]-1)).left=1:=rfl
   refine I2 (⟨5,0,false,[]⟩:CV) U U U sizeOf3 U U U Aa λ D b=>?_
   replace b:D=[⟨5,0,false,[]⟩]:=b
   subst b
   have O:len [(⟨5,0,false,[]⟩:CV)]=1:=rfl
   refine D7 [6,9] 3 (λ _ _ _ _ _ h=>h) U BK Ac <|AK 6 U U U <|I2 (⟨5,0,false,[]⟩:CV) U U U sizeOf4 U U U Aa λ D b=>?_
   replace b:D=[⟨5,0,false,[]⟩]:=b
   subst b
   refine AE U <|AK 9 U U U <|I2 (⟨5,0,false,c.name⟩:CV) U U U sizeOf9 U U U Aa λ D b=>?_
   replace b:D=[⟨5,0,false,c.name⟩]:=b
   subst b
   rw[z]
   exact AE U <|BL U U U <|BH 6 [(⟨c.kind,c.many,true,[]⟩:CV)] CV.cells 4 316 CV.AS U U Ah U λ v6=>G9 40 U U U underlying317 type316 U U CV.cells_one (by simp only[AL,len_nil];omega) λ v'=>AX (1,v',[⟨5,0,false,[]⟩,⟨c.kind,c.many,true,[]⟩]) U U (.inr ⟨rfl,rfl,y,rfl⟩) Ag
  ·cases i
 ·refine A1 U (λ i=>?_) (λ i=>?_)
  ·cases i
  ·have P:len [(⟨5,0,false,[]⟩:CV),⟨c.kind,c.many,true,[]⟩]=2:=rfl
   refine C6 3 U <|AJ U call310 U U (λ _ w M j=>Ac4 u [⟨5,0,false,[]⟩,⟨c.kind,c.many,true,[]⟩] w M j.st.sat (j.sl 3 U) Aa) U <|A2 E U U U λ w M j=>⟨?_,j.st.low⟩
   have e:GI c=(decide (0<len [c])&& !([(⟨5,0,false,[]⟩:CV),⟨c.kind,c.many,true,[]⟩].any λ x=>decide (0<x.left))):=by
    unfold GI
    rw[y,z,F]
    simp
    cases h:decide (c.many<=0)<;>simp at h ⊢ <;>omega
   rw[e];rfl
theorem r9(c:Nd)(w:World)(M:Mem)(l:Sat w M)(hg:Gl w)(n:len c.s<=1048576):
   Calls prog 267 [ES c].toArray w λ e w'=>e= .returned (.bool (decide (c.kind<5)&&GI c))/\Ext w w':=AH (Hr:=[]) AF func267 U ntmps267 [] [] [D1 c] U (Aj l) A3 (λ B j=>BM 1 U U U λ q=>GB (.v (.slice none 0 0)) U U (λ b=>BH 2 [c] Nd.cells 6 46 Nd.AS U U (hE1:=NT b U) Ah U λ v2=>AJ U call292 U U (λ _ w M i=>Ac5 v2 c w M i.st.sat (hg.low i.st.low) (i.f.get (k:=2) U) n) U <|A2 j U U U λ w M i=>⟨rfl,i.st.low⟩) (λ b=>GB (.v (.bool false)) U U (λ h=>absurd (b.symm.trans h) Ab) (λ _=>A2 j U U U λ w M i=>⟨by rw[b];rfl,i.st.low⟩))) U
theorem Ac6(n:Int)(c:Nd)(w:World)(M:Mem)(h:Sat w M)(hg:Gl w)(i:len c.s<=1048576):
  Calls prog 285 [.agg (i64 n::c.cells).toArray].toArray w λ e w'=>e= .returned (.bool (N4 n c))/\Ext w w':=by
 refine AH (Hr:=[]) AF func285 U ntmps285 [] [] [.ag [I n,I c.kind,I c.many,.v (str c.name),.v (str c.s),.v (.bool c.neg),I c.e]] U (Aj h) A3 (λ B j=>BM 1 U U U λ k=>AJ U call267 U U (λ _ w M b=>r9 c w M b.st.sat (hg.low b.st.low) i) U <|A2 j U U U λ w M b=>⟨?_,b.st.low⟩) U
 unfold N4
 rfl
end Go.Proofs.YtnoegalemkbbbaaGreatDoor
namespace Go.Eng
def CA(t:Tm):Tm:=⟨t.op,t.many,t.name,[],0,C3⟩
def I9(t:Tm):Bool×Tm:=
 if t.op=0 then(t.many==0,CA t)
 else if t.op=1 then(decide (0<=t.many)&&decide (0<t.n)&&decide (t.n<=31),{ CA t with n:=t.n})
 else if t.op=9 then(t.many==0&&N4 t.n t.c,{ CA t with n:=t.n,c:=t.c})
 else if t.op=2 then(decide (0<=t.many)&&decide (0<=t.n)&&decide (t.n<=1),{ CA t with n:=t.n})
 else if t.op=4 then(decide (0<=t.many),CA t)
 else if t.op=3\/t.op=5\/t.op=6 then(t.many==1,CA t)
 else if t.op=7\/t.op=8 then((H9 t.s).2&&t.many==1,{ CA t with s:=t.s})
 else(false,CA t)
def HQ(t:Tm):Bool:=(I9 t).1&&decide (t=(I9 t).2)
end Go.Eng
namespace Go.Proofs.YtnoegalemkbbbaaGreatDoor
open Go.Proofs.Tryz
open Go.Eng
abbrev KU(t:Tm):List XV:=[I t.op,I t.many,.v (str t.name),.v (str t.s),I t.n,I t.c.kind,I t.c.many,.v (str t.c.name),.v (str t.c.s),.v (.bool t.c.neg),I t.c.e]
abbrev rA(t:Tm):Value:=.agg #[i64 t.op,i64 t.many,str t.name,str t.s,i64 t.n,i64 t.c.kind,i64 t.c.many,str t.c.name,str t.c.s,.bool t.c.neg,i64 t.c.e]
abbrev GJ(t:Tm):XV:=.ag [I t.op,I t.many,.v (str t.name),.v (str t.s),I t.n,I t.c.kind,I t.c.many,.v (str t.c.name),.v (str t.c.s),.v (.bool t.c.neg),I t.c.e]
theorem Ac7(t:Tm)(w:World)(M:Mem)(K:Sat w M)(hg:Gl w)(L:t.small):Calls prog 262 [rA t].toArray w λ e w'=>e= .returned (.bool (HQ t))/\Ext w w':=by
 obtain⟨N,O,F⟩:=L
 refine AH (Hr:=[]) AF func262 U ntmps262 [] [] [GJ t] U (Aj K) A3 (λ B P=>BM 1 U U U λ A=>B9 3 U zeroValue52 U λ C=>CQ 1 (λ s=> ∃(ok:Bool) (y:Tm),I9 t=(ok,y)/\s=⟨[],[(1,.box A (KU t) 52),(3,.box C (KU y) 52)],[Z 1 (.bx 1 A 0),Z 3 (.bx 3 C 0),Z 4 (.v (.bool ok))]⟩) U U (λ h0=>?_) (λ h0=>?_) ?_) U
 ·simp only[zb]at h0
  exact AT _ U U ⟨_,CA t,by unfold I9;rw[if_pos h0],rfl⟩
 ·simp only[zb]at h0
  refine A1 U (λ h1=>?_) (λ h1=>?_)<;>simp only[zb]at h1
  ·exact AT _ U U ⟨_,{ CA t with n:=t.n},by unfold I9;rw[if_neg h0,if_pos h1],rfl⟩
  refine A1 U (λ j=>?_) (λ j=>?_)<;>simp only[zb]at j
  ·exact D7 [5,7] 3 (λ _ _ _ _ _ h=>h) U BK Ac <|AK 5 U U U <|AE U <|AK 7 U U U <|AE U <|BL U U U <|AJ U call285 U U (λ _ w M E=>Ac6 t.n t.c w M E.st.sat (hg.low E.st.low) F) U <|AT _ U U ⟨_,{ CA t with n:=t.n,c:=t.c},by unfold I9;rw[if_neg h0,if_neg h1,if_pos j],rfl⟩
  refine A1 U (λ q=>?_) (λ q=>?_)<;>simp only[zb]at q
  ·exact AT _ U U ⟨_,{ CA t with n:=t.n},by unfold I9;rw[if_neg h0,if_neg h1,if_neg j,if_pos q],rfl⟩
  refine A1 U (λ D=>?_) (λ D=>?_)<;>simp only[zb]at D
  ·exact AT _ U U ⟨_,CA t,by unfold I9;rw[if_neg h0,if_neg h1,if_neg j,if_neg q,if_pos D],rfl⟩
  refine CQ 0 (λ s=> ∃b:Bool,(b=true↔(t.op=3\/t.op=5\/t.op=6))/\s=⟨[],[(1,.box A (KU t) 52),(3,.box C (KU (CA t)) 52)],[Z 1 (.bx 1 A 0),Z 3 (.bx 3 C 0),Z 4 (.v (.bool false)),Z 15 (I t.op),Z 81 (.v (.bool b))]⟩) U U (λ z=>?_) (λ z=>?_) ?_
  ·exact AT _ U U ⟨_,by simp only[zb]at z ⊢;omega,rfl⟩
  ·exact A1 U (λ G=>AT _ U U ⟨_,by simp only[zb]at G ⊢;omega,rfl⟩) (λ G=>AT _ U U ⟨_,by simp only[zb]at z G ⊢;omega,rfl⟩)
  rintro _ ⟨b,i,rfl⟩
  refine A1 U (λ k=>?_) (λ k=>?_)
  ·exact AT _ U U ⟨_,CA t,by unfold I9;rw[if_neg h0,if_neg h1,if_neg j,if_neg q,if_neg D,if_pos (i.1 k)],rfl⟩
  have l: ¬(t.op=3\/t.op=5\/t.op=6):=λ e=>by have:=i.2 e;rw[k]at this;cases this
  clear i k
  refine CQ 0 (λ s=> ∃b:Bool,(b=true↔(t.op=7\/t.op=8))/\s=⟨[],[(1,.box A (KU t) 52),(3,.box C (KU (CA t)) 52)],[Z 1 (.bx 1 A 0),Z 3 (.bx 3 C 0),Z 4 (.v (.bool false)),Z 88 (.v (.bool b))]⟩) U U (λ z=>?_) (λ z=>?_) ?_
  ·exact AT _ U U ⟨_,by simp only[zb]at z ⊢;omega,rfl⟩
  ·exact AT _ U U ⟨_,by simp only[zb]at z ⊢;omega,rfl⟩
  rintro _ ⟨b,i,rfl⟩
  refine A1 U (λ k=>?_) (λ k=>?_)
  ·exact AP [] (λ u:Value=>.tu [.sl 6 u,.v (.bool (H9 t.s).2)]) [6] (λ _=>[]) (Fg:=λ u=>[(1,kn u 3 (H9 t.s).1 Sp.cells)]) U U call264 U U (λ w M hS hF=>r7 t.s hS hg Aa) λ u _=>AT _ U U ⟨_,{ CA t with s:=t.s},by unfold I9;rw[if_neg h0,if_neg h1,if_neg j,if_neg q,if_neg D,if_neg l,if_pos (i.1 k)],rfl⟩
  have H: ¬(t.op=7\/t.op=8):=λ e=>by have:=i.2 e;rw[k]at this;cases this
  exact AT _ U U ⟨_,CA t,by unfold I9;rw[if_neg h0,if_neg h1,if_neg j,if_neg q,if_neg D,if_neg l,if_neg H],rfl⟩
 rintro _ ⟨ok,y,J,rfl⟩
 refine AR (.v (.bool (decide (t=y)))) U U (λ w M E=>PV.bin (A7 (v:=GJ t) U) (A7 (v:=GJ y) U) (λ _ w _=>O2 _ _ _ _ w)) <|A2 P U U U λ w M E=>⟨?_,E.st.low⟩
 unfold HQ;rw[J];rfl
end Go.Proofs.YtnoegalemkbbbaaGreatDoor
namespace Go.Eng
def Q9(t:Tm):List Tf->Bool
 |[x]=>if t.op=7\/t.op=8 then(B1 (H9 t.s).1 x).2 else true
 |_=>if t.op=7\/t.op=8 then false else true
def QA(o:Int)(n:A0):List Tf->Bool
 |[]=>true
 |y::_=> !(decide (o=2)&&decide (y.t.name<=n))
mutual
def CX:Tf->Bool
 | .mk t ps=>HQ { t with many:=len ps}&&FC t.op ps&&Q9 t ps
def FC(o:Int):List Tf->Bool
 |[]=>true
 |x::l=>(decide (x.t.op=9)==decide (o=1))&&(decide (o=2)||decide (x.t.name=[]))&&Lib.validD x.t.name&&CX x&&QA o x.t.name l&&FC o l
end
def QB(t:Tf):Bool:=CX t&&decide (t.t.name=[])&&decide (t.t.op≠9)
theorem fO(u:Tf):CX u=(HQ { u.t with many:=len u.ps}&&FC u.t.op u.ps&&Q9 u.t u.ps):=by cases u;rw[CX];rfl
theorem D8.skip {f:Fl}{i:Int}{u:Tf}{us:List Tf}{R:Fl}(h:D8 f i (u::us) R):D8 f (i+len u.flat) us R:=by
 have h0:=h.1
 have hl:=A8 u.flat
 refine⟨Aa,?_⟩
 rw[show(i+len u.flat).toNat=i.toNat+u.flat.length by unfold len at*;omega,<-List.drop_drop,h.2]
 show(u.flat++AN us++R).drop _=_
 rw[List.append_assoc,List.drop_left]
theorem D8.Ac8 {f:Fl}{i:Int}{u:Tf}{us:List Tf}{R:Fl}(h:D8 f i (u::us) R):Eng.sub f i (i+len u.flat)=u.flat:=by
 have h0:=h.1
 have hl:=A8 u.flat
 unfold Eng.sub
 rw[h.2,show(i+len u.flat).toNat-i.toNat=u.flat.length by unfold len at*;omega]
 show(u.flat++AN us++R).take _=_
 rw[List.append_assoc,List.take_left]
theorem drop_cons{us:List Tf}{k:Nat}(b:k<us.length):us.drop k=at' us (k:Int)::us.drop (k+1):=by
 obtain⟨h1,e⟩:=CE us (i:=(k:Int)) Aa (by unfold len;omega)
 rw[e,List.drop_eq_getElem_cons b];simp
theorem rB{a b:A0}(h:Op.bytesLess a b=true\/a=b):a<=b:=by
 rcases h with h|h
 ·rw[Go.Proofs.bytesLess_eq,decide_eq_true_eq]at h;exact List.le_of_lt h
 ·rw[h];exact List.le_refl _
theorem rC{a b:A0}(h1:Op.bytesLess a b=false)(e: ¬a=b): ¬a<=b:=λ h=>by
 rw[Go.Proofs.bytesLess_eq,decide_eq_false_iff_not]at h1
 exact e (List.le_antisymm h (List.not_lt.1 h1))
theorem Ac9{t:Tm}(h:HQ t=true)(ho:t.op=7\/t.op=8):t.many=1:=by
 unfold HQ I9 at h
 rw[if_neg Aa,if_neg Aa,if_neg Aa,if_neg Aa,if_neg Aa,if_neg Aa,if_pos ho]at h
 simp only[Bool.and_eq_true,beq_iff_eq]at h
 exact h.1.2
theorem Ad0{o:Int}{x:Tf}{l:List Tf}(h: ¬(x.t.op==9)=(o==1)):FC o (x::l)=false:=by
 rw[FC]
 have e:(decide (x.t.op=9)==decide (o=1))=false:=by
  rw[beq_eq_false_iff_ne];intro q;exact h q
 rw[e];rfl
theorem Ad1{o:Int}{x:Tf}{l:List Tf}(h:(¬o=2/\ ¬x.t.name=[])\/Lib.validD x.t.name=false):FC o (x::l)=false:=by
 rw[FC]
 rcases h with⟨h1,b⟩|h
 ·have e:decide (o=2)=false:=by simpa using h1
  have e2:decide (x.t.name=[])=false:=by simpa using b
  rw[e,e2];simp
 ·rw[h];simp
theorem Ad2{o:Int}{x:Tf}{l:List Tf}(h:CX x=false):FC o (x::l)=false:=by rw[FC,h];simp
theorem Ad3{o:Int}{x y:Tf}{l:List Tf}(h:o=2)(b:y.t.name<=x.t.name):FC o (x::y::l)=false:=by
 rw[FC]
 have e:QA o x.t.name (y::l)=false:=by unfold QA;simp[h,b]
 rw[e];simp
theorem Ad4{o:Int}{x:Tf}{l:List Tf}(h1:(x.t.op==9)=(o==1))(b:o=2\/x.t.name=[])(e:Lib.validD x.t.name=true)(h:CX x=true)(i:QA o x.t.name l=true):FC o (x::l)=FC o l:=by
 conv=>lhs;rw[FC]
 have j:(decide (x.t.op=9)==decide (o=1))=true:=by rw[beq_iff_eq];exact h1
 have e2:(decide (o=2)||decide (x.t.name=[]))=true:=by simpa using b
 rw[j,e2,e,h,i];simp
end Go.Eng
namespace Go.Proofs.YtnoegalemkbbbaaGreatDoor
open Go.Proofs.Tryz
open Go.Eng
theorem Ad5: ∀(n:Nat) (u:Tf),u.flat.length<=n-> ∀ {w0 wv:World} {M0 M:Mem} {Rs:List HO} (v:Value) (f:Fl) (i:Int) (us:List Tf) (R:Fl),St w0 M0 wv M Rs->Gl w0->(A6 v f).ok M->D8 f i (u::us) R->i<=len f->Q8 f->len f<=1099511627776->
    Calls prog 238 [v,i64 i].toArray wv (BF w0 M0 M Rs (λ _:Unit=>.tuple #[i64 (if CX u=true then i+len u.flat else 0),.bool (CX u)]) (λ _=>True) (λ _=>[]) λ _=>[]):=by
 intro n
 induction n with
 |zero=>intro u hu;have:=u.EW;unfold len at this;omega
 |succ n ih=>
 intro u hun w0 wv M0 M Rs v f i us R hS hg hl W hif X hb
 obtain⟨hi1,hq,H⟩:=W.step
 have hi0:=W.1
 have hln:len u.ps=(u.ps.length:Int):=rfl
 have hule:=W.KM hif
 have hfu:AN (u::us)=u.flat++AN us:=rfl
 rw[hfu,AO]at hule
 have hR0:=A8 R
 have hus0:=A8 (AN us)
 have hpg:=JJ u.ps
 have hul:len u.flat=1+len (AN u.ps):=by rw[Tf.FG,AL];omega
 have hqm:(at' f i).many=len u.ps:=by rw[hq]
 have A:(at' f i).op=u.t.op:=by rw[hq]
 have hqs:(at' f i).s=u.t.s:=by rw[hq]
 have hsq:(at' f i).small:=X _ (QU hi0 hi1)
 have C:CX u=(HQ (at' f i)&&FC u.t.op u.ps&&Q9 u.t u.ps):=by rw[hq,fO]
 refine AH (Hr:=Rs) AF func238 U ntmps238 [(0,A6 v f)] [] [.sl 0 v,I i] U hS (AD hl A3) (λ B hB=>AJ U call262 U U (λ _ w M b=>Ac7 (at' f i) w M b.st.sat (hg.low b.st.low) hsq) U ?_) U
 refine A1 U (λ O=>?_) (λ O=>?_)<;>simp only[zb]at O
 ·refine A2 hB U U U λ w M' b=>⟨(),M',?_,trivial,b.le,b.B6 [] U,A3⟩
  have e:CX u=false:=by
   rw[C]
   rcases O with(h|h)|h
   · omega
   · rw[h];rfl
   · omega
  rw[e];rfl
 have hpl:=O.1.2
 rw[hpl,Bool.true_and]at C
 refine B9 6 U zeroValue52 U λ b6=>B7 (σ:=Int×Nat) (λ(j,k)=>⟨[(0,A6 v f)],[(6,.box b6 (KU (at' f i)) 52)],[Z 0 (.sl 0 v),Z 1 (I j),Z 6 (.bx 6 b6 0),Z 7 (I i),Z 46 (I (at' f i).many),Z 47 (I k)]⟩) (λ(j,k)=>D8 f j (u.ps.drop k++us) R/\k<=u.ps.length/\j<=len f/\FC u.t.op u.ps=FC u.t.op (u.ps.drop k)) (λ(j,k)=>u.ps.length-k) (i+1,0) U U ⟨H,Nat.zero_le _,Aa,rfl⟩ ?_
 rintro⟨j,k⟩ ⟨hj,hk,hjl,D⟩
 have hj0:=hj.1
 refine A1 U (λ hb2=>?_) (λ hb2=>?_)<;>simp only[zb]at hb2
 ·have hk2:k<u.ps.length:=by omega
  have hdc:=drop_cons hk2
  rw[hdc]at hj D
  obtain⟨x,hx⟩: ∃x,x=at' u.ps (k:Int):=⟨_,rfl⟩
  rw[<-hx]at hj D hdc
  have P:D8 f j (x::(u.ps.drop (k+1)++us)) R:=hj
  obtain⟨hj1,hjq,_⟩:=P.step
  have Q:(at' f j).name=x.t.name:=by rw[hjq]
  have hjo:(at' f j).op=x.t.op:=by rw[hjq]
  have hsx:(at' f j).small:=X _ (QU hj0 hj1)
  refine FX U BK Ac <|FY U ?_
  refine A1 U (λ J=>?_) (λ J=>?_)<;>simp only[zb]at J
  ·refine A2 hB U U U λ w M' b=>⟨(),M',?_,trivial,b.le,b.st.drop _ (List.sublist_append_right [_] _),A3⟩
   have e:CX u=false:=by
    rw[C,D,Ad0 (by rw[hjo,A]at J;exact J.resolve_left Aa)];rfl
   rw[e];rfl
  have h1:=J.2
  rw[hjo,A]at h1
  refine AJ U call263 U U (λ _ w M b=>pV (at' f j).name w (hg.low b.st.low) (by have:=hsx.name;omega)) U ?_
  refine A1 U (λ E=>?_) (λ E=>?_)<;>simp only[zb]at E
  ·refine A2 hB U U U λ w M' b=>⟨(),M',?_,trivial,b.le,b.st.drop _ (List.sublist_append_right [_] _),A3⟩
   have e:CX u=false:=by
    rw[C,D,Ad1 (by rw[Q,A]at E;exact E)];rfl
   rw[e];rfl
  rw[Q,A]at E
  have hxm:x∈u.ps:=by rw[hx];exact QU Aa Aa
  have hxl:=mP hxm
  have hxp:=x.EW
  obtain⟨z,hz⟩: ∃z,z=if CX x=true then j+len x.flat else 0:=⟨_,rfl⟩
  have hz0:0<=z:=by rw[hz];split<;>omega
  refine AP [] (λ _:Unit=>.tu [I z,.v (.bool (CX x))]) [] (λ _=>[]) (Fg:=λ _=>[]) (pu:=λ _=>True) U U call238 U U (hu:=λ _=>rfl) (hH:=λ _=>rfl) (λ w M hS hF=>by rw[hz];exact ih x (by unfold len at*;omega) v f j (u.ps.drop (k+1)++us) R hS hg (hF.get (k:=0) U) P Aa X hb) λ _ _=>?_
  have K:=P.skip
  have hjs2:=P.KM Aa
  have hfx:AN (x::(u.ps.drop (k+1)++us))=x.flat++AN (u.ps.drop (k+1)++us):=rfl
  rw[hfx,AO]at hjs2
  have hfn:=A8 (AN (u.ps.drop (k+1)++us))
  refine A1 U (λ L=>?_) (λ L=>?_)<;>simp only[zb]at L
  ·refine A2 hB U U U λ w M' b=>⟨(),M',?_,trivial,b.le,b.st.drop _ (List.sublist_append_right [_] _),A3⟩
   have e:CX u=false:=by
    cases F:CX x with
    |false=>rw[C,D,Ad2 F];rfl
    |true=>
     rw[F,if_pos U]at hz
     rcases L with h|⟨⟨h2,h3⟩,h4⟩
     · rw[F]at h;cases h
     · have hk3:k+1<u.ps.length:=by omega
       have hd2:=drop_cons hk3
       rw[hd2]at K
       have N:=K.step
       rw[<-hz]at N
       have hle:(at' u.ps ((k+1:Nat):Int)).t.name<=x.t.name:=by
        rcases h4 with h|h
        · omega
        · rw[N.2.1,Q]at h;exact rB h
       rw[C,D,hd2,Ad3 (by rw[<-A];exact h2) hle];rfl
   rw[e];rfl
  ·have F:CX x=true:=L.1
   rw[F,if_pos U]at hz
   refine AX (z,k+1) U U ⟨by rw[hz];exact K,hk2,Aa,?_⟩ (by show u.ps.length-(k+1)<u.ps.length-k;omega)
   rw[D]
   refine Ad4 h1 (by rcases Decidable.em (u.t.op=2)with h|h;exact .inl h;exact .inr (Decidable.byContradiction λ q=>(E.1.resolve_left h)|>λ r=>q r)) E.2 F ?_
   cases hd:u.ps.drop (k+1)with
   |nil=>rfl
   |cons y l=>
    have hk3:k+1<u.ps.length:=by
     rcases Nat.lt_or_ge (k+1) u.ps.length with h|h
     · exact h
     · rw[List.drop_of_length_le h]at hd;cases hd
    rw[hd]at K
    have N:=K.step
    rw[<-hz]at N
    have hy:y=at' u.ps ((k+1:Nat):Int):=by rw[drop_cons hk3]at hd;exact(List.cons.inj hd).1.symm
    unfold QA
    rcases L.2 with h|⟨_,h4,h5⟩
    · rcases h with h|h
      · rw[A]at h;simp[h]
      · omega
    · rw[N.2.1,Q]at h4 h5
      have:=rC h4 h5
      simp only[Bool.not_eq_true',Bool.and_eq_false_iff,decide_eq_false_iff_not]
      exact .inr this
 ·have hke:k=u.ps.length:=by omega
  subst hke
  rw[List.drop_length]at hj D
  have hj3:D8 f j us R:=hj
  have hjl2:=hj3.KM hjl
  have hje:j=i+len u.flat:=by omega
  have hkt:FC u.t.op u.ps=true:=by rw[D];rfl
  rw[hkt,Bool.true_and]at C
  refine A1 U (λ G=>?_) (λ G=>?_)<;>simp only[zb]at G
  ·rw[A]at G
   have S:=Ac9 hpl (by rw[A];exact G)
   obtain⟨x,hx⟩: ∃x,u.ps=[x]:=by
    match hps:u.ps,hqm with
    |[],h=>rw[h]at S;cases S
    |[x],_=>exact⟨x,rfl⟩
    |_::_::l,h=>rw[h]at S;simp only[AL]at S;have:=A8 l;omega
   have hul2:len u.flat=1+len x.flat:=by rw[hul,hx];show 1+len (x.flat++AN [])=_;simp[AN]
   rw[hx]at H
   have hat2:D8 f (i+1) (x::us) R:=H
   have V:=hat2.Ac8
   rw[show i+1+len x.flat=j by omega]at V
   have hxl:=A8 x.flat
   have hrl:=V9 (at' f i).s
   refine AP [] (λ u:Value=>.tu [.sl 9 u,.v (.bool (H9 (at' f i).s).2)]) [9] (λ _=>[]) (Fg:=λ u=>[(1,kn u 3 (H9 (at' f i).s).1 Sp.cells)]) U U call264 U U (λ w M hS hF=>r7 (at' f i).s hS hg (by have:=hsq.s;omega)) λ u9 _=>ET (gd:=none) 8 (i+1) j U U U ⟨.i64,_,rfl,AG U⟩ ⟨.i64,_,rfl,AG U⟩ underlying25 sizeOf52 Aa U λ v8=>?_
   rw[V]
   refine AP [] (λ _:Unit=>.tu [I (B1 (H9 (at' f i).s).1 x).1,.v (.bool (B1 (H9 (at' f i).s).1 x).2)]) [] (λ _=>[]) (Fg:=λ _=>[]) (pu:=λ _=>True) U U call134 U U (λ w M hS hF=>YT (H9 (at' f i).s).1 v8 u9 x hS (hF.get (k:=8) U) (hF.get (k:=9) U) Aa (by show len (BZ (at' f i).s).1<=_;omega)) λ _ _=>?_
   have hwl:CX u=(B1 (H9 (at' f i).s).1 x).2:=by
    rw[C,hx,hqs]
    show(if u.t.op=7\/u.t.op=8 then(B1 (H9 u.t.s).1 x).2 else true)=_
    rw[if_pos G]
   refine A1 U (λ T=>?_) (λ T=>?_)<;>simp only[zb]at T
   ·refine A2 hB U U U λ w M' b=>⟨(),M',?_,trivial,b.le,b.st.drop _ (List.sublist_append_right [_] _),A3⟩
    rw[hwl,T];rfl
   ·refine A2 hB U U U λ w M' b=>⟨(),M',?_,trivial,b.le,b.st.drop _ (List.sublist_append_right [_] _),A3⟩
    rw[hwl,T,if_pos U,<-hje];rfl
  ·refine A2 hB U U U λ w M' b=>⟨(),M',?_,trivial,b.le,b.st.drop _ (List.sublist_append_right [_] _),A3⟩
   have e:CX u=true:=by
    rw[C]
    rw[A]at G
    unfold Q9
    split
    · rw[if_neg Aa]
    · rw[if_neg Aa]
   rw[e,if_pos U,<-hje];rfl
theorem Ad6{w:World}{M:Mem}(v:Value)(x:Tf)(l:Sat w M)(hg:Gl w)(hl:Sl M 11 x.flat.length v (x.flat.flatMap Tm.cells))(y:len x.flat<=16777217)(b:Q8 x.flat):
   Calls prog 205 [v].toArray w λ e w'=>e= .returned (.bool (QB x))/\Ext w w':=by
 have j:=x.EW
 have i:D8 x.flat 0 [x] []:=⟨Aa,by show x.flat=(x.flat++AN [])++[];simp[AN]⟩
 have n:=x.S0
 refine AH (Hr:=[]) AF func205 U ntmps205 [(0,A6 v x.flat)] [] [.sl 0 v] U (Aj l) (AD ⟨hl,Tm.AS,trivial⟩ A3) (λ B q=>AP [] (λ _:Unit=>.tu [I (if CX x=true then 0+len x.flat else 0),.v (.bool (CX x))]) [] (λ _=>[]) (Fg:=λ _=>[]) (pu:=λ _=>True) U U call238 U U (λ w M hS hF=>Ad5 _ x (Nat.le_refl _) v x.flat 0 [] [] hS hg (hF.get (k:=0) U) i Aa b Aa) λ _ _=>A2 q U U U λ w M s=>⟨?_,s.st.low⟩) U
 suffices e:QB x=(CX x&&(if CX x=true then 0+len x.flat else 0)==len x.flat&&(at' x.flat 0).name==[]&&(at' x.flat 0).op != 9) by rw[e];rfl
 unfold QB
 rw[n]
 cases h:CX x with
 |false=>rfl
 |true=>
  rw[if_pos U,Int.zero_add]
  simp only[Bool.true_and,beq_self_eq_true]
  congr 1
  ·rw[Bool.eq_iff_iff,beq_iff_eq];simp
  ·rw[Bool.eq_iff_iff,bne_iff_ne];simp
end Go.Proofs.YtnoegalemkbbbaaGreatDoor
namespace Go.Eng
open Go.RowKit
def At(s:A0)(i:Int)(u:A0):Prop:=0<=i/\i<=len s/\A5 s i=u
theorem At.add {s:A0}{i:Int}{u r:A0}(h:At s i (u++r)):At s (i+len u) r:=by
 obtain⟨h0,h1,b⟩:=h
 have hl:=EB s i h0 h1
 rw[b,AO]at hl
 have e:=A8 u;have j:=A8 r
 refine⟨Aa,Aa,?_⟩
 rw[<-K4 s i (len u) h0 e,b]
 unfold A5 len;simp
theorem At.one {s:A0}{i:Int}{c:UInt8}{r:A0}(h:At s i (c::r)):At s (i+1) r:=At.add (u:=[c]) h
theorem At.lt {s:A0}{i:Int}{c:UInt8}{r:A0}(h:At s i (c::r)):i<len s:=by
 have hl:=EB s i h.1 h.2.1
 rw[h.2.2,AL]at hl
 have:=A8 r;omega
theorem At.byte {s:A0}{i:Int}{c:UInt8}{r:A0}(h:At s i (c::r)):A4 s i=(c.toNat:Int):=by
 obtain⟨b,h1,e⟩:=K1 s i h.1 h.lt
 rw[h.2.2]at h1
 rw[e,(List.cons.inj h1).1]
def fP(r:A0):Prop:= ∀c r',r=c::r'->LO c=false
theorem At.blank {s:A0}{i:Int}{b r:A0}(h:At s i (b++r))(n: ∀c∈b,LO c=true)(e:fP r):E4 s i=i+len b:=by
 unfold E4
 rw[h.2.2]
 have:(b++r).takeWhile LO=b:=by
  induction b with
  |nil=>
   cases r with
   |nil=>rfl
   |cons c r=>rw[List.nil_append,List.takeWhile_cons,e c r U];rfl
  |cons a b q=>
   rw[List.cons_append,List.takeWhile_cons,n a List.mem_cons_self]
   show a::_=_
   have key: ∀(b r:A0),(∀c∈b,LO c=true)->fP r->(b++r).takeWhile LO=b:=by
    intro b
    induction b with
    |nil=>intro r _ e;cases r with|nil=>rfl|cons c r=>rw[List.nil_append,List.takeWhile_cons,e c r rfl];rfl
    |cons a b k=>intro r j e;rw[List.cons_append,List.takeWhile_cons,j a List.mem_cons_self,if_pos rfl,k r (λ c l=>j c (List.mem_cons_of_mem _ l)) e]
   rw[key b r (λ c l=>n c (List.mem_cons_of_mem _ l)) e]
 rw[this]
theorem At.BE2 {s:A0}{i:Int}{r:A0}(h:At s i r)(e:fP r):E4 s i=i:=by
 have:=At.blank (b:=[]) h (λ c j=>by cases j) e
 rw[len_nil]at this;omega
def VA(m:A0)(i:Int):Tk:=⟨1,m,C3,i⟩
def VB(m:A0)(i:Int):Tk:=⟨2,m,C3,i⟩
theorem Ad7{c:UInt8}(b:c∈([40,41,91,93,123,125,58,44,124]:A0))(u:A0):C1 (c::u)=(⟨1,[c],C3,0⟩,1,0):=by
 have key: ∀c∈([40,41,91,93,123,125,58,44,124]:A0),(c.toNat:Int)≠46/\EM (c::u)=[c]:=by
  intro c b
  simp only[List.mem_cons,List.not_mem_nil,or_false]at b
  rcases b with rfl|rfl|rfl|rfl|rfl|rfl|rfl|rfl|rfl<;>exact⟨Ab,rfl⟩
 obtain⟨h1,e⟩:=key c b
 unfold C1
 rw[FT,if_neg (λ h=>h1 h.1),if_neg (λ h=>h1 h.1),e,if_pos (by simp)]
 rfl
theorem rD{w u:A0}(hw:w≠[])(h0: ∀j:Int,0<=j->j<len w->CF (A4 w j) (j==0)=true)(hu: ∀c r,u=c::r->CF (c.toNat:Int) false=false):BD (w++u)=w:=by
 have hl:=GL hw
 have i:=A8 u
 have e:CP (w++u) 0=len w:=by
  refine Q0 (n:=len w) (by rw[AO];omega) (λ j h1 b=>by rw[I5 h1 b];exact h0 j h1 b) (λ h=>?_) 0 (Int.le_refl _) Aa
  rw[nY (Int.le_refl _),Int.sub_self]
  cases u with
  |nil=>rw[AO,len_nil]at h;omega
  |cons c r=>rw[FT];rw[show(len w==0)=false from by simpa using(by omega:len w≠0)];exact hu c r U
 unfold BD
 rw[e,UY]
theorem Ad8{c:UInt8}{w u:A0}(h0: ∀j:Int,0<=j->j<len (c::w)->CF (A4 (c::w) j) (j==0)=true)(hu: ∀c r,u=c::r->CF (c.toNat:Int) false=false):C1 (c::w++u)=(⟨2,c::w,C3,0⟩,len (c::w),0):=by
 have hw:=rD (u:=u) (List.cons_ne_nil c w) h0 hu
 have hl:F2 (c.toNat:Int)=true:=by
  have:=h0 0 (Int.le_refl _) (by rw[AL];have:=A8 w;omega)
  rw[FT]at this
  unfold CF at this;simpa using this
 have i:=eE hl
 have hm:EM (c::(w++u))=[]:=Q2 i
 have b: ¬(c.toNat:Int)=46:=by
  intro e
  have:c=46:=UInt8.toNat_inj.1 (by rw[show(46:UInt8).toNat=46 from rfl];omega)
  subst this;exact absurd i Ab
 unfold C1
 rw[List.cons_append,FT,if_neg (λ h=>b h.1),if_neg (λ h=>b h.1),hm,if_neg (by simp)]
 rw[<-List.cons_append,hw,if_pos (by simp)]
theorem Lx.at {s:A0}{i:Int}{u r:A0}{t:Tk}{l:List Tk}(h:At s i (u++r))(hu:u≠[])(b:C1 (u++r)=(t,len u,0))(hl:Lx s (E4 s (i+len u)) l):Lx s i ({ t with pos:=i}::l):=by
 have h1:=(At.add h).2.1
 have j:=GL hu
 have e:=h.1
 refine .step (n:=len u) e Aa ?_ hl
 rw[h.2.2];exact b
def TA(l:List Tk)(j:Int)(u:List Tk):Prop:=0<=j/\A5 l j=u
theorem TA.add {l:List Tk}{j:Int}{u r:List Tk}(h:TA l j (u++r)):TA l (j+len u) r:=by
 obtain⟨h0,b⟩:=h
 have e:=A8 u
 refine⟨Aa,?_⟩
 rw[<-K4 l j (len u) h0 e,b]
 unfold A5 len;simp
theorem TA.at {l:List Tk}{j:Int}{t:Tk}{r:List Tk}(h:TA l j (t::r)):at' l j=t:=by
 obtain⟨h0,h1⟩:=h
 unfold at'
 have b:(l.drop j.toNat)[0]? =some t:=by
  have:A5 l j=l.drop j.toNat:=rfl
  rw[<-this,h1];rfl
 rw[List.getElem?_drop,Nat.add_zero]at b
 rw[List.getD_eq_getElem?_getD,b];rfl
theorem TA.CI {l:List Tk}{j:Int}{t:Tk}{r:List Tk}(h:TA l j (t::r))(m:A0):CI l j m=(t.kind==1&&t.s==m):=by unfold Eng.CI;rw[h.at]
end Go.Eng
namespace Go.Proofs.YtnoegalemkbbbaaGreatDoor
open Go.Proofs.Tryz
open Go.Eng
end Go.Proofs.YtnoegalemkbbbaaGreatDoor
namespace Go.Eng
def Sm{α:Type}(b:Bool)(o:Int)(r r':PR α):Prop:=
 (∀x j,r= .ok x j->r'= .ok x (j+o)\/(b=true/\ ∃p,r'= .er 3 p))/\(b=false-> ∀p,r= .er 3 p-> ∃p',r'= .er 3 p')
theorem Sm.ok {α:Type}{b:Bool}{o:Int}{x:α}{j i:Int}(h:i=j+o):Sm b o (.ok x j) (.ok x i):=
 ⟨λ y k e=>(by cases e;subst h;exact .inl rfl),λ _ p e=>(by cases e)⟩
theorem Sm.fail {α:Type}{b:Bool}{o:Int}{l:List Tk}{i:Int}{r':PR α}:Sm b o (JI l i 1) r':=
 ⟨λ y k e=>(by cases e),λ _ p e=>(by cases e)⟩
theorem Sm.bind {α β:Type}{b:Bool}{o:Int}{r r':PR α}{k k':α->Int->PR β}(h:Sm b o r r')(q: ∀x j,r= .ok x j->Sm b o (k x j) (k' x (j+o))):Sm b o (r.bind k) (r'.bind k'):=by
 cases r with
 |er c p=>
  refine⟨λ y m e=>(by cases e),λ n p2 e=>?_⟩
  have e2:PR.er (α:=α) c p= .er 3 p2:=by cases e;rfl
  obtain⟨s,i⟩:=h.2 n p2 e2
  exact⟨s,by rw[i];rfl⟩
 |ok x j=>
  rcases h.1 x j rfl with i|⟨n,p,i⟩
  ·rw[i];exact q x j U
  ·rw[i];exact⟨λ y m e=>.inr ⟨n,p,rfl⟩,λ l=>by rw[n]at l;cases l⟩
structure Vw (l l':List Tk) (o:Int):Prop where
 eq: ∀i,0<=i->i<len l->(at' l i).kind≠6->(at' l' (i+o)).kind=(at' l i).kind/\(at' l' (i+o)).s=(at' l i).s/\(at' l' (i+o)).c=(at' l i).c
 en: ∀i,0<=i->i<len l->(at' l i).kind=6->(at' l' (i+o)).kind=6\/((at' l' (i+o)).kind=1/\(at' l' (i+o)).s=[41])
 few:l.length<=l'.length
section
variable {l l':List Tk} {o:Int} (hl:S2 l) (v:Vw l l' o) {b:Bool} {i:Int} (h0:0<=i) (h1:i<len l)
include v h0 h1
theorem Vw.CI {m:A0}(hm:m≠[41]):CI l' (i+o) m=CI l i m:=by
 unfold Go.Eng.CI
 by_cases h:(at' l i).kind=6
 ·have j:((at' l i).kind==1)=false:=by rw[h];rfl
  rw[j,Bool.false_and]
  rcases v.en i h0 h1 h with b|⟨b,k⟩
  ·have:((at' l' (i+o)).kind==1)=false:=by rw[b];rfl
   rw[this,Bool.false_and]
  ·have:((at' l' (i+o)).s==m)=false:=by rw[k,beq_eq_false_iff_ne];exact λ e=>hm e.symm
   rw[this,Bool.and_false]
 ·obtain⟨j,b,_⟩:=v.eq i h0 h1 h
  rw[j,b]
theorem Vw.VC {m:A0}(hm:Go.Eng.CI l i m=true):Go.Eng.CI l' (i+o) m=true:=by
 have h:(at' l i).kind≠6:=λ e=>by unfold Go.Eng.CI at hm;rw[e]at hm;simp at hm
 obtain⟨b,j,_⟩:=v.eq i h0 h1 h
 unfold Go.Eng.CI at hm ⊢
 rw[b,j];exact hm
theorem Vw.kind {k:Int}(j:k≠1/\k≠6):((at' l' (i+o)).kind=k)=((at' l i).kind=k):=by
 by_cases h:(at' l i).kind=6
 ·rw[h]
  rcases v.en i h0 h1 h with b|⟨b,_⟩
  ·rw[b]
  ·rw[b];exact propext ⟨λ e=>(j.1 e.symm).elim,λ e=>(j.2 e.symm).elim⟩
 ·rw[(v.eq i h0 h1 h).1]
theorem Vw.tok {k:Int}(b:k≠6)(h:(at' l i).kind=k):(at' l' (i+o)).kind=k/\(at' l' (i+o)).s=(at' l i).s/\(at' l' (i+o)).c=(at' l i).c:=by
 have:=v.eq i h0 h1 (by rw[h];exact b)
 rw[h]at this;exact this
theorem Sm.QC {m:A0}:Sm b o (H5 l i m) (H5 l' (i+o) m):=by
 unfold H5
 by_cases h:Go.Eng.CI l i m=true
 ·rw[if_pos h,if_pos (v.VC h0 h1 h)];exact .ok Aa
 ·rw[if_neg h];exact .fail
theorem Sm.op {m:A0}{d k:Int}(hd:b=false->d=k):Sm b o (KL l d i m) (KL l' k (i+o) m):=by
 unfold KL
 by_cases h:Go.Eng.CI l i m=true
 ·have q:=v.VC h0 h1 h
  rw[h,q,Bool.true_and,Bool.true_and]
  by_cases h6:64<=d
  ·rw[if_pos (decide_eq_true h6)]
   refine⟨λ x j e=>(by cases e),λ n p e=>?_⟩
   rw[<-hd n,if_pos (decide_eq_true h6)];exact⟨_,rfl⟩
  ·rw[if_neg (by simpa using h6)]
   by_cases h7:64<=k
   ·rw[if_pos (decide_eq_true h7)]
    cases b with
    |true=>exact⟨λ x j e=>.inr ⟨rfl,_,rfl⟩,λ n=>(by cases n)⟩
    |false=>exact(h6 (by rw[hd U];exact h7)).elim
   ·rw[if_neg (by simpa using h7)];exact Sm.QC v h0 h1
 ·have s:Go.Eng.CI l i m=false:=by simpa using h
  rw[s,Bool.false_and,if_neg (by simp)]
  unfold H5;rw[if_neg h];exact .fail
theorem Sm.whole:Sm b o (MX l i) (MX l' (i+o)):=by
 by_cases h:(at' l i).kind=5
 ·obtain⟨k,_,j⟩:=v.tok h0 h1 Ab h
  have e:UM (at' l' (i+o))=UM (at' l i):=by unfold UM;rw[j]
  unfold MX
  rw[k,h,j,e]
  split
  ·exact .fail
  ·split
   ·exact .fail
   ·exact .ok Aa
 ·unfold MX;rw[if_pos (.inl h)];exact .fail
include hl
end
section
variable {l l':List Tk} {o:Int} (hl:S2 l) (v:Vw l l' o) (b:Bool) (q:A0->A0)
end
abbrev rE:List A0:=[[41],[93],[125],[44]]
structure Vy (l l':List Tk) (o:Int):Prop where
 eq: ∀i,0<=i->i<len l->(at' l i).kind≠6->(at' l' (i+o)).kind=(at' l i).kind/\(at' l' (i+o)).s=(at' l i).s/\(at' l' (i+o)).c=(at' l i).c
 en: ∀i,0<=i->i<len l->(at' l i).kind=6->(at' l' (i+o)).kind=6\/((at' l' (i+o)).kind=1/\(at' l' (i+o)).s∈rE)
 few:l.length<=l'.length
section
variable {l l':List Tk} {o:Int} (hl:S2 l) (v:Vy l l' o) {b:Bool} {i:Int} (h0:0<=i) (h1:i<len l)
include v h0 h1
theorem Vy.CI {m:A0}(hm:m ∉ rE):CI l' (i+o) m=CI l i m:=by
 unfold Go.Eng.CI
 by_cases h:(at' l i).kind=6
 ·have j:((at' l i).kind==1)=false:=by rw[h];rfl
  rw[j,Bool.false_and]
  rcases v.en i h0 h1 h with b|⟨b,k⟩
  ·have:((at' l' (i+o)).kind==1)=false:=by rw[b];rfl
   rw[this,Bool.false_and]
  ·have:((at' l' (i+o)).s==m)=false:=by rw[beq_eq_false_iff_ne];exact λ e=>hm (e▸k)
   rw[this,Bool.and_false]
 ·obtain⟨j,b,_⟩:=v.eq i h0 h1 h
  rw[j,b]
theorem Vy.VC {m:A0}(hm:Go.Eng.CI l i m=true):Go.Eng.CI l' (i+o) m=true:=by
 have h:(at' l i).kind≠6:=λ e=>by unfold Go.Eng.CI at hm;rw[e]at hm;simp at hm
 obtain⟨b,j,_⟩:=v.eq i h0 h1 h
 unfold Go.Eng.CI at hm ⊢
 rw[b,j];exact hm
theorem Vy.kind {k:Int}(j:k≠1/\k≠6):((at' l' (i+o)).kind=k)=((at' l i).kind=k):=by
 by_cases h:(at' l i).kind=6
 ·rw[h]
  rcases v.en i h0 h1 h with b|⟨b,_⟩
  ·rw[b]
  ·rw[b];exact propext ⟨λ e=>(j.1 e.symm).elim,λ e=>(j.2 e.symm).elim⟩
 ·rw[(v.eq i h0 h1 h).1]
theorem Vy.tok {k:Int}(b:k≠6)(h:(at' l i).kind=k):(at' l' (i+o)).kind=k/\(at' l' (i+o)).s=(at' l i).s/\(at' l' (i+o)).c=(at' l i).c:=by
 have:=v.eq i h0 h1 (by rw[h];exact b)
 rw[h]at this;exact this
theorem Sy.QC {m:A0}:Sm b o (H5 l i m) (H5 l' (i+o) m):=by
 unfold H5
 by_cases h:Go.Eng.CI l i m=true
 ·rw[if_pos h,if_pos (v.VC h0 h1 h)];exact .ok Aa
 ·rw[if_neg h];exact .fail
theorem Sy.op {m:A0}{d k:Int}(hd:b=false->d=k):Sm b o (KL l d i m) (KL l' k (i+o) m):=by
 unfold KL
 by_cases h:Go.Eng.CI l i m=true
 ·have q:=v.VC h0 h1 h
  rw[h,q,Bool.true_and,Bool.true_and]
  by_cases h6:64<=d
  ·rw[if_pos (decide_eq_true h6)]
   refine⟨λ x j e=>(by cases e),λ n p e=>?_⟩
   rw[<-hd n,if_pos (decide_eq_true h6)];exact⟨_,rfl⟩
  ·rw[if_neg (by simpa using h6)]
   by_cases h7:64<=k
   ·rw[if_pos (decide_eq_true h7)]
    cases b with
    |true=>exact⟨λ x j e=>.inr ⟨rfl,_,rfl⟩,λ n=>(by cases n)⟩
    |false=>exact(h6 (by rw[hd U];exact h7)).elim
   ·rw[if_neg (by simpa using h7)];exact Sy.QC v h0 h1
 ·have s:Go.Eng.CI l i m=false:=by simpa using h
  rw[s,Bool.false_and,if_neg (by simp)]
  unfold H5;rw[if_neg h];exact .fail
end
section
variable {l l':List Tk} {o:Int} (hl:S2 l) (v:Vy l l' o) {b:Bool}
include hl v
omit hl in
theorem Sy.kind {m i:Int}(h0:0<=i)(h1:i<len l):Sm b o (PT l m i) (PT l' m (i+o)):=by
 unfold PT
 by_cases h:(at' l i).kind=2
 ·obtain⟨e,j,_⟩:=v.tok h0 h1 Ab h
  rw[e,j,h]
  split
  ·exact .ok Aa
  ·exact .fail
 ·rw[if_neg (λ q=>h q.1)];exact .fail
end
open Go.RowKit
section iB
variable {a b:A0}
theorem rF(v:A0): ∀u:A0,E4 (u++v) 0=if E4 u 0<len u then E4 u 0 else len u+E4 v 0
 |[]=>by rw[AR5,len_nil];simp
 |x::u=>by
  rw[List.cons_append]
  have hl:=A8 u
  cases hx:NO (x.toNat:Int)with
  |true=>
   have:=rF v u
   rw[oM hx,oM hx,this,AL]
   by_cases h:E4 u 0<len u
   ·rw[if_pos h,if_pos Aa]
   ·rw[if_neg h,if_neg Aa];omega
  |false=>rw[oN hx,oN hx,if_pos (by rw[AL];omega)]
def Ad9(k:Int)(t:Tk):Tk:= { t with pos:=k+t.pos}
end iB
section aG
variable {p s q:A0}
abbrev QD(p s q:A0):A0:=p++(s++q)
theorem Ae0:len (QD p s q)=len p+len s+len q:=by rw[AO,AO];omega
theorem fQ{i:Int}(h0:0<=i)(h1:i<=len s):A5 (QD p s q) (len p+i)=A5 s i++q:=by
 rw[<-K4 _ (len p) i (A8 p) h0,PZ,AP3 h0 h1]
abbrev VD(p s q:A0):Int:=E4 (QD p s q) (len p+len s)
theorem Ae1:VD p s q=len p+len s+E4 q 0:=by
 have hp:=A8 p;have hs:=A8 s
 unfold VD
 rw[eP Aa,fQ hs (Int.le_refl _),show A5 s (len s)=[]from PH s _ (Int.le_refl _),List.nil_append]
theorem Ae2{k:Int}(h0:0<=k)(h1:k<=len s):E4 (QD p s q) (len p+k)=if E4 s k<len s then len p+E4 s k else VD p s q:=by
 have hp:=A8 p
 have hl:=EB s k h0 h1
 rw[Ae1,eP Aa,fQ h0 h1,rF,eP (s:=s) h0,hl]
 by_cases h:E4 (A5 s k) 0<len s-k
 ·rw[if_pos h,if_pos Aa];omega
 ·rw[if_neg h,if_neg Aa];omega
theorem Ae3(b:q=[]\/K7 (A4 q 0)=true){i n:Int}{t:Tk}(h0:0<=i)(h1:i<len s)(h:C1 (A5 s i)=(t,n,0)):C1 (A5 (QD p s q) (len p+i))=(t,n,0):=by
 obtain⟨u,v,e,j,hu,_,_,k⟩:=AR6 h0 h1 h
 rw[fQ h0 Aa,e,List.append_assoc,<-j]
 refine eG hu k ?_
 cases v with
 |nil=>
  rcases b with rfl|b
  ·exact .inl U
  ·cases q with
   |nil=>exact .inl U
   |cons c r=>exact .inr (.inl ⟨by simp,b⟩)
 |cons c r=>exact .inr (.inr ⟨by simp,by simp,rfl⟩)
theorem Lx.aG (b:q=[]\/K7 (A4 q 0)=true){m:List Tk}(hm:Lx (QD p s q) (VD p s q) m){i:Int}{l:List Tk}(h:Lx s i l):Lx (QD p s q) (if i<len s then len p+i else VD p s q) (l.map (Ad9 (len p))++m):=by
 have hp:=A8 p
 induction h with
 |done h0 h1=>rw[if_neg h1];exact hm
 | @step i n t l h0 h1 h _ ih=>
  have e:=YI h0 h1 h
  rw[if_pos h1]
  refine Lx.step (t:=t) (n:=n) Aa (by rw[Ae0];have:=A8 q;omega) (Ae3 b h0 h1 h) ?_
  rw[show len p+i+n=len p+(i+n)from by omega,Ae2 Aa e.2.1];exact ih
end aG
def Er{α:Type}(r:PR α):Prop:= ∀c p,r= .er c p->c≠0
theorem Er.ok {α:Type}{x:α}{j:Int}:Er (.ok x j):=λ c p e=>by cases e
theorem Er.fail {α:Type}{l:List Tk}{i e:Int}(he:e≠0):Er (JI l i e:PR α):=λ c p h=>by cases h;exact he
theorem Er.bind {α β:Type}{r:PR α}{k:α->Int->PR β}(h:Er r)(b: ∀x j,Er (k x j)):Er (r.bind k):=by
 cases r with
 |er c p=>exact λ i l e=>by cases e;exact h c p rfl
 |ok x j=>exact b x j
theorem Er.QC {l:List Tk}{i:Int}{m:A0}:Er (H5 l i m):=by unfold H5;split;exact .ok;exact .fail Ab
theorem Er.op {l:List Tk}{d i:Int}{m:A0}:Er (KL l d i m):=by unfold KL;split;exact .fail Ab;exact .QC
theorem Er.whole {l:List Tk}{i:Int}:Er (MX l i):=by unfold MX;split;exact .fail Ab;split;exact .fail Ab;exact .ok
theorem Er.lit {l:List Tk}{i:Int}:Er (cX l i):=by
 unfold cX;split
 ·exact .ok
 ·split
  ·exact .ok
  ·split
   ·exact .ok
   ·exact .fail Ab
theorem Ae4{s:A0}{t:Tk}{n:Int}(h:C1 s=(t,n,0)):t.kind≠6:=by
 unfold C1 at h
 repeat' split at h
 all_goals simp only[Prod.mk.injEq]at h
 all_goals obtain⟨h1,b,e⟩:=h
 all_goals subst h1
 all_goals first|(simp;done)|(simp[cV];done)
theorem Lx.kind {s:A0}{i:Int}{l:List Tk}(h:Lx s i l): ∀t∈l,t.kind≠6:=by
 induction h with
 |done=>intro t b;cases b
 |step _ _ b _ e=>
  intro t hm
  rcases List.mem_cons.1 hm with rfl|hm
  ·have j:=Ae4 b;exact j
  ·exact e t hm
theorem rG{α:Type}[Inhabited α](A B:List α){i:Int}(h0:0<=i):at' (A++B) (i+len A)=at' B i:=by
 have b:(i+len A).toNat=i.toNat+A.length:=by unfold len;omega
 unfold at'
 rw[List.getD_eq_getElem?_getD,List.getD_eq_getElem?_getD,b,List.getElem?_append_right Aa,Nat.add_sub_cancel]
theorem Er.kind {l:List Tk}{m i:Int}:Er (PT l m i):=by unfold PT;split;exact .ok;exact .fail Ab
theorem Er.kinds {l:List Tk}: ∀(f:Nat) (m i:Int),Er (XO f l m i)
 |0,_,_=>.fail Ab
 |f+1,m,i=>by
  unfold XO;split
  ·exact Er.kind.bind λ _ _=>Er.kinds f _ _
  ·exact .ok
section
variable {rt:Tf->Bool} {L B:List Tk} {n m:Int} {e:Tk} {p0 p1 p2 p3 p4 p5 p6 p7:Int}
end
section
variable {rt:Tf->Bool}
theorem TA.part (A l r:List Tk):TA (A++(l++r)) (len A+len l) r:=by
 have h1:TA (A++(l++r)) 0 (A++(l++r)):=⟨Int.le_refl 0,rfl⟩
 have b:=(TA.add h1).add
 rw[Int.zero_add]at b;exact b
end
theorem Ae5{α:Type}(y x:List α)(z:α):(y++x).set (len y).toNat z=y++x.set 0 z:=by
 rw[show(len y).toNat=y.length+0 by unfold len;omega,List.set_append_right _ _ Aa];simp
theorem Ae6{α:Type}[Inhabited α](y x:List α):at' (y++x) (len y)=at' x 0:=by
 have:=rG y x (i:=0) (Int.le_refl 0)
 rw[Int.zero_add]at this;exact this
end Go.Eng
namespace Go.Proofs.YtnoegalemkbbbaaGreatDoor
open Go.Proofs.Tryz
open Go.Eng
theorem rH{α:Type}[Inhabited α](a:List α){k:Int}(h0:0<=k)(h1:k<len a):Eng.sub a 0 (k+1)=Eng.sub a 0 k++[at' a k]:=sub_succ a k h0 h1
theorem Ae7(M:Mem)(a b:Fl)(q s:Value)(w:World)(G:Sat w M)(F:Sl M 11 a.length q (a.flatMap Tm.cells))(H:Sl M 11 b.length s (b.flatMap Tm.cells)):
    Calls prog 14 [q,s].toArray w λ e w'=>e= .returned (.bool (decide (a=b)))/\Ext w w':=by
 have J:len a<=9223372036854775807:=F.le
 refine AH (Hr:=[]) AF func14 U ntmps14 [(0,A6 q a),(1,A6 s b)] [] [.sl 0 q,.sl 1 s] U (Aj G) (fc 0 F Tm.AS (fc 1 H Tm.AS A3)) (λ B A=>?_) U
 refine A1 U (λ i=>?_) (λ i=>?_)<;>simp only[zb]at i
 ·exact A2 A U U U λ w M y=>⟨by rw[decide_eq_false (λ e=>i (by rw[e]))];rfl,y.st.low⟩
 refine B7 (λ k:Int=>⟨[(0,A6 q a),(1,A6 s b)],[],[Z 0 (.sl 0 q),Z 1 (.sl 1 s),Z 5 (I k)]⟩) (λ k=>0<=k/\k<=len a/\Eng.sub a 0 k=Eng.sub b 0 k) (λ k=>(len a-k).toNat) 0 U U ⟨Aa,by have:=A8 a;omega,rfl⟩ ?_
 rintro k ⟨z,K,j⟩
 refine A1 U (λ l=>?_) (λ l=>?_)<;>simp only[zb]at l
 ·have C:k<len b:=by omega
  refine D7 [8] 2 (λ _ _ _ _ _ h=>h) U BK Ac <|AK 8 U U U <|AR (.v (.bool (!decide (at' a k=at' b k)))) U U (λ w M y=>PV.bin (A7 (v:=GJ (at' a k)) U) (A7 (v:=GJ (at' b k)) U) (λ _ w _=>AD9 _ _ _ _ w)) <|AE U <|BL U U U <|A1 U (λ n=>?_) (λ n=>?_)
  ·have D: ¬at' a k=at' b k:=by simpa[zb]using n
   exact A2 A U U U λ w M y=>⟨by rw[decide_eq_false (λ e=>D (by rw[e]))];rfl,y.st.low⟩
  ·have heq:at' a k=at' b k:=by simpa[zb]using n
   exact AX (k+1) U U ⟨Aa,Aa,by rw[rH a z l,rH b z C,j,heq]⟩ Ag
 ·have E:a=b:=by rw[NP a k Aa,NP b k Aa]at j;exact j
  exact A2 A U U U λ w M y=>⟨by rw[decide_eq_true E];rfl,y.st.low⟩
theorem Ae8{x y:Fl}(h:x=y)(M:Mem)(b i:Value)(w:World)(j:Sat w M)(k:Sl M 11 x.length b (x.flatMap Tm.cells))(l:Sl M 11 y.length i (y.flatMap Tm.cells)):
  Calls prog 14 [b,i].toArray w λ e w'=>e= .returned (.bool true)/\Ext w w':=
 (Ae7 M x y b i w j k l).mono λ e w' q=>by rw[decide_eq_true h]at q;exact q
end Go.Proofs.YtnoegalemkbbbaaGreatDoor
namespace Go.Eng
def HR(s:A0):List Sp×Bool:=((D0 s).1,(D0 s).2.2==0&& !((D0 s).1.any λ x=>x.part))
def YV(n:Int)(c:Nd):Bool:=decide (0<=n)&&decide (n<=5)&&(decide (c.kind<5)&&(decide (c.name=[])&&decide (c.many=0)&&G3 c))
def JN(t:Tm):Bool×Tm:=
 if t.op=0 then(t.many==0,CA t)
 else if t.op=1 then(decide (0<=t.many)&&decide (1<=t.n)&&decide (t.n<=31),{ CA t with n:=t.n})
 else if t.op=9 then(t.many==0&&YV t.n t.c,{ CA t with n:=t.n,c:=t.c})
 else if t.op=2 then(decide (0<=t.many)&&(t.n==0||t.n==1),{ CA t with n:=t.n})
 else if t.op=4 then(decide (0<=t.many),CA t)
 else if t.op=3\/t.op=5\/t.op=6 then(t.many==1,CA t)
 else if t.op=7\/t.op=8 then(t.many==1&&(HR t.s).2,{ CA t with s:=t.s})
 else(false,CA t)
def GW(t:Tm):Bool:=decide (t=(JN t).2)&&(JN t).1
def N6(m:Int)(f:Fl):Bool:=decide (len f<=m)&&f.all λ t=>decide (len t.s<=100)&&decide (len t.name<=100)&&decide (len t.c.s<=100)
end Go.Eng
namespace Go.Proofs.YtnoegalemkbbbaaGreatDoor
open Go.Proofs.Tryz
open Go.Eng
theorem fR(f:Fl)(v:Value)(i:Int)(M:Mem)(w:World)(n:Sat w M)(s:Sl M 11 f.length v (f.flatMap Tm.cells))(E:len f<=1048576)(h0:0<=i)(h1:i<=1048576):
    Calls prog 64 [v,i64 i].toArray w λ e w'=>e= .returned (i64 (GV f i))/\Ext w w':=by
 have y:=A8 f
 refine AH (Hr:=[]) AF func64 U ntmps64 [(0,A6 v f)] [] [.sl 0 v,I i] U (Aj n) (fc 0 s Tm.AS A3) (λ B h=>B7 (σ:=Nat×Int×Int) (λ(g,o,j)=>⟨[(0,A6 v f)],[],[Z 0 (.sl 0 v),Z 1 (I j),Z 5 (I o)]⟩) (λ(g,o,j)=>HN g f o j=GV f i/\len f+2<=g+j/\i<=j/\(o=1/\j=i\/j<=len f)/\o<=1+(j-i)*1048576/\0<=o) (λ(g,o,j)=>(len f-j).toNat) (f.length+2,1,i) U U ⟨rfl,by unfold len;omega,Aa,.inl ⟨rfl,rfl⟩,Aa,Aa⟩ ?_) U
 rintro⟨g,o,j⟩ ⟨hg,z,F,A,ho,C⟩
 refine A1 U (λ k=>?_) (λ k=>?_)<;>simp only[zb]at k
 ·refine A1 U (λ l=>?_) (λ l=>?_)<;>simp only[zb]at l
  ·have D:GV f i= -1:=by
    rw[<-hg]
    cases g with
    |zero=>rfl
    |succ g=>rw[HN,if_neg Aa,if_pos Aa]
   refine A2 h U U U λ w M b=>⟨?_,b.st.low⟩
   rw[D];rfl
  ·obtain⟨g,rfl⟩: ∃q,g=q+1:=⟨g-1,Aa⟩
   rw[HN,if_neg Aa,if_neg Aa]at hg
   exact AX (g,o-1+(at' f j).many,j+1) U U ⟨hg,Aa,Aa,.inr Aa,Aa,Aa⟩ Ag
 ·obtain⟨g,rfl⟩: ∃q,g=q+1:=⟨g-1,Aa⟩
  rw[fA Aa]at hg
  refine A2 h U U U λ w M b=>⟨?_,b.st.low⟩
  rw[<-hg];rfl
theorem Ae9(l:List Sp)(v:Value)(M:Mem)(w:World)(q:Sat w M)(hl:Sl M 3 l.length v (l.flatMap Sp.cells))(y:len l<=1099511627776):
    Calls prog 126 [v].toArray w λ e w'=>e= .returned (.bool (!(l.any λ x=>x.part)))/\Ext w w':=by
 have s:=A8 l
 refine AH (Hr:=[]) AF func126 U ntmps126 [(0,kn v 3 l Sp.cells)] [] [.sl 0 v] U (Aj q) (fc 0 hl Sp.AS A3) (λ B n=>B7 (σ:=Int) (λ k=>⟨[(0,kn v 3 l Sp.cells)],[],[Z 0 (.sl 0 v),Z 3 (I k)]⟩) (λ k=>0<=k/\k<=len l/\ ∀x∈Eng.sub l 0 k,x.part≠true) (λ k=>(len l-k).toNat) 0 rfl rfl ⟨Aa,Aa,λ x hx=>by cases hx⟩ ?_) U
 intro k ⟨h0,h1,h⟩
 refine A1 U (λ b=>?_) (λ b=>?_)<;>simp only[zb]at b
 ·refine A1 U (λ i=>?_) (λ i=>?_)
  ·refine A2 n U U U λ w M j=>⟨?_,j.st.low⟩
   rw[List.any_eq_true.2 ⟨at' l k,at_mem h0 b,i⟩];rfl
  ·exact AX (k+1) U U ⟨Aa,Aa,λ x hx=>by
    rw[G0 h0 b]at hx
    rcases List.mem_append.1 hx with hx|hx
    ·exact h x hx
    ·rw[List.mem_singleton.1 hx,i];decide⟩ Aa
 ·rw[GD Aa]at h
  refine A2 n U U U λ w M j=>⟨?_,j.st.low⟩
  have e:(l.any λ x=>x.part)=false:=by
   rw[List.any_eq_false];intro x hx;exact h x hx
  rw[e];rfl
theorem rI: ∀(f:Nat) (s:A0) (p:List Sp) (i:Int),len (GH f s p i).1<=len p+f
 |0,s,p,i=>by rw[GH];show len p<=_;omega
 |f+1,s,p,i=>by
  rw[GH]
  split
  ·show len p<=_;omega
  ·have:=rI f s (p++[(DF s i p.isEmpty).1]) (DF s i p.isEmpty).2
   rw[AO,AL,len_nil]at this
   push_cast;omega
theorem fS(s:A0):len (D0 s).1<=20:=by
 have h:=rI 20 s [] 0
 rw[len_nil]at h
 have b:len (EX s 0).1<=20:=by
  unfold EX
  split
  ·show len ([]:List Sp)<=20;decide
  ·omega
 unfold D0
 split
 ·exact b
 split
 ·show len ([]:List Sp)<=20;decide
 split
 ·show len ([]:List Sp)<=20;decide
 ·exact b
theorem rJ{e:World}{M:Mem}(s:A0)(hS:Sat e M)(h:len s<=1048576):
  Calls prog 67 [str s].toArray e (MP e M (λ v:Value=>.tuple #[v,.bool (HR s).2]) (λ _=>True) (λ v=>[(0,kn v 3 (HR s).1 Sp.cells)])):=by
 have hl:=fS s
 exact AH AF func67 U ntmps67 [] [] [.v (str s)] U (Aj hS) A3 (λ B i=>FM (λ v:Value=>.tu [.sl 1 v,I (D0 s).2.1,I (D0 s).2.2]) [1] U U call82 U (λ w M b=>eZ s b.st.sat h) λ v _=>AJ U call126 U U (λ _ w M b=>Ae9 (D0 s).1 v M w b.st.sat (b.sl 1 U) Aa) U <|A2 i U U U λ w M b=>⟨v,M,rfl,trivial,b.st.done,fc 0 (b.sl 1 U) Sp.AS A3⟩) U
theorem rK(c:Nd)(w:World)(M:Mem)(k:Sat w M)(l:len c.s<=1048576):
   Calls prog 99 [ES c].toArray w λ e w'=>e= .returned (.bool (decide (c.kind<5)&&(decide (c.name=[])&&decide (c.many=0)&&G3 c)))/\Ext w w':=AH (Hr:=[]) AF func99 U ntmps99 [] [] [D1 c] U (Aj k) A3 (λ B j=>BM 1 U U U λ n=>GB (.v (.slice none 0 0)) U U (λ b=>BH 2 [c] Nd.cells 6 46 Nd.AS U U (hE1:=NT b U) Ah U λ v2=>AJ U call37 U U (λ _ w M i=>pU c v2 M w i.st.sat (i.sl 2 U) Aa) U <|A2 j U U U λ w M i=>⟨rfl,i.st.low⟩) (λ b=>GB (.v (.bool false)) U U (λ h=>absurd (b.symm.trans h) Ab) (λ _=>A2 j U U U λ w M i=>⟨by rw[b];rfl,i.st.low⟩))) U
theorem Af0(n:Int)(c:Nd)(w:World)(M:Mem)(h:Sat w M)(i:len c.s<=1048576):
  Calls prog 124 [.agg (i64 n::c.cells).toArray].toArray w λ e w'=>e= .returned (.bool (YV n c))/\Ext w w':=AH (Hr:=[]) AF func124 U ntmps124 [] [] [.ag [I n,I c.kind,I c.many,.v (str c.name),.v (str c.s),.v (.bool c.neg),I c.e]] U (Aj h) A3 (λ B j=>BM 1 U U U λ k=>AJ U call99 U U (λ _ w M b=>rK c w M b.st.sat i) U <|A2 j U U U λ w M b=>⟨rfl,b.st.low⟩) U
theorem Af1(t:Tm)(w:World)(M:Mem)(J:Sat w M)(E:len t.s<=1048576)(F:len t.c.s<=1048576):Calls prog 65 [rA t].toArray w λ e w'=>e= .returned (.bool (GW t))/\Ext w w':=by
 refine AH (Hr:=[]) AF func65 U ntmps65 [] [] [GJ t] U (Aj J) A3 (λ B j=>BM 1 U U U λ C=>B9 3 U zeroValue52 U λ D=>?_) U
 refine A1 U (λ h0=>?_) (λ h0=>?_)<;>simp only[zb]at h0
 ·refine AR (.v (.bool (decide (t=CA t)))) U U (λ w M h=>PV.bin (A7 (v:=GJ t) U) (A7 (v:=GJ (CA t)) U) (λ _ w _=>O2 _ _ _ _ w)) <|A2 j U U U λ w M h=>⟨?_,h.st.low⟩
  unfold GW JN;rw[if_pos h0];rfl
 refine A1 U (λ h1=>?_) (λ h1=>?_)<;>simp only[zb]at h1
 ·refine AR (.v (.bool (decide (t= { CA t with n:=t.n})))) U U (λ w M h=>PV.bin (A7 (v:=GJ t) U) (A7 (v:=GJ { CA t with n:=t.n}) U) (λ _ w _=>O2 _ _ _ _ w)) <|A2 j U U U λ w M h=>⟨?_,h.st.low⟩
  unfold GW JN;rw[if_neg h0,if_pos h1];simp only[<-Bool.and_assoc];rfl
 refine A1 U (λ k=>?_) (λ k=>?_)<;>simp only[zb]at k
 ·refine AR (.v (.bool (decide (t= { CA t with n:=t.n,c:=t.c})))) U U (λ w M h=>PV.bin (A7 (v:=GJ t) U) (A7 (v:=GJ { CA t with n:=t.n,c:=t.c}) U) (λ _ w _=>O2 _ _ _ _ w)) <|AJ U call124 U U (λ _ w M h=>Af0 t.n t.c w M h.st.sat F) U <|A2 j U U U λ w M h=>⟨?_,h.st.low⟩
  unfold GW JN;rw[if_neg h0,if_neg h1,if_pos k];simp only[<-Bool.and_assoc];rfl
 refine A1 U (λ y=>?_) (λ y=>?_)<;>simp only[zb]at y
 ·refine AR (.v (.bool (decide (t= { CA t with n:=t.n})))) U U (λ w M h=>PV.bin (A7 (v:=GJ t) U) (A7 (v:=GJ { CA t with n:=t.n}) U) (λ _ w _=>O2 _ _ _ _ w)) <|A2 j U U U λ w M h=>⟨?_,h.st.low⟩
  unfold GW JN;rw[if_neg h0,if_neg h1,if_neg k,if_pos y];simp only[<-Bool.and_assoc];rfl
 refine A1 U (λ A=>?_) (λ A=>?_)<;>simp only[zb]at A
 ·refine AR (.v (.bool (decide (t=CA t)))) U U (λ w M h=>PV.bin (A7 (v:=GJ t) U) (A7 (v:=GJ (CA t)) U) (λ _ w _=>O2 _ _ _ _ w)) <|A2 j U U U λ w M h=>⟨?_,h.st.low⟩
  unfold GW JN;rw[if_neg h0,if_neg h1,if_neg k,if_neg y,if_pos A];rfl
 refine CQ 0 (λ s=> ∃b:Bool,(b=true↔(t.op=3\/t.op=5\/t.op=6))/\s=⟨[],[(1,.box C (KU t) 52),(3,.box D (KU (CA t)) 52)],[Z 1 (.bx 1 C 0),Z 3 (.bx 3 D 0),Z 14 (I t.op),Z 105 (.v (.bool b))]⟩) U U (λ z=>?_) (λ z=>?_) ?_
 ·exact AT _ U U ⟨_,by simp only[zb]at z ⊢;omega,rfl⟩
 ·exact A1 U (λ G=>AT _ U U ⟨_,by simp only[zb]at G ⊢;omega,rfl⟩) (λ G=>AT _ U U ⟨_,by simp only[zb]at z G ⊢;omega,rfl⟩)
 rintro _ ⟨b,i,rfl⟩
 refine A1 U (λ l=>?_) (λ l=>?_)
 ·refine AR (.v (.bool (decide (t=CA t)))) U U (λ w M h=>PV.bin (A7 (v:=GJ t) U) (A7 (v:=GJ (CA t)) U) (λ _ w _=>O2 _ _ _ _ w)) <|A2 j U U U λ w M h=>⟨?_,h.st.low⟩
  unfold GW JN;rw[if_neg h0,if_neg h1,if_neg k,if_neg y,if_neg A,if_pos (i.1 l)];rfl
 have q: ¬(t.op=3\/t.op=5\/t.op=6):=λ e=>by have:=i.2 e;rw[l]at this;cases this
 clear i l
 refine CQ 0 (λ s=> ∃b:Bool,(b=true↔(t.op=7\/t.op=8))/\s=⟨[],[(1,.box C (KU t) 52),(3,.box D (KU (CA t)) 52)],[Z 1 (.bx 1 C 0),Z 3 (.bx 3 D 0),Z 117 (.v (.bool b))]⟩) U U (λ z=>?_) (λ z=>?_) ?_
 ·exact AT _ U U ⟨_,by simp only[zb]at z ⊢;omega,rfl⟩
 ·exact AT _ U U ⟨_,by simp only[zb]at z ⊢;omega,rfl⟩
 rintro _ ⟨b,i,rfl⟩
 refine A1 U (λ l=>?_) (λ l=>?_)
 ·refine FM (λ v:Value=>.tu [.sl 6 v,.v (.bool (HR t.s).2)]) [6] U U call67 U (λ w M h=>rJ t.s h.st.sat E) λ v _=>AR (.v (.bool (decide (t= { CA t with s:=t.s})))) U U (λ w M h=>PV.bin (A7 (v:=GJ t) U) (A7 (v:=GJ { CA t with s:=t.s}) U) (λ _ w _=>O2 _ _ _ _ w)) <|A2 j U U U λ w M h=>⟨?_,h.st.low⟩
  unfold GW JN;rw[if_neg h0,if_neg h1,if_neg k,if_neg y,if_neg A,if_neg q,if_pos (i.1 l)];simp only[<-Bool.and_assoc];rfl
 have H: ¬(t.op=7\/t.op=8):=λ e=>by have:=i.2 e;rw[l]at this;cases this
 refine A2 j U U U λ w M h=>⟨?_,h.st.low⟩
 have e:GW t=false:=by unfold GW JN;rw[if_neg h0,if_neg h1,if_neg k,if_neg y,if_neg A,if_neg q,if_neg H,Bool.and_false]
 rw[e];rfl
theorem Af2(f:Fl)(v:Value)(m:Int)(M:Mem)(w:World)(y:Sat w M)(n:Sl M 11 f.length v (f.flatMap Tm.cells))(hm:0<=m/\m<=1048576):
    Calls prog 75 [v,i64 m].toArray w λ e w'=>e= .returned (.bool (N6 m f))/\Ext w w':=by
 have z:=A8 f
 have hle:len f<=9223372036854775807:=n.le
 refine AH (Hr:=[]) AF func75 U ntmps75 [(0,A6 v f)] [] [.sl 0 v,I m] U (Aj y) (fc 0 n Tm.AS A3) (λ B q=>B7 (σ:=Int) (λ k=>⟨[(0,A6 v f)],[],[Z 0 (.sl 0 v),Z 1 (I m),Z 5 (I k)]⟩) (λ k=>0<=k/\k<=len f/\k<=m/\ ∀t∈Eng.sub f 0 k,len t.s<=100/\len t.name<=100/\len t.c.s<=100) (λ k=>(len f-k).toNat) 0 rfl rfl ⟨Aa,Aa,Aa,λ x hx=>by cases hx⟩ ?_) U
 intro k ⟨h0,h1,A,b⟩
 refine A1 U (λ h=>?_) (λ h=>?_)<;>simp only[zb]at h
 ·refine A1 U (λ i=>?_) (λ i=>?_)<;>simp only[zb]at i
  ·refine A2 q U U U λ w M j=>⟨?_,j.st.low⟩
   have e:N6 m f=false:=by
    unfold N6
    rw[Bool.and_eq_false_iff]
    by_cases hm2:m<=k
    ·left;simp;omega
    ·right
     rw[List.all_eq_false]
     refine⟨at' f k,at_mem h0 h,?_⟩
     simp only[Bool.and_eq_true,decide_eq_true_eq]
     rintro⟨⟨C,D⟩,E⟩
     omega
   rw[e];rfl
  ·exact AX (k+1) U U ⟨Aa,Aa,Aa,λ x hx=>by
    rw[G0 h0 h]at hx
    rcases List.mem_append.1 hx with hx|hx
    ·exact b x hx
    ·rw[List.mem_singleton.1 hx];omega⟩ Aa
 ·rw[GD Aa]at b
  refine A2 q U U U λ w M j=>⟨?_,j.st.low⟩
  have e:N6 m f=true:=by
   unfold N6
   rw[Bool.and_eq_true]
   refine⟨by simp;omega,List.all_eq_true.2 λ t l=>?_⟩
   simp only[Bool.and_eq_true,decide_eq_true_eq]
   exact⟨⟨(b t l).1,(b t l).2.1⟩,(b t l).2.2⟩
  rw[e];rfl
end Go.Proofs.YtnoegalemkbbbaaGreatDoor
