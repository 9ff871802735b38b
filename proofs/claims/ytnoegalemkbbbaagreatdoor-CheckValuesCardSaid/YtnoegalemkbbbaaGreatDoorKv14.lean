/- Lemmas for the card. -/
import Derived.Test.YtnoegalemkbbbaaGreatDoorKv13
set_option linter.unusedVariables false
set_option linter.unusedSimpArgs false
set_option maxRecDepth 100000
namespace Go.Eng
end Go.Eng
set_option maxRecDepth 100000
namespace Go.Proofs.YtnoegalemkbbbaaGreatDoor
open Go.Proofs.Tryz
open Go.Eng
end Go.Proofs.YtnoegalemkbbbaaGreatDoor
namespace Go.Eng
theorem s5: ∀(f:Nat) (s:A0) (p:List Sp) (i:Int),len (IG f s p i).1<=len p+f
 |0,s,p,i=>by show len p<=_;omega
 |f+1,s,p,i=>by
  unfold IG
  split
  ·split
   ·show len p<=_;omega
   ·have:=s5 f s (p++[(FX s i).1]) (i+(FX s i).2)
    rw[AQ,AM,len_nil]at this
    push_cast;omega
  ·show len p<=_;omega
theorem VP(s:A0):len (CB s).1<=20:=by
 unfold CB
 split
 ·show(0:Int)<=_;omega
 ·split
  ·show(0:Int)<=_;omega
  ·have:=s5 20 s [] 0
   rw[len_nil]at this
   show len (IG 20 s [] 0).1<=20;omega
end Go.Eng
namespace Go.Proofs.YtnoegalemkbbbaaGreatDoor
open Go.Proofs.Tryz
open Go.Eng
theorem Ag7(x:Sp)(w:World):Calls prog 287 [.agg x.cells.toArray].toArray w λ e w'=>e= .returned (.bool x.part)/\Ext w w':=AJ AG func287 U ntmps287 [] [] [.ag [.v (.bool x.part),.v (str x.name),I x.n]] U (BF w) A4 (λ B b=>BQ 1 U U U λ i=>A2 b U U U λ w M h=>⟨rfl,h.st.low⟩) U
theorem Ag8(v:Value)(l:List Sp)(w:World)(M:Mem)(s:Sat w M)(hl:Sl M 3 l.length v (l.flatMap Sp.cells))(A:len l<=1099511627776):
    Calls prog 152 [v,.func (.func 287) #[] #[]].toArray w λ e w'=>(∃k:Int,e= .returned (i64 k)/\(0<=k↔l.any (λ x=>x.part)=true))/\Ext w w':=by
 have y:=A9 l
 refine AJ (Hr:=[]) AG func152 U ntmps152 [(0,kn v 3 l Sp.cells)] [] [.sl 0 v,.v (.func (.func 287) #[] #[])] U (Aj s) (fc 0 hl Sp.AT A4) (λ B q=>B5 (σ:=Int) (λ k=>⟨[(0,kn v 3 l Sp.cells)],[],[Z 0 (.sl 0 v),Z 1 (.v (.func (.func 287) #[] #[])),Z 7 (I (len l)),Z 8 (I k)]⟩) (λ k=>0<=k/\k<=len l/\ ∀x∈Eng.sub l 0 k,x.part≠true) (λ k=>(len l-k).toNat) 0 rfl rfl ⟨Aa,Aa,λ x hx=>by cases hx⟩ ?_) U
 intro k ⟨h0,h1,i⟩
 refine A1 U (λ b=>?_) (λ b=>?_)<;>simp only[zb]at b
 ·refine AR [] (λ _:Unit=>.v (.bool (at' l k).part)) [] (λ _=>[]) (Fg:=λ _=>[]) (pu:=λ _=>True) U U call287 U U (λ w M hS hF=>(Ag7 (at' l k) w).mono λ e w' ⟨he,hx⟩=>⟨(),M,he,trivial,Mem.le.refl _,hS.ext hx,A4⟩) λ _ _=>A1 U (λ j=>?_) (λ j=>?_)
  ·exact A2 q U U U λ w M n=>⟨⟨k,rfl,λ _=>List.any_eq_true.2 ⟨at' l k,at_mem h0 b,j⟩,λ _=>h0⟩,n.st.low⟩
  ·exact AX (k+1) U U ⟨Aa,Aa,λ x hx=>by
    rw[FT h0 b]at hx
    rcases List.mem_append.1 hx with hx|hx
    ·exact i x hx
    ·rw[List.mem_singleton.1 hx,j];decide⟩ Aa
 ·rw[G6 Aa]at i
  exact A2 q U U U λ w M n=>⟨⟨-1,rfl,λ h=>by omega,λ h=>by
   obtain⟨x,hx,z⟩:=List.any_eq_true.1 h
   exact absurd z (i x hx)⟩,n.st.low⟩
theorem Ag9(v:Value)(l:List Sp)(w:World)(M:Mem)(i:Sat w M)(hl:Sl M 3 l.length v (l.flatMap Sp.cells))(j:len l<=1099511627776):
  Calls prog 94 [v,.func (.func 287) #[] #[]].toArray w λ e w'=>e= .returned (.bool (l.any λ x=>x.part))/\Ext w w':=by
 refine AJ (Hr:=[]) AG func94 U ntmps94 [(0,kn v 3 l Sp.cells)] [] [.sl 0 v,.v (.func (.func 287) #[] #[])] U (Aj i) (fc 0 hl Sp.AT A4) (λ B n=>AR [] (λ k:Int=>I k) [] (λ _=>[]) (Fg:=λ _=>[]) (pu:=λ k=>0<=k↔l.any (λ x=>x.part)=true) U U call152 U U (λ w M hS hF=>(Ag8 v l w M hS.sat (hF.get (k:=0) U).sl j).mono λ e w' ⟨⟨k,he,b⟩,hx⟩=>⟨k,M,he,b,Mem.le.refl _,hS.ext hx,A4⟩) λ k b=>A2 n U U U λ w M q=>⟨?_,q.st.low⟩) U
 suffices h:decide (0<=k)=l.any (λ x=>x.part) by rw[<-h];rfl
 cases h:l.any (λ x=>x.part)with
 |true=>simpa using b.2 h
 |false=>rw[h]at b;simpa using b
theorem s6{w0 e:World}{M0 M:Mem}{Rs:List HO}(s:A0)(hS:St w0 M0 e M Rs)(hg:Gl w0)(h:len s<=200000000000):
  Calls prog 264 [str s].toArray e (BJ w0 M0 M Rs (λ u:Value=>.tuple #[u,.bool (HH s).2]) (λ _=>True) (λ u=>[(1,kn u 3 (HH s).1 Sp.cells)]) λ _=>[]):=by
 refine AJ (Hr:=Rs) AG func264 U ntmps264 [] [] [.v (str s)] U hS A4 (λ B i=>AR [] (λ u:Value=>.tu [.sl 1 u,I (CB s).2.1,I (CB s).2.2]) [1] (λ _=>[]) (Fg:=λ u=>[(1,kn u 3 (CB s).1 Sp.cells)]) U U call137 U U (λ w M hS hF=>qP s hS hg h) λ u _=>AK U call94 U U (λ _ w M b=>Ag9 u (CB s).1 w M b.st.sat (b.sl 1 U) (by have:=VP s;omega)) U <|A2 i U U U λ w M' b=>⟨u,M',rfl,trivial,b.le,b.B9 [] U,AH (b.f.get (k:=1) U) A4⟩) U
theorem Ah0(v:Value)(l:List D1)(w:World)(M:Mem)(i:Sat w M)(hl:Sl M 4 l.length v (l.flatMap D1.cells))(j:len l<=1099511627776):
  Calls prog 310 [v,.func (.func 311) #[] #[]].toArray w λ e w'=>e= .returned (.bool (l.any λ x=>decide (0<x.left)))/\Ext w w':=by
 refine AJ (Hr:=[]) AG func310 U ntmps310 [(0,kn v 4 l D1.cells)] [] [.sl 0 v,.v (.func (.func 311) #[] #[])] U (Aj i) (fc 0 hl D1.AT A4) (λ B n=>AR [] (λ k:Int=>I k) [] (λ _=>[]) (Fg:=λ _=>[]) (pu:=λ k=>0<=k↔l.any (λ x=>decide (0<x.left))=true) U U call337 U U (λ w M hS hF=>(Ac3 v l w M hS.sat (hF.get (k:=0) U).sl j).mono λ e w' ⟨⟨k,he,b⟩,hx⟩=>⟨k,M,he,b,Mem.le.refl _,hS.ext hx,A4⟩) λ k b=>A2 n U U U λ w M q=>⟨?_,q.st.low⟩) U
 suffices h:decide (0<=k)=l.any (λ x=>decide (0<x.left)) by rw[<-h];rfl
 cases h:l.any (λ x=>decide (0<x.left))with
 |true=>simpa using b.2 h
 |false=>rw[h]at b;simpa using b
abbrev s7(u:Value)(l:List D1):HX:=.pv 316 (kn u 4 l D1.cells) D1.AT
theorem Ah1(v:Value)(c:Nd)(w:World)(M:Mem)(H:Sat w M)(hg:Gl w)(hl:(kn v 6 [c] Nd.cells).ok M)(Q:len c.s<=1048576):
    Calls prog 292 [v].toArray w λ e w'=>e= .returned (.bool (GP c))/\Ext w w':=by
 refine AJ (Hr:=[]) AG func292 U ntmps292 [(0,kn v 6 [c] Nd.cells)] [] [.sl 0 v] U (Aj H) (AH hl A4) (λ B E=>?_) U
 have F:len [c]=1:=rfl
 have J:len [(⟨5,1,false,[]⟩:D1)]=1:=rfl
 refine IN 3 [(⟨5,1,false,[]⟩:D1)] D1.cells 4 316 D1.AT U U Ah U λ u=>B5 (σ:=Int×Value×List D1) (λ(k,u,l)=>⟨[(0,kn v 6 [c] Nd.cells)],[(3,s7 u l)],[Z 0 (.sl 0 v),Z 3 (.sl 3 u),Z 10 (.sl 0 v),Z 11 (I 1),Z 12 (I k)]⟩) (λ(k,u,l)=>(k=0/\l=[⟨5,1,false,[]⟩])\/(k=1/\l=[⟨5,0,false,[]⟩,⟨c.kind,c.many,true,[]⟩]/\JX c=true/\c.name=[])) (λ(k,u,l)=>(1-k).toNat) (0,u,[⟨5,1,false,[]⟩]) U U (.inl ⟨rfl,rfl⟩) ?_
 rintro⟨k,u,l⟩ (⟨rfl,rfl⟩|⟨rfl,rfl,y,z⟩)
 ·refine A1 U (λ i=>?_) (λ i=>?_)
  ·refine BB 5 U zeroValue46 U λ G=>B5 (σ:=Unit) (λ _=>⟨[(0,kn v 6 [c] Nd.cells)],[(5,.box G [I c.kind,I c.many,.v (str c.name),.v (str c.s),.v (.bool c.neg),I c.e] 46),(3,s7 u [⟨5,1,false,[]⟩])],[Z 0 (.sl 0 v),Z 3 (.sl 3 u),Z 10 (.sl 0 v),Z 11 (I 1),Z 12 (I 0),Z 5 (.bx 5 G 0)]⟩) (λ _=>True) (λ _=>0) () U U trivial ?_
   intro _ _
   refine A1 U (λ A=>?_) (λ A=>?_)
   ·cases A
   refine AK U call309 U U (λ _ w M j=>Ac1 c w (hg.low j.st.low) Aa) U ?_
   refine A1 U (λ n=>?_) (λ n=>?_)<;>simp only[zb]at n
   ·refine A2 E U U U λ w M j=>⟨?_,j.st.low⟩
    have e:GP c=false:=by
     unfold GP
     rcases n with(h|h)|h
     ·cases h
     ·rw[h];rfl
     ·rw[show decide (c.many<=0)=false by simp;omega,Bool.and_false]
    rw[e];rfl
   have y:=n.1.2
   have K:=n.2
   refine A1 U (λ q=>?_) (λ q=>?_)<;>simp only[zb]at q
   ·refine A2 E U U U λ w M j=>⟨?_,j.st.low⟩
    have e:GP c=false:=by unfold GP;rw[show decide (c.name=[])=false by simpa using q.2,Bool.and_false,Bool.false_and]
    rw[e];rfl
   have z:c.name=[]:=q.resolve_left (by show ¬(5:Int)=6;decide)
   refine G3 U BM Ac <|HB U call263 U U (λ L w M j=>(absurd L Ab:Calls prog 263 [str c.name].toArray w λ e w'=>e= .returned (.bool true)/\Ext w w')) U <|G4 U <|A1 U (λ C=>?_) (λ C=>?_)
   ·cases C
   have N:(at' [(⟨5,1,false,[]⟩:D1)] (len [(⟨5,1,false,[]⟩:D1)]-1)).left=1:=rfl
   refine HW (⟨5,0,false,[]⟩:D1) U U U sizeOf3 U U U Aa λ D b=>?_
   replace b:D=[⟨5,0,false,[]⟩]:=b
   subst b
   have O:len [(⟨5,0,false,[]⟩:D1)]=1:=rfl
   refine DN [6,9] 3 (λ _ _ _ _ _ h=>h) U BM Ac <|AL 6 U U U <|HW (⟨5,0,false,[]⟩:D1) U U U sizeOf4 U U U Aa λ D b=>?_
   replace b:D=[⟨5,0,false,[]⟩]:=b
   subst b
   refine AE U <|AL 9 U U U <|HW (⟨5,0,false,c.name⟩:D1) U U U sizeOf9 U U U Aa λ D b=>?_
   replace b:D=[⟨5,0,false,c.name⟩]:=b
   subst b
   rw[z]
   exact AE U <|BO U U U <|BA 6 [(⟨c.kind,c.many,true,[]⟩:D1)] D1.cells 4 316 D1.AT U U Ah U λ v6=>IC 40 U U U underlying317 type316 U U D1.cells_one (by simp only[AM,len_nil];omega) λ v'=>AX (1,v',[⟨5,0,false,[]⟩,⟨c.kind,c.many,true,[]⟩]) U U (.inr ⟨rfl,rfl,y,rfl⟩) Ag
  ·cases i
 ·refine A1 U (λ i=>?_) (λ i=>?_)
  ·cases i
  ·have P:len [(⟨5,0,false,[]⟩:D1),⟨c.kind,c.many,true,[]⟩]=2:=rfl
   refine C1 3 U <|AK U call310 U U (λ _ w M j=>Ah0 u [⟨5,0,false,[]⟩,⟨c.kind,c.many,true,[]⟩] w M j.st.sat (j.sl 3 U) Aa) U <|A2 E U U U λ w M j=>⟨?_,j.st.low⟩
   have e:GP c=(decide (0<len [c])&& !([(⟨5,0,false,[]⟩:D1),⟨c.kind,c.many,true,[]⟩].any λ x=>decide (0<x.left))):=by
    unfold GP
    rw[y,z,F]
    simp
    cases h:decide (c.many<=0)<;>simp at h ⊢ <;>omega
   rw[e];rfl
theorem s8(c:Nd)(w:World)(M:Mem)(l:Sat w M)(hg:Gl w)(n:len c.s<=1048576):
   Calls prog 267 [EU c].toArray w λ e w'=>e= .returned (.bool (decide (c.kind<5)&&GP c))/\Ext w w':=AJ (Hr:=[]) AG func267 U ntmps267 [] [] [D8 c] U (Aj l) A4 (λ B j=>BQ 1 U U U λ q=>GJ (.v (.slice none 0 0)) U U (λ b=>BA 2 [c] Nd.cells 6 46 Nd.AT U U (hE1:=OD b U) Ah U λ v2=>AK U call292 U U (λ _ w M i=>Ah1 v2 c w M i.st.sat (hg.low i.st.low) (i.f.get (k:=2) U) n) U <|A2 j U U U λ w M i=>⟨rfl,i.st.low⟩) (λ b=>GJ (.v (.bool false)) U U (λ h=>absurd (b.symm.trans h) Ab) (λ _=>A2 j U U U λ w M i=>⟨by rw[b];rfl,i.st.low⟩))) U
theorem Ah2(n:Int)(c:Nd)(w:World)(M:Mem)(h:Sat w M)(hg:Gl w)(i:len c.s<=1048576):
  Calls prog 285 [.agg (i64 n::c.cells).toArray].toArray w λ e w'=>e= .returned (.bool (NN n c))/\Ext w w':=by
 refine AJ (Hr:=[]) AG func285 U ntmps285 [] [] [.ag [I n,I c.kind,I c.many,.v (str c.name),.v (str c.s),.v (.bool c.neg),I c.e]] U (Aj h) A4 (λ B j=>BQ 1 U U U λ k=>AK U call267 U U (λ _ w M b=>s8 c w M b.st.sat (hg.low b.st.low) i) U <|A2 j U U U λ w M b=>⟨?_,b.st.low⟩) U
 unfold NN
 rfl
end Go.Proofs.YtnoegalemkbbbaaGreatDoor
namespace Go.Eng
def CF(t:Tm):Tm:=⟨t.op,t.many,t.name,[],0,BY⟩
def II(t:Tm):Bool×Tm:=
 if t.op=0 then(t.many==0,CF t)
 else if t.op=1 then(decide (0<=t.many)&&decide (0<t.n)&&decide (t.n<=31),{ CF t with n:=t.n})
 else if t.op=9 then(t.many==0&&NN t.n t.c,{ CF t with n:=t.n,c:=t.c})
 else if t.op=2 then(decide (0<=t.many)&&decide (0<=t.n)&&decide (t.n<=1),{ CF t with n:=t.n})
 else if t.op=4 then(decide (0<=t.many),CF t)
 else if t.op=3\/t.op=5\/t.op=6 then(t.many==1,CF t)
 else if t.op=7\/t.op=8 then((HH t.s).2&&t.many==1,{ CF t with s:=t.s})
 else(false,CF t)
def I2(t:Tm):Bool:=(II t).1&&decide (t=(II t).2)
end Go.Eng
namespace Go.Proofs.YtnoegalemkbbbaaGreatDoor
open Go.Proofs.Tryz
open Go.Eng
abbrev LD(t:Tm):List XV:=[I t.op,I t.many,.v (str t.name),.v (str t.s),I t.n,I t.c.kind,I t.c.many,.v (str t.c.name),.v (str t.c.s),.v (.bool t.c.neg),I t.c.e]
abbrev s9(t:Tm):Value:=.agg #[i64 t.op,i64 t.many,str t.name,str t.s,i64 t.n,i64 t.c.kind,i64 t.c.many,str t.c.name,str t.c.s,.bool t.c.neg,i64 t.c.e]
abbrev GQ(t:Tm):XV:=.ag [I t.op,I t.many,.v (str t.name),.v (str t.s),I t.n,I t.c.kind,I t.c.many,.v (str t.c.name),.v (str t.c.s),.v (.bool t.c.neg),I t.c.e]
theorem Ah3(t:Tm)(w:World)(M:Mem)(K:Sat w M)(hg:Gl w)(L:t.small):Calls prog 262 [s9 t].toArray w λ e w'=>e= .returned (.bool (I2 t))/\Ext w w':=by
 obtain⟨N,O,F⟩:=L
 refine AJ (Hr:=[]) AG func262 U ntmps262 [] [] [GQ t] U (Aj K) A4 (λ B P=>BQ 1 U U U λ A=>BB 3 U zeroValue52 U λ C=>CY 1 (λ s=> ∃(ok:Bool) (y:Tm),II t=(ok,y)/\s=⟨[],[(1,.box A (LD t) 52),(3,.box C (LD y) 52)],[Z 1 (.bx 1 A 0),Z 3 (.bx 3 C 0),Z 4 (.v (.bool ok))]⟩) U U (λ h0=>?_) (λ h0=>?_) ?_) U
 ·simp only[zb]at h0
  exact AW _ U U ⟨_,CF t,by unfold II;rw[if_pos h0],rfl⟩
 ·simp only[zb]at h0
  refine A1 U (λ h1=>?_) (λ h1=>?_)<;>simp only[zb]at h1
  ·exact AW _ U U ⟨_,{ CF t with n:=t.n},by unfold II;rw[if_neg h0,if_pos h1],rfl⟩
  refine A1 U (λ j=>?_) (λ j=>?_)<;>simp only[zb]at j
  ·exact DN [5,7] 3 (λ _ _ _ _ _ h=>h) U BM Ac <|AL 5 U U U <|AE U <|AL 7 U U U <|AE U <|BO U U U <|AK U call285 U U (λ _ w M E=>Ah2 t.n t.c w M E.st.sat (hg.low E.st.low) F) U <|AW _ U U ⟨_,{ CF t with n:=t.n,c:=t.c},by unfold II;rw[if_neg h0,if_neg h1,if_pos j],rfl⟩
  refine A1 U (λ q=>?_) (λ q=>?_)<;>simp only[zb]at q
  ·exact AW _ U U ⟨_,{ CF t with n:=t.n},by unfold II;rw[if_neg h0,if_neg h1,if_neg j,if_pos q],rfl⟩
  refine A1 U (λ D=>?_) (λ D=>?_)<;>simp only[zb]at D
  ·exact AW _ U U ⟨_,CF t,by unfold II;rw[if_neg h0,if_neg h1,if_neg j,if_neg q,if_pos D],rfl⟩
  refine CY 0 (λ s=> ∃b:Bool,(b=true↔(t.op=3\/t.op=5\/t.op=6))/\s=⟨[],[(1,.box A (LD t) 52),(3,.box C (LD (CF t)) 52)],[Z 1 (.bx 1 A 0),Z 3 (.bx 3 C 0),Z 4 (.v (.bool false)),Z 15 (I t.op),Z 81 (.v (.bool b))]⟩) U U (λ z=>?_) (λ z=>?_) ?_
  ·exact AW _ U U ⟨_,by simp only[zb]at z ⊢;omega,rfl⟩
  ·exact A1 U (λ G=>AW _ U U ⟨_,by simp only[zb]at G ⊢;omega,rfl⟩) (λ G=>AW _ U U ⟨_,by simp only[zb]at z G ⊢;omega,rfl⟩)
  rintro _ ⟨b,i,rfl⟩
  refine A1 U (λ k=>?_) (λ k=>?_)
  ·exact AW _ U U ⟨_,CF t,by unfold II;rw[if_neg h0,if_neg h1,if_neg j,if_neg q,if_neg D,if_pos (i.1 k)],rfl⟩
  have l: ¬(t.op=3\/t.op=5\/t.op=6):=λ e=>by have:=i.2 e;rw[k]at this;cases this
  clear i k
  refine CY 0 (λ s=> ∃b:Bool,(b=true↔(t.op=7\/t.op=8))/\s=⟨[],[(1,.box A (LD t) 52),(3,.box C (LD (CF t)) 52)],[Z 1 (.bx 1 A 0),Z 3 (.bx 3 C 0),Z 4 (.v (.bool false)),Z 88 (.v (.bool b))]⟩) U U (λ z=>?_) (λ z=>?_) ?_
  ·exact AW _ U U ⟨_,by simp only[zb]at z ⊢;omega,rfl⟩
  ·exact AW _ U U ⟨_,by simp only[zb]at z ⊢;omega,rfl⟩
  rintro _ ⟨b,i,rfl⟩
  refine A1 U (λ k=>?_) (λ k=>?_)
  ·exact AR [] (λ u:Value=>.tu [.sl 6 u,.v (.bool (HH t.s).2)]) [6] (λ _=>[]) (Fg:=λ u=>[(1,kn u 3 (HH t.s).1 Sp.cells)]) U U call264 U U (λ w M hS hF=>s6 t.s hS hg Aa) λ u _=>AW _ U U ⟨_,{ CF t with s:=t.s},by unfold II;rw[if_neg h0,if_neg h1,if_neg j,if_neg q,if_neg D,if_neg l,if_pos (i.1 k)],rfl⟩
  have H: ¬(t.op=7\/t.op=8):=λ e=>by have:=i.2 e;rw[k]at this;cases this
  exact AW _ U U ⟨_,CF t,by unfold II;rw[if_neg h0,if_neg h1,if_neg j,if_neg q,if_neg D,if_neg l,if_neg H],rfl⟩
 rintro _ ⟨ok,y,J,rfl⟩
 refine AU (.v (.bool (decide (t=y)))) U U (λ w M E=>PV.bin (A8 (v:=GQ t) U) (A8 (v:=GQ y) U) (λ _ w _=>OM _ _ _ _ w)) <|A2 P U U U λ w M E=>⟨?_,E.st.low⟩
 unfold I2;rw[J];rfl
end Go.Proofs.YtnoegalemkbbbaaGreatDoor
namespace Go.Eng
def QO(t:Tm):List Tf->Bool
 |[x]=>if t.op=7\/t.op=8 then(BK (HH t.s).1 x).2 else true
 |_=>if t.op=7\/t.op=8 then false else true
def QP(o:Int)(n:A0):List Tf->Bool
 |[]=>true
 |y::_=> !(decide (o=2)&&decide (y.t.name<=n))
mutual
def D2:Tf->Bool
 | .mk t ps=>I2 { t with many:=len ps}&&FC t.op ps&&QO t ps
def FC(o:Int):List Tf->Bool
 |[]=>true
 |x::l=>(decide (x.t.op=9)==decide (o=1))&&(decide (o=2)||decide (x.t.name=[]))&&Lib.validD x.t.name&&D2 x&&QP o x.t.name l&&FC o l
end
def QQ(t:Tf):Bool:=D2 t&&decide (t.t.name=[])&&decide (t.t.op≠9)
theorem gL(u:Tf):D2 u=(I2 { u.t with many:=len u.ps}&&FC u.t.op u.ps&&QO u.t u.ps):=by cases u;rw[D2];rfl
theorem DE.skip {f:Fl}{i:Int}{u:Tf}{us:List Tf}{R:Fl}(h:DE f i (u::us) R):DE f (i+len u.flat) us R:=by
 have h0:=h.1
 have hl:=A9 u.flat
 refine⟨Aa,?_⟩
 rw[show(i+len u.flat).toNat=i.toNat+u.flat.length by unfold len at*;omega,<-List.drop_drop,h.2]
 show(u.flat++AP us++R).drop _=_
 rw[List.append_assoc,List.drop_left]
theorem DE.Ah4 {f:Fl}{i:Int}{u:Tf}{us:List Tf}{R:Fl}(h:DE f i (u::us) R):Eng.sub f i (i+len u.flat)=u.flat:=by
 have h0:=h.1
 have hl:=A9 u.flat
 unfold Eng.sub
 rw[h.2,show(i+len u.flat).toNat-i.toNat=u.flat.length by unfold len at*;omega]
 show(u.flat++AP us++R).take _=_
 rw[List.append_assoc,List.take_left]
theorem drop_cons{us:List Tf}{k:Nat}(b:k<us.length):us.drop k=at' us (k:Int)::us.drop (k+1):=by
 obtain⟨h1,e⟩:=CJ us (i:=(k:Int)) Aa (by unfold len;omega)
 rw[e,List.drop_eq_getElem_cons b];simp
theorem sA{a b:A0}(h:Op.bytesLess a b=true\/a=b):a<=b:=by
 rcases h with h|h
 ·rw[Go.Proofs.bytesLess_eq,decide_eq_true_eq]at h;exact List.le_of_lt h
 ·rw[h];exact List.le_refl _
theorem sB{a b:A0}(h1:Op.bytesLess a b=false)(e: ¬a=b): ¬a<=b:=λ h=>by
 rw[Go.Proofs.bytesLess_eq,decide_eq_false_iff_not]at h1
 exact e (List.le_antisymm h (List.not_lt.1 h1))
theorem Ah5{t:Tm}(h:I2 t=true)(ho:t.op=7\/t.op=8):t.many=1:=by
 unfold I2 II at h
 rw[if_neg Aa,if_neg Aa,if_neg Aa,if_neg Aa,if_neg Aa,if_neg Aa,if_pos ho]at h
 simp only[Bool.and_eq_true,beq_iff_eq]at h
 exact h.1.2
theorem Ah6{o:Int}{x:Tf}{l:List Tf}(h: ¬(x.t.op==9)=(o==1)):FC o (x::l)=false:=by
 rw[FC]
 have e:(decide (x.t.op=9)==decide (o=1))=false:=by
  rw[beq_eq_false_iff_ne];intro q;exact h q
 rw[e];rfl
theorem Ah7{o:Int}{x:Tf}{l:List Tf}(h:(¬o=2/\ ¬x.t.name=[])\/Lib.validD x.t.name=false):FC o (x::l)=false:=by
 rw[FC]
 rcases h with⟨h1,b⟩|h
 ·have e:decide (o=2)=false:=by simpa using h1
  have e2:decide (x.t.name=[])=false:=by simpa using b
  rw[e,e2];simp
 ·rw[h];simp
theorem Ah8{o:Int}{x:Tf}{l:List Tf}(h:D2 x=false):FC o (x::l)=false:=by rw[FC,h];simp
theorem Ah9{o:Int}{x y:Tf}{l:List Tf}(h:o=2)(b:y.t.name<=x.t.name):FC o (x::y::l)=false:=by
 rw[FC]
 have e:QP o x.t.name (y::l)=false:=by unfold QP;simp[h,b]
 rw[e];simp
theorem Ai0{o:Int}{x:Tf}{l:List Tf}(h1:(x.t.op==9)=(o==1))(b:o=2\/x.t.name=[])(e:Lib.validD x.t.name=true)(h:D2 x=true)(i:QP o x.t.name l=true):FC o (x::l)=FC o l:=by
 conv=>lhs;rw[FC]
 have j:(decide (x.t.op=9)==decide (o=1))=true:=by rw[beq_iff_eq];exact h1
 have e2:(decide (o=2)||decide (x.t.name=[]))=true:=by simpa using b
 rw[j,e2,e,h,i];simp
end Go.Eng
namespace Go.Proofs.YtnoegalemkbbbaaGreatDoor
open Go.Proofs.Tryz
open Go.Eng
theorem Ai1: ∀(n:Nat) (u:Tf),u.flat.length<=n-> ∀ {w0 wv:World} {M0 M:Mem} {Rs:List HO} (v:Value) (f:Fl) (i:Int) (us:List Tf) (R:Fl),St w0 M0 wv M Rs->Gl w0->(A7 v f).ok M->DE f i (u::us) R->i<=len f->QN f->len f<=1099511627776->
    Calls prog 238 [v,i64 i].toArray wv (BJ w0 M0 M Rs (λ _:Unit=>.tuple #[i64 (if D2 u=true then i+len u.flat else 0),.bool (D2 u)]) (λ _=>True) (λ _=>[]) λ _=>[]):=by
 intro n
 induction n with
 |zero=>intro u hu;have:=u.ER;unfold len at this;omega
 |succ n ih=>
 intro u hun w0 wv M0 M Rs v f i us R hS hg hl W hif X hb
 obtain⟨hi1,hq,H⟩:=W.step
 have hi0:=W.1
 have hln:len u.ps=(u.ps.length:Int):=rfl
 have hule:=W.L4 hif
 have hfu:AP (u::us)=u.flat++AP us:=rfl
 rw[hfu,AQ]at hule
 have hR0:=A9 R
 have hus0:=A9 (AP us)
 have hpg:=JT u.ps
 have hul:len u.flat=1+len (AP u.ps):=by rw[Tf.FJ,AM];omega
 have hqm:(at' f i).many=len u.ps:=by rw[hq]
 have A:(at' f i).op=u.t.op:=by rw[hq]
 have hqs:(at' f i).s=u.t.s:=by rw[hq]
 have hsq:(at' f i).small:=X _ (R7 hi0 hi1)
 have C:D2 u=(I2 (at' f i)&&FC u.t.op u.ps&&QO u.t u.ps):=by rw[hq,gL]
 refine AJ (Hr:=Rs) AG func238 U ntmps238 [(0,A7 v f)] [] [.sl 0 v,I i] U hS (AH hl A4) (λ B hB=>AK U call262 U U (λ _ w M b=>Ah3 (at' f i) w M b.st.sat (hg.low b.st.low) hsq) U ?_) U
 refine A1 U (λ O=>?_) (λ O=>?_)<;>simp only[zb]at O
 ·refine A2 hB U U U λ w M' b=>⟨(),M',?_,trivial,b.le,b.B9 [] U,A4⟩
  have e:D2 u=false:=by
   rw[C]
   rcases O with(h|h)|h
   · omega
   · rw[h];rfl
   · omega
  rw[e];rfl
 have hpl:=O.1.2
 rw[hpl,Bool.true_and]at C
 refine BB 6 U zeroValue52 U λ b6=>B5 (σ:=Int×Nat) (λ(j,k)=>⟨[(0,A7 v f)],[(6,.box b6 (LD (at' f i)) 52)],[Z 0 (.sl 0 v),Z 1 (I j),Z 6 (.bx 6 b6 0),Z 7 (I i),Z 46 (I (at' f i).many),Z 47 (I k)]⟩) (λ(j,k)=>DE f j (u.ps.drop k++us) R/\k<=u.ps.length/\j<=len f/\FC u.t.op u.ps=FC u.t.op (u.ps.drop k)) (λ(j,k)=>u.ps.length-k) (i+1,0) U U ⟨H,Nat.zero_le _,Aa,rfl⟩ ?_
 rintro⟨j,k⟩ ⟨hj,hk,hjl,D⟩
 have hj0:=hj.1
 refine A1 U (λ hb2=>?_) (λ hb2=>?_)<;>simp only[zb]at hb2
 ·have hk2:k<u.ps.length:=by omega
  have hdc:=drop_cons hk2
  rw[hdc]at hj D
  obtain⟨x,hx⟩: ∃x,x=at' u.ps (k:Int):=⟨_,rfl⟩
  rw[<-hx]at hj D hdc
  have P:DE f j (x::(u.ps.drop (k+1)++us)) R:=hj
  obtain⟨hj1,hjq,_⟩:=P.step
  have Q:(at' f j).name=x.t.name:=by rw[hjq]
  have hjo:(at' f j).op=x.t.op:=by rw[hjq]
  have hsx:(at' f j).small:=X _ (R7 hj0 hj1)
  refine G3 U BM Ac <|G4 U ?_
  refine A1 U (λ J=>?_) (λ J=>?_)<;>simp only[zb]at J
  ·refine A2 hB U U U λ w M' b=>⟨(),M',?_,trivial,b.le,b.st.drop _ (List.sublist_append_right [_] _),A4⟩
   have e:D2 u=false:=by
    rw[C,D,Ah6 (by rw[hjo,A]at J;exact J.resolve_left Aa)];rfl
   rw[e];rfl
  have h1:=J.2
  rw[hjo,A]at h1
  refine AK U call263 U U (λ _ w M b=>r7 (at' f j).name w (hg.low b.st.low) (by have:=hsx.name;omega)) U ?_
  refine A1 U (λ E=>?_) (λ E=>?_)<;>simp only[zb]at E
  ·refine A2 hB U U U λ w M' b=>⟨(),M',?_,trivial,b.le,b.st.drop _ (List.sublist_append_right [_] _),A4⟩
   have e:D2 u=false:=by
    rw[C,D,Ah7 (by rw[Q,A]at E;exact E)];rfl
   rw[e];rfl
  rw[Q,A]at E
  have hxm:x∈u.ps:=by rw[hx];exact R7 Aa Aa
  have hxl:=nS hxm
  have hxp:=x.ER
  obtain⟨z,hz⟩: ∃z,z=if D2 x=true then j+len x.flat else 0:=⟨_,rfl⟩
  have hz0:0<=z:=by rw[hz];split<;>omega
  refine AR [] (λ _:Unit=>.tu [I z,.v (.bool (D2 x))]) [] (λ _=>[]) (Fg:=λ _=>[]) (pu:=λ _=>True) U U call238 U U (hu:=λ _=>rfl) (hH:=λ _=>rfl) (λ w M hS hF=>by rw[hz];exact ih x (by unfold len at*;omega) v f j (u.ps.drop (k+1)++us) R hS hg (hF.get (k:=0) U) P Aa X hb) λ _ _=>?_
  have K:=P.skip
  have hjs2:=P.L4 Aa
  have hfx:AP (x::(u.ps.drop (k+1)++us))=x.flat++AP (u.ps.drop (k+1)++us):=rfl
  rw[hfx,AQ]at hjs2
  have hfn:=A9 (AP (u.ps.drop (k+1)++us))
  refine A1 U (λ L=>?_) (λ L=>?_)<;>simp only[zb]at L
  ·refine A2 hB U U U λ w M' b=>⟨(),M',?_,trivial,b.le,b.st.drop _ (List.sublist_append_right [_] _),A4⟩
   have e:D2 u=false:=by
    cases F:D2 x with
    |false=>rw[C,D,Ah8 F];rfl
    |true=>
     rw[F,if_pos U]at hz
     rcases L with h|⟨⟨h2,h3⟩,h4⟩
     · rw[F]at h;cases h
     · have hk3:k+1<u.ps.length:=by omega
       have hd2:=drop_cons hk3
       rw[hd2]at K
       have N:=K.step
       rw[<-hz]at N
       have hle:(at' u.ps ((k+1:Nat):Int)).t.name<=x.t.name:=by
        rcases h4 with h|h
        · omega
        · rw[N.2.1,Q]at h;exact sA h
       rw[C,D,hd2,Ah9 (by rw[<-A];exact h2) hle];rfl
   rw[e];rfl
  ·have F:D2 x=true:=L.1
   rw[F,if_pos U]at hz
   refine AX (z,k+1) U U ⟨by rw[hz];exact K,hk2,Aa,?_⟩ (by show u.ps.length-(k+1)<u.ps.length-k;omega)
   rw[D]
   refine Ai0 h1 (by rcases Decidable.em (u.t.op=2)with h|h;exact .inl h;exact .inr (Decidable.byContradiction λ q=>(E.1.resolve_left h)|>λ r=>q r)) E.2 F ?_
   cases hd:u.ps.drop (k+1)with
   |nil=>rfl
   |cons y l=>
    have hk3:k+1<u.ps.length:=by
     rcases Nat.lt_or_ge (k+1) u.ps.length with h|h
     · exact h
     · rw[List.drop_of_length_le h]at hd;cases hd
    rw[hd]at K
    have N:=K.step
    rw[<-hz]at N
    have hy:y=at' u.ps ((k+1:Nat):Int):=by rw[drop_cons hk3]at hd;exact(List.cons.inj hd).1.symm
    unfold QP
    rcases L.2 with h|⟨_,h4,h5⟩
    · rcases h with h|h
      · rw[A]at h;simp[h]
      · omega
    · rw[N.2.1,Q]at h4 h5
      have:=sB h4 h5
      simp only[Bool.not_eq_true',Bool.and_eq_false_iff,decide_eq_false_iff_not]
      exact .inr this
 ·have hke:k=u.ps.length:=by omega
  subst hke
  rw[List.drop_length]at hj D
  have hj3:DE f j us R:=hj
  have hjl2:=hj3.L4 hjl
  have hje:j=i+len u.flat:=by omega
  have hkt:FC u.t.op u.ps=true:=by rw[D];rfl
  rw[hkt,Bool.true_and]at C
  refine A1 U (λ G=>?_) (λ G=>?_)<;>simp only[zb]at G
  ·rw[A]at G
   have S:=Ah5 hpl (by rw[A];exact G)
   obtain⟨x,hx⟩: ∃x,u.ps=[x]:=by
    match hps:u.ps,hqm with
    |[],h=>rw[h]at S;cases S
    |[x],_=>exact⟨x,rfl⟩
    |_::_::l,h=>rw[h]at S;simp only[AM]at S;have:=A9 l;omega
   have hul2:len u.flat=1+len x.flat:=by rw[hul,hx];show 1+len (x.flat++AP [])=_;simp[AP]
   rw[hx]at H
   have hat2:DE f (i+1) (x::us) R:=H
   have V:=hat2.Ah4
   rw[show i+1+len x.flat=j by omega]at V
   have hxl:=A9 x.flat
   have hrl:=VP (at' f i).s
   refine AR [] (λ u:Value=>.tu [.sl 9 u,.v (.bool (HH (at' f i).s).2)]) [9] (λ _=>[]) (Fg:=λ u=>[(1,kn u 3 (HH (at' f i).s).1 Sp.cells)]) U U call264 U U (λ w M hS hF=>s6 (at' f i).s hS hg (by have:=hsq.s;omega)) λ u9 _=>FO (gd:=none) 8 (i+1) j U U U ⟨.i64,_,rfl,AF U⟩ ⟨.i64,_,rfl,AF U⟩ underlying25 sizeOf52 Aa U λ v8=>?_
   rw[V]
   refine AR [] (λ _:Unit=>.tu [I (BK (HH (at' f i).s).1 x).1,.v (.bool (BK (HH (at' f i).s).1 x).2)]) [] (λ _=>[]) (Fg:=λ _=>[]) (pu:=λ _=>True) U U call134 U U (λ w M hS hF=>ZA (HH (at' f i).s).1 v8 u9 x hS (hF.get (k:=8) U) (hF.get (k:=9) U) Aa (by show len (CB (at' f i).s).1<=_;omega)) λ _ _=>?_
   have hwl:D2 u=(BK (HH (at' f i).s).1 x).2:=by
    rw[C,hx,hqs]
    show(if u.t.op=7\/u.t.op=8 then(BK (HH u.t.s).1 x).2 else true)=_
    rw[if_pos G]
   refine A1 U (λ T=>?_) (λ T=>?_)<;>simp only[zb]at T
   ·refine A2 hB U U U λ w M' b=>⟨(),M',?_,trivial,b.le,b.st.drop _ (List.sublist_append_right [_] _),A4⟩
    rw[hwl,T];rfl
   ·refine A2 hB U U U λ w M' b=>⟨(),M',?_,trivial,b.le,b.st.drop _ (List.sublist_append_right [_] _),A4⟩
    rw[hwl,T,if_pos U,<-hje];rfl
  ·refine A2 hB U U U λ w M' b=>⟨(),M',?_,trivial,b.le,b.st.drop _ (List.sublist_append_right [_] _),A4⟩
   have e:D2 u=true:=by
    rw[C]
    rw[A]at G
    unfold QO
    split
    · rw[if_neg Aa]
    · rw[if_neg Aa]
   rw[e,if_pos U,<-hje];rfl
theorem Ai2{w:World}{M:Mem}(v:Value)(x:Tf)(l:Sat w M)(hg:Gl w)(hl:Sl M 11 x.flat.length v (x.flat.flatMap Tm.cells))(y:len x.flat<=16777217)(b:QN x.flat):
   Calls prog 205 [v].toArray w λ e w'=>e= .returned (.bool (QQ x))/\Ext w w':=by
 have j:=x.ER
 have i:DE x.flat 0 [x] []:=⟨Aa,by show x.flat=(x.flat++AP [])++[];simp[AP]⟩
 have n:=x.SE
 refine AJ (Hr:=[]) AG func205 U ntmps205 [(0,A7 v x.flat)] [] [.sl 0 v] U (Aj l) (AH ⟨hl,Tm.AT,trivial⟩ A4) (λ B q=>AR [] (λ _:Unit=>.tu [I (if D2 x=true then 0+len x.flat else 0),.v (.bool (D2 x))]) [] (λ _=>[]) (Fg:=λ _=>[]) (pu:=λ _=>True) U U call238 U U (λ w M hS hF=>Ai1 _ x (Nat.le_refl _) v x.flat 0 [] [] hS hg (hF.get (k:=0) U) i Aa b Aa) λ _ _=>A2 q U U U λ w M s=>⟨?_,s.st.low⟩) U
 suffices e:QQ x=(D2 x&&(if D2 x=true then 0+len x.flat else 0)==len x.flat&&(at' x.flat 0).name==[]&&(at' x.flat 0).op != 9) by rw[e];rfl
 unfold QQ
 rw[n]
 cases h:D2 x with
 |false=>rfl
 |true=>
  rw[if_pos U,Int.zero_add]
  simp only[Bool.true_and,beq_self_eq_true]
  congr 1
  ·rw[Bool.eq_iff_iff,beq_iff_eq];simp
  ·rw[Bool.eq_iff_iff,bne_iff_ne];simp
end Go.Proofs.YtnoegalemkbbbaaGreatDoor
namespace Go.Eng
open Go.RowKit
def At(s:A0)(i:Int)(u:A0):Prop:=0<=i/\i<=len s/\A5 s i=u
theorem At.add {s:A0}{i:Int}{u r:A0}(h:At s i (u++r)):At s (i+len u) r:=by
 obtain⟨h0,h1,b⟩:=h
 have hl:=EH s i h0 h1
 rw[b,AQ]at hl
 have e:=A9 u;have j:=A9 r
 refine⟨Aa,Aa,?_⟩
 rw[<-KG s i (len u) h0 e,b]
 unfold A5 len;simp
theorem At.one {s:A0}{i:Int}{c:UInt8}{r:A0}(h:At s i (c::r)):At s (i+1) r:=At.add (u:=[c]) h
theorem At.lt {s:A0}{i:Int}{c:UInt8}{r:A0}(h:At s i (c::r)):i<len s:=by
 have hl:=EH s i h.1 h.2.1
 rw[h.2.2,AM]at hl
 have:=A9 r;omega
theorem At.byte {s:A0}{i:Int}{c:UInt8}{r:A0}(h:At s i (c::r)):A3 s i=(c.toNat:Int):=by
 obtain⟨b,h1,e⟩:=KD s i h.1 h.lt
 rw[h.2.2]at h1
 rw[e,(List.cons.inj h1).1]
def gM(r:A0):Prop:= ∀c r',r=c::r'->MD c=false
theorem At.blank {s:A0}{i:Int}{b r:A0}(h:At s i (b++r))(n: ∀c∈b,MD c=true)(e:gM r):E9 s i=i+len b:=by
 unfold E9
 rw[h.2.2]
 have:(b++r).takeWhile MD=b:=by
  induction b with
  |nil=>
   cases r with
   |nil=>rfl
   |cons c r=>rw[List.nil_append,List.takeWhile_cons,e c r U];rfl
  |cons a b q=>
   rw[List.cons_append,List.takeWhile_cons,n a List.mem_cons_self]
   show a::_=_
   have key: ∀(b r:A0),(∀c∈b,MD c=true)->gM r->(b++r).takeWhile MD=b:=by
    intro b
    induction b with
    |nil=>intro r _ e;cases r with|nil=>rfl|cons c r=>rw[List.nil_append,List.takeWhile_cons,e c r rfl];rfl
    |cons a b k=>intro r j e;rw[List.cons_append,List.takeWhile_cons,j a List.mem_cons_self,if_pos rfl,k r (λ c l=>j c (List.mem_cons_of_mem _ l)) e]
   rw[key b r (λ c l=>n c (List.mem_cons_of_mem _ l)) e]
 rw[this]
theorem At.BK6 {s:A0}{i:Int}{r:A0}(h:At s i r)(e:gM r):E9 s i=i:=by
 have:=At.blank (b:=[]) h (λ c j=>by cases j) e
 rw[len_nil]at this;omega
def VQ(m:A0)(i:Int):Tk:=⟨1,m,BY,i⟩
def VR(m:A0)(i:Int):Tk:=⟨2,m,BY,i⟩
theorem Ai3{c:UInt8}(b:c∈([40,41,91,93,123,125,58,44,124]:A0))(u:A0):C5 (c::u)=(⟨1,[c],BY,0⟩,1,0):=by
 have key: ∀c∈([40,41,91,93,123,125,58,44,124]:A0),(c.toNat:Int)≠46/\EP (c::u)=[c]:=by
  intro c b
  simp only[List.mem_cons,List.not_mem_nil,or_false]at b
  rcases b with rfl|rfl|rfl|rfl|rfl|rfl|rfl|rfl|rfl<;>exact⟨Ab,rfl⟩
 obtain⟨h1,e⟩:=key c b
 unfold C5
 rw[G7,if_neg (λ h=>h1 h.1),if_neg (λ h=>h1 h.1),e,if_pos (by simp)]
 rfl
theorem sC{w u:A0}(hw:w≠[])(h0: ∀j:Int,0<=j->j<len w->CP (A3 w j) (j==0)=true)(hu: ∀c r,u=c::r->CP (c.toNat:Int) false=false):BE (w++u)=w:=by
 have hl:=HS hw
 have i:=A9 u
 have e:D4 (w++u) 0=len w:=by
  refine SO (n:=len w) (by rw[AQ];omega) (λ j h1 b=>by rw[IV h1 b];exact h0 j h1 b) (λ h=>?_) 0 (Int.le_refl _) Aa
  rw[oX (Int.le_refl _),Int.sub_self]
  cases u with
  |nil=>rw[AQ,len_nil]at h;omega
  |cons c r=>rw[G7];rw[show(len w==0)=false from by simpa using(by omega:len w≠0)];exact hu c r U
 unfold BE
 rw[e,VE]
theorem Ai4{c:UInt8}{w u:A0}(h0: ∀j:Int,0<=j->j<len (c::w)->CP (A3 (c::w) j) (j==0)=true)(hu: ∀c r,u=c::r->CP (c.toNat:Int) false=false):C5 (c::w++u)=(⟨2,c::w,BY,0⟩,len (c::w),0):=by
 have hw:=sC (u:=u) (List.cons_ne_nil c w) h0 hu
 have hl:F3 (c.toNat:Int)=true:=by
  have:=h0 0 (Int.le_refl _) (by rw[AM];have:=A9 w;omega)
  rw[G7]at this
  unfold CP at this;simpa using this
 have i:=fC hl
 have hm:EP (c::(w++u))=[]:=QI i
 have b: ¬(c.toNat:Int)=46:=by
  intro e
  have:c=46:=UInt8.toNat_inj.1 (by rw[show(46:UInt8).toNat=46 from rfl];omega)
  subst this;exact absurd i Ab
 unfold C5
 rw[List.cons_append,G7,if_neg (λ h=>b h.1),if_neg (λ h=>b h.1),hm,if_neg (by simp)]
 rw[<-List.cons_append,hw,if_pos (by simp)]
theorem Lx.at {s:A0}{i:Int}{u r:A0}{t:Tk}{l:List Tk}(h:At s i (u++r))(hu:u≠[])(b:C5 (u++r)=(t,len u,0))(hl:Lx s (E9 s (i+len u)) l):Lx s i ({ t with pos:=i}::l):=by
 have h1:=(At.add h).2.1
 have j:=HS hu
 have e:=h.1
 refine .step (n:=len u) e Aa ?_ hl
 rw[h.2.2];exact b
def TA(l:List Tk)(j:Int)(u:List Tk):Prop:=0<=j/\A5 l j=u
theorem TA.add {l:List Tk}{j:Int}{u r:List Tk}(h:TA l j (u++r)):TA l (j+len u) r:=by
 obtain⟨h0,b⟩:=h
 have e:=A9 u
 refine⟨Aa,?_⟩
 rw[<-KG l j (len u) h0 e,b]
 unfold A5 len;simp
theorem TA.at {l:List Tk}{j:Int}{t:Tk}{r:List Tk}(h:TA l j (t::r)):at' l j=t:=by
 obtain⟨h0,h1⟩:=h
 unfold at'
 have b:(l.drop j.toNat)[0]? =some t:=by
  have:A5 l j=l.drop j.toNat:=rfl
  rw[<-this,h1];rfl
 rw[List.getElem?_drop,Nat.add_zero]at b
 rw[List.getD_eq_getElem?_getD,b];rfl
theorem TA.CM {l:List Tk}{j:Int}{t:Tk}{r:List Tk}(h:TA l j (t::r))(m:A0):CM l j m=(t.kind==1&&t.s==m):=by unfold Eng.CM;rw[h.at]
end Go.Eng
namespace Go.Proofs.YtnoegalemkbbbaaGreatDoor
open Go.Proofs.Tryz
open Go.Eng
end Go.Proofs.YtnoegalemkbbbaaGreatDoor
namespace Go.Eng
def Sm{α:Type}(b:Bool)(o:Int)(r r':PR α):Prop:=
 (∀x j,r= .ok x j->r'= .ok x (j+o)\/(b=true/\ ∃p,r'= .er 3 p))/\(b=false-> ∀p,r= .er 3 p-> ∃p',r'= .er 3 p')
theorem Sm.ok {α:Type}{b:Bool}{o:Int}{x:α}{j i:Int}(h:i=j+o):Sm b o (.ok x j) (.ok x i):=
 ⟨λ y k e=>(by cases e;subst h;exact .inl rfl),λ _ p e=>(by cases e)⟩
theorem Sm.fail {α:Type}{b:Bool}{o:Int}{l:List Tk}{i:Int}{r':PR α}:Sm b o (JS l i 1) r':=
 ⟨λ y k e=>(by cases e),λ _ p e=>(by cases e)⟩
theorem Sm.bind {α β:Type}{b:Bool}{o:Int}{r r':PR α}{k k':α->Int->PR β}(h:Sm b o r r')(q: ∀x j,r= .ok x j->Sm b o (k x j) (k' x (j+o))):Sm b o (r.bind k) (r'.bind k'):=by
 cases r with
 |er c p=>
  refine⟨λ y m e=>(by cases e),λ n p2 e=>?_⟩
  have e2:PR.er (α:=α) c p= .er 3 p2:=by cases e;rfl
  obtain⟨s,i⟩:=h.2 n p2 e2
  exact⟨s,by rw[i];rfl⟩
 |ok x j=>
  rcases h.1 x j rfl with i|⟨n,p,i⟩
  ·rw[i];exact q x j U
  ·rw[i];exact⟨λ y m e=>.inr ⟨n,p,rfl⟩,λ l=>by rw[n]at l;cases l⟩
structure Vw (l l':List Tk) (o:Int):Prop where
 eq: ∀i,0<=i->i<len l->(at' l i).kind≠6->(at' l' (i+o)).kind=(at' l i).kind/\(at' l' (i+o)).s=(at' l i).s/\(at' l' (i+o)).c=(at' l i).c
 en: ∀i,0<=i->i<len l->(at' l i).kind=6->(at' l' (i+o)).kind=6\/((at' l' (i+o)).kind=1/\(at' l' (i+o)).s=[41])
 few:l.length<=l'.length
section
variable {l l':List Tk} {o:Int} (hl:SG l) (v:Vw l l' o) {b:Bool} {i:Int} (h0:0<=i) (h1:i<len l)
include v h0 h1
theorem Vw.CM {m:A0}(hm:m≠[41]):CM l' (i+o) m=CM l i m:=by
 unfold Go.Eng.CM
 by_cases h:(at' l i).kind=6
 ·have j:((at' l i).kind==1)=false:=by rw[h];rfl
  rw[j,Bool.false_and]
  rcases v.en i h0 h1 h with b|⟨b,k⟩
  ·have:((at' l' (i+o)).kind==1)=false:=by rw[b];rfl
   rw[this,Bool.false_and]
  ·have:((at' l' (i+o)).s==m)=false:=by rw[k,beq_eq_false_iff_ne];exact λ e=>hm e.symm
   rw[this,Bool.and_false]
 ·obtain⟨j,b,_⟩:=v.eq i h0 h1 h
  rw[j,b]
theorem Vw.VS {m:A0}(hm:Go.Eng.CM l i m=true):Go.Eng.CM l' (i+o) m=true:=by
 have h:(at' l i).kind≠6:=λ e=>by unfold Go.Eng.CM at hm;rw[e]at hm;simp at hm
 obtain⟨b,j,_⟩:=v.eq i h0 h1 h
 unfold Go.Eng.CM at hm ⊢
 rw[b,j];exact hm
theorem Vw.kind {k:Int}(j:k≠1/\k≠6):((at' l' (i+o)).kind=k)=((at' l i).kind=k):=by
 by_cases h:(at' l i).kind=6
 ·rw[h]
  rcases v.en i h0 h1 h with b|⟨b,_⟩
  ·rw[b]
  ·rw[b];exact propext ⟨λ e=>(j.1 e.symm).elim,λ e=>(j.2 e.symm).elim⟩
 ·rw[(v.eq i h0 h1 h).1]
theorem Vw.tok {k:Int}(b:k≠6)(h:(at' l i).kind=k):(at' l' (i+o)).kind=k/\(at' l' (i+o)).s=(at' l i).s/\(at' l' (i+o)).c=(at' l i).c:=by
 have:=v.eq i h0 h1 (by rw[h];exact b)
 rw[h]at this;exact this
theorem Sm.QS {m:A0}:Sm b o (HC l i m) (HC l' (i+o) m):=by
 unfold HC
 by_cases h:Go.Eng.CM l i m=true
 ·rw[if_pos h,if_pos (v.VS h0 h1 h)];exact .ok Aa
 ·rw[if_neg h];exact .fail
theorem Sm.op {m:A0}{d k:Int}(hd:b=false->d=k):Sm b o (L1 l d i m) (L1 l' k (i+o) m):=by
 unfold L1
 by_cases h:Go.Eng.CM l i m=true
 ·have q:=v.VS h0 h1 h
  rw[h,q,Bool.true_and,Bool.true_and]
  by_cases h6:64<=d
  ·rw[if_pos (decide_eq_true h6)]
   refine⟨λ x j e=>(by cases e),λ n p e=>?_⟩
   rw[<-hd n,if_pos (decide_eq_true h6)];exact⟨_,rfl⟩
  ·rw[if_neg (by simpa using h6)]
   by_cases h7:64<=k
   ·rw[if_pos (decide_eq_true h7)]
    cases b with
    |true=>exact⟨λ x j e=>.inr ⟨rfl,_,rfl⟩,λ n=>(by cases n)⟩
    |false=>exact(h6 (by rw[hd U];exact h7)).elim
   ·rw[if_neg (by simpa using h7)];exact Sm.QS v h0 h1
 ·have s:Go.Eng.CM l i m=false:=by simpa using h
  rw[s,Bool.false_and,if_neg (by simp)]
  unfold HC;rw[if_neg h];exact .fail
theorem Sm.whole:Sm b o (NG l i) (NG l' (i+o)):=by
 by_cases h:(at' l i).kind=5
 ·obtain⟨k,_,j⟩:=v.tok h0 h1 Ab h
  have e:V2 (at' l' (i+o))=V2 (at' l i):=by unfold V2;rw[j]
  unfold NG
  rw[k,h,j,e]
  split
  ·exact .fail
  ·split
   ·exact .fail
   ·exact .ok Aa
 ·unfold NG;rw[if_pos (.inl h)];exact .fail
include hl
end
section
variable {l l':List Tk} {o:Int} (hl:SG l) (v:Vw l l' o) (b:Bool) (q:A0->A0)
end
abbrev sD:List A0:=[[41],[93],[125],[44]]
structure Vy (l l':List Tk) (o:Int):Prop where
 eq: ∀i,0<=i->i<len l->(at' l i).kind≠6->(at' l' (i+o)).kind=(at' l i).kind/\(at' l' (i+o)).s=(at' l i).s/\(at' l' (i+o)).c=(at' l i).c
 en: ∀i,0<=i->i<len l->(at' l i).kind=6->(at' l' (i+o)).kind=6\/((at' l' (i+o)).kind=1/\(at' l' (i+o)).s∈sD)
 few:l.length<=l'.length
section
variable {l l':List Tk} {o:Int} (hl:SG l) (v:Vy l l' o) {b:Bool} {i:Int} (h0:0<=i) (h1:i<len l)
include v h0 h1
theorem Vy.CM {m:A0}(hm:m ∉ sD):CM l' (i+o) m=CM l i m:=by
 unfold Go.Eng.CM
 by_cases h:(at' l i).kind=6
 ·have j:((at' l i).kind==1)=false:=by rw[h];rfl
  rw[j,Bool.false_and]
  rcases v.en i h0 h1 h with b|⟨b,k⟩
  ·have:((at' l' (i+o)).kind==1)=false:=by rw[b];rfl
   rw[this,Bool.false_and]
  ·have:((at' l' (i+o)).s==m)=false:=by rw[beq_eq_false_iff_ne];exact λ e=>hm (e▸k)
   rw[this,Bool.and_false]
 ·obtain⟨j,b,_⟩:=v.eq i h0 h1 h
  rw[j,b]
theorem Vy.VS {m:A0}(hm:Go.Eng.CM l i m=true):Go.Eng.CM l' (i+o) m=true:=by
 have h:(at' l i).kind≠6:=λ e=>by unfold Go.Eng.CM at hm;rw[e]at hm;simp at hm
 obtain⟨b,j,_⟩:=v.eq i h0 h1 h
 unfold Go.Eng.CM at hm ⊢
 rw[b,j];exact hm
theorem Vy.kind {k:Int}(j:k≠1/\k≠6):((at' l' (i+o)).kind=k)=((at' l i).kind=k):=by
 by_cases h:(at' l i).kind=6
 ·rw[h]
  rcases v.en i h0 h1 h with b|⟨b,_⟩
  ·rw[b]
  ·rw[b];exact propext ⟨λ e=>(j.1 e.symm).elim,λ e=>(j.2 e.symm).elim⟩
 ·rw[(v.eq i h0 h1 h).1]
theorem Vy.tok {k:Int}(b:k≠6)(h:(at' l i).kind=k):(at' l' (i+o)).kind=k/\(at' l' (i+o)).s=(at' l i).s/\(at' l' (i+o)).c=(at' l i).c:=by
 have:=v.eq i h0 h1 (by rw[h];exact b)
 rw[h]at this;exact this
theorem Sy.QS {m:A0}:Sm b o (HC l i m) (HC l' (i+o) m):=by
 unfold HC
 by_cases h:Go.Eng.CM l i m=true
 ·rw[if_pos h,if_pos (v.VS h0 h1 h)];exact .ok Aa
 ·rw[if_neg h];exact .fail
theorem Sy.op {m:A0}{d k:Int}(hd:b=false->d=k):Sm b o (L1 l d i m) (L1 l' k (i+o) m):=by
 unfold L1
 by_cases h:Go.Eng.CM l i m=true
 ·have q:=v.VS h0 h1 h
  rw[h,q,Bool.true_and,Bool.true_and]
  by_cases h6:64<=d
  ·rw[if_pos (decide_eq_true h6)]
   refine⟨λ x j e=>(by cases e),λ n p e=>?_⟩
   rw[<-hd n,if_pos (decide_eq_true h6)];exact⟨_,rfl⟩
  ·rw[if_neg (by simpa using h6)]
   by_cases h7:64<=k
   ·rw[if_pos (decide_eq_true h7)]
    cases b with
    |true=>exact⟨λ x j e=>.inr ⟨rfl,_,rfl⟩,λ n=>(by cases n)⟩
    |false=>exact(h6 (by rw[hd U];exact h7)).elim
   ·rw[if_neg (by simpa using h7)];exact Sy.QS v h0 h1
 ·have s:Go.Eng.CM l i m=false:=by simpa using h
  rw[s,Bool.false_and,if_neg (by simp)]
  unfold HC;rw[if_neg h];exact .fail
end
section
variable {l l':List Tk} {o:Int} (hl:SG l) (v:Vy l l' o) {b:Bool}
include hl v
omit hl in
theorem Sy.kind {m i:Int}(h0:0<=i)(h1:i<len l):Sm b o (QB l m i) (QB l' m (i+o)):=by
 unfold QB
 by_cases h:(at' l i).kind=2
 ·obtain⟨e,j,_⟩:=v.tok h0 h1 Ab h
  rw[e,j,h]
  split
  ·exact .ok Aa
  ·exact .fail
 ·rw[if_neg (λ q=>h q.1)];exact .fail
end
open Go.RowKit
section j7
variable {a b:A0}
theorem sE(v:A0): ∀u:A0,E9 (u++v) 0=if E9 u 0<len u then E9 u 0 else len u+E9 v 0
 |[]=>by rw[AW1,len_nil];simp
 |x::u=>by
  rw[List.cons_append]
  have hl:=A9 u
  cases hx:O8 (x.toNat:Int)with
  |true=>
   have:=sE v u
   rw[pS hx,pS hx,this,AM]
   by_cases h:E9 u 0<len u
   ·rw[if_pos h,if_pos Aa]
   ·rw[if_neg h,if_neg Aa];omega
  |false=>rw[pT hx,pT hx,if_pos (by rw[AM];omega)]
def Ai5(k:Int)(t:Tk):Tk:= { t with pos:=k+t.pos}
end j7
section bH
variable {p s q:A0}
abbrev QT(p s q:A0):A0:=p++(s++q)
theorem Ai6:len (QT p s q)=len p+len s+len q:=by rw[AQ,AQ];omega
theorem gN{i:Int}(h0:0<=i)(h1:i<=len s):A5 (QT p s q) (len p+i)=A5 s i++q:=by
 rw[<-KG _ (len p) i (A9 p) h0,VD,AT9 h0 h1]
abbrev VT(p s q:A0):Int:=E9 (QT p s q) (len p+len s)
theorem Ai7:VT p s q=len p+len s+E9 q 0:=by
 have hp:=A9 p;have hs:=A9 s
 unfold VT
 rw[fM Aa,gN hs (Int.le_refl _),show A5 s (len s)=[]from Q2 s _ (Int.le_refl _),List.nil_append]
theorem Ai8{k:Int}(h0:0<=k)(h1:k<=len s):E9 (QT p s q) (len p+k)=if E9 s k<len s then len p+E9 s k else VT p s q:=by
 have hp:=A9 p
 have hl:=EH s k h0 h1
 rw[Ai7,fM Aa,gN h0 h1,sE,fM (s:=s) h0,hl]
 by_cases h:E9 (A5 s k) 0<len s-k
 ·rw[if_pos h,if_pos Aa];omega
 ·rw[if_neg h,if_neg Aa];omega
theorem Ai9(b:q=[]\/KJ (A3 q 0)=true){i n:Int}{t:Tk}(h0:0<=i)(h1:i<len s)(h:C5 (A5 s i)=(t,n,0)):C5 (A5 (QT p s q) (len p+i))=(t,n,0):=by
 obtain⟨u,v,e,j,hu,_,_,k⟩:=AW2 h0 h1 h
 rw[gN h0 Aa,e,List.append_assoc,<-j]
 refine fE hu k ?_
 cases v with
 |nil=>
  rcases b with rfl|b
  ·exact .inl U
  ·cases q with
   |nil=>exact .inl U
   |cons c r=>exact .inr (.inl ⟨by simp,b⟩)
 |cons c r=>exact .inr (.inr ⟨by simp,by simp,rfl⟩)
theorem Lx.bH (b:q=[]\/KJ (A3 q 0)=true){m:List Tk}(hm:Lx (QT p s q) (VT p s q) m){i:Int}{l:List Tk}(h:Lx s i l):Lx (QT p s q) (if i<len s then len p+i else VT p s q) (l.map (Ai5 (len p))++m):=by
 have hp:=A9 p
 induction h with
 |done h0 h1=>rw[if_neg h1];exact hm
 | @step i n t l h0 h1 h _ ih=>
  have e:=YY h0 h1 h
  rw[if_pos h1]
  refine Lx.step (t:=t) (n:=n) Aa (by rw[Ai6];have:=A9 q;omega) (Ai9 b h0 h1 h) ?_
  rw[show len p+i+n=len p+(i+n)from by omega,Ai8 Aa e.2.1];exact ih
end bH
def Er{α:Type}(r:PR α):Prop:= ∀c p,r= .er c p->c≠0
theorem Er.ok {α:Type}{x:α}{j:Int}:Er (.ok x j):=λ c p e=>by cases e
theorem Er.fail {α:Type}{l:List Tk}{i e:Int}(he:e≠0):Er (JS l i e:PR α):=λ c p h=>by cases h;exact he
theorem Er.bind {α β:Type}{r:PR α}{k:α->Int->PR β}(h:Er r)(b: ∀x j,Er (k x j)):Er (r.bind k):=by
 cases r with
 |er c p=>exact λ i l e=>by cases e;exact h c p rfl
 |ok x j=>exact b x j
theorem Er.QS {l:List Tk}{i:Int}{m:A0}:Er (HC l i m):=by unfold HC;split;exact .ok;exact .fail Ab
theorem Er.op {l:List Tk}{d i:Int}{m:A0}:Er (L1 l d i m):=by unfold L1;split;exact .fail Ab;exact .QS
theorem Er.whole {l:List Tk}{i:Int}:Er (NG l i):=by unfold NG;split;exact .fail Ab;split;exact .fail Ab;exact .ok
theorem Er.lit {l:List Tk}{i:Int}:Er (dY l i):=by
 unfold dY;split
 ·exact .ok
 ·split
  ·exact .ok
  ·split
   ·exact .ok
   ·exact .fail Ab
theorem Aj0{s:A0}{t:Tk}{n:Int}(h:C5 s=(t,n,0)):t.kind≠6:=by
 unfold C5 at h
 repeat' split at h
 all_goals simp only[Prod.mk.injEq]at h
 all_goals obtain⟨h1,b,e⟩:=h
 all_goals subst h1
 all_goals first|(simp;done)|(simp[dW];done)
theorem Lx.kind {s:A0}{i:Int}{l:List Tk}(h:Lx s i l): ∀t∈l,t.kind≠6:=by
 induction h with
 |done=>intro t b;cases b
 |step _ _ b _ e=>
  intro t hm
  rcases List.mem_cons.1 hm with rfl|hm
  ·have j:=Aj0 b;exact j
  ·exact e t hm
theorem sF{α:Type}[Inhabited α](A B:List α){i:Int}(h0:0<=i):at' (A++B) (i+len A)=at' B i:=by
 have b:(i+len A).toNat=i.toNat+A.length:=by unfold len;omega
 unfold at'
 rw[List.getD_eq_getElem?_getD,List.getD_eq_getElem?_getD,b,List.getElem?_append_right Aa,Nat.add_sub_cancel]
theorem Er.kind {l:List Tk}{m i:Int}:Er (QB l m i):=by unfold QB;split;exact .ok;exact .fail Ab
theorem Er.kinds {l:List Tk}: ∀(f:Nat) (m i:Int),Er (YA f l m i)
 |0,_,_=>.fail Ab
 |f+1,m,i=>by
  unfold YA;split
  ·exact Er.kind.bind λ _ _=>Er.kinds f _ _
  ·exact .ok
section
variable {rt:Tf->Bool} {L B:List Tk} {n m:Int} {e:Tk} {p0 p1 p2 p3 p4 p5 p6 p7:Int}
end
section
variable {rt:Tf->Bool}
theorem TA.part (A l r:List Tk):TA (A++(l++r)) (len A+len l) r:=by
 have h1:TA (A++(l++r)) 0 (A++(l++r)):=⟨Int.le_refl 0,rfl⟩
 have b:=(TA.add h1).add
 rw[Int.zero_add]at b;exact b
end
theorem sG{α:Type}(y x:List α)(z:α):(y++x).set (len y).toNat z=y++x.set 0 z:=by
 rw[show(len y).toNat=y.length+0 by unfold len;omega,List.set_append_right _ _ Aa];simp
theorem sH{α:Type}[Inhabited α](y x:List α):at' (y++x) (len y)=at' x 0:=by
 have:=sF y x (i:=0) (Int.le_refl 0)
 rw[Int.zero_add]at this;exact this
end Go.Eng
namespace Go.Proofs.YtnoegalemkbbbaaGreatDoor
open Go.Proofs.Tryz
open Go.Eng
theorem sI{α:Type}[Inhabited α](a:List α){k:Int}(h0:0<=k)(h1:k<len a):Eng.sub a 0 (k+1)=Eng.sub a 0 k++[at' a k]:=sub_succ a k h0 h1
theorem Aj1(M:Mem)(a b:Fl)(q s:Value)(w:World)(G:Sat w M)(F:Sl M 11 a.length q (a.flatMap Tm.cells))(H:Sl M 11 b.length s (b.flatMap Tm.cells)):
    Calls prog 14 [q,s].toArray w λ e w'=>e= .returned (.bool (decide (a=b)))/\Ext w w':=by
 have J:len a<=9223372036854775807:=F.le
 refine AJ (Hr:=[]) AG func14 U ntmps14 [(0,A7 q a),(1,A7 s b)] [] [.sl 0 q,.sl 1 s] U (Aj G) (fc 0 F Tm.AT (fc 1 H Tm.AT A4)) (λ B A=>?_) U
 refine A1 U (λ i=>?_) (λ i=>?_)<;>simp only[zb]at i
 ·exact A2 A U U U λ w M y=>⟨by rw[decide_eq_false (λ e=>i (by rw[e]))];rfl,y.st.low⟩
 refine B5 (λ k:Int=>⟨[(0,A7 q a),(1,A7 s b)],[],[Z 0 (.sl 0 q),Z 1 (.sl 1 s),Z 5 (I k)]⟩) (λ k=>0<=k/\k<=len a/\Eng.sub a 0 k=Eng.sub b 0 k) (λ k=>(len a-k).toNat) 0 U U ⟨Aa,by have:=A9 a;omega,rfl⟩ ?_
 rintro k ⟨z,K,j⟩
 refine A1 U (λ l=>?_) (λ l=>?_)<;>simp only[zb]at l
 ·have C:k<len b:=by omega
  refine DN [8] 2 (λ _ _ _ _ _ h=>h) U BM Ac <|AL 8 U U U <|AU (.v (.bool (!decide (at' a k=at' b k)))) U U (λ w M y=>PV.bin (A8 (v:=GQ (at' a k)) U) (A8 (v:=GQ (at' b k)) U) (λ _ w _=>AI5 _ _ _ _ w)) <|AE U <|BO U U U <|A1 U (λ n=>?_) (λ n=>?_)
  ·have D: ¬at' a k=at' b k:=by simpa[zb]using n
   exact A2 A U U U λ w M y=>⟨by rw[decide_eq_false (λ e=>D (by rw[e]))];rfl,y.st.low⟩
  ·have heq:at' a k=at' b k:=by simpa[zb]using n
   exact AX (k+1) U U ⟨Aa,Aa,by rw[sI a z l,sI b z C,j,heq]⟩ Ag
 ·have E:a=b:=by rw[O9 a k Aa,O9 b k Aa]at j;exact j
  exact A2 A U U U λ w M y=>⟨by rw[decide_eq_true E];rfl,y.st.low⟩
theorem Aj2{x y:Fl}(h:x=y)(M:Mem)(b i:Value)(w:World)(j:Sat w M)(k:Sl M 11 x.length b (x.flatMap Tm.cells))(l:Sl M 11 y.length i (y.flatMap Tm.cells)):
  Calls prog 14 [b,i].toArray w λ e w'=>e= .returned (.bool true)/\Ext w w':=
 (Aj1 M x y b i w j k l).mono λ e w' q=>by rw[decide_eq_true h]at q;exact q
theorem Aj3{w0 J:World}{M0 M:Mem}{Rs:List HO}(t:Tm)(h:Value)(ns:List A0)(v:Value)(hs:List AI)(xs:List Fl)(hS:St w0 M0 J M Rs)(L:Sl M 1 ns.length h (ns.flatMap CX))(hu:(C7 v hs xs).ok M)(A: ∀x∈xs,x≠[])(W:len xs.flatten<=100000000000)(X:len hs<=1048576):
  Calls prog 25 [.agg t.cells.toArray,h,v].toArray J (MN w0 M0 M Rs ({ t with many:=len xs}::(EZ ns xs).flatten)):=by
 have C:=YC hu
 have N:=A9 hs
 have O:=A9 ns
 rw[<-C]
 refine AJ (Hr:=Rs) AG func25 U ntmps25 [(0,C7 v hs xs),(1,kn h 1 ns CX)] [] [.ag (EO t.cells),.sl 1 h,.sl 0 v] U hS (AH hu (fc 1 L DC A4)) (λ B P=>BQ 3 U U U λ b=>IN 7 [{ t with many:=len hs}] Tm.cells 11 52 Tm.AT U U Ah U λ u=>?_) U
 refine B5 (σ:=Int×Value×Fl) (λ(k,u,y)=>⟨[(0,C7 v hs xs),(1,kn h 1 ns CX)],[(7,EA u y)],[Z 1 (.sl 1 h),Z 2 (.sl 0 v),Z 7 (.sl 7 u),Z 8 (I k)]⟩)
   (λ(k,u,y)=>0<=k/\k<=len hs/\y= { t with many:=len hs}::(EZ ns (Eng.sub xs 0 k)).flatten) (λ(k,u,y)=>(len hs-k).toNat) (0,u,[{ t with many:=len hs}]) U U ⟨Aa,Aa,rfl⟩ ?_
 rintro⟨k,u,y⟩ ⟨h0,h1,n⟩
 refine A1 U (λ i=>?_) (λ i=>?_)<;>simp only[zb]at i
 ·have D:=A _ (at_mem (l:=xs) h0 Aa)
  have Q:=HS D
  have R:len y=1+len (HY xs k):=by
   have:=gJ ns (Eng.sub xs 0 k)
   rw[n,AM,this]
   have e:Eng.sub xs 0 k=xs.take k.toNat:=by unfold Eng.sub;simp
   rw[e];unfold HY;omega
  have E:=V6 (xs:=xs) h0 Aa
  have F:=SD xs (k+1)
  have S:=A9 (HY xs k)
  rw[E,AQ]at F
  refine CK U Ad Aa <|DU 2 (A7 (at' hs k).v (at' xs k)) (λ w M q=>F9 (q.f.get (k:=0) U) h0 i) (KX 28 2 U ?_)
  refine IC 120 U U U underlying25 type52 U U Tm.cells_one Aa λ v'=>CK U Ad Ae <|KX 38 2 U <|CY 1 (λ s=> ∃z:Fl,z=y++HL ns k (at' xs k)/\s=⟨[(0,C7 v hs xs),(1,kn h 1 ns CX)],[(7,EA v' z)],[Z 1 (.sl 1 h),Z 2 (.sl 0 v),Z 7 (.sl 7 v'),Z 8 (I k)]⟩) U U (λ j=>?_) (λ j=>?_) ?_
  ·simp only[zb]at j
   have K:len (y++at' xs k)=len y+len (at' xs k):=AQ _ _
   refine BB 10 U zeroValue52 U λ T=>HW { at' (y++at' xs k) (len y)with name:=at' ns k} rfl U U sizeOf52 U U U Aa λ z G=>AW _ U U ⟨z,?_,rfl⟩
   rw[G,sG,sH];unfold HL;rw[if_pos Aa]
  ·simp only[zb]at j
   exact AW _ U U ⟨_,by unfold HL;rw[if_neg Aa],rfl⟩
  rintro s ⟨z,G,rfl⟩
  refine AX (k+1,v',z) U U ⟨Aa,Aa,?_⟩ Ag
  have H:len (Eng.sub xs 0 k)=k:=by unfold Eng.sub;unfold len at*;rw[List.length_take,List.length_drop];simp only[Int.toNat_zero];omega
  rw[FT h0 Aa,gI,H,G,n]
  simp
 have V:k=len hs:=by omega
 rw[G6 Aa]at n
 subst n
 exact A2 P U U U λ w M' q=>VN ⟨u,M',rfl,trivial,q.le,q.st,A4⟩
end Go.Proofs.YtnoegalemkbbbaaGreatDoor
namespace Go.Eng
def I3(s:A0):List Sp×Bool:=((ES s).1,(ES s).2.2==0&& !((ES s).1.any λ x=>x.part))
def ZC(n:Int)(c:Nd):Bool:=decide (0<=n)&&decide (n<=5)&&(decide (c.kind<5)&&(decide (c.name=[])&&decide (c.many=0)&&G9 c))
def JZ(t:Tm):Bool×Tm:=
 if t.op=0 then(t.many==0,CF t)
 else if t.op=1 then(decide (0<=t.many)&&decide (1<=t.n)&&decide (t.n<=31),{ CF t with n:=t.n})
 else if t.op=9 then(t.many==0&&ZC t.n t.c,{ CF t with n:=t.n,c:=t.c})
 else if t.op=2 then(decide (0<=t.many)&&(t.n==0||t.n==1),{ CF t with n:=t.n})
 else if t.op=4 then(decide (0<=t.many),CF t)
 else if t.op=3\/t.op=5\/t.op=6 then(t.many==1,CF t)
 else if t.op=7\/t.op=8 then(t.many==1&&(I3 t.s).2,{ CF t with s:=t.s})
 else(false,CF t)
def H4(t:Tm):Bool:=decide (t=(JZ t).2)&&(JZ t).1
def NP(m:Int)(f:Fl):Bool:=decide (len f<=m)&&f.all λ t=>decide (len t.s<=100)&&decide (len t.name<=100)&&decide (len t.c.s<=100)
end Go.Eng
namespace Go.Proofs.YtnoegalemkbbbaaGreatDoor
open Go.Proofs.Tryz
open Go.Eng
theorem gO(f:Fl)(v:Value)(i:Int)(M:Mem)(w:World)(n:Sat w M)(s:Sl M 11 f.length v (f.flatMap Tm.cells))(E:len f<=1048576)(h0:0<=i)(h1:i<=1048576):
    Calls prog 64 [v,i64 i].toArray w λ e w'=>e= .returned (i64 (H0 f i))/\Ext w w':=by
 have y:=A9 f
 refine AJ (Hr:=[]) AG func64 U ntmps64 [(0,A7 v f)] [] [.sl 0 v,I i] U (Aj n) (fc 0 s Tm.AT A4) (λ B h=>B5 (σ:=Nat×Int×Int) (λ(g,o,j)=>⟨[(0,A7 v f)],[],[Z 0 (.sl 0 v),Z 1 (I j),Z 5 (I o)]⟩) (λ(g,o,j)=>I0 g f o j=H0 f i/\len f+2<=g+j/\i<=j/\(o=1/\j=i\/j<=len f)/\o<=1+(j-i)*1048576/\0<=o) (λ(g,o,j)=>(len f-j).toNat) (f.length+2,1,i) U U ⟨rfl,by unfold len;omega,Aa,.inl ⟨rfl,rfl⟩,Aa,Aa⟩ ?_) U
 rintro⟨g,o,j⟩ ⟨hg,z,F,A,ho,C⟩
 refine A1 U (λ k=>?_) (λ k=>?_)<;>simp only[zb]at k
 ·refine A1 U (λ l=>?_) (λ l=>?_)<;>simp only[zb]at l
  ·have D:H0 f i= -1:=by
    rw[<-hg]
    cases g with
    |zero=>rfl
    |succ g=>rw[I0,if_neg Aa,if_pos Aa]
   refine A2 h U U U λ w M b=>⟨?_,b.st.low⟩
   rw[D];rfl
  ·obtain⟨g,rfl⟩: ∃q,g=q+1:=⟨g-1,Aa⟩
   rw[I0,if_neg Aa,if_neg Aa]at hg
   exact AX (g,o-1+(at' f j).many,j+1) U U ⟨hg,Aa,Aa,.inr Aa,Aa,Aa⟩ Ag
 ·obtain⟨g,rfl⟩: ∃q,g=q+1:=⟨g-1,Aa⟩
  rw[fV Aa]at hg
  refine A2 h U U U λ w M b=>⟨?_,b.st.low⟩
  rw[<-hg];rfl
theorem Aj4(l:List Sp)(v:Value)(M:Mem)(w:World)(q:Sat w M)(hl:Sl M 3 l.length v (l.flatMap Sp.cells))(y:len l<=1099511627776):
    Calls prog 126 [v].toArray w λ e w'=>e= .returned (.bool (!(l.any λ x=>x.part)))/\Ext w w':=by
 have s:=A9 l
 refine AJ (Hr:=[]) AG func126 U ntmps126 [(0,kn v 3 l Sp.cells)] [] [.sl 0 v] U (Aj q) (fc 0 hl Sp.AT A4) (λ B n=>B5 (σ:=Int) (λ k=>⟨[(0,kn v 3 l Sp.cells)],[],[Z 0 (.sl 0 v),Z 3 (I k)]⟩) (λ k=>0<=k/\k<=len l/\ ∀x∈Eng.sub l 0 k,x.part≠true) (λ k=>(len l-k).toNat) 0 rfl rfl ⟨Aa,Aa,λ x hx=>by cases hx⟩ ?_) U
 intro k ⟨h0,h1,h⟩
 refine A1 U (λ b=>?_) (λ b=>?_)<;>simp only[zb]at b
 ·refine A1 U (λ i=>?_) (λ i=>?_)
  ·refine A2 n U U U λ w M j=>⟨?_,j.st.low⟩
   rw[List.any_eq_true.2 ⟨at' l k,at_mem h0 b,i⟩];rfl
  ·exact AX (k+1) U U ⟨Aa,Aa,λ x hx=>by
    rw[FT h0 b]at hx
    rcases List.mem_append.1 hx with hx|hx
    ·exact h x hx
    ·rw[List.mem_singleton.1 hx,i];decide⟩ Aa
 ·rw[G6 Aa]at h
  refine A2 n U U U λ w M j=>⟨?_,j.st.low⟩
  have e:(l.any λ x=>x.part)=false:=by
   rw[List.any_eq_false];intro x hx;exact h x hx
  rw[e];rfl
theorem sJ: ∀(f:Nat) (s:A0) (p:List Sp) (i:Int),len (GN f s p i).1<=len p+f
 |0,s,p,i=>by rw[GN];show len p<=_;omega
 |f+1,s,p,i=>by
  rw[GN]
  split
  ·show len p<=_;omega
  ·have:=sJ f s (p++[(DQ s i p.isEmpty).1]) (DQ s i p.isEmpty).2
   rw[AQ,AM,len_nil]at this
   push_cast;omega
theorem sK(s:A0):len (ES s).1<=20:=by
 have h:=sJ 20 s [] 0
 rw[len_nil]at h
 have b:len (EX s 0).1<=20:=by
  unfold EX
  split
  ·show len ([]:List Sp)<=20;decide
  ·omega
 unfold ES
 split
 ·exact b
 split
 ·show len ([]:List Sp)<=20;decide
 split
 ·show len ([]:List Sp)<=20;decide
 ·exact b
theorem sL{e:World}{M:Mem}(s:A0)(hS:Sat e M)(h:len s<=1048576):
  Calls prog 67 [str s].toArray e (N7 e M (λ v:Value=>.tuple #[v,.bool (I3 s).2]) (λ _=>True) (λ v=>[(0,kn v 3 (I3 s).1 Sp.cells)])):=by
 have hl:=sK s
 exact AJ AG func67 U ntmps67 [] [] [.v (str s)] U (Aj hS) A4 (λ B i=>EV (λ v:Value=>.tu [.sl 1 v,I (ES s).2.1,I (ES s).2.2]) [1] U U call82 U (λ w M b=>qT s b.st.sat h) λ v _=>AK U call126 U U (λ _ w M b=>Aj4 (ES s).1 v M w b.st.sat (b.sl 1 U) Aa) U <|A2 i U U U λ w M b=>⟨v,M,rfl,trivial,b.st.done,fc 0 (b.sl 1 U) Sp.AT A4⟩) U
theorem sM(c:Nd)(w:World)(M:Mem)(k:Sat w M)(l:len c.s<=1048576):
   Calls prog 99 [EU c].toArray w λ e w'=>e= .returned (.bool (decide (c.kind<5)&&(decide (c.name=[])&&decide (c.many=0)&&G9 c)))/\Ext w w':=AJ (Hr:=[]) AG func99 U ntmps99 [] [] [D8 c] U (Aj k) A4 (λ B j=>BQ 1 U U U λ n=>GJ (.v (.slice none 0 0)) U U (λ b=>BA 2 [c] Nd.cells 6 46 Nd.AT U U (hE1:=OD b U) Ah U λ v2=>AK U call37 U U (λ _ w M i=>r6 c v2 M w i.st.sat (i.sl 2 U) Aa) U <|A2 j U U U λ w M i=>⟨rfl,i.st.low⟩) (λ b=>GJ (.v (.bool false)) U U (λ h=>absurd (b.symm.trans h) Ab) (λ _=>A2 j U U U λ w M i=>⟨by rw[b];rfl,i.st.low⟩))) U
theorem Aj5(n:Int)(c:Nd)(w:World)(M:Mem)(h:Sat w M)(i:len c.s<=1048576):
  Calls prog 124 [.agg (i64 n::c.cells).toArray].toArray w λ e w'=>e= .returned (.bool (ZC n c))/\Ext w w':=AJ (Hr:=[]) AG func124 U ntmps124 [] [] [.ag [I n,I c.kind,I c.many,.v (str c.name),.v (str c.s),.v (.bool c.neg),I c.e]] U (Aj h) A4 (λ B j=>BQ 1 U U U λ k=>AK U call99 U U (λ _ w M b=>sM c w M b.st.sat i) U <|A2 j U U U λ w M b=>⟨rfl,b.st.low⟩) U
theorem Aj6(t:Tm)(w:World)(M:Mem)(J:Sat w M)(E:len t.s<=1048576)(F:len t.c.s<=1048576):Calls prog 65 [s9 t].toArray w λ e w'=>e= .returned (.bool (H4 t))/\Ext w w':=by
 refine AJ (Hr:=[]) AG func65 U ntmps65 [] [] [GQ t] U (Aj J) A4 (λ B j=>BQ 1 U U U λ C=>BB 3 U zeroValue52 U λ D=>?_) U
 refine A1 U (λ h0=>?_) (λ h0=>?_)<;>simp only[zb]at h0
 ·refine AU (.v (.bool (decide (t=CF t)))) U U (λ w M h=>PV.bin (A8 (v:=GQ t) U) (A8 (v:=GQ (CF t)) U) (λ _ w _=>OM _ _ _ _ w)) <|A2 j U U U λ w M h=>⟨?_,h.st.low⟩
  unfold H4 JZ;rw[if_pos h0];rfl
 refine A1 U (λ h1=>?_) (λ h1=>?_)<;>simp only[zb]at h1
 ·refine AU (.v (.bool (decide (t= { CF t with n:=t.n})))) U U (λ w M h=>PV.bin (A8 (v:=GQ t) U) (A8 (v:=GQ { CF t with n:=t.n}) U) (λ _ w _=>OM _ _ _ _ w)) <|A2 j U U U λ w M h=>⟨?_,h.st.low⟩
  unfold H4 JZ;rw[if_neg h0,if_pos h1];simp only[<-Bool.and_assoc];rfl
 refine A1 U (λ k=>?_) (λ k=>?_)<;>simp only[zb]at k
 ·refine AU (.v (.bool (decide (t= { CF t with n:=t.n,c:=t.c})))) U U (λ w M h=>PV.bin (A8 (v:=GQ t) U) (A8 (v:=GQ { CF t with n:=t.n,c:=t.c}) U) (λ _ w _=>OM _ _ _ _ w)) <|AK U call124 U U (λ _ w M h=>Aj5 t.n t.c w M h.st.sat F) U <|A2 j U U U λ w M h=>⟨?_,h.st.low⟩
  unfold H4 JZ;rw[if_neg h0,if_neg h1,if_pos k];simp only[<-Bool.and_assoc];rfl
 refine A1 U (λ y=>?_) (λ y=>?_)<;>simp only[zb]at y
 ·refine AU (.v (.bool (decide (t= { CF t with n:=t.n})))) U U (λ w M h=>PV.bin (A8 (v:=GQ t) U) (A8 (v:=GQ { CF t with n:=t.n}) U) (λ _ w _=>OM _ _ _ _ w)) <|A2 j U U U λ w M h=>⟨?_,h.st.low⟩
  unfold H4 JZ;rw[if_neg h0,if_neg h1,if_neg k,if_pos y];simp only[<-Bool.and_assoc];rfl
 refine A1 U (λ A=>?_) (λ A=>?_)<;>simp only[zb]at A
 ·refine AU (.v (.bool (decide (t=CF t)))) U U (λ w M h=>PV.bin (A8 (v:=GQ t) U) (A8 (v:=GQ (CF t)) U) (λ _ w _=>OM _ _ _ _ w)) <|A2 j U U U λ w M h=>⟨?_,h.st.low⟩
  unfold H4 JZ;rw[if_neg h0,if_neg h1,if_neg k,if_neg y,if_pos A];rfl
 refine CY 0 (λ s=> ∃b:Bool,(b=true↔(t.op=3\/t.op=5\/t.op=6))/\s=⟨[],[(1,.box C (LD t) 52),(3,.box D (LD (CF t)) 52)],[Z 1 (.bx 1 C 0),Z 3 (.bx 3 D 0),Z 14 (I t.op),Z 105 (.v (.bool b))]⟩) U U (λ z=>?_) (λ z=>?_) ?_
 ·exact AW _ U U ⟨_,by simp only[zb]at z ⊢;omega,rfl⟩
 ·exact A1 U (λ G=>AW _ U U ⟨_,by simp only[zb]at G ⊢;omega,rfl⟩) (λ G=>AW _ U U ⟨_,by simp only[zb]at z G ⊢;omega,rfl⟩)
 rintro _ ⟨b,i,rfl⟩
 refine A1 U (λ l=>?_) (λ l=>?_)
 ·refine AU (.v (.bool (decide (t=CF t)))) U U (λ w M h=>PV.bin (A8 (v:=GQ t) U) (A8 (v:=GQ (CF t)) U) (λ _ w _=>OM _ _ _ _ w)) <|A2 j U U U λ w M h=>⟨?_,h.st.low⟩
  unfold H4 JZ;rw[if_neg h0,if_neg h1,if_neg k,if_neg y,if_neg A,if_pos (i.1 l)];rfl
 have q: ¬(t.op=3\/t.op=5\/t.op=6):=λ e=>by have:=i.2 e;rw[l]at this;cases this
 clear i l
 refine CY 0 (λ s=> ∃b:Bool,(b=true↔(t.op=7\/t.op=8))/\s=⟨[],[(1,.box C (LD t) 52),(3,.box D (LD (CF t)) 52)],[Z 1 (.bx 1 C 0),Z 3 (.bx 3 D 0),Z 117 (.v (.bool b))]⟩) U U (λ z=>?_) (λ z=>?_) ?_
 ·exact AW _ U U ⟨_,by simp only[zb]at z ⊢;omega,rfl⟩
 ·exact AW _ U U ⟨_,by simp only[zb]at z ⊢;omega,rfl⟩
 rintro _ ⟨b,i,rfl⟩
 refine A1 U (λ l=>?_) (λ l=>?_)
 ·refine EV (λ v:Value=>.tu [.sl 6 v,.v (.bool (I3 t.s).2)]) [6] U U call67 U (λ w M h=>sL t.s h.st.sat E) λ v _=>AU (.v (.bool (decide (t= { CF t with s:=t.s})))) U U (λ w M h=>PV.bin (A8 (v:=GQ t) U) (A8 (v:=GQ { CF t with s:=t.s}) U) (λ _ w _=>OM _ _ _ _ w)) <|A2 j U U U λ w M h=>⟨?_,h.st.low⟩
  unfold H4 JZ;rw[if_neg h0,if_neg h1,if_neg k,if_neg y,if_neg A,if_neg q,if_pos (i.1 l)];simp only[<-Bool.and_assoc];rfl
 have H: ¬(t.op=7\/t.op=8):=λ e=>by have:=i.2 e;rw[l]at this;cases this
 refine A2 j U U U λ w M h=>⟨?_,h.st.low⟩
 have e:H4 t=false:=by unfold H4 JZ;rw[if_neg h0,if_neg h1,if_neg k,if_neg y,if_neg A,if_neg q,if_neg H,Bool.and_false]
 rw[e];rfl
theorem Aj7(f:Fl)(v:Value)(m:Int)(M:Mem)(w:World)(y:Sat w M)(n:Sl M 11 f.length v (f.flatMap Tm.cells))(hm:0<=m/\m<=1048576):
    Calls prog 75 [v,i64 m].toArray w λ e w'=>e= .returned (.bool (NP m f))/\Ext w w':=by
 have z:=A9 f
 have hle:len f<=9223372036854775807:=n.le
 refine AJ (Hr:=[]) AG func75 U ntmps75 [(0,A7 v f)] [] [.sl 0 v,I m] U (Aj y) (fc 0 n Tm.AT A4) (λ B q=>B5 (σ:=Int) (λ k=>⟨[(0,A7 v f)],[],[Z 0 (.sl 0 v),Z 1 (I m),Z 5 (I k)]⟩) (λ k=>0<=k/\k<=len f/\k<=m/\ ∀t∈Eng.sub f 0 k,len t.s<=100/\len t.name<=100/\len t.c.s<=100) (λ k=>(len f-k).toNat) 0 rfl rfl ⟨Aa,Aa,Aa,λ x hx=>by cases hx⟩ ?_) U
 intro k ⟨h0,h1,A,b⟩
 refine A1 U (λ h=>?_) (λ h=>?_)<;>simp only[zb]at h
 ·refine A1 U (λ i=>?_) (λ i=>?_)<;>simp only[zb]at i
  ·refine A2 q U U U λ w M j=>⟨?_,j.st.low⟩
   have e:NP m f=false:=by
    unfold NP
    rw[Bool.and_eq_false_iff]
    by_cases hm2:m<=k
    ·left;simp;omega
    ·right
     rw[List.all_eq_false]
     refine⟨at' f k,at_mem h0 h,?_⟩
     simp only[Bool.and_eq_true,decide_eq_true_eq]
     rintro⟨⟨C,D⟩,E⟩
     omega
   rw[e];rfl
  ·exact AX (k+1) U U ⟨Aa,Aa,Aa,λ x hx=>by
    rw[FT h0 h]at hx
    rcases List.mem_append.1 hx with hx|hx
    ·exact b x hx
    ·rw[List.mem_singleton.1 hx];omega⟩ Aa
 ·rw[G6 Aa]at b
  refine A2 q U U U λ w M j=>⟨?_,j.st.low⟩
  have e:NP m f=true:=by
   unfold NP
   rw[Bool.and_eq_true]
   refine⟨by simp;omega,List.all_eq_true.2 λ t l=>?_⟩
   simp only[Bool.and_eq_true,decide_eq_true_eq]
   exact⟨⟨(b t l).1,(b t l).2.1⟩,(b t l).2.2⟩
  rw[e];rfl
end Go.Proofs.YtnoegalemkbbbaaGreatDoor
