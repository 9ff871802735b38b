/- Lemmas for the card. -/
import Derived.Test.YtnoegalemkbbbaaGreatDoorKp13
set_option linter.unusedVariables false
set_option linter.unusedSimpArgs false
set_option maxRecDepth 100000
namespace Go.Eng
end Go.Eng
set_option maxRecDepth 100000
namespace Go.Proofs.YtnoegalemkbbbaaGreatDoor
open Go.Proofs.Tryz
open Go.Eng
end Go.Proofs.YtnoegalemkbbbaaGreatDoor
namespace Go.Eng
theorem rX: ∀(f:Nat) (s:A0) (p:List Sp) (i:Int),len (IF f s p i).1<=len p+f
 |0,s,p,i=>by show len p<=_;omega
 |f+1,s,p,i=>by
  unfold IF
  split
  ·split
   ·show len p<=_;omega
   ·have:=rX f s (p++[(FX s i).1]) (i+(FX s i).2)
    rw[AQ,AM,len_nil]at this
    push_cast;omega
  ·show len p<=_;omega
theorem VN(s:A0):len (C8 s).1<=20:=by
 unfold C8
 split
 ·show(0:Int)<=_;omega
 ·split
  ·show(0:Int)<=_;omega
  ·have:=rX 20 s [] 0
   rw[len_nil]at this
   show len (IF 20 s [] 0).1<=20;omega
end Go.Eng
namespace Go.Proofs.YtnoegalemkbbbaaGreatDoor
open Go.Proofs.Tryz
open Go.Eng
theorem Af3(x:Sp)(w:World):Calls prog 287 [.agg x.cells.toArray].toArray w λ e w'=>e= .returned (.bool x.part)/\Ext w w':=AH AF func287 U ntmps287 [] [] [.ag [.v (.bool x.part),.v (str x.name),I x.n]] U (BD w) A4 (λ B b=>BP 1 U U U λ i=>A2 b U U U λ w M h=>⟨rfl,h.st.low⟩) U
theorem Af4(v:Value)(l:List Sp)(w:World)(M:Mem)(s:Sat w M)(hl:Sl M 3 l.length v (l.flatMap Sp.cells))(A:len l<=1099511627776):
    Calls prog 152 [v,.func (.func 287) #[] #[]].toArray w λ e w'=>(∃k:Int,e= .returned (i64 k)/\(0<=k↔l.any (λ x=>x.part)=true))/\Ext w w':=by
 have y:=A9 l
 refine AH (Hr:=[]) AF func152 U ntmps152 [(0,kn v 3 l Sp.cells)] [] [.sl 0 v,.v (.func (.func 287) #[] #[])] U (Aj s) (fc 0 hl Sp.AV A4) (λ B q=>B5 (σ:=Int) (λ k=>⟨[(0,kn v 3 l Sp.cells)],[],[Z 0 (.sl 0 v),Z 1 (.v (.func (.func 287) #[] #[])),Z 7 (I (len l)),Z 8 (I k)]⟩) (λ k=>0<=k/\k<=len l/\ ∀x∈Eng.sub l 0 k,x.part≠true) (λ k=>(len l-k).toNat) 0 rfl rfl ⟨Aa,Aa,λ x hx=>by cases hx⟩ ?_) U
 intro k ⟨h0,h1,i⟩
 refine A1 U (λ b=>?_) (λ b=>?_)<;>simp only[zb]at b
 ·refine AS [] (λ _:Unit=>.v (.bool (at' l k).part)) [] (λ _=>[]) (Fg:=λ _=>[]) (pu:=λ _=>True) U U call287 U U (λ w M hS hF=>(Af3 (at' l k) w).mono λ e w' ⟨he,hx⟩=>⟨(),M,he,trivial,Mem.le.refl _,hS.ext hx,A4⟩) λ _ _=>A1 U (λ j=>?_) (λ j=>?_)
  ·exact A2 q U U U λ w M n=>⟨⟨k,rfl,λ _=>List.any_eq_true.2 ⟨at' l k,at_mem h0 b,j⟩,λ _=>h0⟩,n.st.low⟩
  ·exact AX (k+1) U U ⟨Aa,Aa,λ x hx=>by
    rw[FT h0 b]at hx
    rcases List.mem_append.1 hx with hx|hx
    ·exact i x hx
    ·rw[List.mem_singleton.1 hx,j];decide⟩ Aa
 ·rw[G7 Aa]at i
  exact A2 q U U U λ w M n=>⟨⟨-1,rfl,λ h=>by omega,λ h=>by
   obtain⟨x,hx,z⟩:=List.any_eq_true.1 h
   exact absurd z (i x hx)⟩,n.st.low⟩
theorem Af5(v:Value)(l:List Sp)(w:World)(M:Mem)(i:Sat w M)(hl:Sl M 3 l.length v (l.flatMap Sp.cells))(j:len l<=1099511627776):
  Calls prog 94 [v,.func (.func 287) #[] #[]].toArray w λ e w'=>e= .returned (.bool (l.any λ x=>x.part))/\Ext w w':=by
 refine AH (Hr:=[]) AF func94 U ntmps94 [(0,kn v 3 l Sp.cells)] [] [.sl 0 v,.v (.func (.func 287) #[] #[])] U (Aj i) (fc 0 hl Sp.AV A4) (λ B n=>AS [] (λ k:Int=>I k) [] (λ _=>[]) (Fg:=λ _=>[]) (pu:=λ k=>0<=k↔l.any (λ x=>x.part)=true) U U call152 U U (λ w M hS hF=>(Af4 v l w M hS.sat (hF.get (k:=0) U).sl j).mono λ e w' ⟨⟨k,he,b⟩,hx⟩=>⟨k,M,he,b,Mem.le.refl _,hS.ext hx,A4⟩) λ k b=>A2 n U U U λ w M q=>⟨?_,q.st.low⟩) U
 suffices h:decide (0<=k)=l.any (λ x=>x.part) by rw[<-h];rfl
 cases h:l.any (λ x=>x.part)with
 |true=>simpa using b.2 h
 |false=>rw[h]at b;simpa using b
theorem rY{w0 e:World}{M0 M:Mem}{Rs:List HO}(s:A0)(hS:St w0 M0 e M Rs)(hg:Gl w0)(h:len s<=200000000000):
  Calls prog 264 [str s].toArray e (BJ w0 M0 M Rs (λ u:Value=>.tuple #[u,.bool (HH s).2]) (λ _=>True) (λ u=>[(1,kn u 3 (HH s).1 Sp.cells)]) λ _=>[]):=by
 refine AH (Hr:=Rs) AF func264 U ntmps264 [] [] [.v (str s)] U hS A4 (λ B i=>AS [] (λ u:Value=>.tu [.sl 1 u,I (C8 s).2.1,I (C8 s).2.2]) [1] (λ _=>[]) (Fg:=λ u=>[(1,kn u 3 (C8 s).1 Sp.cells)]) U U call137 U U (λ w M hS hF=>qL s hS hg h) λ u _=>AJ U call94 U U (λ _ w M b=>Af5 u (C8 s).1 w M b.st.sat (b.sl 1 U) (by have:=VN s;omega)) U <|A2 i U U U λ w M' b=>⟨u,M',rfl,trivial,b.le,b.B9 [] U,AG (b.f.get (k:=1) U) A4⟩) U
theorem Af6(v:Value)(l:List CV)(w:World)(M:Mem)(i:Sat w M)(hl:Sl M 4 l.length v (l.flatMap CV.cells))(j:len l<=1099511627776):
  Calls prog 310 [v,.func (.func 311) #[] #[]].toArray w λ e w'=>e= .returned (.bool (l.any λ x=>decide (0<x.left)))/\Ext w w':=by
 refine AH (Hr:=[]) AF func310 U ntmps310 [(0,kn v 4 l CV.cells)] [] [.sl 0 v,.v (.func (.func 311) #[] #[])] U (Aj i) (fc 0 hl CV.AV A4) (λ B n=>AS [] (λ k:Int=>I k) [] (λ _=>[]) (Fg:=λ _=>[]) (pu:=λ k=>0<=k↔l.any (λ x=>decide (0<x.left))=true) U U call337 U U (λ w M hS hF=>(Aa9 v l w M hS.sat (hF.get (k:=0) U).sl j).mono λ e w' ⟨⟨k,he,b⟩,hx⟩=>⟨k,M,he,b,Mem.le.refl _,hS.ext hx,A4⟩) λ k b=>A2 n U U U λ w M q=>⟨?_,q.st.low⟩) U
 suffices h:decide (0<=k)=l.any (λ x=>decide (0<x.left)) by rw[<-h];rfl
 cases h:l.any (λ x=>decide (0<x.left))with
 |true=>simpa using b.2 h
 |false=>rw[h]at b;simpa using b
abbrev rZ(u:Value)(l:List CV):HX:=.pv 316 (kn u 4 l CV.cells) CV.AV
theorem Af7(v:Value)(c:Nd)(w:World)(M:Mem)(H:Sat w M)(hg:Gl w)(hl:(kn v 6 [c] Nd.cells).ok M)(Q:len c.s<=1048576):
    Calls prog 292 [v].toArray w λ e w'=>e= .returned (.bool (GN c))/\Ext w w':=by
 refine AH (Hr:=[]) AF func292 U ntmps292 [(0,kn v 6 [c] Nd.cells)] [] [.sl 0 v] U (Aj H) (AG hl A4) (λ B E=>?_) U
 have F:len [c]=1:=rfl
 have J:len [(⟨5,1,false,[]⟩:CV)]=1:=rfl
 refine IM 3 [(⟨5,1,false,[]⟩:CV)] CV.cells 4 316 CV.AV U U Ah U λ u=>B5 (σ:=Int×Value×List CV) (λ(k,u,l)=>⟨[(0,kn v 6 [c] Nd.cells)],[(3,rZ u l)],[Z 0 (.sl 0 v),Z 3 (.sl 3 u),Z 10 (.sl 0 v),Z 11 (I 1),Z 12 (I k)]⟩) (λ(k,u,l)=>(k=0/\l=[⟨5,1,false,[]⟩])\/(k=1/\l=[⟨5,0,false,[]⟩,⟨c.kind,c.many,true,[]⟩]/\JW c=true/\c.name=[])) (λ(k,u,l)=>(1-k).toNat) (0,u,[⟨5,1,false,[]⟩]) U U (.inl ⟨rfl,rfl⟩) ?_
 rintro⟨k,u,l⟩ (⟨rfl,rfl⟩|⟨rfl,rfl,y,z⟩)
 ·refine A1 U (λ i=>?_) (λ i=>?_)
  ·refine BA 5 U zeroValue46 U λ G=>B5 (σ:=Unit) (λ _=>⟨[(0,kn v 6 [c] Nd.cells)],[(5,.box G [I c.kind,I c.many,.v (str c.name),.v (str c.s),.v (.bool c.neg),I c.e] 46),(3,rZ u [⟨5,1,false,[]⟩])],[Z 0 (.sl 0 v),Z 3 (.sl 3 u),Z 10 (.sl 0 v),Z 11 (I 1),Z 12 (I 0),Z 5 (.bx 5 G 0)]⟩) (λ _=>True) (λ _=>0) () U U trivial ?_
   intro _ _
   refine A1 U (λ A=>?_) (λ A=>?_)
   ·cases A
   refine AJ U call309 U U (λ _ w M j=>Aa7 c w (hg.low j.st.low) Aa) U ?_
   refine A1 U (λ n=>?_) (λ n=>?_)<;>simp only[zb]at n
   ·refine A2 E U U U λ w M j=>⟨?_,j.st.low⟩
    have e:GN c=false:=by
     unfold GN
     rcases n with(h|h)|h
     ·cases h
     ·rw[h];rfl
     ·rw[show decide (c.many<=0)=false by simp;omega,Bool.and_false]
    rw[e];rfl
   have y:=n.1.2
   have K:=n.2
   refine A1 U (λ q=>?_) (λ q=>?_)<;>simp only[zb]at q
   ·refine A2 E U U U λ w M j=>⟨?_,j.st.low⟩
    have e:GN c=false:=by unfold GN;rw[show decide (c.name=[])=false by simpa using q.2,Bool.and_false,Bool.false_and]
    rw[e];rfl
   have z:c.name=[]:=q.resolve_left (by show ¬(5:Int)=6;decide)
   refine G4 U BM Ac <|HB U call263 U U (λ L w M j=>(absurd L Ab:Calls prog 263 [str c.name].toArray w λ e w'=>e= .returned (.bool true)/\Ext w w')) U <|G5 U <|A1 U (λ C=>?_) (λ C=>?_)
   ·cases C
   have N:(at' [(⟨5,1,false,[]⟩:CV)] (len [(⟨5,1,false,[]⟩:CV)]-1)).left=1:=rfl
   refine HU (⟨5,0,false,[]⟩:CV) U U U sizeOf3 U U U Aa λ D b=>?_
   replace b:D=[⟨5,0,false,[]⟩]:=b
   subst b
   have O:len [(⟨5,0,false,[]⟩:CV)]=1:=rfl
   refine DI [6,9] 3 (λ _ _ _ _ _ h=>h) U BM Ac <|AK 6 U U U <|HU (⟨5,0,false,[]⟩:CV) U U U sizeOf4 U U U Aa λ D b=>?_
   replace b:D=[⟨5,0,false,[]⟩]:=b
   subst b
   refine AD U <|AK 9 U U U <|HU (⟨5,0,false,c.name⟩:CV) U U U sizeOf9 U U U Aa λ D b=>?_
   replace b:D=[⟨5,0,false,c.name⟩]:=b
   subst b
   rw[z]
   exact AD U <|BN U U U <|BF 6 [(⟨c.kind,c.many,true,[]⟩:CV)] CV.cells 4 316 CV.AV U U Ah U λ v6=>IB 40 U U U underlying317 type316 U U CV.cells_one (by simp only[AM,len_nil];omega) λ v'=>AX (1,v',[⟨5,0,false,[]⟩,⟨c.kind,c.many,true,[]⟩]) U U (.inr ⟨rfl,rfl,y,rfl⟩) Ag
  ·cases i
 ·refine A1 U (λ i=>?_) (λ i=>?_)
  ·cases i
  ·have P:len [(⟨5,0,false,[]⟩:CV),⟨c.kind,c.many,true,[]⟩]=2:=rfl
   refine C2 3 U <|AJ U call310 U U (λ _ w M j=>Af6 u [⟨5,0,false,[]⟩,⟨c.kind,c.many,true,[]⟩] w M j.st.sat (j.sl 3 U) Aa) U <|A2 E U U U λ w M j=>⟨?_,j.st.low⟩
   have e:GN c=(decide (0<len [c])&& !([(⟨5,0,false,[]⟩:CV),⟨c.kind,c.many,true,[]⟩].any λ x=>decide (0<x.left))):=by
    unfold GN
    rw[y,z,F]
    simp
    cases h:decide (c.many<=0)<;>simp at h ⊢ <;>omega
   rw[e];rfl
theorem s0(c:Nd)(w:World)(M:Mem)(l:Sat w M)(hg:Gl w)(n:len c.s<=1048576):
   Calls prog 267 [EV c].toArray w λ e w'=>e= .returned (.bool (decide (c.kind<5)&&GN c))/\Ext w w':=AH (Hr:=[]) AF func267 U ntmps267 [] [] [D3 c] U (Aj l) A4 (λ B j=>BP 1 U U U λ q=>EX (.v (.slice none 0 0)) U U (λ b=>BF 2 [c] Nd.cells 6 46 Nd.AV U U (hE1:=M6 b U) Ah U λ v2=>AJ U call292 U U (λ _ w M i=>Af7 v2 c w M i.st.sat (hg.low i.st.low) (i.f.get (k:=2) U) n) U <|A2 j U U U λ w M i=>⟨rfl,i.st.low⟩) (λ b=>EX (.v (.bool false)) U U (λ h=>absurd (b.symm.trans h) Ab) (λ _=>A2 j U U U λ w M i=>⟨by rw[b];rfl,i.st.low⟩))) U
theorem Af8(n:Int)(c:Nd)(w:World)(M:Mem)(h:Sat w M)(hg:Gl w)(i:len c.s<=1048576):
  Calls prog 285 [.agg (i64 n::c.cells).toArray].toArray w λ e w'=>e= .returned (.bool (NK n c))/\Ext w w':=by
 refine AH (Hr:=[]) AF func285 U ntmps285 [] [] [.ag [I n,I c.kind,I c.many,.v (str c.name),.v (str c.s),.v (.bool c.neg),I c.e]] U (Aj h) A4 (λ B j=>BP 1 U U U λ k=>AJ U call267 U U (λ _ w M b=>s0 c w M b.st.sat (hg.low b.st.low) i) U <|A2 j U U U λ w M b=>⟨?_,b.st.low⟩) U
 unfold NK
 rfl
end Go.Proofs.YtnoegalemkbbbaaGreatDoor
namespace Go.Eng
def CC(t:Tm):Tm:=⟨t.op,t.many,t.name,[],0,C0⟩
def IH(t:Tm):Bool×Tm:=
 if t.op=0 then(t.many==0,CC t)
 else if t.op=1 then(decide (0<=t.many)&&decide (0<t.n)&&decide (t.n<=31),{ CC t with n:=t.n})
 else if t.op=9 then(t.many==0&&NK t.n t.c,{ CC t with n:=t.n,c:=t.c})
 else if t.op=2 then(decide (0<=t.many)&&decide (0<=t.n)&&decide (t.n<=1),{ CC t with n:=t.n})
 else if t.op=4 then(decide (0<=t.many),CC t)
 else if t.op=3\/t.op=5\/t.op=6 then(t.many==1,CC t)
 else if t.op=7\/t.op=8 then((HH t.s).2&&t.many==1,{ CC t with s:=t.s})
 else(false,CC t)
def I1(t:Tm):Bool:=(IH t).1&&decide (t=(IH t).2)
end Go.Eng
namespace Go.Proofs.YtnoegalemkbbbaaGreatDoor
open Go.Proofs.Tryz
open Go.Eng
abbrev L8(t:Tm):List XV:=[I t.op,I t.many,.v (str t.name),.v (str t.s),I t.n,I t.c.kind,I t.c.many,.v (str t.c.name),.v (str t.c.s),.v (.bool t.c.neg),I t.c.e]
abbrev s5(t:Tm):Value:=.agg #[i64 t.op,i64 t.many,str t.name,str t.s,i64 t.n,i64 t.c.kind,i64 t.c.many,str t.c.name,str t.c.s,.bool t.c.neg,i64 t.c.e]
abbrev GO(t:Tm):XV:=.ag [I t.op,I t.many,.v (str t.name),.v (str t.s),I t.n,I t.c.kind,I t.c.many,.v (str t.c.name),.v (str t.c.s),.v (.bool t.c.neg),I t.c.e]
theorem Af9(t:Tm)(w:World)(M:Mem)(K:Sat w M)(hg:Gl w)(L:t.small):Calls prog 262 [s5 t].toArray w λ e w'=>e= .returned (.bool (I1 t))/\Ext w w':=by
 obtain⟨N,O,F⟩:=L
 refine AH (Hr:=[]) AF func262 U ntmps262 [] [] [GO t] U (Aj K) A4 (λ B P=>BP 1 U U U λ A=>BA 3 U zeroValue52 U λ C=>CP 1 (λ s=> ∃(ok:Bool) (y:Tm),IH t=(ok,y)/\s=⟨[],[(1,.box A (L8 t) 52),(3,.box C (L8 y) 52)],[Z 1 (.bx 1 A 0),Z 3 (.bx 3 C 0),Z 4 (.v (.bool ok))]⟩) U U (λ h0=>?_) (λ h0=>?_) ?_) U
 ·simp only[zb]at h0
  exact AW _ U U ⟨_,CC t,by unfold IH;rw[if_pos h0],rfl⟩
 ·simp only[zb]at h0
  refine A1 U (λ h1=>?_) (λ h1=>?_)<;>simp only[zb]at h1
  ·exact AW _ U U ⟨_,{ CC t with n:=t.n},by unfold IH;rw[if_neg h0,if_pos h1],rfl⟩
  refine A1 U (λ j=>?_) (λ j=>?_)<;>simp only[zb]at j
  ·exact DI [5,7] 3 (λ _ _ _ _ _ h=>h) U BM Ac <|AK 5 U U U <|AD U <|AK 7 U U U <|AD U <|BN U U U <|AJ U call285 U U (λ _ w M E=>Af8 t.n t.c w M E.st.sat (hg.low E.st.low) F) U <|AW _ U U ⟨_,{ CC t with n:=t.n,c:=t.c},by unfold IH;rw[if_neg h0,if_neg h1,if_pos j],rfl⟩
  refine A1 U (λ q=>?_) (λ q=>?_)<;>simp only[zb]at q
  ·exact AW _ U U ⟨_,{ CC t with n:=t.n},by unfold IH;rw[if_neg h0,if_neg h1,if_neg j,if_pos q],rfl⟩
  refine A1 U (λ D=>?_) (λ D=>?_)<;>simp only[zb]at D
  ·exact AW _ U U ⟨_,CC t,by unfold IH;rw[if_neg h0,if_neg h1,if_neg j,if_neg q,if_pos D],rfl⟩
  refine CP 0 (λ s=> ∃b:Bool,(b=true↔(t.op=3\/t.op=5\/t.op=6))/\s=⟨[],[(1,.box A (L8 t) 52),(3,.box C (L8 (CC t)) 52)],[Z 1 (.bx 1 A 0),Z 3 (.bx 3 C 0),Z 4 (.v (.bool false)),Z 15 (I t.op),Z 81 (.v (.bool b))]⟩) U U (λ z=>?_) (λ z=>?_) ?_
  ·exact AW _ U U ⟨_,by simp only[zb]at z ⊢;omega,rfl⟩
  ·exact A1 U (λ G=>AW _ U U ⟨_,by simp only[zb]at G ⊢;omega,rfl⟩) (λ G=>AW _ U U ⟨_,by simp only[zb]at z G ⊢;omega,rfl⟩)
  rintro _ ⟨b,i,rfl⟩
  refine A1 U (λ k=>?_) (λ k=>?_)
  ·exact AW _ U U ⟨_,CC t,by unfold IH;rw[if_neg h0,if_neg h1,if_neg j,if_neg q,if_neg D,if_pos (i.1 k)],rfl⟩
  have l: ¬(t.op=3\/t.op=5\/t.op=6):=λ e=>by have:=i.2 e;rw[k]at this;cases this
  clear i k
  refine CP 0 (λ s=> ∃b:Bool,(b=true↔(t.op=7\/t.op=8))/\s=⟨[],[(1,.box A (L8 t) 52),(3,.box C (L8 (CC t)) 52)],[Z 1 (.bx 1 A 0),Z 3 (.bx 3 C 0),Z 4 (.v (.bool false)),Z 88 (.v (.bool b))]⟩) U U (λ z=>?_) (λ z=>?_) ?_
  ·exact AW _ U U ⟨_,by simp only[zb]at z ⊢;omega,rfl⟩
  ·exact AW _ U U ⟨_,by simp only[zb]at z ⊢;omega,rfl⟩
  rintro _ ⟨b,i,rfl⟩
  refine A1 U (λ k=>?_) (λ k=>?_)
  ·exact AS [] (λ u:Value=>.tu [.sl 6 u,.v (.bool (HH t.s).2)]) [6] (λ _=>[]) (Fg:=λ u=>[(1,kn u 3 (HH t.s).1 Sp.cells)]) U U call264 U U (λ w M hS hF=>rY t.s hS hg Aa) λ u _=>AW _ U U ⟨_,{ CC t with s:=t.s},by unfold IH;rw[if_neg h0,if_neg h1,if_neg j,if_neg q,if_neg D,if_neg l,if_pos (i.1 k)],rfl⟩
  have H: ¬(t.op=7\/t.op=8):=λ e=>by have:=i.2 e;rw[k]at this;cases this
  exact AW _ U U ⟨_,CC t,by unfold IH;rw[if_neg h0,if_neg h1,if_neg j,if_neg q,if_neg D,if_neg l,if_neg H],rfl⟩
 rintro _ ⟨ok,y,J,rfl⟩
 refine AU (.v (.bool (decide (t=y)))) U U (λ w M E=>PV.bin (A8 (v:=GO t) U) (A8 (v:=GO y) U) (λ _ w _=>OI _ _ _ _ w)) <|A2 P U U U λ w M E=>⟨?_,E.st.low⟩
 unfold I1;rw[J];rfl
end Go.Proofs.YtnoegalemkbbbaaGreatDoor
namespace Go.Eng
def QJ(t:Tm):List Tf->Bool
 |[x]=>if t.op=7\/t.op=8 then(BK (HH t.s).1 x).2 else true
 |_=>if t.op=7\/t.op=8 then false else true
def QK(o:Int)(n:A0):List Tf->Bool
 |[]=>true
 |y::_=> !(decide (o=2)&&decide (y.t.name<=n))
mutual
def CX:Tf->Bool
 | .mk t ps=>I1 { t with many:=len ps}&&FD t.op ps&&QJ t ps
def FD(o:Int):List Tf->Bool
 |[]=>true
 |x::l=>(decide (x.t.op=9)==decide (o=1))&&(decide (o=2)||decide (x.t.name=[]))&&Lib.validD x.t.name&&CX x&&QK o x.t.name l&&FD o l
end
def QL(t:Tf):Bool:=CX t&&decide (t.t.name=[])&&decide (t.t.op≠9)
theorem gK(u:Tf):CX u=(I1 { u.t with many:=len u.ps}&&FD u.t.op u.ps&&QJ u.t u.ps):=by cases u;rw[CX];rfl
theorem D9.skip {f:Fl}{i:Int}{u:Tf}{us:List Tf}{R:Fl}(h:D9 f i (u::us) R):D9 f (i+len u.flat) us R:=by
 have h0:=h.1
 have hl:=A9 u.flat
 refine⟨Aa,?_⟩
 rw[show(i+len u.flat).toNat=i.toNat+u.flat.length by unfold len at*;omega,<-List.drop_drop,h.2]
 show(u.flat++AO us++R).drop _=_
 rw[List.append_assoc,List.drop_left]
theorem D9.Ag0 {f:Fl}{i:Int}{u:Tf}{us:List Tf}{R:Fl}(h:D9 f i (u::us) R):Eng.sub f i (i+len u.flat)=u.flat:=by
 have h0:=h.1
 have hl:=A9 u.flat
 unfold Eng.sub
 rw[h.2,show(i+len u.flat).toNat-i.toNat=u.flat.length by unfold len at*;omega]
 show(u.flat++AO us++R).take _=_
 rw[List.append_assoc,List.take_left]
theorem drop_cons{us:List Tf}{k:Nat}(b:k<us.length):us.drop k=at' us (k:Int)::us.drop (k+1):=by
 obtain⟨h1,e⟩:=CG us (i:=(k:Int)) Aa (by unfold len;omega)
 rw[e,List.drop_eq_getElem_cons b];simp
theorem s6{a b:A0}(h:Op.bytesLess a b=true\/a=b):a<=b:=by
 rcases h with h|h
 ·rw[Go.Proofs.bytesLess_eq,decide_eq_true_eq]at h;exact List.le_of_lt h
 ·rw[h];exact List.le_refl _
theorem s7{a b:A0}(h1:Op.bytesLess a b=false)(e: ¬a=b): ¬a<=b:=λ h=>by
 rw[Go.Proofs.bytesLess_eq,decide_eq_false_iff_not]at h1
 exact e (List.le_antisymm h (List.not_lt.1 h1))
theorem Ag1{t:Tm}(h:I1 t=true)(ho:t.op=7\/t.op=8):t.many=1:=by
 unfold I1 IH at h
 rw[if_neg Aa,if_neg Aa,if_neg Aa,if_neg Aa,if_neg Aa,if_neg Aa,if_pos ho]at h
 simp only[Bool.and_eq_true,beq_iff_eq]at h
 exact h.1.2
theorem Ag2{o:Int}{x:Tf}{l:List Tf}(h: ¬(x.t.op==9)=(o==1)):FD o (x::l)=false:=by
 rw[FD]
 have e:(decide (x.t.op=9)==decide (o=1))=false:=by
  rw[beq_eq_false_iff_ne];intro q;exact h q
 rw[e];rfl
theorem Ag3{o:Int}{x:Tf}{l:List Tf}(h:(¬o=2/\ ¬x.t.name=[])\/Lib.validD x.t.name=false):FD o (x::l)=false:=by
 rw[FD]
 rcases h with⟨h1,b⟩|h
 ·have e:decide (o=2)=false:=by simpa using h1
  have e2:decide (x.t.name=[])=false:=by simpa using b
  rw[e,e2];simp
 ·rw[h];simp
theorem Ag4{o:Int}{x:Tf}{l:List Tf}(h:CX x=false):FD o (x::l)=false:=by rw[FD,h];simp
theorem Ag5{o:Int}{x y:Tf}{l:List Tf}(h:o=2)(b:y.t.name<=x.t.name):FD o (x::y::l)=false:=by
 rw[FD]
 have e:QK o x.t.name (y::l)=false:=by unfold QK;simp[h,b]
 rw[e];simp
theorem Ag6{o:Int}{x:Tf}{l:List Tf}(h1:(x.t.op==9)=(o==1))(b:o=2\/x.t.name=[])(e:Lib.validD x.t.name=true)(h:CX x=true)(i:QK o x.t.name l=true):FD o (x::l)=FD o l:=by
 conv=>lhs;rw[FD]
 have j:(decide (x.t.op=9)==decide (o=1))=true:=by rw[beq_iff_eq];exact h1
 have e2:(decide (o=2)||decide (x.t.name=[]))=true:=by simpa using b
 rw[j,e2,e,h,i];simp
end Go.Eng
namespace Go.Proofs.YtnoegalemkbbbaaGreatDoor
open Go.Proofs.Tryz
open Go.Eng
theorem Ag7: ∀(n:Nat) (u:Tf),u.flat.length<=n-> ∀ {w0 wv:World} {M0 M:Mem} {Rs:List HO} (v:Value) (f:Fl) (i:Int) (us:List Tf) (R:Fl),St w0 M0 wv M Rs->Gl w0->(A7 v f).ok M->D9 f i (u::us) R->i<=len f->QI f->len f<=1099511627776->
    Calls prog 238 [v,i64 i].toArray wv (BJ w0 M0 M Rs (λ _:Unit=>.tuple #[i64 (if CX u=true then i+len u.flat else 0),.bool (CX u)]) (λ _=>True) (λ _=>[]) λ _=>[]):=by
 intro n
 induction n with
 |zero=>intro u hu;have:=u.EE;unfold len at this;omega
 |succ n ih=>
 intro u hun w0 wv M0 M Rs v f i us R hS hg hl W hif X hb
 obtain⟨hi1,hq,H⟩:=W.step
 have hi0:=W.1
 have hln:len u.ps=(u.ps.length:Int):=rfl
 have hule:=W.KY hif
 have hfu:AO (u::us)=u.flat++AO us:=rfl
 rw[hfu,AQ]at hule
 have hR0:=A9 R
 have hus0:=A9 (AO us)
 have hpg:=JS u.ps
 have hul:len u.flat=1+len (AO u.ps):=by rw[Tf.FI,AM];omega
 have hqm:(at' f i).many=len u.ps:=by rw[hq]
 have A:(at' f i).op=u.t.op:=by rw[hq]
 have hqs:(at' f i).s=u.t.s:=by rw[hq]
 have hsq:(at' f i).small:=X _ (R2 hi0 hi1)
 have C:CX u=(I1 (at' f i)&&FD u.t.op u.ps&&QJ u.t u.ps):=by rw[hq,gK]
 refine AH (Hr:=Rs) AF func238 U ntmps238 [(0,A7 v f)] [] [.sl 0 v,I i] U hS (AG hl A4) (λ B hB=>AJ U call262 U U (λ _ w M b=>Af9 (at' f i) w M b.st.sat (hg.low b.st.low) hsq) U ?_) U
 refine A1 U (λ O=>?_) (λ O=>?_)<;>simp only[zb]at O
 ·refine A2 hB U U U λ w M' b=>⟨(),M',?_,trivial,b.le,b.B9 [] U,A4⟩
  have e:CX u=false:=by
   rw[C]
   rcases O with(h|h)|h
   · omega
   · rw[h];rfl
   · omega
  rw[e];rfl
 have hpl:=O.1.2
 rw[hpl,Bool.true_and]at C
 refine BA 6 U zeroValue52 U λ b6=>B5 (σ:=Int×Nat) (λ(j,k)=>⟨[(0,A7 v f)],[(6,.box b6 (L8 (at' f i)) 52)],[Z 0 (.sl 0 v),Z 1 (I j),Z 6 (.bx 6 b6 0),Z 7 (I i),Z 46 (I (at' f i).many),Z 47 (I k)]⟩) (λ(j,k)=>D9 f j (u.ps.drop k++us) R/\k<=u.ps.length/\j<=len f/\FD u.t.op u.ps=FD u.t.op (u.ps.drop k)) (λ(j,k)=>u.ps.length-k) (i+1,0) U U ⟨H,Nat.zero_le _,Aa,rfl⟩ ?_
 rintro⟨j,k⟩ ⟨hj,hk,hjl,D⟩
 have hj0:=hj.1
 refine A1 U (λ hb2=>?_) (λ hb2=>?_)<;>simp only[zb]at hb2
 ·have hk2:k<u.ps.length:=by omega
  have hdc:=drop_cons hk2
  rw[hdc]at hj D
  obtain⟨x,hx⟩: ∃x,x=at' u.ps (k:Int):=⟨_,rfl⟩
  rw[<-hx]at hj D hdc
  have P:D9 f j (x::(u.ps.drop (k+1)++us)) R:=hj
  obtain⟨hj1,hjq,_⟩:=P.step
  have Q:(at' f j).name=x.t.name:=by rw[hjq]
  have hjo:(at' f j).op=x.t.op:=by rw[hjq]
  have hsx:(at' f j).small:=X _ (R2 hj0 hj1)
  refine G4 U BM Ac <|G5 U ?_
  refine A1 U (λ J=>?_) (λ J=>?_)<;>simp only[zb]at J
  ·refine A2 hB U U U λ w M' b=>⟨(),M',?_,trivial,b.le,b.st.drop _ (List.sublist_append_right [_] _),A4⟩
   have e:CX u=false:=by
    rw[C,D,Ag2 (by rw[hjo,A]at J;exact J.resolve_left Aa)];rfl
   rw[e];rfl
  have h1:=J.2
  rw[hjo,A]at h1
  refine AJ U call263 U U (λ _ w M b=>qY (at' f j).name w (hg.low b.st.low) (by have:=hsx.name;omega)) U ?_
  refine A1 U (λ E=>?_) (λ E=>?_)<;>simp only[zb]at E
  ·refine A2 hB U U U λ w M' b=>⟨(),M',?_,trivial,b.le,b.st.drop _ (List.sublist_append_right [_] _),A4⟩
   have e:CX u=false:=by
    rw[C,D,Ag3 (by rw[Q,A]at E;exact E)];rfl
   rw[e];rfl
  rw[Q,A]at E
  have hxm:x∈u.ps:=by rw[hx];exact R2 Aa Aa
  have hxl:=nO hxm
  have hxp:=x.EE
  obtain⟨z,hz⟩: ∃z,z=if CX x=true then j+len x.flat else 0:=⟨_,rfl⟩
  have hz0:0<=z:=by rw[hz];split<;>omega
  refine AS [] (λ _:Unit=>.tu [I z,.v (.bool (CX x))]) [] (λ _=>[]) (Fg:=λ _=>[]) (pu:=λ _=>True) U U call238 U U (hu:=λ _=>rfl) (hH:=λ _=>rfl) (λ w M hS hF=>by rw[hz];exact ih x (by unfold len at*;omega) v f j (u.ps.drop (k+1)++us) R hS hg (hF.get (k:=0) U) P Aa X hb) λ _ _=>?_
  have K:=P.skip
  have hjs2:=P.KY Aa
  have hfx:AO (x::(u.ps.drop (k+1)++us))=x.flat++AO (u.ps.drop (k+1)++us):=rfl
  rw[hfx,AQ]at hjs2
  have hfn:=A9 (AO (u.ps.drop (k+1)++us))
  refine A1 U (λ L=>?_) (λ L=>?_)<;>simp only[zb]at L
  ·refine A2 hB U U U λ w M' b=>⟨(),M',?_,trivial,b.le,b.st.drop _ (List.sublist_append_right [_] _),A4⟩
   have e:CX u=false:=by
    cases F:CX x with
    |false=>rw[C,D,Ag4 F];rfl
    |true=>
     rw[F,if_pos U]at hz
     rcases L with h|⟨⟨h2,h3⟩,h4⟩
     · rw[F]at h;cases h
     · have hk3:k+1<u.ps.length:=by omega
       have hd2:=drop_cons hk3
       rw[hd2]at K
       have N:=K.step
       rw[<-hz]at N
       have hle:(at' u.ps ((k+1:Nat):Int)).t.name<=x.t.name:=by
        rcases h4 with h|h
        · omega
        · rw[N.2.1,Q]at h;exact s6 h
       rw[C,D,hd2,Ag5 (by rw[<-A];exact h2) hle];rfl
   rw[e];rfl
  ·have F:CX x=true:=L.1
   rw[F,if_pos U]at hz
   refine AX (z,k+1) U U ⟨by rw[hz];exact K,hk2,Aa,?_⟩ (by show u.ps.length-(k+1)<u.ps.length-k;omega)
   rw[D]
   refine Ag6 h1 (by rcases Decidable.em (u.t.op=2)with h|h;exact .inl h;exact .inr (Decidable.byContradiction λ q=>(E.1.resolve_left h)|>λ r=>q r)) E.2 F ?_
   cases hd:u.ps.drop (k+1)with
   |nil=>rfl
   |cons y l=>
    have hk3:k+1<u.ps.length:=by
     rcases Nat.lt_or_ge (k+1) u.ps.length with h|h
     · exact h
     · rw[List.drop_of_length_le h]at hd;cases hd
    rw[hd]at K
    have N:=K.step
    rw[<-hz]at N
    have hy:y=at' u.ps ((k+1:Nat):Int):=by rw[drop_cons hk3]at hd;exact(List.cons.inj hd).1.symm
    unfold QK
    rcases L.2 with h|⟨_,h4,h5⟩
    · rcases h with h|h
      · rw[A]at h;simp[h]
      · omega
    · rw[N.2.1,Q]at h4 h5
      have:=s7 h4 h5
      simp only[Bool.not_eq_true',Bool.and_eq_false_iff,decide_eq_false_iff_not]
      exact .inr this
 ·have hke:k=u.ps.length:=by omega
  subst hke
  rw[List.drop_length]at hj D
  have hj3:D9 f j us R:=hj
  have hjl2:=hj3.KY hjl
  have hje:j=i+len u.flat:=by omega
  have hkt:FD u.t.op u.ps=true:=by rw[D];rfl
  rw[hkt,Bool.true_and]at C
  refine A1 U (λ G=>?_) (λ G=>?_)<;>simp only[zb]at G
  ·rw[A]at G
   have S:=Ag1 hpl (by rw[A];exact G)
   obtain⟨x,hx⟩: ∃x,u.ps=[x]:=by
    match hps:u.ps,hqm with
    |[],h=>rw[h]at S;cases S
    |[x],_=>exact⟨x,rfl⟩
    |_::_::l,h=>rw[h]at S;simp only[AM]at S;have:=A9 l;omega
   have hul2:len u.flat=1+len x.flat:=by rw[hul,hx];show 1+len (x.flat++AO [])=_;simp[AO]
   rw[hx]at H
   have hat2:D9 f (i+1) (x::us) R:=H
   have V:=hat2.Ag0
   rw[show i+1+len x.flat=j by omega]at V
   have hxl:=A9 x.flat
   have hrl:=VN (at' f i).s
   refine AS [] (λ u:Value=>.tu [.sl 9 u,.v (.bool (HH (at' f i).s).2)]) [9] (λ _=>[]) (Fg:=λ u=>[(1,kn u 3 (HH (at' f i).s).1 Sp.cells)]) U U call264 U U (λ w M hS hF=>rY (at' f i).s hS hg (by have:=hsq.s;omega)) λ u9 _=>FO (gd:=none) 8 (i+1) j U U U ⟨.i64,_,rfl,AE U⟩ ⟨.i64,_,rfl,AE U⟩ underlying25 sizeOf52 Aa U λ v8=>?_
   rw[V]
   refine AS [] (λ _:Unit=>.tu [I (BK (HH (at' f i).s).1 x).1,.v (.bool (BK (HH (at' f i).s).1 x).2)]) [] (λ _=>[]) (Fg:=λ _=>[]) (pu:=λ _=>True) U U call134 U U (λ w M hS hF=>Z8 (HH (at' f i).s).1 v8 u9 x hS (hF.get (k:=8) U) (hF.get (k:=9) U) Aa (by show len (C8 (at' f i).s).1<=_;omega)) λ _ _=>?_
   have hwl:CX u=(BK (HH (at' f i).s).1 x).2:=by
    rw[C,hx,hqs]
    show(if u.t.op=7\/u.t.op=8 then(BK (HH u.t.s).1 x).2 else true)=_
    rw[if_pos G]
   refine A1 U (λ T=>?_) (λ T=>?_)<;>simp only[zb]at T
   ·refine A2 hB U U U λ w M' b=>⟨(),M',?_,trivial,b.le,b.st.drop _ (List.sublist_append_right [_] _),A4⟩
    rw[hwl,T];rfl
   ·refine A2 hB U U U λ w M' b=>⟨(),M',?_,trivial,b.le,b.st.drop _ (List.sublist_append_right [_] _),A4⟩
    rw[hwl,T,if_pos U,<-hje];rfl
  ·refine A2 hB U U U λ w M' b=>⟨(),M',?_,trivial,b.le,b.st.drop _ (List.sublist_append_right [_] _),A4⟩
   have e:CX u=true:=by
    rw[C]
    rw[A]at G
    unfold QJ
    split
    · rw[if_neg Aa]
    · rw[if_neg Aa]
   rw[e,if_pos U,<-hje];rfl
theorem Ag8{w:World}{M:Mem}(v:Value)(x:Tf)(l:Sat w M)(hg:Gl w)(hl:Sl M 11 x.flat.length v (x.flat.flatMap Tm.cells))(y:len x.flat<=16777217)(b:QI x.flat):
   Calls prog 205 [v].toArray w λ e w'=>e= .returned (.bool (QL x))/\Ext w w':=by
 have j:=x.EE
 have i:D9 x.flat 0 [x] []:=⟨Aa,by show x.flat=(x.flat++AO [])++[];simp[AO]⟩
 have n:=x.S9
 refine AH (Hr:=[]) AF func205 U ntmps205 [(0,A7 v x.flat)] [] [.sl 0 v] U (Aj l) (AG ⟨hl,Tm.AV,trivial⟩ A4) (λ B q=>AS [] (λ _:Unit=>.tu [I (if CX x=true then 0+len x.flat else 0),.v (.bool (CX x))]) [] (λ _=>[]) (Fg:=λ _=>[]) (pu:=λ _=>True) U U call238 U U (λ w M hS hF=>Ag7 _ x (Nat.le_refl _) v x.flat 0 [] [] hS hg (hF.get (k:=0) U) i Aa b Aa) λ _ _=>A2 q U U U λ w M s=>⟨?_,s.st.low⟩) U
 suffices e:QL x=(CX x&&(if CX x=true then 0+len x.flat else 0)==len x.flat&&(at' x.flat 0).name==[]&&(at' x.flat 0).op != 9) by rw[e];rfl
 unfold QL
 rw[n]
 cases h:CX x with
 |false=>rfl
 |true=>
  rw[if_pos U,Int.zero_add]
  simp only[Bool.true_and,beq_self_eq_true]
  congr 1
  ·rw[Bool.eq_iff_iff,beq_iff_eq];simp
  ·rw[Bool.eq_iff_iff,bne_iff_ne];simp
end Go.Proofs.YtnoegalemkbbbaaGreatDoor
namespace Go.Eng
open Go.RowKit
def At(s:A0)(i:Int)(u:A0):Prop:=0<=i/\i<=len s/\A5 s i=u
theorem At.add {s:A0}{i:Int}{u r:A0}(h:At s i (u++r)):At s (i+len u) r:=by
 obtain⟨h0,h1,b⟩:=h
 have hl:=ED s i h0 h1
 rw[b,AQ]at hl
 have e:=A9 u;have j:=A9 r
 refine⟨Aa,Aa,?_⟩
 rw[<-KE s i (len u) h0 e,b]
 unfold A5 len;simp
theorem At.one {s:A0}{i:Int}{c:UInt8}{r:A0}(h:At s i (c::r)):At s (i+1) r:=At.add (u:=[c]) h
theorem At.lt {s:A0}{i:Int}{c:UInt8}{r:A0}(h:At s i (c::r)):i<len s:=by
 have hl:=ED s i h.1 h.2.1
 rw[h.2.2,AM]at hl
 have:=A9 r;omega
theorem At.byte {s:A0}{i:Int}{c:UInt8}{r:A0}(h:At s i (c::r)):A3 s i=(c.toNat:Int):=by
 obtain⟨b,h1,e⟩:=KB s i h.1 h.lt
 rw[h.2.2]at h1
 rw[e,(List.cons.inj h1).1]
def gL(r:A0):Prop:= ∀c r',r=c::r'->M9 c=false
theorem At.blank {s:A0}{i:Int}{b r:A0}(h:At s i (b++r))(n: ∀c∈b,M9 c=true)(e:gL r):E6 s i=i+len b:=by
 unfold E6
 rw[h.2.2]
 have:(b++r).takeWhile M9=b:=by
  induction b with
  |nil=>
   cases r with
   |nil=>rfl
   |cons c r=>rw[List.nil_append,List.takeWhile_cons,e c r U];rfl
  |cons a b q=>
   rw[List.cons_append,List.takeWhile_cons,n a List.mem_cons_self]
   show a::_=_
   have key: ∀(b r:A0),(∀c∈b,M9 c=true)->gL r->(b++r).takeWhile M9=b:=by
    intro b
    induction b with
    |nil=>intro r _ e;cases r with|nil=>rfl|cons c r=>rw[List.nil_append,List.takeWhile_cons,e c r rfl];rfl
    |cons a b k=>intro r j e;rw[List.cons_append,List.takeWhile_cons,j a List.mem_cons_self,if_pos rfl,k r (λ c l=>j c (List.mem_cons_of_mem _ l)) e]
   rw[key b r (λ c l=>n c (List.mem_cons_of_mem _ l)) e]
 rw[this]
theorem At.BJ3 {s:A0}{i:Int}{r:A0}(h:At s i r)(e:gL r):E6 s i=i:=by
 have:=At.blank (b:=[]) h (λ c j=>by cases j) e
 rw[len_nil]at this;omega
def VO(m:A0)(i:Int):Tk:=⟨1,m,C0,i⟩
def VP(m:A0)(i:Int):Tk:=⟨2,m,C0,i⟩
theorem Ag9{c:UInt8}(b:c∈([40,41,91,93,123,125,58,44,124]:A0))(u:A0):C4 (c::u)=(⟨1,[c],C0,0⟩,1,0):=by
 have key: ∀c∈([40,41,91,93,123,125,58,44,124]:A0),(c.toNat:Int)≠46/\EP (c::u)=[c]:=by
  intro c b
  simp only[List.mem_cons,List.not_mem_nil,or_false]at b
  rcases b with rfl|rfl|rfl|rfl|rfl|rfl|rfl|rfl|rfl<;>exact⟨Ab,rfl⟩
 obtain⟨h1,e⟩:=key c b
 unfold C4
 rw[G8,if_neg (λ h=>h1 h.1),if_neg (λ h=>h1 h.1),e,if_pos (by simp)]
 rfl
theorem s8{w u:A0}(hw:w≠[])(h0: ∀j:Int,0<=j->j<len w->CK (A3 w j) (j==0)=true)(hu: ∀c r,u=c::r->CK (c.toNat:Int) false=false):BC (w++u)=w:=by
 have hl:=HQ hw
 have i:=A9 u
 have e:CZ (w++u) 0=len w:=by
  refine SJ (n:=len w) (by rw[AQ];omega) (λ j h1 b=>by rw[IU h1 b];exact h0 j h1 b) (λ h=>?_) 0 (Int.le_refl _) Aa
  rw[oT (Int.le_refl _),Int.sub_self]
  cases u with
  |nil=>rw[AQ,len_nil]at h;omega
  |cons c r=>rw[G8];rw[show(len w==0)=false from by simpa using(by omega:len w≠0)];exact hu c r U
 unfold BC
 rw[e,VC]
theorem Ah0{c:UInt8}{w u:A0}(h0: ∀j:Int,0<=j->j<len (c::w)->CK (A3 (c::w) j) (j==0)=true)(hu: ∀c r,u=c::r->CK (c.toNat:Int) false=false):C4 (c::w++u)=(⟨2,c::w,C0,0⟩,len (c::w),0):=by
 have hw:=s8 (u:=u) (List.cons_ne_nil c w) h0 hu
 have hl:F3 (c.toNat:Int)=true:=by
  have:=h0 0 (Int.le_refl _) (by rw[AM];have:=A9 w;omega)
  rw[G8]at this
  unfold CK at this;simpa using this
 have i:=fB hl
 have hm:EP (c::(w++u))=[]:=QD i
 have b: ¬(c.toNat:Int)=46:=by
  intro e
  have:c=46:=UInt8.toNat_inj.1 (by rw[show(46:UInt8).toNat=46 from rfl];omega)
  subst this;exact absurd i Ab
 unfold C4
 rw[List.cons_append,G8,if_neg (λ h=>b h.1),if_neg (λ h=>b h.1),hm,if_neg (by simp)]
 rw[<-List.cons_append,hw,if_pos (by simp)]
theorem Lx.at {s:A0}{i:Int}{u r:A0}{t:Tk}{l:List Tk}(h:At s i (u++r))(hu:u≠[])(b:C4 (u++r)=(t,len u,0))(hl:Lx s (E6 s (i+len u)) l):Lx s i ({ t with pos:=i}::l):=by
 have h1:=(At.add h).2.1
 have j:=HQ hu
 have e:=h.1
 refine .step (n:=len u) e Aa ?_ hl
 rw[h.2.2];exact b
def TA(l:List Tk)(j:Int)(u:List Tk):Prop:=0<=j/\A5 l j=u
theorem TA.add {l:List Tk}{j:Int}{u r:List Tk}(h:TA l j (u++r)):TA l (j+len u) r:=by
 obtain⟨h0,b⟩:=h
 have e:=A9 u
 refine⟨Aa,?_⟩
 rw[<-KE l j (len u) h0 e,b]
 unfold A5 len;simp
theorem TA.at {l:List Tk}{j:Int}{t:Tk}{r:List Tk}(h:TA l j (t::r)):at' l j=t:=by
 obtain⟨h0,h1⟩:=h
 unfold at'
 have b:(l.drop j.toNat)[0]? =some t:=by
  have:A5 l j=l.drop j.toNat:=rfl
  rw[<-this,h1];rfl
 rw[List.getElem?_drop,Nat.add_zero]at b
 rw[List.getD_eq_getElem?_getD,b];rfl
theorem TA.CJ {l:List Tk}{j:Int}{t:Tk}{r:List Tk}(h:TA l j (t::r))(m:A0):CJ l j m=(t.kind==1&&t.s==m):=by unfold Eng.CJ;rw[h.at]
end Go.Eng
namespace Go.Proofs.YtnoegalemkbbbaaGreatDoor
open Go.Proofs.Tryz
open Go.Eng
end Go.Proofs.YtnoegalemkbbbaaGreatDoor
namespace Go.Eng
def Sm{α:Type}(b:Bool)(o:Int)(r r':PR α):Prop:=
 (∀x j,r= .ok x j->r'= .ok x (j+o)\/(b=true/\ ∃p,r'= .er 3 p))/\(b=false-> ∀p,r= .er 3 p-> ∃p',r'= .er 3 p')
theorem Sm.ok {α:Type}{b:Bool}{o:Int}{x:α}{j i:Int}(h:i=j+o):Sm b o (.ok x j) (.ok x i):=
 ⟨λ y k e=>(by cases e;subst h;exact .inl rfl),λ _ p e=>(by cases e)⟩
theorem Sm.fail {α:Type}{b:Bool}{o:Int}{l:List Tk}{i:Int}{r':PR α}:Sm b o (JR l i 1) r':=
 ⟨λ y k e=>(by cases e),λ _ p e=>(by cases e)⟩
theorem Sm.bind {α β:Type}{b:Bool}{o:Int}{r r':PR α}{k k':α->Int->PR β}(h:Sm b o r r')(q: ∀x j,r= .ok x j->Sm b o (k x j) (k' x (j+o))):Sm b o (r.bind k) (r'.bind k'):=by
 cases r with
 |er c p=>
  refine⟨λ y m e=>(by cases e),λ n p2 e=>?_⟩
  have e2:PR.er (α:=α) c p= .er 3 p2:=by cases e;rfl
  obtain⟨s,i⟩:=h.2 n p2 e2
  exact⟨s,by rw[i];rfl⟩
 |ok x j=>
  rcases h.1 x j rfl with i|⟨n,p,i⟩
  ·rw[i];exact q x j U
  ·rw[i];exact⟨λ y m e=>.inr ⟨n,p,rfl⟩,λ l=>by rw[n]at l;cases l⟩
structure Vw (l l':List Tk) (o:Int):Prop where
 eq: ∀i,0<=i->i<len l->(at' l i).kind≠6->(at' l' (i+o)).kind=(at' l i).kind/\(at' l' (i+o)).s=(at' l i).s/\(at' l' (i+o)).c=(at' l i).c
 en: ∀i,0<=i->i<len l->(at' l i).kind=6->(at' l' (i+o)).kind=6\/((at' l' (i+o)).kind=1/\(at' l' (i+o)).s=[41])
 few:l.length<=l'.length
section
variable {l l':List Tk} {o:Int} (hl:SB l) (v:Vw l l' o) {b:Bool} {i:Int} (h0:0<=i) (h1:i<len l)
include v h0 h1
theorem Vw.CJ {m:A0}(hm:m≠[41]):CJ l' (i+o) m=CJ l i m:=by
 unfold Go.Eng.CJ
 by_cases h:(at' l i).kind=6
 ·have j:((at' l i).kind==1)=false:=by rw[h];rfl
  rw[j,Bool.false_and]
  rcases v.en i h0 h1 h with b|⟨b,k⟩
  ·have:((at' l' (i+o)).kind==1)=false:=by rw[b];rfl
   rw[this,Bool.false_and]
  ·have:((at' l' (i+o)).s==m)=false:=by rw[k,beq_eq_false_iff_ne];exact λ e=>hm e.symm
   rw[this,Bool.and_false]
 ·obtain⟨j,b,_⟩:=v.eq i h0 h1 h
  rw[j,b]
theorem Vw.VQ {m:A0}(hm:Go.Eng.CJ l i m=true):Go.Eng.CJ l' (i+o) m=true:=by
 have h:(at' l i).kind≠6:=λ e=>by unfold Go.Eng.CJ at hm;rw[e]at hm;simp at hm
 obtain⟨b,j,_⟩:=v.eq i h0 h1 h
 unfold Go.Eng.CJ at hm ⊢
 rw[b,j];exact hm
theorem Vw.kind {k:Int}(j:k≠1/\k≠6):((at' l' (i+o)).kind=k)=((at' l i).kind=k):=by
 by_cases h:(at' l i).kind=6
 ·rw[h]
  rcases v.en i h0 h1 h with b|⟨b,_⟩
  ·rw[b]
  ·rw[b];exact propext ⟨λ e=>(j.1 e.symm).elim,λ e=>(j.2 e.symm).elim⟩
 ·rw[(v.eq i h0 h1 h).1]
theorem Vw.tok {k:Int}(b:k≠6)(h:(at' l i).kind=k):(at' l' (i+o)).kind=k/\(at' l' (i+o)).s=(at' l i).s/\(at' l' (i+o)).c=(at' l i).c:=by
 have:=v.eq i h0 h1 (by rw[h];exact b)
 rw[h]at this;exact this
theorem Sm.QM {m:A0}:Sm b o (HC l i m) (HC l' (i+o) m):=by
 unfold HC
 by_cases h:Go.Eng.CJ l i m=true
 ·rw[if_pos h,if_pos (v.VQ h0 h1 h)];exact .ok Aa
 ·rw[if_neg h];exact .fail
theorem Sm.op {m:A0}{d k:Int}(hd:b=false->d=k):Sm b o (KW l d i m) (KW l' k (i+o) m):=by
 unfold KW
 by_cases h:Go.Eng.CJ l i m=true
 ·have q:=v.VQ h0 h1 h
  rw[h,q,Bool.true_and,Bool.true_and]
  by_cases h6:64<=d
  ·rw[if_pos (decide_eq_true h6)]
   refine⟨λ x j e=>(by cases e),λ n p e=>?_⟩
   rw[<-hd n,if_pos (decide_eq_true h6)];exact⟨_,rfl⟩
  ·rw[if_neg (by simpa using h6)]
   by_cases h7:64<=k
   ·rw[if_pos (decide_eq_true h7)]
    cases b with
    |true=>exact⟨λ x j e=>.inr ⟨rfl,_,rfl⟩,λ n=>(by cases n)⟩
    |false=>exact(h6 (by rw[hd U];exact h7)).elim
   ·rw[if_neg (by simpa using h7)];exact Sm.QM v h0 h1
 ·have s:Go.Eng.CJ l i m=false:=by simpa using h
  rw[s,Bool.false_and,if_neg (by simp)]
  unfold HC;rw[if_neg h];exact .fail
theorem Sm.whole:Sm b o (ND l i) (ND l' (i+o)):=by
 by_cases h:(at' l i).kind=5
 ·obtain⟨k,_,j⟩:=v.tok h0 h1 Ab h
  have e:V1 (at' l' (i+o))=V1 (at' l i):=by unfold V1;rw[j]
  unfold ND
  rw[k,h,j,e]
  split
  ·exact .fail
  ·split
   ·exact .fail
   ·exact .ok Aa
 ·unfold ND;rw[if_pos (.inl h)];exact .fail
include hl
end
section
variable {l l':List Tk} {o:Int} (hl:SB l) (v:Vw l l' o) (b:Bool) (q:A0->A0)
end
abbrev s9:List A0:=[[41],[93],[125],[44]]
structure Vy (l l':List Tk) (o:Int):Prop where
 eq: ∀i,0<=i->i<len l->(at' l i).kind≠6->(at' l' (i+o)).kind=(at' l i).kind/\(at' l' (i+o)).s=(at' l i).s/\(at' l' (i+o)).c=(at' l i).c
 en: ∀i,0<=i->i<len l->(at' l i).kind=6->(at' l' (i+o)).kind=6\/((at' l' (i+o)).kind=1/\(at' l' (i+o)).s∈s9)
 few:l.length<=l'.length
section
variable {l l':List Tk} {o:Int} (hl:SB l) (v:Vy l l' o) {b:Bool} {i:Int} (h0:0<=i) (h1:i<len l)
include v h0 h1
theorem Vy.CJ {m:A0}(hm:m ∉ s9):CJ l' (i+o) m=CJ l i m:=by
 unfold Go.Eng.CJ
 by_cases h:(at' l i).kind=6
 ·have j:((at' l i).kind==1)=false:=by rw[h];rfl
  rw[j,Bool.false_and]
  rcases v.en i h0 h1 h with b|⟨b,k⟩
  ·have:((at' l' (i+o)).kind==1)=false:=by rw[b];rfl
   rw[this,Bool.false_and]
  ·have:((at' l' (i+o)).s==m)=false:=by rw[beq_eq_false_iff_ne];exact λ e=>hm (e▸k)
   rw[this,Bool.and_false]
 ·obtain⟨j,b,_⟩:=v.eq i h0 h1 h
  rw[j,b]
theorem Vy.VQ {m:A0}(hm:Go.Eng.CJ l i m=true):Go.Eng.CJ l' (i+o) m=true:=by
 have h:(at' l i).kind≠6:=λ e=>by unfold Go.Eng.CJ at hm;rw[e]at hm;simp at hm
 obtain⟨b,j,_⟩:=v.eq i h0 h1 h
 unfold Go.Eng.CJ at hm ⊢
 rw[b,j];exact hm
theorem Vy.kind {k:Int}(j:k≠1/\k≠6):((at' l' (i+o)).kind=k)=((at' l i).kind=k):=by
 by_cases h:(at' l i).kind=6
 ·rw[h]
  rcases v.en i h0 h1 h with b|⟨b,_⟩
  ·rw[b]
  ·rw[b];exact propext ⟨λ e=>(j.1 e.symm).elim,λ e=>(j.2 e.symm).elim⟩
 ·rw[(v.eq i h0 h1 h).1]
theorem Vy.tok {k:Int}(b:k≠6)(h:(at' l i).kind=k):(at' l' (i+o)).kind=k/\(at' l' (i+o)).s=(at' l i).s/\(at' l' (i+o)).c=(at' l i).c:=by
 have:=v.eq i h0 h1 (by rw[h];exact b)
 rw[h]at this;exact this
theorem Sy.QM {m:A0}:Sm b o (HC l i m) (HC l' (i+o) m):=by
 unfold HC
 by_cases h:Go.Eng.CJ l i m=true
 ·rw[if_pos h,if_pos (v.VQ h0 h1 h)];exact .ok Aa
 ·rw[if_neg h];exact .fail
theorem Sy.op {m:A0}{d k:Int}(hd:b=false->d=k):Sm b o (KW l d i m) (KW l' k (i+o) m):=by
 unfold KW
 by_cases h:Go.Eng.CJ l i m=true
 ·have q:=v.VQ h0 h1 h
  rw[h,q,Bool.true_and,Bool.true_and]
  by_cases h6:64<=d
  ·rw[if_pos (decide_eq_true h6)]
   refine⟨λ x j e=>(by cases e),λ n p e=>?_⟩
   rw[<-hd n,if_pos (decide_eq_true h6)];exact⟨_,rfl⟩
  ·rw[if_neg (by simpa using h6)]
   by_cases h7:64<=k
   ·rw[if_pos (decide_eq_true h7)]
    cases b with
    |true=>exact⟨λ x j e=>.inr ⟨rfl,_,rfl⟩,λ n=>(by cases n)⟩
    |false=>exact(h6 (by rw[hd U];exact h7)).elim
   ·rw[if_neg (by simpa using h7)];exact Sy.QM v h0 h1
 ·have s:Go.Eng.CJ l i m=false:=by simpa using h
  rw[s,Bool.false_and,if_neg (by simp)]
  unfold HC;rw[if_neg h];exact .fail
end
section
variable {l l':List Tk} {o:Int} (hl:SB l) (v:Vy l l' o) {b:Bool}
include hl v
omit hl in
theorem Sy.kind {m i:Int}(h0:0<=i)(h1:i<len l):Sm b o (Q6 l m i) (Q6 l' m (i+o)):=by
 unfold Q6
 by_cases h:(at' l i).kind=2
 ·obtain⟨e,j,_⟩:=v.tok h0 h1 Ab h
  rw[e,j,h]
  split
  ·exact .ok Aa
  ·exact .fail
 ·rw[if_neg (λ q=>h q.1)];exact .fail
end
open Go.RowKit
section iW
variable {a b:A0}
theorem sA(v:A0): ∀u:A0,E6 (u++v) 0=if E6 u 0<len u then E6 u 0 else len u+E6 v 0
 |[]=>by rw[AU7,len_nil];simp
 |x::u=>by
  rw[List.cons_append]
  have hl:=A9 u
  cases hx:O5 (x.toNat:Int)with
  |true=>
   have:=sA v u
   rw[pO hx,pO hx,this,AM]
   by_cases h:E6 u 0<len u
   ·rw[if_pos h,if_pos Aa]
   ·rw[if_neg h,if_neg Aa];omega
  |false=>rw[pP hx,pP hx,if_pos (by rw[AM];omega)]
def Ah1(k:Int)(t:Tk):Tk:= { t with pos:=k+t.pos}
end iW
section bH
variable {p s q:A0}
abbrev QN(p s q:A0):A0:=p++(s++q)
theorem Ah2:len (QN p s q)=len p+len s+len q:=by rw[AQ,AQ];omega
theorem gM{i:Int}(h0:0<=i)(h1:i<=len s):A5 (QN p s q) (len p+i)=A5 s i++q:=by
 rw[<-KE _ (len p) i (A9 p) h0,VB,AS5 h0 h1]
abbrev VR(p s q:A0):Int:=E6 (QN p s q) (len p+len s)
theorem Ah3:VR p s q=len p+len s+E6 q 0:=by
 have hp:=A9 p;have hs:=A9 s
 unfold VR
 rw[fL Aa,gM hs (Int.le_refl _),show A5 s (len s)=[]from PX s _ (Int.le_refl _),List.nil_append]
theorem Ah4{k:Int}(h0:0<=k)(h1:k<=len s):E6 (QN p s q) (len p+k)=if E6 s k<len s then len p+E6 s k else VR p s q:=by
 have hp:=A9 p
 have hl:=ED s k h0 h1
 rw[Ah3,fL Aa,gM h0 h1,sA,fL (s:=s) h0,hl]
 by_cases h:E6 (A5 s k) 0<len s-k
 ·rw[if_pos h,if_pos Aa];omega
 ·rw[if_neg h,if_neg Aa];omega
theorem Ah5(b:q=[]\/KG (A3 q 0)=true){i n:Int}{t:Tk}(h0:0<=i)(h1:i<len s)(h:C4 (A5 s i)=(t,n,0)):C4 (A5 (QN p s q) (len p+i))=(t,n,0):=by
 obtain⟨u,v,e,j,hu,_,_,k⟩:=AU8 h0 h1 h
 rw[gM h0 Aa,e,List.append_assoc,<-j]
 refine fD hu k ?_
 cases v with
 |nil=>
  rcases b with rfl|b
  ·exact .inl U
  ·cases q with
   |nil=>exact .inl U
   |cons c r=>exact .inr (.inl ⟨by simp,b⟩)
 |cons c r=>exact .inr (.inr ⟨by simp,by simp,rfl⟩)
theorem Lx.bH (b:q=[]\/KG (A3 q 0)=true){m:List Tk}(hm:Lx (QN p s q) (VR p s q) m){i:Int}{l:List Tk}(h:Lx s i l):Lx (QN p s q) (if i<len s then len p+i else VR p s q) (l.map (Ah1 (len p))++m):=by
 have hp:=A9 p
 induction h with
 |done h0 h1=>rw[if_neg h1];exact hm
 | @step i n t l h0 h1 h _ ih=>
  have e:=YW h0 h1 h
  rw[if_pos h1]
  refine Lx.step (t:=t) (n:=n) Aa (by rw[Ah2];have:=A9 q;omega) (Ah5 b h0 h1 h) ?_
  rw[show len p+i+n=len p+(i+n)from by omega,Ah4 Aa e.2.1];exact ih
end bH
def Er{α:Type}(r:PR α):Prop:= ∀c p,r= .er c p->c≠0
theorem Er.ok {α:Type}{x:α}{j:Int}:Er (.ok x j):=λ c p e=>by cases e
theorem Er.fail {α:Type}{l:List Tk}{i e:Int}(he:e≠0):Er (JR l i e:PR α):=λ c p h=>by cases h;exact he
theorem Er.bind {α β:Type}{r:PR α}{k:α->Int->PR β}(h:Er r)(b: ∀x j,Er (k x j)):Er (r.bind k):=by
 cases r with
 |er c p=>exact λ i l e=>by cases e;exact h c p rfl
 |ok x j=>exact b x j
theorem Er.QM {l:List Tk}{i:Int}{m:A0}:Er (HC l i m):=by unfold HC;split;exact .ok;exact .fail Ab
theorem Er.op {l:List Tk}{d i:Int}{m:A0}:Er (KW l d i m):=by unfold KW;split;exact .fail Ab;exact .QM
theorem Er.whole {l:List Tk}{i:Int}:Er (ND l i):=by unfold ND;split;exact .fail Ab;split;exact .fail Ab;exact .ok
theorem Er.lit {l:List Tk}{i:Int}:Er (dY l i):=by
 unfold dY;split
 ·exact .ok
 ·split
  ·exact .ok
  ·split
   ·exact .ok
   ·exact .fail Ab
theorem Ah6{s:A0}{t:Tk}{n:Int}(h:C4 s=(t,n,0)):t.kind≠6:=by
 unfold C4 at h
 repeat' split at h
 all_goals simp only[Prod.mk.injEq]at h
 all_goals obtain⟨h1,b,e⟩:=h
 all_goals subst h1
 all_goals first|(simp;done)|(simp[dW];done)
theorem Lx.kind {s:A0}{i:Int}{l:List Tk}(h:Lx s i l): ∀t∈l,t.kind≠6:=by
 induction h with
 |done=>intro t b;cases b
 |step _ _ b _ e=>
  intro t hm
  rcases List.mem_cons.1 hm with rfl|hm
  ·have j:=Ah6 b;exact j
  ·exact e t hm
theorem sB{α:Type}[Inhabited α](A B:List α){i:Int}(h0:0<=i):at' (A++B) (i+len A)=at' B i:=by
 have b:(i+len A).toNat=i.toNat+A.length:=by unfold len;omega
 unfold at'
 rw[List.getD_eq_getElem?_getD,List.getD_eq_getElem?_getD,b,List.getElem?_append_right Aa,Nat.add_sub_cancel]
theorem Er.kind {l:List Tk}{m i:Int}:Er (Q6 l m i):=by unfold Q6;split;exact .ok;exact .fail Ab
theorem Er.kinds {l:List Tk}: ∀(f:Nat) (m i:Int),Er (Y7 f l m i)
 |0,_,_=>.fail Ab
 |f+1,m,i=>by
  unfold Y7;split
  ·exact Er.kind.bind λ _ _=>Er.kinds f _ _
  ·exact .ok
section
variable {rt:Tf->Bool} {L B:List Tk} {n m:Int} {e:Tk} {p0 p1 p2 p3 p4 p5 p6 p7:Int}
end
section
variable {rt:Tf->Bool}
theorem TA.part (A l r:List Tk):TA (A++(l++r)) (len A+len l) r:=by
 have h1:TA (A++(l++r)) 0 (A++(l++r)):=⟨Int.le_refl 0,rfl⟩
 have b:=(TA.add h1).add
 rw[Int.zero_add]at b;exact b
end
theorem sC{α:Type}(y x:List α)(z:α):(y++x).set (len y).toNat z=y++x.set 0 z:=by
 rw[show(len y).toNat=y.length+0 by unfold len;omega,List.set_append_right _ _ Aa];simp
theorem sD{α:Type}[Inhabited α](y x:List α):at' (y++x) (len y)=at' x 0:=by
 have:=sB y x (i:=0) (Int.le_refl 0)
 rw[Int.zero_add]at this;exact this
end Go.Eng
namespace Go.Proofs.YtnoegalemkbbbaaGreatDoor
open Go.Proofs.Tryz
open Go.Eng
theorem sE{α:Type}[Inhabited α](a:List α){k:Int}(h0:0<=k)(h1:k<len a):Eng.sub a 0 (k+1)=Eng.sub a 0 k++[at' a k]:=sub_succ a k h0 h1
theorem Ah7(M:Mem)(a b:Fl)(q s:Value)(w:World)(G:Sat w M)(F:Sl M 11 a.length q (a.flatMap Tm.cells))(H:Sl M 11 b.length s (b.flatMap Tm.cells)):
    Calls prog 14 [q,s].toArray w λ e w'=>e= .returned (.bool (decide (a=b)))/\Ext w w':=by
 have J:len a<=9223372036854775807:=F.le
 refine AH (Hr:=[]) AF func14 U ntmps14 [(0,A7 q a),(1,A7 s b)] [] [.sl 0 q,.sl 1 s] U (Aj G) (fc 0 F Tm.AV (fc 1 H Tm.AV A4)) (λ B A=>?_) U
 refine A1 U (λ i=>?_) (λ i=>?_)<;>simp only[zb]at i
 ·exact A2 A U U U λ w M y=>⟨by rw[decide_eq_false (λ e=>i (by rw[e]))];rfl,y.st.low⟩
 refine B5 (λ k:Int=>⟨[(0,A7 q a),(1,A7 s b)],[],[Z 0 (.sl 0 q),Z 1 (.sl 1 s),Z 5 (I k)]⟩) (λ k=>0<=k/\k<=len a/\Eng.sub a 0 k=Eng.sub b 0 k) (λ k=>(len a-k).toNat) 0 U U ⟨Aa,by have:=A9 a;omega,rfl⟩ ?_
 rintro k ⟨z,K,j⟩
 refine A1 U (λ l=>?_) (λ l=>?_)<;>simp only[zb]at l
 ·have C:k<len b:=by omega
  refine DI [8] 2 (λ _ _ _ _ _ h=>h) U BM Ac <|AK 8 U U U <|AU (.v (.bool (!decide (at' a k=at' b k)))) U U (λ w M y=>PV.bin (A8 (v:=GO (at' a k)) U) (A8 (v:=GO (at' b k)) U) (λ _ w _=>AH2 _ _ _ _ w)) <|AD U <|BN U U U <|A1 U (λ n=>?_) (λ n=>?_)
  ·have D: ¬at' a k=at' b k:=by simpa[zb]using n
   exact A2 A U U U λ w M y=>⟨by rw[decide_eq_false (λ e=>D (by rw[e]))];rfl,y.st.low⟩
  ·have heq:at' a k=at' b k:=by simpa[zb]using n
   exact AX (k+1) U U ⟨Aa,Aa,by rw[sE a z l,sE b z C,j,heq]⟩ Ag
 ·have E:a=b:=by rw[O6 a k Aa,O6 b k Aa]at j;exact j
  exact A2 A U U U λ w M y=>⟨by rw[decide_eq_true E];rfl,y.st.low⟩
theorem gN{x y:Fl}(h:x=y)(M:Mem)(b i:Value)(w:World)(j:Sat w M)(k:Sl M 11 x.length b (x.flatMap Tm.cells))(l:Sl M 11 y.length i (y.flatMap Tm.cells)):
  Calls prog 14 [b,i].toArray w λ e w'=>e= .returned (.bool true)/\Ext w w':=
 (Ah7 M x y b i w j k l).mono λ e w' q=>by rw[decide_eq_true h]at q;exact q
theorem Ah8{w0 J:World}{M0 M:Mem}{Rs:List HO}(t:Tm)(h:Value)(ns:List A0)(v:Value)(hs:List AI)(xs:List Fl)(hS:St w0 M0 J M Rs)(L:Sl M 1 ns.length h (ns.flatMap D7))(hu:(C6 v hs xs).ok M)(A: ∀x∈xs,x≠[])(W:len xs.flatten<=100000000000)(X:len hs<=1048576):
  Calls prog 25 [.agg t.cells.toArray,h,v].toArray J (MK w0 M0 M Rs ({ t with many:=len xs}::(FC ns xs).flatten)):=by
 have C:=Y9 hu
 have N:=A9 hs
 have O:=A9 ns
 rw[<-C]
 refine AH (Hr:=Rs) AF func25 U ntmps25 [(0,C6 v hs xs),(1,kn h 1 ns D7)] [] [.ag (EO t.cells),.sl 1 h,.sl 0 v] U hS (AG hu (fc 1 L DN A4)) (λ B P=>BP 3 U U U λ b=>IM 7 [{ t with many:=len hs}] Tm.cells 11 52 Tm.AV U U Ah U λ u=>?_) U
 refine B5 (σ:=Int×Value×Fl) (λ(k,u,y)=>⟨[(0,C6 v hs xs),(1,kn h 1 ns D7)],[(7,DV u y)],[Z 1 (.sl 1 h),Z 2 (.sl 0 v),Z 7 (.sl 7 u),Z 8 (I k)]⟩)
   (λ(k,u,y)=>0<=k/\k<=len hs/\y= { t with many:=len hs}::(FC ns (Eng.sub xs 0 k)).flatten) (λ(k,u,y)=>(len hs-k).toNat) (0,u,[{ t with many:=len hs}]) U U ⟨Aa,Aa,rfl⟩ ?_
 rintro⟨k,u,y⟩ ⟨h0,h1,n⟩
 refine A1 U (λ i=>?_) (λ i=>?_)<;>simp only[zb]at i
 ·have D:=A _ (at_mem (l:=xs) h0 Aa)
  have Q:=HQ D
  have R:len y=1+len (HV xs k):=by
   have:=gI ns (Eng.sub xs 0 k)
   rw[n,AM,this]
   have e:Eng.sub xs 0 k=xs.take k.toNat:=by unfold Eng.sub;simp
   rw[e];unfold HV;omega
  have E:=V5 (xs:=xs) h0 Aa
  have F:=S7 xs (k+1)
  have S:=A9 (HV xs k)
  rw[E,AQ]at F
  refine CH U Ad Aa <|DS 2 (A7 (at' hs k).v (at' xs k)) (λ w M q=>F9 (q.f.get (k:=0) U) h0 i) (KR 28 2 U ?_)
  refine IB 120 U U U underlying25 type52 U U Tm.cells_one Aa λ v'=>CH U Ad Ae <|KR 38 2 U <|CP 1 (λ s=> ∃z:Fl,z=y++HK ns k (at' xs k)/\s=⟨[(0,C6 v hs xs),(1,kn h 1 ns D7)],[(7,DV v' z)],[Z 1 (.sl 1 h),Z 2 (.sl 0 v),Z 7 (.sl 7 v'),Z 8 (I k)]⟩) U U (λ j=>?_) (λ j=>?_) ?_
  ·simp only[zb]at j
   have K:len (y++at' xs k)=len y+len (at' xs k):=AQ _ _
   refine BA 10 U zeroValue52 U λ T=>HU { at' (y++at' xs k) (len y)with name:=at' ns k} rfl U U sizeOf52 U U U Aa λ z G=>AW _ U U ⟨z,?_,rfl⟩
   rw[G,sC,sD];unfold HK;rw[if_pos Aa]
  ·simp only[zb]at j
   exact AW _ U U ⟨_,by unfold HK;rw[if_neg Aa],rfl⟩
  rintro s ⟨z,G,rfl⟩
  refine AX (k+1,v',z) U U ⟨Aa,Aa,?_⟩ Ag
  have H:len (Eng.sub xs 0 k)=k:=by unfold Eng.sub;unfold len at*;rw[List.length_take,List.length_drop];simp only[Int.toNat_zero];omega
  rw[FT h0 Aa,gH,H,G,n]
  simp
 have V:k=len hs:=by omega
 rw[G7 Aa]at n
 subst n
 exact A2 P U U U λ w M' q=>VL ⟨u,M',rfl,trivial,q.le,q.st,A4⟩
end Go.Proofs.YtnoegalemkbbbaaGreatDoor
namespace Go.Eng
def I2(s:A0):List Sp×Bool:=((ER s).1,(ER s).2.2==0&& !((ER s).1.any λ x=>x.part))
def ZA(n:Int)(c:Nd):Bool:=decide (0<=n)&&decide (n<=5)&&(decide (c.kind<5)&&(decide (c.name=[])&&decide (c.many=0)&&GA c))
def JY(t:Tm):Bool×Tm:=
 if t.op=0 then(t.many==0,CC t)
 else if t.op=1 then(decide (0<=t.many)&&decide (1<=t.n)&&decide (t.n<=31),{ CC t with n:=t.n})
 else if t.op=9 then(t.many==0&&ZA t.n t.c,{ CC t with n:=t.n,c:=t.c})
 else if t.op=2 then(decide (0<=t.many)&&(t.n==0||t.n==1),{ CC t with n:=t.n})
 else if t.op=4 then(decide (0<=t.many),CC t)
 else if t.op=3\/t.op=5\/t.op=6 then(t.many==1,CC t)
 else if t.op=7\/t.op=8 then(t.many==1&&(I2 t.s).2,{ CC t with s:=t.s})
 else(false,CC t)
def H3(t:Tm):Bool:=decide (t=(JY t).2)&&(JY t).1
def NL(m:Int)(f:Fl):Bool:=decide (len f<=m)&&f.all λ t=>decide (len t.s<=100)&&decide (len t.name<=100)&&decide (len t.c.s<=100)
end Go.Eng
namespace Go.Proofs.YtnoegalemkbbbaaGreatDoor
open Go.Proofs.Tryz
open Go.Eng
theorem gO(f:Fl)(v:Value)(i:Int)(M:Mem)(w:World)(n:Sat w M)(s:Sl M 11 f.length v (f.flatMap Tm.cells))(E:len f<=1048576)(h0:0<=i)(h1:i<=1048576):
    Calls prog 64 [v,i64 i].toArray w λ e w'=>e= .returned (i64 (GZ f i))/\Ext w w':=by
 have y:=A9 f
 refine AH (Hr:=[]) AF func64 U ntmps64 [(0,A7 v f)] [] [.sl 0 v,I i] U (Aj n) (fc 0 s Tm.AV A4) (λ B h=>B5 (σ:=Nat×Int×Int) (λ(g,o,j)=>⟨[(0,A7 v f)],[],[Z 0 (.sl 0 v),Z 1 (I j),Z 5 (I o)]⟩) (λ(g,o,j)=>HZ g f o j=GZ f i/\len f+2<=g+j/\i<=j/\(o=1/\j=i\/j<=len f)/\o<=1+(j-i)*1048576/\0<=o) (λ(g,o,j)=>(len f-j).toNat) (f.length+2,1,i) U U ⟨rfl,by unfold len;omega,Aa,.inl ⟨rfl,rfl⟩,Aa,Aa⟩ ?_) U
 rintro⟨g,o,j⟩ ⟨hg,z,F,A,ho,C⟩
 refine A1 U (λ k=>?_) (λ k=>?_)<;>simp only[zb]at k
 ·refine A1 U (λ l=>?_) (λ l=>?_)<;>simp only[zb]at l
  ·have D:GZ f i= -1:=by
    rw[<-hg]
    cases g with
    |zero=>rfl
    |succ g=>rw[HZ,if_neg Aa,if_pos Aa]
   refine A2 h U U U λ w M b=>⟨?_,b.st.low⟩
   rw[D];rfl
  ·obtain⟨g,rfl⟩: ∃q,g=q+1:=⟨g-1,Aa⟩
   rw[HZ,if_neg Aa,if_neg Aa]at hg
   exact AX (g,o-1+(at' f j).many,j+1) U U ⟨hg,Aa,Aa,.inr Aa,Aa,Aa⟩ Ag
 ·obtain⟨g,rfl⟩: ∃q,g=q+1:=⟨g-1,Aa⟩
  rw[fU Aa]at hg
  refine A2 h U U U λ w M b=>⟨?_,b.st.low⟩
  rw[<-hg];rfl
theorem Ah9(l:List Sp)(v:Value)(M:Mem)(w:World)(q:Sat w M)(hl:Sl M 3 l.length v (l.flatMap Sp.cells))(y:len l<=1099511627776):
    Calls prog 126 [v].toArray w λ e w'=>e= .returned (.bool (!(l.any λ x=>x.part)))/\Ext w w':=by
 have s:=A9 l
 refine AH (Hr:=[]) AF func126 U ntmps126 [(0,kn v 3 l Sp.cells)] [] [.sl 0 v] U (Aj q) (fc 0 hl Sp.AV A4) (λ B n=>B5 (σ:=Int) (λ k=>⟨[(0,kn v 3 l Sp.cells)],[],[Z 0 (.sl 0 v),Z 3 (I k)]⟩) (λ k=>0<=k/\k<=len l/\ ∀x∈Eng.sub l 0 k,x.part≠true) (λ k=>(len l-k).toNat) 0 rfl rfl ⟨Aa,Aa,λ x hx=>by cases hx⟩ ?_) U
 intro k ⟨h0,h1,h⟩
 refine A1 U (λ b=>?_) (λ b=>?_)<;>simp only[zb]at b
 ·refine A1 U (λ i=>?_) (λ i=>?_)
  ·refine A2 n U U U λ w M j=>⟨?_,j.st.low⟩
   rw[List.any_eq_true.2 ⟨at' l k,at_mem h0 b,i⟩];rfl
  ·exact AX (k+1) U U ⟨Aa,Aa,λ x hx=>by
    rw[FT h0 b]at hx
    rcases List.mem_append.1 hx with hx|hx
    ·exact h x hx
    ·rw[List.mem_singleton.1 hx,i];decide⟩ Aa
 ·rw[G7 Aa]at h
  refine A2 n U U U λ w M j=>⟨?_,j.st.low⟩
  have e:(l.any λ x=>x.part)=false:=by
   rw[List.any_eq_false];intro x hx;exact h x hx
  rw[e];rfl
theorem sF: ∀(f:Nat) (s:A0) (p:List Sp) (i:Int),len (GM f s p i).1<=len p+f
 |0,s,p,i=>by rw[GM];show len p<=_;omega
 |f+1,s,p,i=>by
  rw[GM]
  split
  ·show len p<=_;omega
  ·have:=sF f s (p++[(DL s i p.isEmpty).1]) (DL s i p.isEmpty).2
   rw[AQ,AM,len_nil]at this
   push_cast;omega
theorem sG(s:A0):len (ER s).1<=20:=by
 have h:=sF 20 s [] 0
 rw[len_nil]at h
 have b:len (EZ s 0).1<=20:=by
  unfold EZ
  split
  ·show len ([]:List Sp)<=20;decide
  ·omega
 unfold ER
 split
 ·exact b
 split
 ·show len ([]:List Sp)<=20;decide
 split
 ·show len ([]:List Sp)<=20;decide
 ·exact b
theorem sH{e:World}{M:Mem}(s:A0)(hS:Sat e M)(h:len s<=1048576):
  Calls prog 67 [str s].toArray e (N5 e M (λ v:Value=>.tuple #[v,.bool (I2 s).2]) (λ _=>True) (λ v=>[(0,kn v 3 (I2 s).1 Sp.cells)])):=by
 have hl:=sG s
 exact AH AF func67 U ntmps67 [] [] [.v (str s)] U (Aj hS) A4 (λ B i=>EW (λ v:Value=>.tu [.sl 1 v,I (ER s).2.1,I (ER s).2.2]) [1] U U call82 U (λ w M b=>qP s b.st.sat h) λ v _=>AJ U call126 U U (λ _ w M b=>Ah9 (ER s).1 v M w b.st.sat (b.sl 1 U) Aa) U <|A2 i U U U λ w M b=>⟨v,M,rfl,trivial,b.st.done,fc 0 (b.sl 1 U) Sp.AV A4⟩) U
theorem sI(c:Nd)(w:World)(M:Mem)(k:Sat w M)(l:len c.s<=1048576):
   Calls prog 99 [EV c].toArray w λ e w'=>e= .returned (.bool (decide (c.kind<5)&&(decide (c.name=[])&&decide (c.many=0)&&GA c)))/\Ext w w':=AH (Hr:=[]) AF func99 U ntmps99 [] [] [D3 c] U (Aj k) A4 (λ B j=>BP 1 U U U λ n=>EX (.v (.slice none 0 0)) U U (λ b=>BF 2 [c] Nd.cells 6 46 Nd.AV U U (hE1:=M6 b U) Ah U λ v2=>AJ U call37 U U (λ _ w M i=>qX c v2 M w i.st.sat (i.sl 2 U) Aa) U <|A2 j U U U λ w M i=>⟨rfl,i.st.low⟩) (λ b=>EX (.v (.bool false)) U U (λ h=>absurd (b.symm.trans h) Ab) (λ _=>A2 j U U U λ w M i=>⟨by rw[b];rfl,i.st.low⟩))) U
theorem Ai0(n:Int)(c:Nd)(w:World)(M:Mem)(h:Sat w M)(i:len c.s<=1048576):
  Calls prog 124 [.agg (i64 n::c.cells).toArray].toArray w λ e w'=>e= .returned (.bool (ZA n c))/\Ext w w':=AH (Hr:=[]) AF func124 U ntmps124 [] [] [.ag [I n,I c.kind,I c.many,.v (str c.name),.v (str c.s),.v (.bool c.neg),I c.e]] U (Aj h) A4 (λ B j=>BP 1 U U U λ k=>AJ U call99 U U (λ _ w M b=>sI c w M b.st.sat i) U <|A2 j U U U λ w M b=>⟨rfl,b.st.low⟩) U
theorem Ai1(t:Tm)(w:World)(M:Mem)(J:Sat w M)(E:len t.s<=1048576)(F:len t.c.s<=1048576):Calls prog 65 [s5 t].toArray w λ e w'=>e= .returned (.bool (H3 t))/\Ext w w':=by
 refine AH (Hr:=[]) AF func65 U ntmps65 [] [] [GO t] U (Aj J) A4 (λ B j=>BP 1 U U U λ C=>BA 3 U zeroValue52 U λ D=>?_) U
 refine A1 U (λ h0=>?_) (λ h0=>?_)<;>simp only[zb]at h0
 ·refine AU (.v (.bool (decide (t=CC t)))) U U (λ w M h=>PV.bin (A8 (v:=GO t) U) (A8 (v:=GO (CC t)) U) (λ _ w _=>OI _ _ _ _ w)) <|A2 j U U U λ w M h=>⟨?_,h.st.low⟩
  unfold H3 JY;rw[if_pos h0];rfl
 refine A1 U (λ h1=>?_) (λ h1=>?_)<;>simp only[zb]at h1
 ·refine AU (.v (.bool (decide (t= { CC t with n:=t.n})))) U U (λ w M h=>PV.bin (A8 (v:=GO t) U) (A8 (v:=GO { CC t with n:=t.n}) U) (λ _ w _=>OI _ _ _ _ w)) <|A2 j U U U λ w M h=>⟨?_,h.st.low⟩
  unfold H3 JY;rw[if_neg h0,if_pos h1];simp only[<-Bool.and_assoc];rfl
 refine A1 U (λ k=>?_) (λ k=>?_)<;>simp only[zb]at k
 ·refine AU (.v (.bool (decide (t= { CC t with n:=t.n,c:=t.c})))) U U (λ w M h=>PV.bin (A8 (v:=GO t) U) (A8 (v:=GO { CC t with n:=t.n,c:=t.c}) U) (λ _ w _=>OI _ _ _ _ w)) <|AJ U call124 U U (λ _ w M h=>Ai0 t.n t.c w M h.st.sat F) U <|A2 j U U U λ w M h=>⟨?_,h.st.low⟩
  unfold H3 JY;rw[if_neg h0,if_neg h1,if_pos k];simp only[<-Bool.and_assoc];rfl
 refine A1 U (λ y=>?_) (λ y=>?_)<;>simp only[zb]at y
 ·refine AU (.v (.bool (decide (t= { CC t with n:=t.n})))) U U (λ w M h=>PV.bin (A8 (v:=GO t) U) (A8 (v:=GO { CC t with n:=t.n}) U) (λ _ w _=>OI _ _ _ _ w)) <|A2 j U U U λ w M h=>⟨?_,h.st.low⟩
  unfold H3 JY;rw[if_neg h0,if_neg h1,if_neg k,if_pos y];simp only[<-Bool.and_assoc];rfl
 refine A1 U (λ A=>?_) (λ A=>?_)<;>simp only[zb]at A
 ·refine AU (.v (.bool (decide (t=CC t)))) U U (λ w M h=>PV.bin (A8 (v:=GO t) U) (A8 (v:=GO (CC t)) U) (λ _ w _=>OI _ _ _ _ w)) <|A2 j U U U λ w M h=>⟨?_,h.st.low⟩
  unfold H3 JY;rw[if_neg h0,if_neg h1,if_neg k,if_neg y,if_pos A];rfl
 refine CP 0 (λ s=> ∃b:Bool,(b=true↔(t.op=3\/t.op=5\/t.op=6))/\s=⟨[],[(1,.box C (L8 t) 52),(3,.box D (L8 (CC t)) 52)],[Z 1 (.bx 1 C 0),Z 3 (.bx 3 D 0),Z 14 (I t.op),Z 105 (.v (.bool b))]⟩) U U (λ z=>?_) (λ z=>?_) ?_
 ·exact AW _ U U ⟨_,by simp only[zb]at z ⊢;omega,rfl⟩
 ·exact A1 U (λ G=>AW _ U U ⟨_,by simp only[zb]at G ⊢;omega,rfl⟩) (λ G=>AW _ U U ⟨_,by simp only[zb]at z G ⊢;omega,rfl⟩)
 rintro _ ⟨b,i,rfl⟩
 refine A1 U (λ l=>?_) (λ l=>?_)
 ·refine AU (.v (.bool (decide (t=CC t)))) U U (λ w M h=>PV.bin (A8 (v:=GO t) U) (A8 (v:=GO (CC t)) U) (λ _ w _=>OI _ _ _ _ w)) <|A2 j U U U λ w M h=>⟨?_,h.st.low⟩
  unfold H3 JY;rw[if_neg h0,if_neg h1,if_neg k,if_neg y,if_neg A,if_pos (i.1 l)];rfl
 have q: ¬(t.op=3\/t.op=5\/t.op=6):=λ e=>by have:=i.2 e;rw[l]at this;cases this
 clear i l
 refine CP 0 (λ s=> ∃b:Bool,(b=true↔(t.op=7\/t.op=8))/\s=⟨[],[(1,.box C (L8 t) 52),(3,.box D (L8 (CC t)) 52)],[Z 1 (.bx 1 C 0),Z 3 (.bx 3 D 0),Z 117 (.v (.bool b))]⟩) U U (λ z=>?_) (λ z=>?_) ?_
 ·exact AW _ U U ⟨_,by simp only[zb]at z ⊢;omega,rfl⟩
 ·exact AW _ U U ⟨_,by simp only[zb]at z ⊢;omega,rfl⟩
 rintro _ ⟨b,i,rfl⟩
 refine A1 U (λ l=>?_) (λ l=>?_)
 ·refine EW (λ v:Value=>.tu [.sl 6 v,.v (.bool (I2 t.s).2)]) [6] U U call67 U (λ w M h=>sH t.s h.st.sat E) λ v _=>AU (.v (.bool (decide (t= { CC t with s:=t.s})))) U U (λ w M h=>PV.bin (A8 (v:=GO t) U) (A8 (v:=GO { CC t with s:=t.s}) U) (λ _ w _=>OI _ _ _ _ w)) <|A2 j U U U λ w M h=>⟨?_,h.st.low⟩
  unfold H3 JY;rw[if_neg h0,if_neg h1,if_neg k,if_neg y,if_neg A,if_neg q,if_pos (i.1 l)];simp only[<-Bool.and_assoc];rfl
 have H: ¬(t.op=7\/t.op=8):=λ e=>by have:=i.2 e;rw[l]at this;cases this
 refine A2 j U U U λ w M h=>⟨?_,h.st.low⟩
 have e:H3 t=false:=by unfold H3 JY;rw[if_neg h0,if_neg h1,if_neg k,if_neg y,if_neg A,if_neg q,if_neg H,Bool.and_false]
 rw[e];rfl
theorem Ai2(f:Fl)(v:Value)(m:Int)(M:Mem)(w:World)(y:Sat w M)(n:Sl M 11 f.length v (f.flatMap Tm.cells))(hm:0<=m/\m<=1048576):
    Calls prog 75 [v,i64 m].toArray w λ e w'=>e= .returned (.bool (NL m f))/\Ext w w':=by
 have z:=A9 f
 have hle:len f<=9223372036854775807:=n.le
 refine AH (Hr:=[]) AF func75 U ntmps75 [(0,A7 v f)] [] [.sl 0 v,I m] U (Aj y) (fc 0 n Tm.AV A4) (λ B q=>B5 (σ:=Int) (λ k=>⟨[(0,A7 v f)],[],[Z 0 (.sl 0 v),Z 1 (I m),Z 5 (I k)]⟩) (λ k=>0<=k/\k<=len f/\k<=m/\ ∀t∈Eng.sub f 0 k,len t.s<=100/\len t.name<=100/\len t.c.s<=100) (λ k=>(len f-k).toNat) 0 rfl rfl ⟨Aa,Aa,Aa,λ x hx=>by cases hx⟩ ?_) U
 intro k ⟨h0,h1,A,b⟩
 refine A1 U (λ h=>?_) (λ h=>?_)<;>simp only[zb]at h
 ·refine A1 U (λ i=>?_) (λ i=>?_)<;>simp only[zb]at i
  ·refine A2 q U U U λ w M j=>⟨?_,j.st.low⟩
   have e:NL m f=false:=by
    unfold NL
    rw[Bool.and_eq_false_iff]
    by_cases hm2:m<=k
    ·left;simp;omega
    ·right
     rw[List.all_eq_false]
     refine⟨at' f k,at_mem h0 h,?_⟩
     simp only[Bool.and_eq_true,decide_eq_true_eq]
     rintro⟨⟨C,D⟩,E⟩
     omega
   rw[e];rfl
  ·exact AX (k+1) U U ⟨Aa,Aa,Aa,λ x hx=>by
    rw[FT h0 h]at hx
    rcases List.mem_append.1 hx with hx|hx
    ·exact b x hx
    ·rw[List.mem_singleton.1 hx];omega⟩ Aa
 ·rw[G7 Aa]at b
  refine A2 q U U U λ w M j=>⟨?_,j.st.low⟩
  have e:NL m f=true:=by
   unfold NL
   rw[Bool.and_eq_true]
   refine⟨by simp;omega,List.all_eq_true.2 λ t l=>?_⟩
   simp only[Bool.and_eq_true,decide_eq_true_eq]
   exact⟨⟨(b t l).1,(b t l).2.1⟩,(b t l).2.2⟩
  rw[e];rfl
end Go.Proofs.YtnoegalemkbbbaaGreatDoor
