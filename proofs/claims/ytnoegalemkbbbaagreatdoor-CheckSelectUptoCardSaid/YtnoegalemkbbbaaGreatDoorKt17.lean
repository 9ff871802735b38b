/- Lemmas for the card. -/
import Derived.Test.YtnoegalemkbbbaaGreatDoorKt16
set_option linter.unusedVariables false
set_option linter.unusedSimpArgs false
set_option maxRecDepth 100000
set_option maxRecDepth 100000
namespace Go.Eng
open Go.RowKit
theorem uU: ∀(f:Nat) (l:List Int) (i:Int),(PA f l i).length=l.length
 |0,_,_=>rfl
 |f+1,l,i=>by
  rw[PA];split
  ·rw[uU f,List.length_set]
  ·rw[List.length_set]
theorem uV: ∀(f:Nat) (l:List Int) (i:Int),(PB f l i).length=l.length
 |0,_,_=>rfl
 |f+1,l,i=>by
  rw[PB];split
  ·rw[uV f,List.length_set]
  ·rw[List.length_set]
theorem Aq4(s:A0):len (PC s)=len s+1:=by
 unfold PC toStr len;rw[List.length_map,uU];unfold ints;simp
theorem Aq5(s:A0):len (PD s)=len s:=by
 unfold PD toStr len;rw[List.length_map,uV];unfold ints;simp
theorem Aq6{s:A0}(l:s≠[])(h:Lib.trimB s 48=s)(k:Int): ∃b∈s++B7 k,b.toNat≠48:=by
 refine Decidable.byContradiction λ n=>?_
 have j:=tV l h k
 have:BC (s++B7 k)=[]:=by
  unfold BC Lib.trimRightS
  rw[i6 λ x hx=>?_];rfl
  have e:x∈s++B7 k:=List.mem_reverse.1 hx
  have i:x.toNat=48:=Decidable.byContradiction λ q=>n ⟨x,e,q⟩
  have:x=48:=UInt8.toNat_inj.1 (by rw[i];rfl)
  rw[this];decide
 rw[this]at j;simp[len]at j
def ZI(n:Nd)(above:Bool):Nd×Int:=CL n.neg ((if n.neg=above then PD else PC) (n.s++B7 (n.e-P5 n above))) (P5 n above)
def KD(n:Nd)(above:Bool):Nd×Bool:=
 if n.s=[]then(⟨3,0,[],[49], !above,-1000⟩,true)
 else if(ZI n above).2≠0 then(DE 0,false)else((ZI n above).1,true)
def J7(n:Nd)(above:Bool):List Nd:=if(KD n above).2=true then [(KD n above).1]else []
def LW(a:Tm):List Nd:=if a.c.kind=3 then [a.c]++J7 a.c true++J7 a.c false else []
def GX(l:List Tm):List Nd:=I3++l.flatMap LW++[DE 4]++l.flatMap HE
theorem iN(l:List Tm):GX l=I3++l.flatMap LW++[DE 4]++l.flatMap HE:=rfl
def T7(mask:Int)(l:List Tm):Nd×Bool:=match(GX l).find? (MV mask l)with
 |some x=>(x,true)
 |none=>(DE 0,false)
theorem iO{α β:Type}{f:α->List β}{n:Int}(h: ∀x,len (f x)<=n): ∀l:List α,len (l.flatMap f)<=n*len l
 |[]=>by show(0:Int)<=n*0;omega
 |x::l=>by
  rw[List.flatMap_cons,AN,AH,Int.mul_add,Int.mul_one]
  have:=iO h l
  have:=h x
  omega
theorem uW(n:Nd)(b:Bool):len (J7 n b)<=1:=by unfold J7;split<;>simp only[AH,len_nil]<;>omega
theorem Aq7(a:Tm):len (LW a)<=3:=by
 have h1:=uW a.c true
 have b:=uW a.c false
 unfold LW;split
 ·simp only[AN,AH,len_nil];omega
 ·show(0:Int)<=3;decide
theorem Aq8(l:List Tm):len (GX l)<=5+5*len l:=by
 have h1:=iO Aq7 l
 have b:=iO An1 l
 rw[iN,AN,AN,AN]
 have e:len I3=4:=rfl
 have h:len [DE 4]=1:=rfl
 omega
structure AtR (a:Tm):Prop where
 num:a.c.kind=3->QY a.c
 s:len a.c.s<=1000000
 e: -1048576<=a.c.e/\a.c.e<=1048576
theorem Aq9(neg:Bool)(s:A0)(e:Int):GW (CL neg s e).1.s:=by
 unfold CL
 split
 ·rename_i j
  split
  ·intro b h;cases h
  ·split
   ·intro b h;cases h
   ·split
    ·intro b h;cases h
    ·intro b h
     have h1:=tU j
     have k:b∈AS s:=by
      have i:b∈BC (AS s):=h
      unfold BC Lib.trimRightS at i
      exact List.mem_reverse.1 ((List.dropWhile_sublist _).subset (List.mem_reverse.1 i))
     exact h1 b ((List.dropWhile_sublist _).subset k)
 ·intro b h;cases h
theorem Ar0{l:List Tm}(q: ∀a∈l,AtR a): ∀x∈GX l,IM x:=by
 have z: ∀k,IM (DE k):=λ k=>⟨⟨by show len ([]:A0)<=_;decide,by show(-1048576:Int)<=0;decide,by show(0:Int)<=_;decide⟩,λ _ b y=>by cases y⟩
 have own: ∀a∈l,IM a.c:=λ a h=>⟨⟨by have:=(q a h).s;omega,(q a h).e.1,(q a h).e.2⟩,λ A=>((q a h).num A).fig⟩
 have n: ∀(c:Nd) (i:Bool),∀x∈J7 c i,IM x:=λ c i x hx=>by
  unfold J7 at hx
  split at hx
  ·rename_i w
   rw[List.mem_singleton.1 hx]
   unfold KD at w ⊢
   split at w
   ·rw[if_pos (by assumption)];exact⟨⟨by show len ([49]:A0)<=_;decide,by show(-1048576:Int)<= -1000;decide,by show(-1000:Int)<=_;decide⟩,λ _ b y=>by rw[List.mem_singleton.1 y];decide⟩
   ·rw[if_neg (by assumption)]
    split at w
    ·cases w
    ·rename_i h0
     rw[if_neg h0]
     exact⟨iA _ _ _ (Decidable.not_not.1 h0),λ _=>Aq9 _ _ _⟩
  ·cases hx
 intro x hx
 rw[iN,I3]at hx
 simp only[List.mem_append,List.mem_cons,List.not_mem_nil,or_false,List.mem_flatMap]at hx
 rcases hx with((hx|⟨a,j,hx⟩)|hx)|⟨a,j,hx⟩
 ·rcases hx with rfl|rfl|rfl|rfl<;>exact z _
 ·unfold LW at hx
  split at hx
  ·simp only[List.mem_append,List.mem_singleton]at hx
   rcases hx with(rfl|hx)|hx
   ·exact own a j
   ·exact n _ _ _ hx
   ·exact n _ _ _ hx
  ·cases hx
 ·rw[hx];exact z _
 ·unfold HE at hx
  split at hx
  ·simp only[List.mem_cons,List.not_mem_nil,or_false]at hx
   rcases hx with rfl|rfl
   ·exact own a j
   ·have:=(q a j).s
    exact⟨⟨by show len (a.c.s++[0])<=_;rw[AN];simp only[AH,len_nil];omega,by show(-1048576:Int)<=0;decide,by show(0:Int)<=_;decide⟩,λ A=>by cases A⟩
  ·cases hx
end Go.Eng
namespace Go.Proofs.YtnoegalemkbbbaaGreatDoor
open Go.Proofs.Tryz
open Go.Eng
theorem uX(c:Nd)(b:Bool)(w:World)(C:QY c):Calls prog 157 [EH c,.bool b].toArray w λ e w'=>e= .returned (.tuple #[EH (KD c b).1,.bool (KD c b).2])/\Ext w w':=by
 have N:=A6 c.s
 have O:=C.len
 have P:=C.e
 refine AE A8 func157 U ntmps157 [] [] [CU c,.v (.bool b)] U (BB w) A3 (λ B G=>BO 2 U U U λ D=>AZ 4 U zeroValue46 U λ F=>?_) U
 refine A1 U (λ h1=>?_) (λ h1=>?_)<;>simp only[zb]at h1
 ·refine A2 G U U U λ w M j=>⟨?_,j.st.low⟩
  unfold KD;rw[if_pos h1];rfl
 refine CZ 0 (λ s=> ∃top:Int,top=len c.s+c.e-(if c.neg=b/\c.s=[49]then 1 else 0)/\
   s=⟨[],[(2,ER D c),(4,ER F (DE 0))],[Z 2 (.bx 2 D 0),Z 4 (.bx 4 F 0),Z 5 (.v (.bool false)),Z 6 (I top),Z 7 (.v (.bool (c.neg != b)))]⟩) U U (λ h=>?_) (λ h=>?_) ?_
 ·exact AQ _ U U ⟨_,by rw[if_pos (by simpa using h)],rfl⟩
 ·exact AQ _ U U ⟨_,by rw[if_neg (by simpa using h),Int.sub_zero],rfl⟩
 rintro _ ⟨top,i,rfl⟩
 have Q: -1001<=top/\top<=1000:=by rw[i];split<;>omega
 have k:=tX i
 obtain⟨z,K⟩: ∃z,z=P5 c b:=⟨_,rfl⟩
 rw[<-K]at k
 have R: -1000<=z/\z<=c.e:=by rw[<-k,i];split<;>split<;>omega
 have H:=OD (c.e-z) Aa
 obtain⟨y,n⟩: ∃y,y=c.s++B7 (c.e-z):=⟨_,rfl⟩
 have S:len y<=10000:=by rw[n,AN,H];omega
 have A:GW y:=by rw[n];exact i7 C.fig _
 have l:ZI c b=CL c.neg ((if c.neg=b then PD else PC) y) z:=by unfold ZI;rw[n,K]
 refine AU (I z) U U (λ w M j=>by rw[<-k];exact PV.max2 (AF (v:=I (top-100)) (E:=[]) U) (AF (v:=I (-1000)) (E:=[]) U)) <|AB (u:=str y) U call183 U U (λ _ w M j=>by rw[n];exact Aq1 c z w Aa Aa Aa) U <|CZ 0 (λ s=> ∃q:A0,q=(if c.neg=b then PD else PC) y/\s=⟨[],[(2,ER D c),(4,ER F (DE 0))],[Z 2 (.bx 2 D 0),Z 4 (.bx 4 F 0),Z 5 (.v (.bool false)),Z 8 (I z),Z 9 (.v (str q))]⟩) U U (λ h=>?_) (λ h=>?_) ?_
 ·have J: ¬c.neg=b:=by simpa using h
  exact AB U call184 U U (λ _ w M j=>Aq2 y w A Aa) U <|AQ _ U U ⟨_,by rw[if_neg J],rfl⟩
 ·have J:c.neg=b:=by simpa using h
  exact AB U call185 U U (λ _ w M j=>Aq3 y w A Aa (by rw[n];exact Aq6 h1 (C.trim h1) _)) U <|AQ _ U U ⟨_,by rw[if_pos J],rfl⟩
 rintro _ ⟨q,L,rfl⟩
 have T:len q<=10001:=by rw[L];split;rw[Aq5];omega;rw[Aq4];omega
 rw[<-L]at l
 refine AB U call186 U U (λ _ w M j=>AZ9 c.neg q z w Aa) U <|AZ 10 U zeroValue46 U λ V=>?_
 refine A1 U (λ h=>?_) (λ h=>?_)<;>simp only[zb]at h
 ·refine A2 G U U U λ w M j=>⟨?_,j.st.low⟩
  unfold KD;rw[if_neg h1,l,if_pos h];rfl
 ·refine A2 G U U U λ w M j=>⟨?_,j.st.low⟩
  unfold KD;rw[if_neg h1,l,if_neg Aa];rfl
theorem Ar1{w:World}{M:Mem}(v:Value)(l:List Tm)(P:Sat w M)(hl:(kn v 7 l BP).ok M)(hb:len l<=1048576)(Q: ∀a∈l,a.c.kind=3->QY a.c)(R: ∀a∈l,len a.c.s<=1048575):
    Calls prog 98 [v].toArray w (ET w M (λ u:Value=>u) (λ _=>True) (λ u=>[(0,kn u 6 (GX l) Nd.cells)])):=by
 have S:=A6 l
 refine AE (Hr:=[]) A8 func98 U ntmps98 [(10,kn v 7 l BP)] [] [.sl 10 v] U (Aj P) (AA hl A3) (λ B T=>B9 13 I3 Nd.cells 6 46 Nd.AO U U Ah U λ V=>?_) U
 refine AT (σ:=Int×Value×List Nd) (λ(k,u,y)=>⟨[(10,kn v 7 l BP),(13,kn u 6 y Nd.cells)],[(13,.ho (.own 46 6 u y.length (y.flatMap Nd.cells)))],[Z 0 (.sl 10 v),Z 3 (.sl 13 u),Z 4 (I k)]⟩)
  (λ(k,u,y)=>0<=k/\k<=len l/\y=I3++(Eng.sub l 0 k).flatMap LW/\len y<=4+3*k) (λ(k,u,y)=>(len l-k).toNat) (0,V,I3) U U ⟨Aa,Aa,by show I3=I3++[];rw[List.append_nil],Ab⟩ ?_
 rintro⟨k,u,y⟩ ⟨h0,h1,q,W⟩
 refine A1 U (λ e=>?_) (λ e=>?_)<;>simp only[zb]at e
 ·obtain⟨a,i⟩: ∃a,a=at' l k:=⟨_,rfl⟩
  have D:a∈l:=by rw[i];exact at_mem h0 e
  have j:=HQ h0 e
  rw[<-i]at j
  refine A1 U (λ b=>?_) (λ b=>?_)<;>simp only[zb]at b<;>rw[<-i]at b
  ·refine AR (k+1,u,y) U U ⟨Aa,Aa,?_,Aa⟩ Ag
   rw[j,LP,show LW a=[]from by unfold LW;rw[if_neg b],List.append_nil];exact q
  have F:a.c.kind=3:=by omega
  have G:=Q a D F
  refine B9 32 [(at' l k).c] Nd.cells 6 46 Nd.AO U U Ah U λ v32=>EC 64 U U U underlying32 type46 U U Nd.cells_one (by simp only[AH,len_nil];omega) λ v1=>AB U call157 U U (λ _ w M K=>uX (at' l k).c true w (by rw[<-i];exact G)) U <|AZ 5 U zeroValue46 U λ b5=>CZ 0 (λ s=> ∃(u:Value) (z:List Nd),z=y++[a.c]++J7 a.c true/\len z<=len y+2/\s=⟨[(10,kn v 7 l BP),(13,kn u 6 z Nd.cells)],[(13,.ho (.own 46 6 u z.length (z.flatMap Nd.cells)))],[Z 0 (.sl 10 v),Z 3 (.sl 13 u),Z 4 (I k)]⟩) U U (λ A=>?_) (λ A=>?_) ?_
  ·exact B9 51 [(KD (at' l k).c true).1] Nd.cells 6 46 Nd.AO U U Ah U λ v50=>EC 64 U U U underlying32 type46 U U Nd.cells_one (by simp only[AN,AH,len_nil];omega) λ v2=>AQ _ U U ⟨v2,y++[(at' l k).c]++[(KD (at' l k).c true).1],by rw[<-i]at A ⊢;unfold J7;rw[if_pos A],by simp only[AN,AH,len_nil];omega,rfl⟩
  ·exact AQ _ U U ⟨v1,y++[(at' l k).c],by rw[<-i]at A ⊢;unfold J7;rw[if_neg (by rw[A];decide),List.append_nil],by simp only[AN,AH,len_nil];omega,rfl⟩
  rintro _ ⟨X,O,n,L,rfl⟩
  refine AB U call157 U U (λ _ w M K=>uX (at' l k).c false w (by rw[<-i];exact G)) U <|AZ 7 U zeroValue46 U λ b7=>?_
  have H:LW a=[a.c]++J7 a.c true++J7 a.c false:=by unfold LW;rw[if_pos F]
  refine A1 U (λ C=>?_) (λ C=>?_)
  ·refine B9 61 [(KD (at' l k).c false).1] Nd.cells 6 46 Nd.AO U U Ah U λ v60=>EC 64 U U U underlying32 type46 U U Nd.cells_one (by simp only[AN,AH,len_nil];omega) λ v3=>AR (k+1,v3,O++[(KD (at' l k).c false).1]) U U ⟨Aa,Aa,?_,by simp only[AN,AH,len_nil];omega⟩ Ag
   rw[<-i]at C
   rw[j,LP,H,<-List.append_assoc,<-q,<-i,n,show J7 a.c false=[(KD a.c false).1]from by unfold J7;rw[if_pos C]]
   simp
  ·refine AR (k+1,X,O) U U ⟨Aa,Aa,?_,Aa⟩ Ag
   rw[<-i]at C
   rw[j,LP,H,<-List.append_assoc,<-q,n,show J7 a.c false=[]from by unfold J7;rw[if_neg (by rw[C];decide)]]
   simp
 have E:k=len l:=by omega
 subst E
 rw[ID (Int.le_refl _)]at q
 refine B9 56 [DE 4] Nd.cells 6 46 Nd.AO U U Ah U λ v56=>EC 64 U U U underlying32 type46 U U Nd.cells_one (by simp only[AH,len_nil];omega) λ N=>?_
 refine AT (σ:=Int×Value×List Nd) (λ(k,u,z)=>⟨[(10,kn v 7 l BP),(13,kn u 6 z Nd.cells)],[(13,.ho (.own 46 6 u z.length (z.flatMap Nd.cells)))],[Z 0 (.sl 10 v),Z 3 (.sl 13 u),Z 9 (I k)]⟩)
  (λ(k,u,z)=>0<=k/\k<=len l/\z=I3++l.flatMap LW++[DE 4]++(Eng.sub l 0 k).flatMap HE/\len z<=5+3*len l+2*k) (λ(k,u,z)=>(len l-k).toNat) (0,N,y++[DE 4]) U U ⟨Aa,Aa,by rw[q];simp[Eng.sub],by rw[AN];simp only[AH,len_nil];omega⟩ ?_
 rintro⟨k,u,z⟩ ⟨J,hk1,n,L⟩
 refine A1 U (λ e=>?_) (λ e=>?_)<;>simp only[zb]at e
 ·obtain⟨a,i⟩: ∃a,a=at' l k:=⟨_,rfl⟩
  have D:a∈l:=by rw[i];exact at_mem J e
  have j:=HQ J e
  rw[<-i]at j
  have hsa:=R a D
  refine A1 U (λ b=>?_) (λ b=>?_)<;>simp only[zb]at b<;>rw[<-i]at b
  ·refine EJ [14,15,16] 4 (λ _ _ _ _ _ h=>h) U BI Ac <|AL 14 U (hO:=by first|omega|(rw[<-i];simp only[AH,len_nil];and_intros<;>first|omega|trivial)) U U <|B9 76 [(at' l k).c,⟨4,0,[],(at' l k).c.s++[0],false,0⟩] Nd.cells 6 46 Nd.AO U U Ah U λ v76=>AI U <|AL 15 U (hO:=by first|omega|(rw[<-i];simp only[AH,len_nil];and_intros<;>first|omega|trivial)) U U <|EC 64 U U U underlying32 type46 U U Nd.cells_one (by simp only[AH,len_nil];omega) λ v77=>AI U <|AL 16 U (hO:=by first|omega|(rw[<-i];simp only[AH,len_nil];and_intros<;>first|omega|trivial)) U U <|AI U <|BV U (hO:=by first|omega|(rw[<-i];simp only[AH,len_nil];and_intros<;>first|omega|trivial)) U U <|AR (k+1,v77,z++[(at' l k).c,⟨4,0,[],(at' l k).c.s++[0],false,0⟩]) U U ⟨Aa,Aa,?_,by rw[AN];simp only[AH,len_nil];omega⟩ Ag
   rw[j,LP,<-List.append_assoc,<-n,<-i,show HE a=[a.c,⟨4,0,[],a.c.s++[0],false,0⟩]from by unfold HE;rw[if_pos b]]
  ·refine AR (k+1,u,z) U U ⟨Aa,Aa,?_,Aa⟩ Ag
   rw[j,LP,show HE a=[]from by unfold HE;rw[if_neg b],List.append_nil];exact n
 have E:k=len l:=by omega
 subst E
 rw[ID (Int.le_refl _),<-iN]at n
 subst n
 exact A2 T U U U λ w M K=>⟨u,M,rfl,trivial,K.st.done,AA (K.f.get (k:=13) U) A3⟩
theorem iP{w:World}{M:Mem}(mask:Int)(v:Value)(l:List Tm)(G:Sat w M)(hl:(kn v 7 l BP).ok M)(H:len l<=1048576)(i: ∀a∈l,AtR a)(hm:0<=mask/\mask<=31):
    Calls prog 40 [i64 mask,v].toArray w λ e w'=>e= .returned (.tuple #[EH (T7 mask l).1,.bool (T7 mask l).2])/\Ext w w':=by
 have z:=Ar0 i
 have J: ∀a∈l,IM a.c:=λ a h=>⟨⟨by have:=(i a h).s;omega,(i a h).e.1,(i a h).e.2⟩,λ D=>((i a h).num D).fig⟩
 refine AE (Hr:=[]) A8 func40 U ntmps40 [(1,kn v 7 l BP)] [] [I mask,.sl 1 v] U (Aj G) (AA hl A3) (λ B E=>AZ 4 U zeroValue46 U λ F=>B3 (λ u:Value=>.sl 6 u) [6] (Fg:=λ u=>[(0,kn u 6 (GX l) Nd.cells)]) (pu:=λ _=>True) U U call98 U (λ w M b=>Ar1 v l b.st.sat (b.f.get (k:=1) U) H (λ a h=>(i a h).num) (λ a h=>by have:=(i a h).s;omega)) λ u _=>?_) U
 have K:len (GX l)=((GX l).length:Int):=rfl
 have L:=Aq8 l
 have N:=A6 l
 refine AT (σ:=Nat) (λ k=>⟨[(1,kn v 7 l BP),(6,kn u 6 (GX l) Nd.cells)],[(4,ER F (DE 0))],[Z 0 (I mask),Z 1 (.sl 1 v),Z 4 (.bx 4 F 0),Z 5 (.v (.bool false)),Z 6 (.sl 6 u),Z 7 (I k)]⟩) (λ k=>k<=(GX l).length/\ ∀x∈(GX l).take k,MV mask l x=false) (λ k=>(GX l).length-k) 0 U U ⟨Nat.zero_le _,λ x hx=>by simp at hx⟩ ?_
 rintro k ⟨D,j⟩
 refine A1 U (λ y=>?_) (λ y=>?_)<;>simp only[zb]at y
 ·have n:k<(GX l).length:=by omega
  have A:at' (GX l) (k:Int)∈GX l:=at_mem Aa Aa
  refine AB U call42 U U (λ _ w M b=>uE mask v l (at' (GX l) (k:Int)) w M b.st.sat (b.f.get (k:=1) U) Aa J (z _ A) hm) U <|A1 U (λ q=>?_) (λ q=>?_)
  ·refine A2 E U U U λ w M b=>⟨?_,b.st.low⟩
   unfold T7;rw[tZ n j q];rfl
  ·exact AR (k+1) U U ⟨n,u4 n j q⟩ (by show(GX l).length-(k+1)<(GX l).length-k;omega)
 ·have C:k=(GX l).length:=by omega
  refine A2 E U U U λ w M b=>⟨?_,b.st.low⟩
  unfold T7;rw[u3 (by rw[<-C];exact j)];rfl
abbrev uY(t:Tm):Value:=.agg #[i64 t.op,i64 t.many,str t.name,str t.s,i64 t.n,i64 t.c.kind,i64 t.c.many,str t.c.name,str t.c.s,.bool t.c.neg,i64 t.c.e]
abbrev HG(t:Tm):XV:=.ag [I t.op,I t.many,.v (str t.name),.v (str t.s),I t.n,I t.c.kind,I t.c.many,.v (str t.c.name),.v (str t.c.s),.v (.bool t.c.neg),I t.c.e]
theorem iQ(t:Tm)(w:World):Calls prog 132 [uY t].toArray w λ e w'=>e= .returned (.bool (EE t))/\Ext w w':=AE A8 func132 U ntmps132 [] [] [HG t] U (BB w) A3 (λ B b=>BO 1 U U U λ i=>A2 b U U U λ w M h=>⟨rfl,h.st.low⟩) U
theorem ZJ(f:Fl)(v:Value)(i:Int)(M:Mem)(w:World)(n:Sat w M)(s:Sl M 11 f.length v (f.flatMap Tm.cells))(E:len f<=1048576)(h0:0<=i)(h1:i<=1048576):
    Calls prog 112 [v,i64 i].toArray w λ e w'=>e= .returned (i64 (G2 f i))/\Ext w w':=by
 have y:=A6 f
 refine AE (Hr:=[]) A8 func112 U ntmps112 [(0,A7 v f)] [] [.sl 0 v,I i] U (Aj n) (fc 0 s Tm.AO A3) (λ B h=>AT (σ:=Nat×Int×Int) (λ(g,o,j)=>⟨[(0,A7 v f)],[],[Z 0 (.sl 0 v),Z 1 (I j),Z 5 (I o)]⟩) (λ(g,o,j)=>HS g f o j=G2 f i/\len f+2<=g+j/\i<=j/\(o=1/\j=i\/j<=len f)/\o<=1+(j-i)*1048576/\0<=o) (λ(g,o,j)=>(len f-j).toNat) (f.length+2,1,i) U U ⟨rfl,by unfold len;omega,Aa,.inl ⟨rfl,rfl⟩,Aa,Aa⟩ ?_) U
 rintro⟨g,o,j⟩ ⟨hg,z,F,A,ho,C⟩
 refine A1 U (λ k=>?_) (λ k=>?_)<;>simp only[zb]at k
 ·refine A1 U (λ l=>?_) (λ l=>?_)<;>simp only[zb]at l
  ·have D:G2 f i= -1:=by
    rw[<-hg]
    cases g with
    |zero=>rfl
    |succ g=>rw[HS,if_neg Aa,if_pos Aa]
   refine A2 h U U U λ w M b=>⟨?_,b.st.low⟩
   rw[D];rfl
  ·obtain⟨g,rfl⟩: ∃q,g=q+1:=⟨g-1,Aa⟩
   rw[HS,if_neg Aa,if_neg Aa]at hg
   exact AR (g,o-1+(at' f j).many,j+1) U U ⟨hg,Aa,Aa,.inr Aa,Aa,Aa⟩ Ag
 ·obtain⟨g,rfl⟩: ∃q,g=q+1:=⟨g-1,Aa⟩
  rw[eG Aa]at hg
  refine A2 h U U U λ w M b=>⟨?_,b.st.low⟩
  rw[<-hg];rfl
theorem Ar2(f:Fl)(v:Value)(a:Int)(dn:List Tf)(x:Tf)(r:List Tf)(M:Mem)(w:World)(E:Sat w M)(F:Sl M 11 f.length v (f.flatMap Tm.cells))(G:len f<=1048576)(L:0<=a)(z:BL f (a+1) (dn++x::r)):
    Calls prog 189 [v,i64 a,i64 (a+1+AK dn)].toArray w λ e w'=>e= .returned (.bool (decide (x.t.name∈dn.map (·.t.name))))/\Ext w w':=by
 have hx:=z.skip.node
 have hle:=z.le
 rw[HR,AK]at hle
 have l:(at' f (a+1+AK dn)).name=x.t.name:=by rw[hx.2.2];rfl
 refine AE (Hr:=[]) A8 func189 U ntmps189 [(0,A7 v f)] [] [.sl 0 v,I a,I (a+1+AK dn)] U (Aj E) (fc 0 F Tm.AO A3) (λ B C=>AT (σ:=List Tf×List Tf×Int) (λ(p,q,i)=>⟨[(0,A7 v f)],[],[Z 0 (.sl 0 v),Z 1 (I a),Z 2 (I (a+1+AK dn)),Z 7 (I i)]⟩) (λ(p,q,i)=>dn=p++q/\i=a+1+AK p/\x.t.name ∉ p.map (·.t.name)) (λ(p,q,i)=>q.length) ([],dn,a+1) U U ⟨rfl,by simp[AK],by simp⟩ ?_) U
 rintro⟨p,q,i⟩ ⟨b,hi,hp⟩
 have h:=congrArg AK b
 rw[HR]at h
 have n:BL f i (q++x::r):=by
  have:=z
  rw[b,List.append_assoc]at this
  rw[hi];exact this.skip
 refine A1 U (λ D=>?_) (λ D=>?_)<;>simp only[zb]at D
 ·cases q with
  |nil=>simp[AK]at h;omega
  |cons y q=>
   have H:=n.node
   have s:(at' f i).name=y.t.name:=by rw[H.2.2];rfl
   have A:=OK n
   have J:=y.size_pos
   rw[AK]at h
   refine DQ U BI Ac (DR U ?_)
   refine A1 U (λ j=>?_) (λ j=>?_)<;>simp only[zb]at j
   ·rw[s,l]at j
    refine A2 C U U U λ w M k=>⟨?_,k.st.low⟩
    rw[decide_eq_true (by rw[b];simp[j])];rfl
   ·rw[s,l]at j
    refine AB U call112 U U (λ _ w M k=>ZJ f v i M w k.st.sat (k.sl 0 U) G Aa Aa) U ?_
    refine AR (p++[y],q,G2 f i) U U ⟨by rw[b];simp,by rw[A,hi,HR,AK,AK];omega,?_⟩ (by show q.length<(y::q).length;simp)
    simp only[List.map_append,List.map_cons,List.map_nil,List.mem_append,List.mem_singleton,not_or]
    exact⟨hp,λ e=>j e.symm⟩
 ·have K:q=[]:=by
   cases q with
   |nil=>rfl
   |cons y q=>rw[AK]at h;have:=y.size_pos;omega
  subst K
  rw[List.append_nil]at b
  subst b
  refine A2 C U U U λ w M k=>⟨?_,k.st.low⟩
  rw[decide_eq_false hp];rfl
theorem Ar3(f:Fl)(v:Value)(a:Int)(x:Tf)(z:List Tf)(M:Mem)(w:World)(hM:Sat w M)(hv:Sl M 11 f.length v (f.flatMap Tm.cells))(X:len f<=1048576)(P:BL f a (x::z))(Q: ∀t∈f,len t.name<=1048576):
    Calls prog 164 [v,i64 a].toArray w λ e w'=>e= .returned (.bool (GB x.t [] x.ps))/\Ext w w':=by
 have hx:=P.node
 have R:=P.QA
 have hle:=P.le
 rw[AK,Tf.size_eq]at hle
 have l:(at' f a).op=x.t.op:=by rw[hx.2.2];rfl
 have hxm:(at' f a).many=len x.ps:=by rw[hx.2.2];rfl
 have E:EE (at' f a)=EE x.t:=by rw[hx.2.2];rfl
 have hlp:=A6 x.ps
 have hls:=MM x.ps
 refine AE (Hr:=[]) A8 func164 U ntmps164 [(0,A7 v f)] [] [.sl 0 v,I a] U (Aj hM) (fc 0 hv Tm.AO A3) (λ B S=>AZ 1 U zeroValue48 U λ bb=>AT (σ:=List Tf×List Tf×Int) (λ(p,q,i)=>⟨[(0,A7 v f)],[(1,.box bb [I (at' f a).op,I (at' f a).many,.v (str (at' f a).name),.v (str (at' f a).s),I (at' f a).n,I (at' f a).c.kind,I (at' f a).c.many,.v (str (at' f a).c.name),.v (str (at' f a).c.s),.v (.bool (at' f a).c.neg),I (at' f a).c.e] 48)],[Z 0 (.sl 0 v),Z 1 (I a),Z 5 (.bx 1 bb 0),Z 6 (I i),Z 7 (I (len p))]⟩) (λ(p,q,i)=>x.ps=p++q/\i=a+1+AK p/\GB x.t [] x.ps=GB x.t p q) (λ(p,q,i)=>q.length) ([],x.ps,a+1) U U ⟨rfl,by simp[AK],rfl⟩ ?_) U
 rintro⟨p,q,i⟩ ⟨k,hi,A⟩
 have F:=congrArg AK k
 rw[HR]at F
 have G:=congrArg len k
 rw[AN]at G
 have hl0:=A6 p
 have hq0:=A6 q
 have H:BL f i (q++z):=by
  have:=R
  rw[k,List.append_assoc]at this
  rw[hi];exact this.skip
 refine A1 U (λ h2=>?_) (λ h2=>?_)<;>simp only[zb]at h2
 ·cases q with
  |nil=>rw[len_nil]at G;omega
  |cons y q=>
   have J:=H.node
   have K:(at' f i).op=y.t.op:=by rw[J.2.2];rfl
   have L:(at' f i).name=y.t.name:=by rw[J.2.2];rfl
   have N:EE (at' f i)=EE y.t:=by rw[J.2.2];rfl
   have T:=OK H
   have hys:=y.size_pos
   have hyl:=Q _ (at_mem J.1 J.2.1)
   rw[AK]at F
   have O:BL f (a+1) (p++y::(q++z)):=by rw[k]at R;simpa using R
   refine AZ 2 U zeroValue48 U λ b2=>?_
   refine DQ U BI Ac ?_
   refine EZ U call132 U U (λ _ w M b=>iQ (at' f i) w) U ?_
   refine EZ U call132 U U (λ _ w M b=>iQ (at' f a) w) U ?_
   refine DR U ?_
   refine A1 U (λ D=>?_) (λ D=>?_)
   ·rw[N,E,l,K]at D
    refine A2 S U U U λ w M b=>⟨?_,b.st.low⟩
    rw[A,GB]
    unfold LI
    rw[if_pos (by rw[VD];exact D)];rfl
   rw[N,E,l,K]at D
   refine AB U call125 U U (λ _ w M b=>UQ (at' f i).name w Aa) U ?_
   refine AB U call189 U U (λ _ w M b=>by have:=Ar2 f v a p y (q++z) M w b.st.sat (b.sl 0 U) X P.1 O;rw[<-hi]at this;exact this) U ?_
   refine A1 U (λ j=>?_) (λ j=>?_)<;>simp only[zb]at j
   ·rw[l,L]at j
    refine A2 S U U U λ w M b=>⟨?_,b.st.low⟩
    rw[A,GB]
    unfold LI
    rw[if_neg (by rw[VD,D];decide),if_pos (by rcases j with j|j;exact .inl j;exact .inr ⟨j.1,j.2⟩)];rfl
   ·rw[l,L]at j
    have V:LI x.t p y=true:=by
     unfold LI
     rw[if_neg (by rw[VD,D];decide),if_neg]
     rintro(⟨W,C⟩|⟨W,C⟩)
     ·rcases j.1 with h|h
      ·exact W h
      ·exact C h
     ·rcases j.2 with h|h
      ·exact h W
      ·rcases C with C|C
       ·rw[h.1]at C;cases C
       ·exact h.2 C
    refine AB U call112 U U (λ _ w M b=>ZJ f v i M w b.st.sat (b.sl 0 U) X Aa Aa) U ?_
    refine AR (p++[y],q,G2 f i) U (by dsimp only;rw[AN];rfl) ⟨by rw[k];simp,by rw[T,hi,HR,AK,AK];omega,?_⟩ (by show q.length<(y::q).length;simp)
    rw[A,GB,V];rfl
 ·have hq:q=[]:=SQ Aa
  subst hq
  refine A2 S U U U λ w M b=>⟨?_,b.st.low⟩
  rw[A,GB];rfl
theorem Ar4(t:Tm)(w:World)(G:len t.s<=1048576)(H:len t.c.s<=1048576):Calls prog 163 [uY t].toArray w λ e w'=>e= .returned (.bool (DN t))/\Ext w w':=by
 refine AE A8 func163 U ntmps163 [] [] [HG t] U (BB w) A3 (λ B C=>BO 1 U U U λ q=>AZ 2 U zeroValue48 U λ y=>CZ 0 (λ s=> ∃b:Bool,(b=true↔(t.op=0\/t.op=10\/t.op=11\/t.op=14))/\s=⟨[],[(1,.box q [I t.op,I t.many,.v (str t.name),.v (str t.s),I t.n,I t.c.kind,I t.c.many,.v (str t.c.name),.v (str t.c.s),.v (.bool t.c.neg),I t.c.e] 48),(2,.box y [I t.op,I t.many,.v (str t.name),.v (str []),I 0,I 0,I 0,.v (str []),.v (str []),.v (.bool false),I 0] 48)],[Z 1 (.bx 1 q 0),Z 3 (.bx 2 y 0),Z 12 (I t.op),Z 13 (.v (.bool b))]⟩) U U (λ h0=>?_) (λ h0=>?_) ?_) U
 ·exact AQ _ U U ⟨_,by simp only[zb]at h0 ⊢;omega,rfl⟩
 ·exact A1 U (λ h1=>AQ _ U U ⟨_,by simp only[zb]at h1 ⊢;omega,rfl⟩) (λ h1=>A1 U (λ E=>AQ _ U U ⟨_,by simp only[zb]at E ⊢;omega,rfl⟩) (λ E=>AQ _ U U ⟨_,by simp only[zb]at h0 h1 E ⊢;omega,rfl⟩))
 rintro _ ⟨b,h,rfl⟩
 refine A1 U (λ i=>?_) (λ i=>?_)
 ·refine AU (.v (.bool (decide (t=(EV t))))) U U (λ w M j=>PV.bin (AF (v:=HG t) U) (AF (v:=HG (EV t)) U) (λ _ w _=>OI _ _ _ _ w)) <|A2 C U U U λ w M j=>⟨?_,j.st.low⟩
  unfold DN;rw[if_pos (h.1 i)];rfl
 have n13: ¬(t.op=0\/t.op=10\/t.op=11\/t.op=14):=λ e=>by have:=h.2 e;rw[i]at this;cases this
 clear h
 refine A1 U (λ i=>?_) (λ i=>?_)
 ·have F:t.op=1:=by simp only[zb]at i;exact i
  refine AU (.v (.bool (decide (t= { EV t with s:=t.s})))) U U (λ w M j=>PV.bin (AF (v:=HG t) U) (AF (v:=HG { EV t with s:=t.s}) U) (λ _ w _=>OI _ _ _ _ w)) <|AB U call125 U U (λ _ w M j=>UQ t.s w Aa) U <|A2 C U U U λ w M j=>⟨?_,j.st.low⟩
  unfold DN;rw[if_neg n13,if_pos (F)];rfl
 have n26: ¬(t.op=1):=by simp only[zb]at i;exact i
 refine CZ 0 (λ s=> ∃b:Bool,(b=true↔(t.op=2\/t.op=3))/\s=⟨[],[(1,.box q [I t.op,I t.many,.v (str t.name),.v (str t.s),I t.n,I t.c.kind,I t.c.many,.v (str t.c.name),.v (str t.c.s),.v (.bool t.c.neg),I t.c.e] 48),(2,.box y [I t.op,I t.many,.v (str t.name),.v (str []),I 0,I 0,I 0,.v (str []),.v (str []),.v (.bool false),I 0] 48)],[Z 1 (.bx 1 q 0),Z 3 (.bx 2 y 0),Z 12 (I t.op),Z 44 (.v (.bool b))]⟩) U U (λ h0=>?_) (λ h0=>?_) ?_
 ·exact AQ _ U U ⟨_,by simp only[zb]at h0 ⊢;omega,rfl⟩
 ·exact AQ _ U U ⟨_,by simp only[zb]at h0 ⊢;omega,rfl⟩
 rintro _ ⟨b,h,rfl⟩
 refine A1 U (λ i=>?_) (λ i=>?_)
 ·refine AU (.v (.bool (decide (t= { EV t with n:=t.n})))) U U (λ w M j=>PV.bin (AF (v:=HG t) U) (AF (v:=HG { EV t with n:=t.n}) U) (λ _ w _=>OI _ _ _ _ w)) <|A2 C U U U λ w M j=>⟨?_,j.st.low⟩
  unfold DN;rw[if_neg n13,if_neg n26,if_pos (h.1 i)];rfl
 have k: ¬(t.op=2\/t.op=3):=λ e=>by have:=h.2 e;rw[i]at this;cases this
 clear h
 refine CZ 0 (λ s=> ∃b:Bool,(b=true↔(t.op=4\/t.op=17\/t.op=18))/\s=⟨[],[(1,.box q [I t.op,I t.many,.v (str t.name),.v (str t.s),I t.n,I t.c.kind,I t.c.many,.v (str t.c.name),.v (str t.c.s),.v (.bool t.c.neg),I t.c.e] 48),(2,.box y [I t.op,I t.many,.v (str t.name),.v (str []),I 0,I 0,I 0,.v (str []),.v (str []),.v (.bool false),I 0] 48)],[Z 1 (.bx 1 q 0),Z 3 (.bx 2 y 0),Z 12 (I t.op),Z 68 (.v (.bool b))]⟩) U U (λ h0=>?_) (λ h0=>?_) ?_
 ·exact AQ _ U U ⟨_,by simp only[zb]at h0 ⊢;omega,rfl⟩
 ·exact A1 U (λ h1=>AQ _ U U ⟨_,by simp only[zb]at h1 ⊢;omega,rfl⟩) (λ h1=>AQ _ U U ⟨_,by simp only[zb]at h0 h1 ⊢;omega,rfl⟩)
 rintro _ ⟨b,h,rfl⟩
 refine A1 U (λ i=>?_) (λ i=>?_)
 ·refine AU (.v (.bool (decide (t=(EV t))))) U U (λ w M j=>PV.bin (AF (v:=HG t) U) (AF (v:=HG (EV t)) U) (λ _ w _=>OI _ _ _ _ w)) <|A2 C U U U λ w M j=>⟨?_,j.st.low⟩
  unfold DN;rw[if_neg n13,if_neg n26,if_neg k,if_pos (h.1 i)];rfl
 have l: ¬(t.op=4\/t.op=17\/t.op=18):=λ e=>by have:=h.2 e;rw[i]at this;cases this
 clear h
 refine CZ 0 (λ s=> ∃b:Bool,(b=true↔(t.op=5\/t.op=6\/t.op=7\/t.op=19))/\s=⟨[],[(1,.box q [I t.op,I t.many,.v (str t.name),.v (str t.s),I t.n,I t.c.kind,I t.c.many,.v (str t.c.name),.v (str t.c.s),.v (.bool t.c.neg),I t.c.e] 48),(2,.box y [I t.op,I t.many,.v (str t.name),.v (str []),I 0,I 0,I 0,.v (str []),.v (str []),.v (.bool false),I 0] 48)],[Z 1 (.bx 1 q 0),Z 3 (.bx 2 y 0),Z 12 (I t.op),Z 80 (.v (.bool b))]⟩) U U (λ h0=>?_) (λ h0=>?_) ?_
 ·exact AQ _ U U ⟨_,by simp only[zb]at h0 ⊢;omega,rfl⟩
 ·exact A1 U (λ h1=>AQ _ U U ⟨_,by simp only[zb]at h1 ⊢;omega,rfl⟩) (λ h1=>A1 U (λ E=>AQ _ U U ⟨_,by simp only[zb]at E ⊢;omega,rfl⟩) (λ E=>AQ _ U U ⟨_,by simp only[zb]at h0 h1 E ⊢;omega,rfl⟩))
 rintro _ ⟨b,h,rfl⟩
 refine A1 U (λ i=>?_) (λ i=>?_)
 ·refine AU (.v (.bool (decide (t=(EV t))))) U U (λ w M j=>PV.bin (AF (v:=HG t) U) (AF (v:=HG (EV t)) U) (λ _ w _=>OI _ _ _ _ w)) <|A2 C U U U λ w M j=>⟨?_,j.st.low⟩
  unfold DN;rw[if_neg n13,if_neg n26,if_neg k,if_neg l,if_pos (h.1 i)];rfl
 have z: ¬(t.op=5\/t.op=6\/t.op=7\/t.op=19):=λ e=>by have:=h.2 e;rw[i]at this;cases this
 clear h
 refine CZ 0 (λ s=> ∃b:Bool,(b=true↔(t.op=8\/t.op=9))/\s=⟨[],[(1,.box q [I t.op,I t.many,.v (str t.name),.v (str t.s),I t.n,I t.c.kind,I t.c.many,.v (str t.c.name),.v (str t.c.s),.v (.bool t.c.neg),I t.c.e] 48),(2,.box y [I t.op,I t.many,.v (str t.name),.v (str []),I 0,I 0,I 0,.v (str []),.v (str []),.v (.bool false),I 0] 48)],[Z 1 (.bx 1 q 0),Z 3 (.bx 2 y 0),Z 12 (I t.op),Z 93 (.v (.bool b))]⟩) U U (λ h0=>?_) (λ h0=>?_) ?_
 ·exact AQ _ U U ⟨_,by simp only[zb]at h0 ⊢;omega,rfl⟩
 ·exact AQ _ U U ⟨_,by simp only[zb]at h0 ⊢;omega,rfl⟩
 rintro _ ⟨b,h,rfl⟩
 refine A1 U (λ i=>?_) (λ i=>?_)
 ·refine AU (.v (.bool (decide (t=(EV t))))) U U (λ w M j=>PV.bin (AF (v:=HG t) U) (AF (v:=HG (EV t)) U) (λ _ w _=>OI _ _ _ _ w)) <|A2 C U U U λ w M j=>⟨?_,j.st.low⟩
  unfold DN;rw[if_neg n13,if_neg n26,if_neg k,if_neg l,if_neg z,if_pos (h.1 i)];rfl
 have D: ¬(t.op=8\/t.op=9):=λ e=>by have:=h.2 e;rw[i]at this;cases this
 clear h
 refine CZ 0 (λ s=> ∃b:Bool,(b=true↔(t.op=12\/t.op=13\/t.op=15))/\s=⟨[],[(1,.box q [I t.op,I t.many,.v (str t.name),.v (str t.s),I t.n,I t.c.kind,I t.c.many,.v (str t.c.name),.v (str t.c.s),.v (.bool t.c.neg),I t.c.e] 48),(2,.box y [I t.op,I t.many,.v (str t.name),.v (str []),I 0,I 0,I 0,.v (str []),.v (str []),.v (.bool false),I 0] 48)],[Z 1 (.bx 1 q 0),Z 3 (.bx 2 y 0),Z 12 (I t.op),Z 104 (.v (.bool b))]⟩) U U (λ h0=>?_) (λ h0=>?_) ?_
 ·exact AQ _ U U ⟨_,by simp only[zb]at h0 ⊢;omega,rfl⟩
 ·exact A1 U (λ h1=>AQ _ U U ⟨_,by simp only[zb]at h1 ⊢;omega,rfl⟩) (λ h1=>AQ _ U U ⟨_,by simp only[zb]at h0 h1 ⊢;omega,rfl⟩)
 rintro _ ⟨b,h,rfl⟩
 refine A1 U (λ i=>?_) (λ i=>?_)
 ·refine AU (.v (.bool (decide (t= { EV t with s:=t.s})))) U U (λ w M j=>PV.bin (AF (v:=HG t) U) (AF (v:=HG { EV t with s:=t.s}) U) (λ _ w _=>OI _ _ _ _ w)) <|AB U call188 U U (λ _ w M j=>rK t.s w G) U <|A2 C U U U λ w M j=>⟨?_,j.st.low⟩
  unfold DN;rw[if_neg n13,if_neg n26,if_neg k,if_neg l,if_neg z,if_neg D,if_pos (h.1 i)];rfl
 have n104: ¬(t.op=12\/t.op=13\/t.op=15):=λ e=>by have:=h.2 e;rw[i]at this;cases this
 clear h
 refine A1 U (λ i=>?_) (λ i=>?_)
 ·have A:t.op=16:=by simp only[zb]at i;exact i
  refine AU (.v (.bool (decide (t= { EV t with s:=t.s,n:=t.n,c:=t.c})))) U U (λ w M j=>PV.bin (AF (v:=HG t) U) (AF (v:=HG { EV t with s:=t.s,n:=t.n,c:=t.c}) U) (λ _ w _=>OI _ _ _ _ w)) <|AB U call188 U U (λ _ w M j=>rK t.s w G) U <|F9 (.v (.slice none 0 0)) U U (λ hg=>?_) (λ hg=>?_)
  ·refine B9 3 [t.c] Nd.cells 6 46 Nd.AO U U (hE1:=L7 hg U) Ah U λ v=>AB U call37 U U (λ _ w M j=>rM t.c v M w j.st.sat (j.sl 3 U) Aa) U <|A2 C U U U λ w M j=>⟨?_,j.st.low⟩
   unfold DN MR;rw[if_neg n13,if_neg n26,if_neg k,if_neg l,if_neg z,if_neg D,if_neg n104,if_pos (A)]
   show Ending.returned (.bool _)=_
   simp only[Bool.and_assoc];rfl
  ·refine AB (u:=.bool (decide (t.c.name=[])&&decide (t.c.many=0)&&DT t.c)) U call37 U U (λ J w M j=>absurd (J.symm.trans hg) Ab) U <|A2 C U U U λ w M j=>⟨?_,j.st.low⟩
   unfold DN MR;rw[if_neg n13,if_neg n26,if_neg k,if_neg l,if_neg z,if_neg D,if_neg n104,if_pos (A)]
   show Ending.returned (.bool _)=_
   simp only[Bool.and_assoc];rfl
 have n124: ¬(t.op=16):=by simp only[zb]at i;exact i
 refine A2 C U U U λ w M j=>⟨?_,j.st.low⟩
 unfold DN;rw[if_neg n13,if_neg n26,if_neg k,if_neg l,if_neg z,if_neg D,if_neg n104,if_neg n124];rfl
theorem Ar5(f:Fl)(v:Value)(M:Mem)(w:World)(G:Sat w M)(H:Sl M 11 f.length v (f.flatMap Tm.cells))(E:len f<=1048576)(k: ∀t∈f,len t.s<=1048576/\len t.name<=1048576/\len t.c.s<=1048576):
    Calls prog 131 [v].toArray w λ e w'=>e= .returned (.bool (LK f))/\Ext w w':=by
 have J:=A6 f
 refine AE (Hr:=[]) A8 func131 U ntmps131 [(0,A7 v f)] [] [.sl 0 v] U (Aj G) (fc 0 H Tm.AO A3) (λ B z=>AB U call112 U U (λ _ w M h=>ZJ f v 0 M w h.st.sat (h.sl 0 U) E Aa Aa) U ?_) U
 refine A1 U (λ h1=>?_) (λ h1=>?_)<;>simp only[zb]at h1
 ·refine A2 z U U U λ w M h=>⟨?_,h.st.low⟩
  rw[qB (by rcases h1 with(h1|h1)|h1;exact .inl (SQ h1);exact .inr (.inl h1);exact .inr (.inr h1))];rfl
 obtain⟨x,K,j⟩:=o8 h1.2 (λ e=>h1.1.1 (by rw[e];rfl))
 have L:x.t.name=[]:=by have:=h1.1.2;rw[j,x.BA]at this;exact this
 have l:LK f=x.JN:=by rw[j];exact AS8 K L
 have N:len f=x.size:=by rw[j];unfold len;rw[Tf.BR]
 refine AT (σ:=List Tf×Int) (λ(b,i)=>⟨[(0,A7 v f)],[],[Z 0 (.sl 0 v),Z 3 (I i)]⟩) (λ(b,i)=>BL f i b/\i+AK b=len f/\x.JN=HU b) (λ(b,i)=>(len f-i).toNat) ([x],0) U U ⟨by rw[j];exact BL.top x,by rw[AK,AK];omega,by rw[HU,HU,Bool.and_true]⟩ ?_
 rintro⟨b,i⟩ ⟨A,hi,hg⟩
 refine A1 U (λ F=>?_) (λ F=>?_)<;>simp only[zb]at F
 ·cases b with
  |nil=>rw[AK]at hi;omega
  |cons y b=>
   have C:=A.node
   have O:=k _ (at_mem C.1 C.2.1)
   rw[AK,Tf.size_eq]at hi
   refine AB U call163 U U (λ _ w M h=>Ar4 (at' f i) w Aa Aa) U ?_
   refine AB U call164 U U (λ _ w M h=>Ar3 f v i y b M w h.st.sat (h.sl 0 U) E A (λ t P=>(k t P).2.1)) U ?_
   have n:HU (y::b)=((DN (at' f i)&&GB y.t [] y.ps)&&HU (y.ps++b)):=by
    rw[C.2.2,HU,AS4]
    obtain⟨t,ps⟩:=y
    rw[Tf.JN,Bool.and_assoc];rfl
   refine A1 U (λ q=>?_) (λ q=>?_)
   ·refine A2 z U U U λ w M h=>⟨?_,h.st.low⟩
    have:(DN (at' f i)&&GB y.t [] y.ps)=false:=by
     cases h4:DN (at' f i)<;>cases h5:GB y.t [] y.ps<;>rw[h4,h5]at q<;>first|rfl|cases q
    rw[l,hg,n,this];rfl
   ·have:(DN (at' f i)&&GB y.t [] y.ps)=true:=by
     cases h4:DN (at' f i)<;>cases h5:GB y.t [] y.ps<;>rw[h4,h5]at q<;>first|rfl|cases q
    exact AR (y.ps++b,i+1) U U ⟨A.QA,by rw[HR];omega,by rw[hg,n,this];rfl⟩ Ag
 ·have D:b=[]:=by
   cases b with
   |nil=>rfl
   |cons y b=>rw[AK]at hi;have:=y.size_pos;omega
  subst D
  refine A2 z U U U λ w M h=>⟨?_,h.st.low⟩
  rw[l,hg];rfl
theorem Ar6(f:Fl)(v:Value)(M:Mem)(w:World)(n:Sat w M)(q:Sl M 11 f.length v (f.flatMap Tm.cells))(y:len f<=1048576)(i: ∀t∈f,len t.s<=1048576/\len t.name<=1048576/\len t.c.s<=1048576):
    Calls prog 72 [v].toArray w λ e w'=>e= .returned (.bool (fP f))/\Ext w w':=by
 refine AE (Hr:=[]) A8 func72 U ntmps72 [(0,A7 v f)] [] [.sl 0 v] U (Aj n) (fc 0 q Tm.AO A3) (λ B z=>AB U call131 U U (λ _ w M b=>Ar5 f v M w b.st.sat (b.sl 0 U) y i) U ?_) U
 have j:LK f=true->0<len f:=λ h=>by
  rcases Int.lt_or_le 0 (len f)with l|l
  ·exact l
  ·have:=qB (v:=f) (.inl (SQ (by have:=A6 f;omega)))
   rw[h]at this;cases this
 refine AB U (hO:=by
   have k:LK f=false\/0<len f:=by
    cases hw:LK f
    ·exact .inl U
    ·exact .inr (j hw)
   rcases k with h|h<;>simp[h]) call132 rfl rfl (λ _ w M b=>iQ (at' f 0) w) rfl ?_
 exact A2 z U U U λ w M b=>⟨rfl,b.st.low⟩
theorem Ar7(f:Fl)(v:Value)(m:Int)(M:Mem)(w:World)(D:Sat w M)(A:Sl M 11 f.length v (f.flatMap Tm.cells))(hm:m<=1048576):
    Calls prog 22 [v,i64 m].toArray w λ e w'=>e= .returned (.bool (QJ f m))/\Ext w w':=by
 have E:=A6 f
 have hle:len f<=9223372036854775807:=A.le
 refine AE (Hr:=[]) A8 func22 U ntmps22 [(0,A7 v f)] [] [.sl 0 v,I m] U (Aj D) (fc 0 A Tm.AO A3) (λ B n=>?_) U
 refine A1 U (λ h1=>?_) (λ h1=>?_)<;>simp only[zb]at h1
 ·refine A2 n U U U λ w M j=>⟨?_,j.st.low⟩
  unfold QJ;rw[decide_eq_false Aa];rfl
 refine AT (σ:=Int) (λ i=>⟨[(0,A7 v f)],[],[Z 0 (.sl 0 v),Z 5 (I i)]⟩) (λ i=>0<=i/\i<=len f/\(Eng.sub f 0 i).all ON=true) (λ i=>(len f-i).toNat) 0 U U ⟨Aa,Aa,rfl⟩ ?_
 rintro i ⟨k,F,b⟩
 refine A1 U (λ l=>?_) (λ l=>?_)<;>simp only[zb]at l
 ·refine A1 U (λ C=>?_) (λ C=>?_)<;>simp only[zb]at C
  ·have q:f.all ON=false:=by
    rw[<-Bool.not_eq_true,List.all_eq_true]
    intro h
    have:=h _ (at_mem k l)
    unfold ON at this
    simp only[Bool.and_eq_true,decide_eq_true_eq]at this
    omega
   refine A2 n U U U λ w M j=>⟨?_,j.st.low⟩
   unfold QJ;rw[q,Bool.and_false];rfl
  ·have y:ON (at' f i)=true:=by
    unfold ON
    simp only[Bool.and_eq_true,decide_eq_true_eq]
    omega
   exact AR (i+1) U U ⟨Aa,Aa,by rw[HQ k l,List.all_append,b];simp[y]⟩ Ag
 ·rw[ID Aa]at b
  have z: ∀t∈f,len t.s<=1048576/\len t.name<=1048576/\len t.c.s<=1048576:=λ t G=>by
   have:=List.all_eq_true.1 b t G
   unfold ON at this
   simp only[Bool.and_eq_true,decide_eq_true_eq]at this
   omega
  refine AB U call72 U U (λ _ w M j=>Ar6 f v M w j.st.sat (j.sl 0 U) Aa z) U <|A2 n U U U λ w M j=>⟨?_,j.st.low⟩
  unfold QJ;rw[b,decide_eq_true Aa];rfl
theorem drop_at{α:Type}[Inhabited α]{l:List α}{k:Nat}(h:k<l.length):l.drop k=at' l (k:Int)::l.drop (k+1):=by
 obtain⟨h1,b⟩:=DB l (i:=(k:Int)) Aa (by unfold len;omega)
 rw[b,List.drop_eq_getElem_cons h];simp
theorem Ar8{x:Tf}{k:Nat}{i:Int}(b:k<x.ps.length)(e:BL x.flat i (x.ps.drop k)):BL x.flat i (at' x.ps (k:Int)::x.ps.drop (k+1)):=by rw[<-drop_at b];exact e
theorem Ar9(x:Tf)(v:Value)(w:World)(M:Mem)(H:Sat w M)(J:Sl M 11 x.flat.length v (x.flat.flatMap Tm.cells))(K:len x.flat<=1048576):
   Calls prog 56 [v].toArray w (ET w M (λ g:Value×List AJ=>g.1) (λ g=>len g.2=len x.ps) (λ g=>[(0,CS g.1 g.2 (D3 x))])):=by
 have L:(at' x.flat 0).many=len x.ps:=by rw[x.BA];rfl
 have F:=Tf.D7 x
 have N:len x.ps=(x.ps.length:Int):=rfl
 have O:=MM x.ps
 have P:len x.flat=1+AK x.ps:=by unfold len;rw[Tf.BR,Tf.size_eq];omega
 refine AE (Hr:=[]) A8 func56 U ntmps56 [(0,A7 v x.flat)] [] [.sl 0 v] U (Aj H) (fc 0 J Tm.AO A3) (λ B Q=>B9 1 [] CA 1 23 DJ U U Ah U λ u=>C5 U Ad Aa (ES 6 (CS u [] ((D3 x).take 0)) (λ w M e=>⟨e.sl 1 U,DJ,trivial⟩) ?_)) U
 refine AT (σ:=Nat×Int×Value×List AJ) (λ(k,i,u,h)=>⟨[(0,A7 v x.flat),(1,kn u 1 h CA),(6,CS u h ((D3 x).take k))],[(1,.ho (VE u h))],[Z 0 (.sl 0 v),Z 3 (.sl 1 u),Z 4 (I i),Z 5 (I k)]⟩) (λ(k,i,u,h)=>k<=x.ps.length/\BL x.flat i (x.ps.drop k)/\len h=k) (λ(k,i,u,h)=>x.ps.length-k) (0,1,u,[]) U U ⟨Aa,x.eF,rfl⟩ ?_
 rintro⟨k,i,u,h⟩ ⟨V,A,C⟩
 refine A1 U (λ h1=>?_) (λ h1=>?_)<;>simp only[zb]at h1
 ·have l:k<x.ps.length:=by omega
  have b:=Ar8 l A
  obtain⟨y,G⟩: ∃y,y=at' x.ps (k:Int):=⟨_,rfl⟩
  rw[<-G]at b
  have n:=OK b
  have hle:=b.le
  have D:=b.node
  have R:=y.size_pos
  rw[AK]at hle
  have j:=o6 b
  rw[<-n]at j
  have S:len y.flat=y.size:=by unfold len;rw[Tf.BR]
  refine AB U call112 U U (λ _ w M e=>ZJ x.flat v i M w e.st.sat (e.sl 0 U) K Aa Aa) U <|IB 3 ([]:List Tm) Tm.cells 11 48 Tm.AO U U Ah U λ v3=>HP (gd:=none) 4 i (G2 x.flat i) U U U ⟨.i64,_,rfl,AG U⟩ ⟨.i64,_,rfl,AG U⟩ underlying23 sizeOf48 Aa U λ v4=>?_
  rw[j]
  refine IT 120 U U U underlying23 type48 U U Tm.cells_one (by rw[len_nil];omega) λ v5=>?_
  rw[List.nil_append]
  refine AZ 5 U zeroValue48 U λ W=>L6 { at' y.flat 0 with name:=[]} rfl U U sizeOf48 U U U Aa λ X s=>?_
  rw[show((0:Int).toNat)=0 from rfl,Tf.eE]at s
  subst s
  refine H0 3 U <|XC 3 U λ a q T=>?_
  obtain⟨z,E⟩: ∃z:AJ,v5=z.v:=⟨⟨a,_,q⟩,T⟩
  subst E
  refine B9 7 [z] CA 1 23 DJ U U Ah U λ v7=>EC 24 U U U underlying55 type23 U U QM (by simp only[AH,len_nil];omega) λ v'=>C5 U Ad Aa (ES 6 (CS v' (h++[z]) ((D3 x).take (k+1))) (λ w M e=>⟨e.sl 1 U,DJ,by rw[gJ l,<-G];exact CB.snoc (e.sl 3 U) (e.f.get (k:=6) U).more⟩) ?_)
  exact AR (k+1,G2 x.flat i,v',h++[z]) U U ⟨Aa,by rw[n];exact b.rest,by rw[AN,C];rfl⟩ (by show x.ps.length-(k+1)<x.ps.length-k;omega)
 ·refine A2 Q U U U λ w M e=>⟨(u,h),M,rfl,by show len h=_;omega,e.st.done,AA ?_ A3⟩
  have:=e.f.get (k:=6) U
  rw[List.take_of_length_le (by simp[D3];omega)]at this
  exact this
end Go.Proofs.YtnoegalemkbbbaaGreatDoor
namespace Go.Eng
open Go.RowKit
inductive LS:A0->List Tk->Prop
 |nil:LS [] []
 |blank {c:UInt8} {r:A0} {u:List Tk}:MI c=true->LS r u->LS (c::r) u
 |tok {w r:A0} {t:Tk} {u:List Tk}:w≠[]->C0 (w++r)=(t,len w,0)->LS r u->LS (w++r) (t::u)
def MX(r:A0):Prop:=r=[]\/ ∃c r',r=c::r'/\KR (c.toNat:Int)=true
theorem MX.stop {r:A0}(h:MX r):Stop [] r:=by
 rcases h with h|⟨c,r',rfl,h⟩
 ·exact .inl h
 ·exact .inr (.inl ⟨by simp,by rw[G4];exact h⟩)
theorem BN1{c:UInt8}{r:A0}(h:KR (c.toNat:Int)=true):MX (c::r):=.inr ⟨c,r,rfl,h⟩
theorem LS.of {t:Tk}(h:HK t=true)(hp:t.pos=0){r:A0}{u:List Tk}(i:MX r)(hl:LS r u):LS (SE t++r) (t::u):=by
 obtain⟨h1,b⟩:=AR7 h (r:=[]) (.inl rfl)
 have:=eZ (v':=r) b h1 i.stop
 have e: { t with pos:=0}=t:=by cases t;simp only at hp;subst hp;rfl
 rw[e]at this
 exact .tok b this hl
theorem LS.mark {c:UInt8}(b:c∈([40,41,91,93,123,125,58,44,124]:A0)){r:A0}{u:List Tk}(hl:LS r u):LS (c::r) (VJ [c] 0::u):=
 .tok (w:=[c]) (by simp) (Ai1 b r) hl
def nwR(r:A0):Prop:= ∀c r',r=c::r'->CJ (c.toNat:Int) false=false/\c≠34
theorem MX.nw {r:A0}(h:MX r):nwR r:=by
 intro c r' e
 rcases h with h|⟨c2,b,rfl,h⟩
 ·rw[h]at e;cases e
 ·obtain⟨rfl,rfl⟩:=List.cons.inj e
  have:=eY h
  refine⟨oS h,λ e=>?_⟩
  subst e;exact this.2 rfl
def As1(s:A0):Tk:=⟨3,s,B6,0⟩
theorem ZK{s:A0}(h:FZ s=true):s≠[]/\ ∀j:Int,0<=j->j<len s->CJ (A4 s j) (j==0)=true:=V6.1 h
theorem LS.field {s r:A0}{u:List Tk}(i:CY s=true)(j: ∀c r',r=c::r'->CJ (c.toNat:Int) false=false)(hl:LS r u):LS ((46::F0 s)++r) (As1 s::u):=by
 refine .tok (by simp) ?_ hl
 unfold F0
 by_cases h:FZ s=true
 ·rw[if_pos h]
  obtain⟨h1,k⟩:=ZK h
  have hw:=sR h1 k j
  unfold C0
  rw[List.cons_append,G4,V8,hw,if_pos ⟨rfl,h1⟩,AH,Int.add_comm];rfl
 ·rw[if_neg h,<-Y6 i]
  have l:=fI i r
  obtain⟨q,b⟩:=YN s
  have hw:B8 (E5 s++r)=[]:=by rw[b];exact LG (by rw[List.cons_append,G4];rfl)
  have e:Lib.hasPrefix (E5 s++r) [34]=true:=by rw[b];rfl
  unfold C0
  rw[List.cons_append,G4,V8,hw,if_neg (λ x=>x.2 U),if_pos ⟨rfl,e⟩,l,AH,Int.add_comm];rfl
theorem LS.text {s r:A0}{u:List Tk}(b:CY s=true)(e:MX r)(hl:LS r u):LS (NH s++r) (⟨4,s,B6,0⟩::u):=by
 have:=LS.of (t:=⟨4,s,B6,0⟩) (by unfold HK;simp[b]) U e hl
 rw[show SE ⟨4,s,B6,0⟩=E5 s from rfl,Y6 b]at this;exact this
theorem LS.num {c:Nd}{r:A0}{u:List Tk}(b:JC c=true)(e:MX r)(hl:LS r u):LS (IC c++r) (⟨5,[],c,0⟩::u):=by
 have:=LS.of (t:=⟨5,[],c,0⟩) (by unfold HK;simp[b]) U e hl
 exact this
theorem LS.word {s r:A0}{u:List Tk}(b:FZ s=true)(e:MX r)(hl:LS r u):LS (s++r) (VK s 0::u):=by
 have:=LS.of (t:=VK s 0) (by unfold HK VK;simp[b]) U e hl
 exact this
theorem LS.sign {s r:A0}{u:List Tk}(b:s∈XZ)(e:MX r)(hl:LS r u):LS (s++r) (VJ s 0::u):=by
 have key: ∀s∈XZ,HK (VJ s 0)=true:=by decide+kernel
 have:=LS.of (t:=VJ s 0) (key s b) U e hl
 exact this
theorem As2: ∀(n:Int),0<=n->CK (Lib.itoa n)=n/\CH (Lib.itoa n)/\Lib.itoa n≠[]/\(0<n->A4 (Lib.itoa n) 0≠48)/\(n<10->len (Lib.itoa n)=1):=by
 intro n
 induction h:n.toNat using Nat.strongRecOn generalizing n with
 |_ m l=>
  intro h0
  have i:=dY h0
  have hd:toStr [48+n%10]=[UInt8.ofNat (48+n%10).toNat]:=dX _ _ U
  have j:((UInt8.ofNat (48+n%10).toNat).toNat:Int)=48+n%10:=KS Aa Aa
  have k:CP (UInt8.ofNat (48+n%10).toNat)=true:=by unfold CP C1;rw[j];simp;omega
  rw[hd]at i
  by_cases h10:10<=n
  ·rw[if_pos h10]at i
   obtain⟨g1,g2,g3,g4,g5⟩:=l (n/10).toNat Aa (n/10) rfl Aa
   rw[i]
   refine⟨?_,g2.app (λ b e=>by rw[List.mem_singleton.1 e];exact k),by simp,λ _=>?_,λ h=>by omega⟩
   ·rw[QI,g1,j];omega
   ·rw[IE (Int.le_refl 0) (GM g3)];exact g4 Aa
  ·rw[if_neg h10,List.nil_append]at i
   rw[i]
   refine⟨?_,λ b e=>by rw[List.mem_singleton.1 e];exact k,by simp,λ hp=>?_,λ _=>rfl⟩
   ·show CK ([]++[_])=n
    rw[QI,j,show CK []=0 from rfl];omega
   ·rw[G4,j];omega
theorem As3{n:Int}(h0:0<=n)(h1:n<=1000000):len (Lib.itoa n)<=7:=by
 have step: ∀k:Int,0<=k->len (Lib.itoa k)=(if 10<=k then len (Lib.itoa (k/10))else 0)+1:=λ k b=>by
  rw[dY b,AN]
  have:len (toStr [48+k%10])=1:=rfl
  rw[this];split<;>rfl
 rw[step n h0];split
 ·rw[step _ Aa];split
  ·rw[step _ Aa];split
   ·rw[step _ Aa];split
    ·rw[step _ Aa];split
     ·rw[step _ Aa];split
      ·rw[step _ Aa];split
       ·omega
       ·omega
      ·omega
     ·omega
    ·omega
   ·omega
  ·omega
 ·omega
inductive FT:Tm->List Tf->Prop
 |id (n:A0):FT ⟨0,0,n,[],0,B6⟩ []
 |field (n s:A0):CY s=true->FT ⟨1,0,n,s,0,B6⟩ []
 |part (n:A0) (k:Int):0<=k->k<=1000000->FT ⟨2,0,n,[],k,B6⟩ []
 |tail (n:A0) (k:Int):0<=k->k<=1000000->FT ⟨3,0,n,[],k,B6⟩ []
 |pipe (n:A0) (a b:Tf):FT ⟨4,0,n,[],0,B6⟩ [a,b]
 |map (n:A0) (a:Tf):FT ⟨5,0,n,[],0,B6⟩ [a]
 |vals (n:A0) (a:Tf):FT ⟨6,0,n,[],0,B6⟩ [a]
 |wher (n:A0) (a:Tf):FT ⟨7,0,n,[],0,B6⟩ [a]
 |obj (n:A0) (ps:List Tf):FT ⟨8,0,n,[],0,B6⟩ ps
 |tup (n:A0) (ps:List Tf):FT ⟨9,0,n,[],0,B6⟩ ps
 |i1 (n:A0):FT ⟨10,0,n,[],0,B6⟩ []
 |fromE (n:A0):FT ⟨11,0,n,[],0,B6⟩ []
 |group (n s:A0):KT s=true->FT ⟨12,0,n,s,0,B6⟩ []
 |sort (n s:A0):KT s=true->FT ⟨13,0,n,s,0,B6⟩ []
 |rev (n:A0):FT ⟨14,0,n,[],0,B6⟩ []
 |del (n s:A0):KT s=true->FT ⟨15,0,n,s,0,B6⟩ []
 |cmp (n s:A0) (k:Int) (c:Nd):KT s=true->0<=k->k<=5->MR c=true->FT ⟨16,0,n,s,k,c⟩ []
 |and (n:A0) (a b:Tf):FT ⟨17,0,n,[],0,B6⟩ [a,b]
 |or (n:A0) (a b:Tf):FT ⟨18,0,n,[],0,B6⟩ [a,b]
 |not (n:A0) (a:Tf):FT ⟨19,0,n,[],0,B6⟩ [a]
theorem T8{α:Type}{l:List α}(h:len l=0):l=[]:=by
 cases l with
 |nil=>rfl
 |cons a l=>rw[AH]at h;have:=A6 l;omega
theorem As4{α:Type}{l:List α}(h:len l=1): ∃a,l=[a]:=by
 match l,h with
 |[],h=>cases h
 |[a],_=>exact⟨a,rfl⟩
 |a::b::r,h=>rw[AH,AH]at h;have:=A6 r;omega
theorem As5{α:Type}{l:List α}(h:len l=2): ∃a b,l=[a,b]:=by
 match l,h with
 |[],h=>cases h
 |[a],h=>cases h
 |[a,b],_=>exact⟨a,b,rfl⟩
 |a::b::c::r,h=>rw[AH,AH,AH]at h;have:=A6 r;omega
theorem uZ{x:Tf}(h:x.B2):FT x.t x.ps:=by
 have hp:=h.plain
 obtain⟨⟨op,many,name,s,n,c⟩,ps⟩:=x
 have e:=h.zm
 rw[Tf.zm]at e
 have hm:many=0:=e.1
 subst hm
 unfold Tf.node Tf.t Tf.ps DN EV at hp
 dsimp only at hp
 show FT ⟨op,0,name,s,n,c⟩ ps
 split at hp
 ·rename_i ho
  simp only[Bool.and_eq_true,decide_eq_true_eq,Tm.mk.injEq,true_and]at hp
  obtain⟨⟨rfl,rfl,rfl⟩,hl⟩:=hp
  rw[T8 hl]
  rcases ho with rfl|rfl|rfl|rfl
  ·exact .id _
  ·exact .i1 _
  ·exact .fromE _
  ·exact .rev _
 split at hp
 ·rename_i ho
  simp only[Bool.and_eq_true,decide_eq_true_eq,Tm.mk.injEq,true_and]at hp
  obtain⟨⟨⟨rfl,rfl⟩,hl⟩,hu⟩:=hp
  rw[T8 hl,ho]
  exact .field _ _ hu
 split at hp
 ·rename_i ho
  simp only[Bool.and_eq_true,decide_eq_true_eq,Tm.mk.injEq,true_and]at hp
  obtain⟨⟨⟨⟨rfl,rfl⟩,hl⟩,h0⟩,h1⟩:=hp
  rw[T8 hl]
  rcases ho with rfl|rfl
  ·exact .part _ _ h0 h1
  ·exact .tail _ _ h0 h1
 split at hp
 ·rename_i ho
  simp only[Bool.and_eq_true,decide_eq_true_eq,Tm.mk.injEq,true_and]at hp
  obtain⟨⟨rfl,rfl,rfl⟩,hl⟩:=hp
  obtain⟨a,b,rfl⟩:=As5 hl
  rcases ho with rfl|rfl|rfl
  ·exact .pipe _ _ _
  ·exact .and _ _ _
  ·exact .or _ _ _
 split at hp
 ·rename_i ho
  simp only[Bool.and_eq_true,decide_eq_true_eq,Tm.mk.injEq,true_and]at hp
  obtain⟨⟨rfl,rfl,rfl⟩,hl⟩:=hp
  obtain⟨a,rfl⟩:=As4 hl
  rcases ho with rfl|rfl|rfl|rfl
  ·exact .map _ _
  ·exact .vals _ _
  ·exact .wher _ _
  ·exact .not _ _
 split at hp
 ·rename_i ho
  simp only[Bool.and_eq_true,decide_eq_true_eq,Tm.mk.injEq,true_and]at hp
  obtain⟨⟨rfl,rfl,rfl⟩,hl⟩:=hp
  rcases ho with rfl|rfl
  ·exact .obj _ _
  ·exact .tup _ _
 split at hp
 ·rename_i ho
  simp only[Bool.and_eq_true,decide_eq_true_eq,Tm.mk.injEq,true_and]at hp
  obtain⟨⟨⟨rfl,rfl⟩,hl⟩,hu⟩:=hp
  rw[T8 hl]
  rcases ho with rfl|rfl|rfl
  ·exact .group _ _ hu
  ·exact .sort _ _ hu
  ·exact .del _ _ hu
 split at hp
 ·rename_i ho
  simp only[Bool.and_eq_true,decide_eq_true_eq,Tm.mk.injEq,true_and]at hp
  obtain⟨⟨⟨⟨hl,hu⟩,h0⟩,h1⟩,i⟩:=hp
  rw[T8 hl,ho]
  exact .cmp _ _ _ _ hu h0 h1 i
 ·cases hp
abbrev iR(m:A0):Tk:=VJ m 0
abbrev ZL(m:A0):Tk:=VK m 0
def BN2(c:Nd):Tk:=if c.kind=0 then ZL V1 else if c.kind=1 then ZL UZ else if c.kind=2 then ZL UY else if c.kind=3 then⟨5,[],c,0⟩else⟨4,c.s,B6,0⟩
def TS(l:List Tk)(j:Int)(u:List Tk):Prop:=0<=j/\(A5 l j).map (strip false)=u
theorem TS.add {l:List Tk}{j:Int}{u r:List Tk}(h:TS l j (u++r)):TS l (j+len u) r:=by
 obtain⟨h0,b⟩:=h
 have e:=A6 u
 refine⟨Aa,?_⟩
 rw[<-KO l j (len u) h0 e]
 unfold A5 len at*
 rw[List.map_drop,b];simp
theorem TS.at {l:List Tk}{j:Int}{t:Tk}{r:List Tk}(h:TS l j (t::r)):(at' l j).kind=t.kind/\(at' l j).s=t.s/\(at' l j).c=t.c/\j<len l:=by
 obtain⟨h0,h1⟩:=h
 have hd:A5 l j=l.drop j.toNat:=rfl
 cases hf:A5 l j with
 |nil=>rw[hf]at h1;cases h1
 |cons a q=>
  rw[hf,List.map_cons]at h1
  have i:strip false a=t:=(List.cons.inj h1).1
  have b:(l.drop j.toNat)[0]? =some a:=by rw[<-hd,hf];rfl
  rw[List.getElem?_drop,Nat.add_zero]at b
  have e:at' l j=a:=by unfold at';rw[List.getD_eq_getElem?_getD,b];rfl
  have hl:=(List.getElem?_eq_some_iff.1 b).1
  rw[e,<-i]
  exact⟨rfl,rfl,rfl,by unfold len;omega⟩
theorem TS.CM {l:List Tk}{j:Int}{t:Tk}{r:List Tk}(h:TS l j (t::r))(m:A0):CM l j m=(t.kind==1&&t.s==m):=by unfold Eng.CM;rw[h.at.1,h.at.2.1]
theorem TS.QW {l:List Tk}{j:Int}{m:A0}{r:List Tk}(h:TS l j (iR m::r)):H4 l j m= .ok () (j+1):=by
 unfold H4;rw[h.CM,if_pos (by show((1:Int)==1&&m==m)=true;simp)]
theorem TS.open {l:List Tk}{d j:Int}{m:A0}{r:List Tk}(h:TS l j (iR m::r))(hd:d<64):LB l d j m= .ok () (j+1):=by
 unfold LB;rw[h.CM,if_neg (by simp;omega)];exact h.QW
abbrev ln(x:List Tk):Nat:=x.length
theorem vA{t:Tm}{ps:List Tf}(h:FT t ps)(e:EE t=true):(∃nm s k c,KT s=true/\0<=k/\k<=5/\MR c=true/\t=⟨16,0,nm,s,k,c⟩/\ps=[])\/(∃nm a b,t=⟨17,0,nm,[],0,B6⟩/\ps=[a,b])\/(∃nm a b,t=⟨18,0,nm,[],0,B6⟩/\ps=[a,b])\/(∃nm a,t=⟨19,0,nm,[],0,B6⟩/\ps=[a]):=by
 cases h with
 |cmp nm s k c h1 i j l=>exact .inl ⟨_,_,_,_,h1,i,j,l,rfl,rfl⟩
 |and nm a b=>exact .inr (.inl ⟨_,_,_,rfl,rfl⟩)
 |or nm a b=>exact .inr (.inr (.inl ⟨_,_,_,rfl,rfl⟩))
 |not nm a=>exact .inr (.inr (.inr ⟨_,_,rfl,rfl⟩))
 |_=>cases e
theorem As6(t:Tm)(n:A0):DN { t with name:=n}=DN t:=by
 obtain⟨o,m,nm,s,k,c⟩:=t
 unfold DN EV
 simp only[Tm.mk.injEq,true_and]
theorem As7(t:Tm)(n:A0)(dn:List Tf)(y:Tf):LI { t with name:=n} dn y=LI t dn y:=by unfold LI EE;rfl
theorem vB(t:Tm)(n:A0): ∀(l dn:List Tf),GB { t with name:=n} dn l=GB t dn l
 |[],dn=>rfl
 |y::l,dn=>by rw[GB,GB,As7,vB t n l]
theorem Tf.B2.named {x:Tf}(h:x.B2)(n:A0):(x.named n).B2:=by
 obtain⟨t,ps⟩:=x
 obtain⟨h1,b⟩:=h
 refine⟨?_,?_⟩
 ·rw[Tf.zm]at h1;rw[Tf.named,Tf.zm];exact h1
 ·rw[Tf.JN]at b
  rw[Tf.named,Tf.JN,vB]
  have e:DN ⟨t.op,len ps,n,t.s,t.n,t.c⟩=DN ⟨t.op,len ps,t.name,t.s,t.n,t.c⟩:=As6 ⟨t.op,len ps,t.name,t.s,t.n,t.c⟩ n
  show(DN ⟨t.op,len ps,n,t.s,t.n,t.c⟩&&GB t [] ps&&HU ps)=true
  rw[e];exact b
def VX(v:Fl):Prop:= ∀t∈v,len t.s<=100/\len t.name<=100/\len t.c.s<=100
theorem VX.root {x:Tf}(h:VX x.flat):len x.t.s<=100/\len x.t.name<=100/\len x.t.c.s<=100:=by
 have:=h x.node (by rw[Tf.JL];exact List.mem_cons_self)
 exact this
theorem vC{t:Tm}: ∀ {l:List Tf},t∈AM l↔ ∃y∈l,t∈y.flat:=by
 intro l
 induction l with
 |nil=>simp[AM]
 |cons y l b=>rw[AM,List.mem_append,b];simp
theorem VX.named {x:Tf}(h:VX x.flat):VX (x.named []).flat:=by
 have e:=h.root
 intro t b
 rw[Tf.JL]at b
 rcases List.mem_cons.1 b with rfl|b
 ·obtain⟨t,ps⟩:=x
  exact⟨e.1,by show len ([]:A0)<=100;decide,e.2.2⟩
 ·rw[Tf.oA]at b
  exact h t (by rw[Tf.JL];exact List.mem_cons_of_mem _ b)
def T9(n:Int):Nat->A0
 |0=>[]
 |k+1=>if J2 n k=true then(if T9 n k=[]then []else T9 n k++[124])++at' SR (k:Int)else T9 n k
end Go.Eng
namespace Go.Proofs.YtnoegalemkbbbaaGreatDoor
open Go.Proofs.Tryz
open Go.Eng
end Go.Proofs.YtnoegalemkbbbaaGreatDoor
namespace Go.Eng
theorem vD: ∀ {l:List Tf},EA l=true-> ∀x∈l,DV x=true
 |[],_,x,h=>by cases h
 |y::l,h,x,hx=>by
  rw[EA,Bool.and_eq_true]at h
  rcases List.mem_cons.1 hx with rfl|hx
  ·exact h.1
  ·exact vD h.2 x hx
theorem vE{x:Tf}(h:DV x=true):DL x.node=true/\C7 x.t.op none x.ps=true/\HZ x.t x.ps=true/\EA x.ps=true:=by
 rw[NR]at h
 simp only[Bool.and_eq_true]at h
 exact⟨h.1.1.1,h.1.1.2,h.1.2,h.2⟩
end Go.Eng
namespace Go.Proofs.YtnoegalemkbbbaaGreatDoor
open Go.Proofs.Tryz
open Go.Eng
end Go.Proofs.YtnoegalemkbbbaaGreatDoor
namespace Go.Eng
open Go.RowKit
theorem LS.As8 {s r:A0}{u:List Tk}(b:FZ s=true)(e: ∀c r',r=c::r'->CJ (c.toNat:Int) false=false)(hl:LS r u):LS (s++r) (VK s 0::u):=by
 obtain⟨h1,h⟩:=ZK b
 cases s with
 |nil=>exact absurd U h1
 |cons c w=>exact .tok (by simp) (Ai2 h e) hl
def ZM(n:Int):Nat->List Tk
 |0=>[]
 |k+1=>if J2 n k=true then(if T9 n k=[]then []else ZM n k++[iR [124]])++[ZL (at' SR (k:Int))]else ZM n k
theorem As9{k:Nat}(h:k<5):FZ (at' SR (k:Int))=true:=by
 rcases(by omega:k=0\/k=1\/k=2\/k=3\/k=4)with rfl|rfl|rfl|rfl|rfl<;>decide+kernel
theorem LS.mask (n:Int): ∀(k:Nat) {r:A0} {u:List Tk},k<=5->(∀c r',r=c::r'->CJ (c.toNat:Int) false=false)->LS r u->LS (T9 n k++r) (ZM n k++u)
 |0,r,u,_,_,hl=>hl
 |k+1,r,u,h,b,hl=>by
  have hw:=LS.As8 (As9 (k:=k) Aa) b hl
  rw[T9,ZM]
  split
  ·split
   ·exact hw
   ·simp only[List.append_assoc]
    exact LS.mask n k Aa (λ c r' e=>by rw[<-(List.cons.inj e).1];decide) (.mark Ab hw)
  ·exact LS.mask n k Aa b hl
theorem At0{x:Tf}(h:DV x=true)(ho:x.t.op=7\/x.t.op=8): ∃p:List Sp,p.length<=20/\(∀y∈p,y.B2)/\x.t.s=DM p/\(CQ x.t.s).1=p/\(∀y∈p,y.part=false):=by
 have hp:=(vE h).1
 unfold DL II at hp
 have e:x.node.op=x.t.op:=rfl
 have es:x.node.s=x.t.s:=rfl
 rw[if_neg Aa,if_neg Aa,if_neg Aa,if_neg Aa,if_neg Aa,if_neg Aa,if_pos Aa]at hp
 simp only[Bool.and_eq_true]at hp
 have b:=hp.2.2
 unfold DA at b
 simp only[Bool.and_eq_true,es]at b
 obtain⟨p,p1,p2,p3,p4⟩:=pY (s:=x.t.s) b.1
 refine⟨p,p1,p2,p3,p4,λ y j=>?_⟩
 have i:=b.2
 rw[p4]at i
 cases hyp:y.part with
 |false=>rfl
 |true=>
  have:p.any (λ x=>x.part)=true:=List.any_eq_true.2 ⟨y,j,hyp⟩
  rw[this]at i;cases i
theorem Tf.vF {x:Tf}(h:x.zm):x.t.many=0/\ ∀y∈x.ps,y.zm:=by
 obtain⟨t,ps⟩:=x
 rw[Tf.zm]at h
 exact⟨h.1,Y2.1 h.2⟩
theorem At1(s:A0)(i:Int)(h0:0<=i):((Lib.decodeL (A5 s i)).1:Int)=AX s i/\((Lib.decodeL (A5 s i)).2:Int)=runeLen s i:=by
 have h:Lib.decodeL (A5 s i)=Utf8.decode ⟨⟨s⟩⟩ i.toNat:=(SB s i h0).symm
 rw[h];exact⟨rfl,rfl⟩
theorem At2(s:A0): ∀(n:Nat) (i:Int),0<=i->(len s-i).toNat<=n->GO s i=true->Lib.validD (A5 s i)=true:=by
 intro n
 induction n with
 |zero=>
  intro i h0 k _
  have:A5 s i=[]:=by unfold A5;exact List.drop_eq_nil_of_le (by unfold len at k;omega)
  rw[this];rfl
 |succ n l=>
  intro i h0 k hu
  by_cases h1:i<len s
  ·have b:A5 s i≠[]:=by
    intro e
    have:(A5 s i).length=0:=by rw[e];rfl
    unfold A5 at this;rw[List.length_drop]at this;unfold len at h1;omega
   unfold GO at hu
   rw[dif_pos ⟨h0,h1⟩]at hu
   obtain⟨d1,d2⟩:=At1 s i h0
   rcases MJ h0 h1 with⟨q,_⟩|⟨q,hl,j,_⟩
   ·rw[dif_neg Aa]at hu;cases hu
   ·rw[dif_pos Aa]at hu
    rw[Lib.validD_step _ b,if_neg (by intro h;exact j ⟨Aa,Aa⟩)]
    have e:(A5 s i).drop (Lib.decodeL (A5 s i)).2=A5 s (i+rune s i):=by
     rw[<-KO s i (rune s i) h0 Aa]
     show _=(A5 s i).drop (rune s i).toNat
     rw[show(Lib.decodeL (A5 s i)).2=(rune s i).toNat by omega]
    rw[e]
    exact l _ Aa Aa hu
  ·have:A5 s i=[]:=by unfold A5;exact List.drop_eq_nil_of_le (by unfold len at h1;omega)
   rw[this];rfl
theorem vG{s:A0}(h:CY s=true):Lib.validD s=true:=by
 have:=At2 s (len s-0).toNat 0 Aa (Nat.le_refl _) h
 simpa[A5]using this
theorem At3{α:Type}[Inhabited α](A B:List α){i:Int}(h0:0<=i):at' (A++B) (len A+i)=at' B i:=by
 unfold at'
 rw[show(len A+i).toNat=A.length+i.toNat by unfold len;omega,List.getD_eq_getElem?_getD,List.getD_eq_getElem?_getD,List.getElem?_append_right Aa,Nat.add_sub_cancel_left]
def ZN(f:Fl):Option Int->Bool
 |some o=>(at' f o).op==1
 |none=>false
theorem At4(p:List Sp)(x:Tf):JQ p x=ZN x.flat (EX p x):=by
 unfold JQ ZN;rfl
theorem vH: ∀(p:List Sp) (x:Tf),(BF p x).2=ZN x.flat (EX p x)
 |[],x=>by
  show decide (x.t.op=1)=((at' x.flat 0).op==1)
  rw[Tf.JL]
  show decide (x.t.op=1)=(x.t.op==1)
  by_cases h:x.t.op=1<;>simp[h]
 |s::p,x=>by
  unfold BF EX
  by_cases hc:x.t.op≠2\/s.part=true
  ·rw[if_pos hc,if_pos hc];rfl
  ·rw[if_neg hc,if_neg hc,Tf.JL]
   have key: ∀(l:List Tf) (A:Fl) (o:Int),len A=o->(FP l o s.name (BF p)).2=ZN (A++AM l) (K6 l o s.name (EX p)):=by
    intro l
    induction l with
    |nil=>intro A o ho;rfl
    |cons y l i=>
     intro A o ho
     unfold FP K6
     by_cases hn:y.t.name=s.name
     ·rw[if_pos hn,if_pos hn]
      have b:=vH p y
      cases hl:EX p y with
      |none=>
       rw[hl]at b
       have b:(BF p y).2=false:=b
       rw[b,if_neg Ab];rfl
      |some k=>
       obtain⟨e,j⟩:=ZB p y k hl
       rw[hl]at b
       have b:(BF p y).2=((at' y.flat k).op==1):=b
       show _=((at' (A++(y.flat++AM l)) (o+k)).op==1)
       rw[<-ho,At3 A _ e,o5 _ _ e (by unfold len;rw[Tf.BR];omega),<-b]
       cases (BF p y).2<;>rfl
     ·rw[if_neg hn,if_neg hn,show o+(y.size:Int)=o+len y.flat by unfold len;rw[Tf.BR]]
      have:=i (A++y.flat) (o+len y.flat) (by rw[AN,ho])
      rw[List.append_assoc]at this
      exact this
   exact key x.ps [x.node] 1 U
theorem vI{l:A0}{c:UInt8}(h: ∀a q,l=a::q->a≠c):Lib.trimLeftB l c=l:=by
 cases l with
 |nil=>rfl
 |cons a q=>unfold Lib.trimLeftB;rw[List.dropWhile_cons];simp[h a q U]
theorem At5{s:A0}(i:s≠[])(h0:A4 s 0≠48)(h1:A4 s (len s-1)≠48):Lib.trimB s 48=s:=by
 have h:Lib.trimRightB s 48=s:=by
  show(Lib.trimLeftB s.reverse 48).reverse=s
  rw[vI λ a q e=>?_,List.reverse_reverse]
  have e2:s=q.reverse++[a]:=by rw[<-List.reverse_reverse s,e,List.reverse_cons]
  intro b
  apply h1
  rw[e2,AN,show len [a]=1 from rfl,show len q.reverse+1-1=len q.reverse by omega]
  have:=Y8 (u:=q.reverse) (v:=[a]) (k:=0) (Int.le_refl 0)
  rw[Int.add_zero,G4]at this
  rw[this,b];rfl
 unfold Lib.trimB
 rw[h,vI λ a q e=>?_]
 intro b
 apply h0
 rw[e,G4,b];rfl
theorem At6{n:Nd}(h:JC n=true):OV n=true:=by
 unfold JC at h
 split at h
 ·cases h
 rename_i b
 simp only[Bool.or_eq_true,bne_iff_ne,ne_eq,Bool.not_eq_true',beq_eq_false_iff_ne,decide_eq_true_eq,not_or,Decidable.not_not,Bool.not_eq_false]at b
 obtain⟨⟨⟨⟨⟨⟨⟨e,c2⟩,c3⟩,c4⟩,c5⟩,i⟩,j⟩,k⟩:=b
 unfold OV
 rw[if_neg (by
  rintro(h|h|h|h|h|h|h|h)
  ·exact h e
  ·exact h c2
  ·exact h c3
  ·omega
  ·omega
  ·omega
  ·omega
  ·rw[c4]at h;cases h)]
 by_cases hs:n.s=[]
 ·rw[if_pos (by simp[hs])]at h
  rw[if_pos hs];simpa using h
 ·rw[if_neg (by simp[hs])]at h
  rw[if_neg hs]
  simp only[Bool.and_eq_true,bne_iff_ne]at h
  rw[At5 hs h.1 h.2];simp
theorem At7{n:Nd}(h:DT n=true):K5 n=true:=by
 unfold DT KU at h
 unfold K5
 by_cases h0:n.kind=0\/n.kind=1\/n.kind=2
 ·rw[if_pos h0]at h ⊢;exact h
 rw[if_neg h0]at h ⊢
 by_cases h3:n.kind=3
 ·rw[if_pos h3]at h ⊢;exact At6 h
 rw[if_neg h3]at h ⊢
 by_cases h4:n.kind=4
 ·rw[if_pos h4]at h ⊢
  rw[Bool.and_eq_true]at h ⊢
  exact⟨vG h.1,h.2⟩
 rw[if_neg h4]at h ⊢
 exact h
theorem At8{n:Int}{c:Nd}(h:OW n c=true):NP n c=true:=by
 unfold OW at h
 unfold NP GL
 simp only[Bool.and_eq_true,decide_eq_true_eq]at h ⊢
 exact⟨⟨h.1.1,h.1.2⟩,h.2.1,⟨At7 h.2.2.2,h.2.2.1.1⟩,by have:=h.2.2.1.2;omega⟩
theorem At9{t:Tm}(hp:(t.op=7\/t.op=8)->(HA t.s).2=true)(h:DL t=true):HY t=true:=by
 unfold DL II at h
 unfold HY IH
 by_cases h0:t.op=0
 ·rw[if_pos h0]at h ⊢;rw[Bool.and_comm];exact h
 rw[if_neg h0]at h ⊢
 by_cases h1:t.op=1
 ·rw[if_pos h1]at h ⊢
  simp only[Bool.and_eq_true,decide_eq_true_eq]at h ⊢
  exact⟨⟨⟨h.2.1.1,Aa⟩,h.2.2⟩,h.1⟩
 rw[if_neg h1]at h ⊢
 by_cases h9:t.op=9
 ·rw[if_pos h9]at h ⊢
  simp only[Bool.and_eq_true,decide_eq_true_eq]at h ⊢
  exact⟨⟨h.2.1,At8 h.2.2⟩,h.1⟩
 rw[if_neg h9]at h ⊢
 by_cases h2:t.op=2
 ·rw[if_pos h2]at h ⊢
  simp only[Bool.and_eq_true,Bool.or_eq_true,beq_iff_eq,decide_eq_true_eq]at h ⊢
  exact⟨⟨⟨h.2.1,Aa⟩,Aa⟩,h.1⟩
 rw[if_neg h2]at h ⊢
 by_cases h4:t.op=4
 ·rw[if_pos h4]at h ⊢;rw[Bool.and_comm];exact h
 rw[if_neg h4]at h ⊢
 by_cases h3:t.op=3\/t.op=5\/t.op=6
 ·rw[if_pos h3]at h ⊢;rw[Bool.and_comm];exact h
 rw[if_neg h3]at h ⊢
 by_cases h7:t.op=7\/t.op=8
 ·rw[if_pos h7]at h ⊢
  simp only[Bool.and_eq_true,decide_eq_true_eq]at h ⊢
  exact⟨⟨hp h7,h.2.1⟩,h.1⟩
 rw[if_neg h7]at h ⊢
 simp at h
end Go.Eng
