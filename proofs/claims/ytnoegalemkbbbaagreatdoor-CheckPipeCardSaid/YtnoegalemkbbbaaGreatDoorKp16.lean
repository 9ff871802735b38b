/- Lemmas for the card. -/
import Derived.Test.YtnoegalemkbbbaaGreatDoorKp15
set_option linter.unusedVariables false
set_option linter.unusedSimpArgs false
set_option maxRecDepth 100000
set_option maxRecDepth 100000
namespace Go.Proofs.YtnoegalemkbbbaaGreatDoor
open Go.Proofs.Tryz
open Go.Eng
theorem toE{P:Program}{f:FuncId}{args:Array Value}{w:World}{u:Value}(h:Calls P f args w λ e w'=>e= .returned u/\w'=w):Calls P f args w λ e w'=>e= .returned u/\Ext w w':=h.mono λ e w' ⟨h1,b⟩=>⟨h1,by rw[b];exact .refl _⟩
theorem VT(neg:Bool)(s:A0)(x:Int)(w:World)(hg:Gl w)(F:len s<=1099511627776):
   Calls prog 288 [.bool neg,str s,i64 x].toArray w λ e w'=>e= .returned (.tuple #[EV (CI neg s x).1,i64 (CI neg s x).2])/\Ext w w':=by
 have q:=dL s
 have A:=AD7 s
 have C:=mF (AY s)
 have D:=A9 (AY s)
 have E:=A9 (BE (AY s))
 refine AH AF func288 U ntmps288 [] [] [.v (.bool neg),.v (str s),I x] U (BD w) A4 (λ B j=>BA 1 U zeroValue46 U λ G=>AJ U call302 U U (λ _ w M h=>qM s w (hg.low h.st.low) Aa) U ?_) U
 refine A1 U (λ h1=>?_) (λ h1=>?_)<;>simp only[zb]at h1
 ·exact A2 j U U U λ w M h=>⟨by unfold CI;rw[h1];rfl,h.st.low⟩
 refine AJ (u:=str (AY s)) U call303 U U (λ _ w M h=>AC1 s [48] w Ab (Z2 Ab)) U <|A1 (b:=AY s==[]) U (λ l=>?_) (λ l=>?_)
 ·exact A2 j U U U λ w M h=>⟨by unfold CI;rw[if_pos h1,if_pos l];rfl,h.st.low⟩
 have i: ¬(AY s==[])=true:=by rw[l];decide
 refine A1 U (λ n=>?_) (λ n=>?_)
 ·exact A2 j U U U λ w M h=>⟨by unfold CI;rw[if_pos h1,if_neg i,if_pos n];rfl,h.st.low⟩
 have k:=Bool.eq_false_iff.1 n
 simp only[zb]at n
 refine AJ (u:=str (BE (AY s))) U call304 U U (λ _ w M h=>dH (AY s) [48] w Aa Ab (Z2 Ab)) U <|AJ (u:=.bool (decide (-1000<=x+(len (AY s)-len (BE (AY s))))&&decide (x+(len (AY s)-len (BE (AY s)))<=1000)&&decide (len (BE (AY s))+(x+(len (AY s)-len (BE (AY s))))<=1000))) U (hO:=by show _/\_;simp only[zb]<;>omega) call305 U U (λ _ w M h=>toE (qN (len (BE (AY s))) (x+(len (AY s)-len (BE (AY s)))) w Aa)) U ?_
 have y:=q
 refine A1 U (λ z=>?_) (λ z=>?_)<;>simp only[zb]at z
 ·exact A2 j U U U λ w M h=>⟨by unfold CI;rw[if_pos h1,if_neg i,if_neg k,if_pos (by simp only[zb];have:=y (by simpa using l);omega)];rfl,h.st.low⟩
 ·exact A2 j U U U λ w M h=>⟨by unfold CI;rw[if_pos h1,if_neg i,if_neg k,if_neg (by simp only[zb];omega)];rfl,h.st.low⟩
end Go.Proofs.YtnoegalemkbbbaaGreatDoor
namespace Go.Eng
open Go.RowKit
theorem Am4: ∀a:Fin 128,DE ((a:Nat):Int)=[((a:Nat):Int).toNat.toUInt8]:=by decide+kernel
theorem sY{r:Int}(h:0<=r/\r<128):DE r=[r.toNat.toUInt8]:=by
 have:=Am4 ⟨r.toNat,Aa⟩
 rw[show(((⟨r.toNat,Aa⟩:Fin 128):Nat):Int)=r by show(r.toNat:Int)=r;omega]at this
 exact this
abbrev H4(s:A0):Prop:= ∀b∈s,48<=b.toNat/\b.toNat<=57
theorem H4.at {s:A0}(h:H4 s){i:Int}(h0:0<=i)(h1:i<len s):48<=A3 s i/\A3 s i<=57:=by
 have hi:i.toNat<s.length:=by unfold len at h1;omega
 have:=h s[i.toNat] (List.getElem_mem hi)
 unfold A3
 rw[List.getD_eq_getElem?_getD,List.getElem?_eq_getElem hi]
 show(48:Int)<=(s[i.toNat].toNat:Int)/\_
 exact⟨Aa,by show(s[i.toNat].toNat:Int)<=57;omega⟩
theorem sZ{α:Type}{p:α->Bool}{b:α}{r:List α}: ∀ {l:List α},l.dropWhile p=b::r->p b=false
 |[],h=>by cases h
 |a::l,h=>by
  rw[List.dropWhile_cons]at h
  split at h
  ·exact sZ h
  ·rename_i e;cases h;simpa using e
theorem gX{α:Type}{p:α->Bool}: ∀ {l:List α},(∀x∈l,p x=true)->l.dropWhile p=[]
 |[],_=>rfl
 |a::l,h=>by rw[List.dropWhile_cons,if_pos (h a (.head _))];exact gX λ x hx=>h x (.tail _ hx)
theorem tA(c:UInt8)(s:A0):len (Lib.trimRightS s [c])<=len s/\(0<len (Lib.trimRightS s [c])->A3 s (len (Lib.trimRightS s [c])-1)≠(c.toNat:Int)):=by
 have h1:s.reverse=s.reverse.takeWhile (([c]:A0).contains ·)++s.reverse.dropWhile (([c]:A0).contains ·):=List.takeWhile_append_dropWhile.symm
 have e:s=(s.reverse.dropWhile (([c]:A0).contains ·)).reverse++(s.reverse.takeWhile (([c]:A0).contains ·)).reverse:=by
  rw[<-List.reverse_append,<-h1,List.reverse_reverse]
 have hd:Lib.trimRightS s [c]=(s.reverse.dropWhile (([c]:A0).contains ·)).reverse:=rfl
 rw[hd]
 refine⟨by unfold len;have:=congrArg List.length e;simp at this ⊢;omega,λ hp=>?_⟩
 cases hq:s.reverse.dropWhile (([c]:A0).contains ·)with
 |nil=>rw[hq]at hp;simp[len]at hp
 |cons b r=>
  have i:(([c]:A0).contains b)=false:=by
   exact sZ hq
  rw[hq]at e
  unfold A3
  have hl:(len (b::r).reverse-1).toNat=r.length:=by unfold len;simp
  rw[hl,e]
  rw[List.getD_eq_getElem?_getD,List.getElem?_append_left (by simp)]
  simp only[List.reverse_cons,List.getElem?_append_right (show r.reverse.length<=r.length by simp),List.length_reverse,Nat.sub_self,List.getElem?_cons_zero,Option.getD_some]
  intro h
  have:b=c:=UInt8.toNat_inj.1 Aa
  rw[this]at i;simp at i
theorem Am5(d:Int):0<=len (P1 d)/\(len (P1 d)<=0\/len (P1 d)=d):=by unfold P1 len;rw[List.length_replicate];omega
theorem Am6(s:A0):len (P2 s)<=2*len s+2:=by
 have h0:=A9 s
 have h1:=mD (len s-len (I4 s))
 have b:=PZ s 0 (len (I4 s)-1)
 have e:=A9 (I4 s)
 unfold P2
 split<;>simp only[AQ,AM,len_nil]<;>omega
theorem tC(s:A0):len (P3 s)<=2*len s+2:=by
 have h0:=A9 s
 have h1:=Am5 (len s-len (BE s))
 have b:=PZ s 0 (len (BE s)-1)
 have e:=A9 (BE s)
 unfold P3
 simp only[AQ,AM,len_nil];omega
theorem tD{s:A0}(h:JA s=true):H4 s:=λ b e=>by
 obtain⟨j,i,rfl⟩:=List.getElem_of_mem e
 exact(YP _).1 (YQ.1 h j i)
theorem gY{s:A0}(h:H4 s)(k:Int):H4 (s++BB k):=λ b e=>by
 rcases List.mem_append.1 e with e|e
 ·exact h b e
 ·unfold BB at e;rw[(List.mem_replicate.1 e).2];decide
theorem tE{s:A0}(hs:s≠[])(h:Lib.trimB s 48=s)(k:Int):0<len (BE (s++BB k)):=by
 refine Decidable.byContradiction λ e=>hs ?_
 have h0:BE (s++BB k)=[]:=List.eq_nil_of_length_eq_zero (by unfold len at e;omega)
 unfold BE Lib.trimRightS at h0
 rw[List.reverse_eq_nil_iff]at h0
 have h1:=dropWhile_nil h0
 have i: ∀b∈s.reverse,(b==(48:UInt8))=true:=λ b j=>by
  have:=h1 b (by rw[List.reverse_append];exact List.mem_append_right _ j)
  simpa using this
 have l:Lib.trimRightB s 48=[]:=by
  unfold Lib.trimRightB
  rw[List.reverse_eq_nil_iff]
  exact gX i
 rw[<-h];unfold Lib.trimB;rw[l];rfl
structure QQ (c:Nd):Prop where
 len:len c.s<=100
 e: -1000<=c.e/\c.e<=1000/\Eng.len c.s+c.e<=1000
 fig:H4 c.s
 trim:c.s≠[]->Lib.trimB c.s 48=c.s
theorem tF{c:Nd}(h:GN c=true)(j:c.kind=3):QQ c:=by
 unfold GN JW at h
 rw[if_neg Aa,if_pos j]at h
 simp only[Bool.and_eq_true]at h
 have h1:=h.1.1
 unfold OV at h1
 split at h1
 ·cases h1
 ·rename_i i
  simp only[not_or,Decidable.not_not,Bool.not_eq_false]at i
  obtain⟨_,_,_,a,b,d,e,f⟩:=i
  refine⟨Aa,⟨Aa,Aa,Aa⟩,tD f,λ hs=>?_⟩
  rw[if_neg hs]at h1
  simpa using h1
theorem tG{c:Nd}{b:Bool}{top:Int}(h:top=len c.s+c.e-(if c.neg=b/\c.s=[49]then 1 else 0)):(if-1000>top-100 then-1000 else top-100)=P4 c b:=by
 unfold P4;rw[<-h];omega
end Go.Eng
namespace Go.Proofs.YtnoegalemkbbbaaGreatDoor
open Go.Proofs.Tryz
open Go.Eng
theorem Am7(s:A0)(w:World)(hg:Gl w)(n:H4 s)(D:len s<=4194304):Calls prog 289 [str s].toArray w λ e w'=>e= .returned (str (P2 s))/\Ext w w':=by
 have q:=A9 s
 have y:=A9 (I4 s)
 obtain⟨h,z⟩:=tA 57 s
 have k:len (I4 s)<=len s:=h
 have F:=OD (len s-len (I4 s)) Aa
 refine AH AF func289 U ntmps289 [] [] [.v (str s)] U (BD w) A4 (λ B l=>AJ (u:=str (I4 s)) U call304 U U (λ _ w M b=>dH s [57] w Aa Ab (Z2 Ab)) U <|AJ (u:=str (BB (len s-len (I4 s)))) U call291 U U (λ _ w M b=>fT _ w Aa Aa) U ?_) U
 refine A1 U (λ h1=>?_) (λ h1=>?_)<;>simp only[zb]at h1
 ·exact A2 l U U (hO:=by simp only[AM,len_nil];and_intros<;>first|omega|trivial) U λ w M b=>⟨by unfold P2;rw[if_pos h1];rfl,b.st.low⟩
 have A:=n.at (i:=len (I4 s)-1) Aa Aa
 have C:=FG (s:=s) (i:=0) (j:=len (I4 s)-1) Aa Aa Aa
 refine G4 U BM Ac <|YL (.v (str (DE (A3 s (len (I4 s)-1)+1)))) U U (λ w M b=>PV.bG (A8 (v:=.v (.int .i32 (A3 s (len (I4 s)-1)+1))) (E:=[]) U) underlying21 underlying9) ?_
 rw[sY Aa]
 exact G5 U (hO:=by simp only[AQ,AM,len_nil];and_intros<;>first|omega|trivial) <|A2 l U U U λ w M b=>⟨by unfold P2;rw[if_neg h1];rfl,b.st.low⟩
theorem Am8(s:A0)(w:World)(hg:Gl w)(l:H4 s)(C:len s<=4194304)(hp:0<len (BE s)):Calls prog 290 [str s].toArray w λ e w'=>e= .returned (str (P3 s))/\Ext w w':=by
 have n:=A9 s
 obtain⟨h,q⟩:=tA 48 s
 have k:len (BE s)<=len s:=h
 have D:len (P1 (len s-len (BE s)))=len s-len (BE s):=by unfold P1 len;rw[List.length_replicate];unfold len at*;omega
 refine AH AF func290 U ntmps290 [] [] [.v (str s)] U (BD w) A4 (λ B y=>AJ (u:=str (BE s)) U call304 U U (λ _ w M b=>dH s [48] w Aa Ab (Z2 Ab)) U ?_) U
 have z:=l.at (i:=len (BE s)-1) Aa Aa
 have A:=FG (s:=s) (i:=0) (j:=len (BE s)-1) Aa Aa Aa
 refine G4 U BM Ac <|YL (.v (str (DE (A3 s (len (BE s)-1)-1)))) U U (λ w M b=>PV.bG (A8 (v:=.v (.int .i32 (A3 s (len (BE s)-1)-1))) (E:=[]) U) underlying21 underlying9) ?_
 rw[sY Aa]
 exact HB (u:=str (P1 (len s-len (BE s)))) U (hO:=by simp only[AQ,AM,len_nil];and_intros<;>first|omega|trivial) call291 U U (λ _ w M b=>lW 57 _ w Aa Aa) U <|G5 U (hO:=by simp only[AQ,AM,len_nil];and_intros<;>first|omega|trivial) <|A2 y U U U λ w M b=>⟨rfl,b.st.low⟩
theorem Am9(c:Nd)(b:Bool)(w:World)(hg:Gl w)(F:QQ c):Calls prog 266 [EV c,.bool b].toArray w λ e w'=>e= .returned (.tuple #[EV (NN c b).1,.bool (NN c b).2])/\Ext w w':=by
 have T:=A9 c.s
 have V:=F.len
 have W:=F.e
 refine AH AF func266 U ntmps266 [] [] [D3 c,.v (.bool b)] U (BD w) A4 (λ B Q=>BP 2 U U U λ G=>BA 4 U zeroValue46 U λ H=>?_) U
 refine A1 U (λ h1=>?_) (λ h1=>?_)<;>simp only[zb]at h1
 ·refine AJ U call288 U U (λ _ w M l=>VT (!b) [49] (-1000) w (hg.low l.st.low) Ab) U <|BA 6 U zeroValue46 U λ b6=>A2 Q U U U λ w M l=>⟨?_,l.st.low⟩
  unfold NN P5;rw[if_pos h1];rfl
 refine G4 U BM Ac <|G5 U ?_
 refine CP 0 (λ s=> ∃(f:FuncId) (S:A0->A0) (top:Int),CT prog f/\(∀k w,Gl w->0<=k->k<=2000->Calls prog f [str (c.s++BB k)].toArray w λ e w'=>e= .returned (str (S (c.s++BB k)))/\Ext w w')/\S=(if c.neg=b then P3 else P2)/\(∀s,len (S s)<=2*len s+2)/\top=len c.s+c.e-(if c.neg=b/\c.s=[49]then 1 else 0)/\
    s=⟨[],[(2,EN G c),(4,EN H (DB 0))],[Z 2 (.bx 2 G 0),Z 4 (.bx 4 H 0),Z 5 (.v (.bool false)),Z 8 (.v (.func (.func f) #[] #[])),Z 9 (I top)]⟩) U U (λ K=>?_) (λ K=>?_) ?_
 ·have n:c.neg=b:=by simpa using K
  have hd: ∀k w,Gl w->0<=k->k<=2000->Calls prog 290 [str (c.s++BB k)].toArray w λ e w'=>e= .returned (str (P3 (c.s++BB k)))/\Ext w w':=λ k w hg h0 L=>Am8 _ w hg (gY F.fig k) (by rw[AQ,OD k h0];omega) (tE h1 (F.trim h1) k)
  refine A1 U (λ J=>?_) (λ J=>?_)<;>simp only[zb]at J
  ·exact AW _ U U ⟨290,P3,_,call290,hd,by rw[if_pos n],tC,by rw[if_pos ⟨n,J⟩],rfl⟩
  ·exact AW _ U U ⟨290,P3,_,call290,hd,by rw[if_pos n],tC,by rw[if_neg (λ q=>J q.2)];omega,rfl⟩
 ·have n: ¬c.neg=b:=by simpa using K
  exact AW _ U U ⟨289,P2,_,call289,λ k w hg h0 L=>Am7 _ w hg (gY F.fig k) (by rw[AQ,OD k h0];omega),by rw[if_neg n],Am6,by rw[if_neg (λ q=>n q.1)];omega,rfl⟩
 rintro _ ⟨f,S,top,C,hS,N,O,y,rfl⟩
 have X: -1001<=top/\top<=1000:=by rw[y];split<;>omega
 have D:=tG y
 obtain⟨z,R⟩: ∃z,z=P4 c b:=⟨_,rfl⟩
 rw[<-R]at D
 have hzb: -1000<=z/\z<=c.e:=by rw[<-D,y];split<;>split<;>omega
 refine AU (I z) U U (λ w M l=>by rw[<-D];exact PV.max2 (A8 (v:=I (top-100)) (E:=[]) U) (A8 (v:=I (-1000)) (E:=[]) U)) ?_
 have P:P5 c b=CI c.neg (S (c.s++BB (c.e-z))) z:=by unfold P5;rw[if_neg h1,N,<-R]
 have A:=OD (c.e-z) Aa
 have hSl:len (S (c.s++BB (c.e-z)))<=10000:=by have:=O (c.s++BB (c.e-z));rw[AQ,A]at this;omega
 refine xsj 3 (λ s=> ∃i,s=⟨[],[(2,EN G c),(4,EN H (DB 0)),(11,EN i (CI c.neg (S (c.s++BB (c.e-z))) z).1)],[Z 2 (.bx 2 G 0),Z 4 (.bx 4 H 0),Z 5 (.v (.bool false)),Z 11 (.bx 11 i 0),Z 12 (I (CI c.neg (S (c.s++BB (c.e-z))) z).2)]⟩) U ?_ ?_
 ·refine DI [9,11,13,17,18] 6 (λ _ _ _ _ _ h=>h) U BM Ac <|G6 9 17 U U U ?_ ?_
  ·refine AJ U call291 U U (λ _ w M l=>fT _ w Aa Aa) U <|AD U <|G6 11 17 U U U ?_ ?_
   ·refine AS [] (λ _:Unit=>.v (str (S (c.s++BB (c.e-z))))) [] (λ _=>[]) (Fg:=λ _=>[]) (pu:=λ _=>True) U (hO:=by simp only[A]<;>omega) U C U U (λ w M j hF=>(hS (c.e-z) w (hg.low j.low) Aa Aa).mono λ e w' ⟨he,hx⟩=>⟨(),M,he,trivial,Mem.le.refl _,j.ext hx,A4⟩) λ _ _=>AD U <|G6 13 17 U U U ?_ ?_
    ·exact AJ U call288 U U (λ _ w M l=>VT c.neg (S (c.s++BB (c.e-z))) z w (hg.low l.st.low) Aa) U <|AD U <|AK 17 U U U <|BA 11 U zeroValue46 U λ i=>AD U <|AK 18 U U U <|AD U <|BN U U U <|AW _ U U ⟨i,rfl⟩
    ·exact BA 11 U zeroValue46 U λ i=>AD U <|AK 13 U U U <|AJ U call288 U U (λ _ w M l=>VT c.neg (S (c.s++BB (c.e-z))) z w (hg.low l.st.low) Aa) U <|AD U <|AK 18 U U U <|AD U <|BN U U U <|AW _ U U ⟨i,rfl⟩
   ·exact BA 11 U zeroValue46 U λ i=>AD U <|AK 11 U U U <|AS [] (λ _:Unit=>.v (str (S (c.s++BB (c.e-z))))) [] (λ _=>[]) (Fg:=λ _=>[]) (pu:=λ _=>True) U (hO:=by simp only[A]<;>omega) U C U U (λ w M j hF=>(hS (c.e-z) w (hg.low j.low) Aa Aa).mono λ e w' ⟨he,hx⟩=>⟨(),M,he,trivial,Mem.le.refl _,j.ext hx,A4⟩) λ _ _=>AD U <|AK 13 U U U <|AJ U call288 U U (λ _ w M l=>VT c.neg (S (c.s++BB (c.e-z))) z w (hg.low l.st.low) Aa) U <|AD U <|AK 18 U U U <|AD U <|BN U U U <|AW _ U U ⟨i,rfl⟩
  ·exact BA 11 U zeroValue46 U λ i=>AD U <|AK 9 U U U <|AJ U call291 U U (λ _ w M l=>fT _ w Aa Aa) U <|AD U <|AK 11 U U U <|AS [] (λ _:Unit=>.v (str (S (c.s++BB (c.e-z))))) [] (λ _=>[]) (Fg:=λ _=>[]) (pu:=λ _=>True) U (hO:=by simp only[A]<;>omega) U C U U (λ w M j hF=>(hS (c.e-z) w (hg.low j.low) Aa Aa).mono λ e w' ⟨he,hx⟩=>⟨(),M,he,trivial,Mem.le.refl _,j.ext hx,A4⟩) λ _ _=>AD U <|AK 13 U U U <|AJ U call288 U U (λ _ w M l=>VT c.neg (S (c.s++BB (c.e-z))) z w (hg.low l.st.low) Aa) U <|AD U <|AK 18 U U U <|AD U <|BN U U U <|AW _ U U ⟨i,rfl⟩
 ·rintro _ ⟨i,rfl⟩
  refine A2 Q U U U λ w M l=>⟨?_,l.st.low⟩
  unfold NN;rw[P];rfl
end Go.Proofs.YtnoegalemkbbbaaGreatDoor
namespace Go.Eng
open Go.RowKit
theorem gZ{c:Cx}{B:Exit->Act->World->Prop}{k:List Fr}{m:Md}{s:XS}(s2:XS)(h0:(⟨JC s2.F s.F,JD s2.H s.H,GH (keys s2.L) s.L⟩:XS)=s2)(b:XG c B k m s2):XG c B k m s:=λ a w hs=>b a w (hs.sub (XS.N4 h0))
def I5:List Nd:=[DB 0,DB 1,DB 2,DB 3]
theorem An0(a:Tm):len (HM a)<=2:=by
 unfold HM;split<;>simp only[AM,len_nil]<;>omega
theorem LA{α β:Type}(f:α->List β)(l:List α)(x:α):(l++[x]).flatMap f=l.flatMap f++f x:=by simp
theorem An1(l:List Tm):DW l=I5++l.flatMap NO++[DB 4]++l.flatMap HM:=rfl
def tH(b:Bool):List Value:=[.bool b]
end Go.Eng
namespace Go.Proofs.YtnoegalemkbbbaaGreatDoor
open Go.Proofs.Tryz
open Go.Eng
theorem An2{w0 w:World}{M0 M:Mem}{T:HO}{Rs:List HO}{b:Nat}{v:Value}{l:List Tm}(hg:Gl w0)(hl:(kn v 7 l C5).ok M)(hb:len l<=16777216)(hn: ∀a∈l,a.c.kind=3->QQ a.c)(hs: ∀a∈l,len a.c.s<=1048576):
    SQ prog 265 [.pointer (some ⟨b,0,none⟩)] (DW l).length w0 M0 (T:: .box b [v] 79::Rs)
     (λ k (_:Unit)=>[D3 (at' (DW l) (k:Int))]) (λ _ _=>True) (λ _ _=>[]) w M:=by
 intro γ ub I' J Hy V W g0 ⟨G,H,K,L,N,hx⟩ hS hF hI hy
 have hl0:=A9 l
 have hS2:St w0 M0 w M (.box b [v] 79::G g0::H g0::K g0::L g0::N g0::(T::Rs)):=by
  rw[hx]at hS
  exact hS.perm (List.perm_middle (l₁:=[G g0,H g0,K g0,L g0,N g0,T])).symm
 refine Y8 (Hr:=T::Rs) AF func265 rfl ntmps265 rfl (λ w h=>by obtain⟨g,M',h,_⟩:=h;cases h) [(10,kn v 7 l C5),(9,ID (V g0))] [(0,.box b [.sl 10 v] 79),(1,.ho (G g0)),(2,.ho (H g0)),(3,.ho (K g0)),(4,.ho (L g0)),(5,.ho (N g0))] [.v (.func (.yield W) #[] #[]),.bx 0 b 0] rfl hS2 (AG hl (AG ⟨Sl.nil M 1,DN,hF⟩ A4)) (λ B hB=>BF 13 I5 Nd.cells 6 46 Nd.AV U U Ah U λ u0=>?_) rfl
 refine B5 (σ:=Int×Value×List Nd) (λ(k,u,y)=>⟨[(10,kn v 7 l C5),(13,kn u 6 y Nd.cells),(9,ID (V g0))],[(0,.box b [.sl 10 v] 79),(13,.ho (.own 46 6 u y.length (y.flatMap Nd.cells))),(1,.ho (G g0)),(2,.ho (H g0)),(3,.ho (K g0)),(4,.ho (L g0)),(5,.ho (N g0))],[Z 0 (.v (.func (.yield W) #[] #[])),Z 1 (.bx 0 b 0),Z 3 (.sl 13 u),Z 19 (.sl 10 v),Z 20 (I (len l)),Z 21 (I k)]⟩)
  (λ(k,u,y)=>0<=k/\k<=len l/\y=I5++(Eng.sub l 0 k).flatMap NO/\len y<=4+3*k) (λ(k,u,y)=>(len l-k).toNat) (0,u0,I5) U U ⟨Aa,Aa,by show I5=I5++[];rw[List.append_nil],Ab⟩ ?_
 rintro⟨k,u,y⟩ ⟨h0,h1,P,hy2⟩
 refine A1 U (λ j=>?_) (λ j=>?_)<;>simp only[zb]at j
 ·obtain⟨a,F⟩: ∃a,a=at' l k:=⟨_,rfl⟩
  have X:a∈l:=by rw[F];exact at_mem h0 j
  have D:=FT h0 j
  rw[<-F]at D
  refine BA 50 U zeroValue113 U λ b5=>?_
  refine A1 U (λ q=>?_) (λ q=>?_)<;>simp only[zb]at q<;>rw[<-F]at q
  ·refine AX (k+1,u,y) U U ⟨Aa,Aa,?_,Aa⟩ Ag
   rw[D,LA,show NO a=[]from by unfold NO;rw[if_neg q],List.append_nil];exact P
  have Q:a.c.kind=3:=by omega
  have hnb:=hn a X Q
  refine BF 32 [(at' l k).c] Nd.cells 6 46 Nd.AV U U Ah U λ v32=>F5 64 U U U underlying32 type46 U U Nd.cells_one (by simp only[AM,len_nil];omega) λ v1=>BF 34 [true,false] tH 1 4 (λ _=>rfl) U U Ah U λ v34=>?_
  refine B5 (σ:=Int×Value×List Nd) (λ(i,u,z)=>⟨[(10,kn v 7 l C5),(13,kn u 6 z Nd.cells),(34,kn v34 1 [true,false] tH),(9,ID (V g0))],[(0,.box b [.sl 10 v] 79),(13,.ho (.own 46 6 u z.length (z.flatMap Nd.cells))),(50,.box b5 [I (at' l k).n,I (at' l k).c.kind,I (at' l k).c.many,.v (str (at' l k).c.name),.v (str (at' l k).c.s),.v (.bool (at' l k).c.neg),I (at' l k).c.e] 113),(1,.ho (G g0)),(2,.ho (H g0)),(3,.ho (K g0)),(4,.ho (L g0)),(5,.ho (N g0))],[Z 0 (.v (.func (.yield W) #[] #[])),Z 1 (.bx 0 b 0),Z 3 (.sl 13 u),Z 5 (.bx 50 b5 0),Z 19 (.sl 10 v),Z 20 (I (len l)),Z 21 (I k),Z 34 (.sl 34 v34),Z 35 (I 2),Z 36 (I i)]⟩)
   (λ(i,u,z)=>0<=i/\i<=2/\z=y++[a.c]++(Eng.sub [true,false] 0 i).flatMap (MN a.c)/\len z<=5+3*k+i) (λ(i,u,z)=>(2-i).toNat) (0,v1,y++[(at' l k).c]) U U ⟨Aa,Aa,by rw[<-F];simp[Eng.sub],by rw[AQ];simp only[AM,len_nil];omega⟩ ?_
  rintro⟨i,u,z⟩ ⟨hi0,hi1,C,hz2⟩
  have hl2:len [true,false]=2:=rfl
  refine A1 U (λ E=>?_) (λ E=>?_)<;>simp only[zb]at E
  ·have hs2:=FT (l:=[true,false]) hi0 (by rw[hl2];exact E)
   refine AJ U call266 U U (λ _ w M R=>Am9 (at' l k).c (at' [true,false] i) w (hg.low R.st.low) (by rw[<-F];exact hnb)) U <|BA 8 U zeroValue46 U λ b8=>A1 U (λ O=>?_) (λ O=>?_)
   ·refine BF 51 [(NN (at' l k).c (at' [true,false] i)).1] Nd.cells 6 46 Nd.AV U U Ah U λ v50=>F5 64 U U U underlying32 type46 U U Nd.cells_one (by simp only[AM,len_nil];omega) λ v2=>AX (i+1,v2,z++[(NN (at' l k).c (at' [true,false] i)).1]) U U ⟨Aa,Aa,?_,by rw[AQ];simp only[AM,len_nil];omega⟩ Ag
    rw[hs2,LA,<-F,<-List.append_assoc,<-C]
    rw[<-F]at O
    unfold MN;rw[if_pos O]
   ·refine AX (i+1,u,z) U U ⟨Aa,Aa,?_,Aa⟩ Ag
    rw[hs2,LA]
    rw[<-F]at O
    rw[show MN a.c (at' [true,false] i)=[]from by unfold MN;rw[if_neg (by rw[O];decide)],List.append_nil];exact C
  ·have hi2:i=2:=by omega
   subst hi2
   refine AX (k+1,u,z) U U ⟨Aa,Aa,?_,Aa⟩ Ag
   rw[D,LA,show NO a=[a.c]++MN a.c true++MN a.c false from by unfold NO;rw[if_pos Q],C,P]
   simp[Eng.sub]
 have hke:k=len l:=by omega
 subst hke
 rw[G7 (Int.le_refl _)]at P
 refine BF 56 [DB 4] Nd.cells 6 46 Nd.AV U U Ah U λ v56=>F5 64 U U U underlying32 type46 U U Nd.cells_one (by simp only[AM,len_nil];omega) λ v57=>?_
 refine B5 (σ:=Int×Value×List Nd) (λ(k,u,z)=>⟨[(10,kn v 7 l C5),(13,kn u 6 z Nd.cells),(9,ID (V g0))],[(0,.box b [.sl 10 v] 79),(13,.ho (.own 46 6 u z.length (z.flatMap Nd.cells))),(1,.ho (G g0)),(2,.ho (H g0)),(3,.ho (K g0)),(4,.ho (L g0)),(5,.ho (N g0))],[Z 0 (.v (.func (.yield W) #[] #[])),Z 3 (.sl 13 u),Z 58 (.sl 10 v),Z 59 (I (len l)),Z 60 (I k)]⟩)
  (λ(k,u,z)=>0<=k/\k<=len l/\z=I5++l.flatMap NO++[DB 4]++(Eng.sub l 0 k).flatMap HM/\len z<=5+3*len l+2*k) (λ(k,u,z)=>(len l-k).toNat) (0,v57,y++[DB 4]) U U ⟨Aa,Aa,by rw[P];simp[Eng.sub],by rw[AQ];simp only[AM,len_nil];omega⟩ ?_
 rintro⟨k,u,z⟩ ⟨hk0,hk1,C,hz2⟩
 refine A1 U (λ j=>?_) (λ j=>?_)<;>simp only[zb]at j
 ·obtain⟨a,F⟩: ∃a,a=at' l k:=⟨_,rfl⟩
  have X:a∈l:=by rw[F];exact at_mem hk0 j
  have D:=FT hk0 j
  rw[<-F]at D
  have hsa:=hs a X
  refine BA 50 U zeroValue113 U λ b11=>?_
  refine A1 U (λ q=>?_) (λ q=>?_)<;>simp only[zb]at q<;>rw[<-F]at q
  ·refine BF 76 [(at' l k).c,⟨4,0,[],(at' l k).c.s++[0],false,0⟩] Nd.cells 6 46 Nd.AV U (hO:=by rw[<-F];simp only[AM,len_nil];and_intros<;>first|omega|trivial) U Ah U λ v76=>F5 64 U U U underlying32 type46 U U Nd.cells_one (by simp only[AM,len_nil];omega) λ v77=>AX (k+1,v77,z++[(at' l k).c,⟨4,0,[],(at' l k).c.s++[0],false,0⟩]) U U ⟨Aa,Aa,?_,by rw[AQ];simp only[AM,len_nil];omega⟩ Ag
   rw[D,LA,<-List.append_assoc,<-C,<-F,show HM a=[a.c,⟨4,0,[],a.c.s++[0],false,0⟩]from by unfold HM;rw[if_pos q]]
  ·refine AX (k+1,u,z) U U ⟨Aa,Aa,?_,Aa⟩ Ag
   rw[D,LA,show HM a=[]from by unfold HM;rw[if_neg q],List.append_nil];exact C
 have hke:k=len l:=by omega
 subst hke
 rw[G7 (Int.le_refl _),<-An1]at C
 subst C
 have hcl:len (DW l)=((DW l).length:Int):=rfl
 refine B5 (σ:=Nat×γ) (λ(k,g)=>⟨[(13,kn u 6 (DW l) Nd.cells),(9,ID (V g))],[(0,.box b [.sl 10 v] 79),(1,.ho (G g)),(2,.ho (H g)),(3,.ho (K g)),(4,.ho (L g)),(5,.ho (N g))],[Z 0 (.v (.func (.yield W) #[] #[])),Z 79 (.sl 13 u),Z 80 (I (len (DW l))),Z 81 (I k)]⟩) (λ(k,g)=>k<=(DW l).length/\I' k g) (λ(k,g)=>(DW l).length-k) (0,g0) U U ⟨Nat.zero_le _,hI⟩ ?_
 rintro⟨k,g⟩ ⟨hk,hIk⟩
 refine A1 U (λ j=>?_) (λ j=>?_)<;>simp only[zb]at j
 ·have hk2:k<(DW l).length:=by omega
  refine BA 50 U zeroValue46 U λ b13=>CH U Ad Ae <|gZ ⟨[(13,kn u 6 (DW l) Nd.cells),(9,ID (V g))],[(0,.box b [.sl 10 v] 79),(1,.ho (G g)),(2,.ho (H g)),(3,.ho (K g)),(4,.ho (L g)),(5,.ho (N g))],[Z 0 (.v (.func (.yield W) #[] #[])),Z 79 (.sl 13 u),Z 80 (I (len (DW l))),Z 81 (I k),Z 85 (.v (.func (.yield W) #[] #[])),Z 86 (D3 (at' (DW l) (k:Int)))]⟩ U <|r9 (λ A=>[(1,.ho (G A)),(2,.ho (H A)),(3,.ho (K A)),(4,.ho (L A)),(5,.ho (N A))]) ub [1,2,3,4,5] (γ:=γ) (pu:=λ g=>if ub g=true then I' (k+1) g else J g) (Fg:=λ A=>[(9,ID (V A))]) (Hg:=Hy) [9] U U U U U (λ w' M' hS' hF' hle=>?_) (hH:=λ A=>by rw[hx];rfl) λ A S=>?_
  ·have hp:(Hy g++(T:: .box b [v] 79::Rs)).Perm (G g::H g::K g::L g::N g:: .box b [v] 79::T::Rs):=by
    rw[hx]
    exact((((((List.Perm.swap _ _ _).cons _).cons _).cons _).cons _).cons _)
   obtain⟨fn,tt',asg,bd,e1,e2⟩:=hy k g () w' M' hk2 hIk trivial (hS'.perm hp) hle (λ x h=>by cases h) (hF'.get (k:=9) rfl).more
   refine⟨fn,tt',asg,bd,e1,e2.mono λ e w2 h=>?_⟩
   obtain⟨A,M2,r1,r2,r3,r4,r5⟩:=h
   refine⟨A,M2,r1,r2,r3,?_,AG ⟨Sl.nil M2 1,DN,r5⟩ A4⟩
   exact r4.perm (List.Perm.append_left _ (List.Perm.swap _ _ _))
  ·refine A1 U (λ E=>?_) (λ E=>?_)
   ·rw[if_neg (by simpa using E)]at S
    refine A2 hB U U U λ w' M' R=>⟨A,M',rfl,.inr S,R.le,R.st.perm ?_,(R.f.get (k:=9) U).more⟩
    rw[hx]
    exact List.Perm.append_left [G A,H A,K A,L A,N A] (List.Perm.swap _ _ _)
   ·rw[if_pos (by simpa using E)]at S
    exact AX (k+1,A) U U ⟨hk2,S⟩ (by show(DW l).length-(k+1)<(DW l).length-k;omega)
 ·have Q:k=(DW l).length:=by omega
  refine UK hB U U λ w' M' R=>⟨g,M',rfl,.inl (by rw[<-Q];exact hIk),R.le,R.st.perm ?_,(R.f.get (k:=9) U).more⟩
  rw[hx]
  exact List.perm_middle (l₁:=[G g,H g,K g,L g,N g,T])
end Go.Proofs.YtnoegalemkbbbaaGreatDoor
namespace Go.Eng
open Go.RowKit
theorem tI{α:Type}[Inhabited α]{p:α->Bool}{l:List α}{k:Nat}(n:k<l.length)(b: ∀x∈l.take k,p x=false)(h:p (at' l (k:Int))=true):l.find? p=some (at' l (k:Int)):=by
 obtain⟨h1,j⟩:=CG l (i:=(k:Int)) Aa (by unfold len;omega)
 have e:l=l.take k++(at' l (k:Int)::l.drop (k+1)):=by
  rw[j];simp
 rw[e,List.find?_append,List.find?_eq_none.2 (λ x hx=>by rw[b x hx];decide)]
 simp[h,<-e]
theorem tJ{α:Type}{p:α->Bool}{l:List α}(b: ∀x∈l.take l.length,p x=false):l.find? p=none:=by
 rw[List.take_length]at b
 exact List.find?_eq_none.2 λ x hx=>by rw[b x hx];decide
theorem tK{α:Type}[Inhabited α]{p:α->Bool}{l:List α}{k:Nat}(e:k<l.length)(b: ∀x∈l.take k,p x=false)(h:p (at' l (k:Int))=false): ∀x∈l.take (k+1),p x=false:=by
 obtain⟨h1,j⟩:=CG l (i:=(k:Int)) Aa (by unfold len;omega)
 rw[j]at h
 intro x hx
 rw[List.take_add_one]at hx
 rcases List.mem_append.1 hx with hx|hx
 ·exact b x hx
 ·simp[e]at hx;subst hx;simpa using h
abbrev QS(a:Nd):Prop:=len a.s<=1048576/\ -1048576<=a.e/\a.e<=1048576
theorem hY(neg:Bool)(s:A0)(e:Int)(h:(CI neg s e).2=0):QS (CI neg s e).1:=by
 unfold CI at h ⊢
 split at h
 ·rw[if_pos (by assumption)]
  split at h
  ·rw[if_pos (by assumption)];exact⟨Ab,Ab,Ab⟩
  ·rw[if_neg (by assumption)]
   split at h
   ·simp at h
   ·rw[if_neg (by assumption)]
    split at h
    ·simp at h
    ·rename_i b
     rw[if_neg b]
     simp only[Bool.or_eq_true,decide_eq_true_eq,not_or]at b
     have:=A9 (BE (AY s))
     exact⟨by show len (BE (AY s))<=_;omega,by show-1048576<=e+_;omega,by show e+_<=1048576;omega⟩
 ·simp at h
theorem An3{l:List Tm}(j: ∀a∈l,QS a.c)(hs: ∀a∈l,len a.c.s<=1000000): ∀x∈DW l,QS x:=by
 have z: ∀k,QS (DB k):=λ k=>⟨by show len ([]:A0)<=_;decide,by show(-1048576:Int)<=0;decide,by show(0:Int)<=_;decide⟩
 have h: ∀(c:Nd) (b:Bool),∀x∈MN c b,QS x:=λ c b x hx=>by
  unfold MN at hx
  split at hx
  ·rename_i n
   rw[List.mem_singleton.1 hx]
   have e:(P5 c b).2=0:=by unfold NN at n;simpa using n
   show QS (P5 c b).1
   unfold P5 at e ⊢
   split at e
   ·rw[if_pos (by assumption)];exact hY _ _ _ e
   ·rw[if_neg (by assumption)];exact hY _ _ _ e
  ·cases hx
 intro x hx
 rw[DW]at hx
 simp only[List.mem_append,List.mem_cons,List.not_mem_nil,or_false,List.mem_flatMap]at hx
 rcases hx with((hx|⟨a,i,hx⟩)|hx)|⟨a,i,hx⟩
 ·rcases hx with rfl|rfl|rfl|rfl<;>exact z _
 ·unfold NO at hx
  split at hx
  ·simp only[List.mem_append,List.mem_singleton]at hx
   rcases hx with(rfl|hx)|hx
   ·exact j a i
   ·exact h _ _ _ hx
   ·exact h _ _ _ hx
  ·cases hx
 ·rw[hx];exact z _
 ·unfold HM at hx
  split at hx
  ·simp only[List.mem_cons,List.not_mem_nil,or_false]at hx
   rcases hx with rfl|rfl
   ·exact j a i
   ·have:=hs a i
    exact⟨by show len (a.c.s++[0])<=_;rw[AQ];simp only[AM,len_nil];omega,by show(-1048576:Int)<=0;decide,by show(0:Int)<=_;decide⟩
  ·cases hx
structure ZD (a:Tm):Prop where
 num:a.c.kind=3->QQ a.c
 s:len a.c.s<=1000000
 e: -1048576<=a.c.e/\a.c.e<=1048576
theorem An4{mask:Int}{l:List Tm}{k:Nat}(e:k<(DW l).length)(b: ∀x∈(DW l).take k,NM mask l x=false)(h:NM mask l (at' (DW l) (k:Int))=true):II mask l=(at' (DW l) (k:Int),true):=by
 unfold II;rw[tI e b h]
theorem An5{mask:Int}{l:List Tm}(b: ∀x∈(DW l).take (DW l).length,NM mask l x=false):II mask l=(DB 0,false):=by
 unfold II;rw[tJ b]
end Go.Eng
namespace Go.Proofs.YtnoegalemkbbbaaGreatDoor
open Go.Proofs.Tryz
open Go.Eng
theorem An6{w0 i:World}{M0 M:Mem}{Rs:List HO}{v:Value}{l:List Tm}(hS:St w0 M0 i M Rs)(hl:(kn v 7 l C5).ok M):
  Calls prog 239 [v].toArray i (BJ w0 M0 M Rs (λ b:Nat=>.func (.func 265) #[] #[.pointer (some ⟨b,0,none⟩)]) (λ _=>True) (λ _=>[]) λ b=>[.box b [v] 79]):=AH (Hr:=Rs) AF func239 U ntmps239 [(0,kn v 7 l C5)] [] [.sl 0 v] U hS (AG hl A4) (λ B j=>BP 1 U U U λ b=>AU (.v (.func (.func 265) #[] #[.pointer (some ⟨b,0,none⟩)])) U U (λ w M e=>PV.makeFunc (xs:=[]) (ys:=[.tmp 1]) (vs:=[]) (us:=[.pointer (some ⟨b,0,none⟩)]) trivial ⟨A8 (v:=.bx 1 b 0) (E:=[]) U,trivial⟩) <|A2 j rfl rfl rfl λ w' M' e=>⟨b,M',rfl,trivial,e.le,e.st,λ x h=>by cases h⟩) U
theorem hZ{w0 N:World}{M0 M:Mem}{Rs:List HO}(mask:Int)(v:Value)(l:List Tm)(hS:St w0 M0 N M Rs)(hg:Gl w0)(hl:(kn v 7 l C5).ok M)(P:len l<=16777216)(i: ∀a∈l,ZD a)(hm:0<=mask/\mask<=31):
    Calls prog 206 [i64 mask,v].toArray N (BJ w0 M0 M Rs (λ _:Unit=>.tuple #[EV (II mask l).1,.bool (II mask l).2]) (λ _=>True) (λ _=>[]) λ _=>[]):=by
 have H:=An3 (l:=l) (λ a h=>⟨by have:=(i a h).s;omega,(i a h).e.1,(i a h).e.2⟩) (λ a h=>(i a h).s)
 refine UN (Hr:=Rs) AF func206 U ntmps206 [(0,kn v 7 l C5)] [] [I mask,.sl 0 v] U hS (AG hl A4) (λ B O=>BP 2 U U U λ q=>BP 3 U U U λ z=>BA 4 U zeroValue46 U λ A=>BA 5 U zeroValue4 U λ C=>AS [] (λ b:Nat=>.v (.func (.func 265) #[] #[.pointer (some ⟨b,0,none⟩)])) [] (λ b=>[(6,.box b [.sl 0 v] 79)]) U U call239 U U (λ w M hS hF=>An6 hS (hF.get (k:=0) U)) λ W _=>XC [6] U U ?_) U
 refine gC (σ:=Nd×Bool) (τ:=Unit) (λ g=>⟨[(0,kn v 7 l C5)],[(2,.box q [I mask] 3),(3,.box z [.sl 0 v] 79),(4,EN A g.1),(5,.box C [.v (.bool g.2)] 4)],[Z 2 (.bx 2 q 0),Z 3 (.bx 3 z 0),Z 4 (.bx 4 A 0),Z 5 (.bx 5 C 0)]⟩)
   (λ k g=>g=(DB 0,false)/\ ∀x∈(DW l).take k,NM mask l x=false) (λ g=>g=II mask l) (DB 0,false)
   (λ k g y t=> ∃E,t=⟨[(0,kn v 7 l C5)],[(7,EN E (at' (DW l) (k:Int))),(2,.box q [I mask] 3),(3,.box z [.sl 0 v] 79),(4,EN A g.1),(5,.box C [.v (.bool g.2)] 4)],[Z 6 (.bx 7 E 0),Z 2 (.bx 2 q 0),Z 3 (.bx 3 z 0),Z 4 (.bx 4 A 0),Z 5 (.bx 5 C 0)]⟩)
   (λ _ _ _ _ h=>h) U U call265 U ⟨rfl,λ x hx=>by simp at hx⟩ (λ _=>rfl) ⟨_,_,_,_,λ _=>rfl⟩ (λ w M D w' F=>An2 hg (F.f.get (k:=0) U) P (λ a h=>(i a h).num) (λ a h=>by have:=(i a h).s;omega)) (λ _ _=>rfl)
   (λ k g y Q D r M J G hp=>?_) U (λ k g y Q D r M J G hp t R=>?_) U (λ D g a w G=>?_) (λ D g a w S=>?_)
 ·exact BA 7 U zeroValue46 U λ E=>AW _ U U ⟨E,rfl⟩
 ·obtain⟨E,rfl⟩:=R
  obtain⟨rfl,j⟩:=G
  have K:at' (DW l) (k:Int)∈DW l:=at_mem Aa (by unfold len;omega)
  exact AJ U call240 U U (λ _ w M F=>Am2 mask v l (at' (DW l) (k:Int)) w M F.st.sat (hg.low F.st.low) (F.f.get (k:=0) U) Aa (λ a h=>⟨by have:=(i a h).s;omega,(i a h).e.1,(i a h).e.2⟩) (H _ K) hm) U <|A1 U (λ n=>VK _ U U ⟨(at' (DW l) (k:Int),true),rfl,(An4 J j n).symm⟩) (λ n=>AW _ U U ⟨(DB 0,false),rfl,rfl,tK J j n⟩)
 ·obtain⟨rfl,j⟩:=G
  have e:=An5 j
  refine X9 8 (λ _ _ _ _ h=>h) U (s:=⟨[(0,kn v 7 l C5)],[(2,.box q [I mask] 3),(3,.box z [.sl 0 v] 79),(4,EN A (DB 0)),(5,.box C [.v (.bool false)] 4)],[Z 2 (.bx 2 q 0),Z 3 (.bx 3 z 0),Z 4 (.bx 4 A 0),Z 5 (.bx 5 C 0)]⟩) ?_ a w
  refine rA O U U U U λ w' M' L T hle=>⟨(),M',by rw[e];rfl,trivial,hle,L.drop _ (List.sublist_append_right [_,_,_,_,_] _),A4⟩
 ·rintro hs ⟨M',h1,X,V⟩
  subst S
  show B .ret (CQ (IN D) a) w
  refine O.leave AF h1 hs U U λ w' h=>⟨(),M',rfl,trivial,V,h.drop _ (List.sublist_append_right [_,_,_,_,_] _),A4⟩
end Go.Proofs.YtnoegalemkbbbaaGreatDoor
namespace Go.Eng
open Go.RowKit
def VU(u:Tf):Bool:=if u.t.op=1 then(II u.t.n (u.ps.map Tf.node)).2 else true
mutual
def VV:Tf->Bool
 | .mk t ps=>VU (.mk t ps)&&K0 ps
def K0:List Tf->Bool
 |[]=>true
 |x::l=>VV x&&K0 l
end
def LB(x:Tf):Bool:=QL x&&VV x
theorem An7(a b:List Tf):K0 (a++b)=(K0 a&&K0 b):=by
 induction a with
 |nil=>simp[K0]
 |cons x a e=>rw[List.cons_append,K0,K0,e,Bool.and_assoc]
theorem An8(u:Tf)(us:List Tf):K0 (u::us)=(VU u&&K0 (u.ps++us)):=by
 cases u with|mk t ps=>rw[K0,VV,An7,Bool.and_assoc];rfl
theorem VW{o:Int}: ∀ {l:List Tf},FD o l=true-> ∀x∈l,CX x=true/\(decide (x.t.op=9)==decide (o=1))=true
 |[],_,x,hx=>by cases hx
 |y::l,h,x,hx=>by
  rw[FD]at h
  simp only[Bool.and_eq_true]at h
  obtain⟨⟨⟨⟨⟨h1,_⟩,_⟩,b⟩,_⟩,e⟩:=h
  rcases List.mem_cons.1 hx with rfl|hx
  ·exact⟨b,h1⟩
  ·exact VW e x hx
theorem VX{u:Tf}(h:CX u=true):I1 u.node=true/\FD u.t.op u.ps=true:=by
 rw[gK]at h
 simp only[Bool.and_eq_true]at h
 exact⟨h.1.1,h.1.2⟩
theorem An9{t:Tm}(h:I1 t=true)(ho:t.op=1):0<t.n/\t.n<=31:=by
 unfold I1 IH at h
 rw[if_neg Aa,if_pos ho]at h
 simp only[Bool.and_eq_true,decide_eq_true_eq]at h
 exact⟨h.1.1.2,h.1.2⟩
theorem Ao0{t:Tm}(h:I1 t=true)(ho:t.op=9):t.many=0/\NK t.n t.c=true:=by
 unfold I1 IH at h
 rw[if_neg Aa,if_neg Aa,if_pos ho]at h
 simp only[Bool.and_eq_true,beq_iff_eq]at h
 exact h.1
theorem i6{u:Tf}(h:CX u=true)(ho:u.t.op=1):(0<=u.t.n/\u.t.n<=31)/\ ∀x∈u.ps,x.ps=[]/\NK x.t.n x.t.c=true:=by
 obtain⟨h1,j⟩:=VX h
 have e:=An9 h1 ho
 refine⟨⟨by have:0<u.t.n:=e.1;omega,e.2⟩,λ x hx=>?_⟩
 obtain⟨k,i⟩:=VW j x hx
 rw[ho]at i
 have b:x.t.op=9:=by simpa using i
 obtain⟨l,q⟩:=Ao0 (VX k).1 b
 refine⟨?_,q⟩
 have s:len x.ps=0:=l
 exact List.eq_nil_of_length_eq_zero (by unfold len at s;omega)
theorem tL{l:List Tf}(h: ∀x∈l,x.ps=[]):AO l=l.map Tf.node:=by
 induction l with
 |nil=>rfl
 |cons x l b=>
  rw[AO,Tf.FK,h x (.head _),List.map_cons,b λ y e=>h y (.tail _ e)];rfl
theorem tM{f:Fl}{i:Int}{u:Tf}{us:List Tf}{R:Fl}(h:D9 f (i+1) (u.ps++us) R)(b: ∀x∈u.ps,x.ps=[]):Eng.sub f (i+1) (i+1+len u.ps)=u.ps.map Tf.node:=by
 have h0:=h.1
 unfold Eng.sub
 rw[h.2,JJ,tL b,List.append_assoc,show(i+1+len u.ps).toNat-(i+1).toNat=(u.ps.map Tf.node).length by unfold len at*;rw[List.length_map];omega,List.take_left]
theorem Ao1{c:Nd}(h:GN c=true)(b:c.kind<5): -1000<=c.e/\c.e<=1000:=by
 by_cases h3:c.kind=3
 ·have:=(tF h h3).e;omega
 ·unfold GN JW at h
  simp only[Bool.and_eq_true]at h
  have h1:=h.1.1
  split at h1
  ·simp only[decide_eq_true_eq,Nd.mk.injEq]at h1;omega
  ·split at h1
   ·simp only[Bool.and_eq_true,decide_eq_true_eq,Nd.mk.injEq]at h1;omega
   ·split at h1
    ·omega
    ·cases h1
theorem tN{a:Tm}(h:NK a.n a.c=true)(hs:len a.c.s<=1000000):ZD a:=by
 unfold NK at h
 simp only[Bool.and_eq_true,decide_eq_true_eq]at h
 have:=Ao1 h.2.2 h.2.1
 exact⟨λ b=>tF h.2.2 b,hs,⟨Aa,Aa⟩⟩
end Go.Eng
namespace Go.Proofs.YtnoegalemkbbbaaGreatDoor
open Go.Proofs.Tryz
open Go.Eng
theorem tO{w0 A:World}{M0 M:Mem}{Rs:List HO}(v:Value)(f:Fl)(i:Int)(hS:St w0 M0 A M Rs)(hl:(A7 v f).ok M)(F:len f<=16777217)(h0:0<=i)(h1:i<len f)(hm:0<=(at' f i).many)(h:i+1+(at' f i).many<=len f):
   Calls prog 207 [v,i64 i].toArray A (BJ w0 M0 M Rs (λ u:Value=>u) (λ _=>True) (λ u=>[(0,kn u 7 (Eng.sub f (i+1) (i+1+(at' f i).many)) C5)]) λ _=>[]):=by
 obtain⟨z,j⟩: ∃z,z=Eng.sub f (i+1) (i+1+(at' f i).many):=⟨_,rfl⟩
 have C:len z=(at' f i).many:=by rw[j,FG Aa Aa h];omega
 rw[<-j]
 refine AH (Hr:=Rs) AF func207 U ntmps207 [(0,A7 v f)] [] [.sl 0 v,I i] U hS (AG hl A4) (λ B D=>FO (gd:=none) 19 (i+1) (i+1+(at' f i).many) U U U ⟨.i64,_,rfl,AE U⟩ ⟨.i64,_,rfl,AE U⟩ underlying25 sizeOf52 Aa U λ e=>?_) U
 rw[<-j]
 refine UI 5 5 113 7 C5 ZB U <|B5 (σ:=Int×Value×Fl) (λ(k,u,y)=>⟨[(19,A7 e z),(5,kn u 7 y C5)],[(5,.ho (.own 113 7 u y.length (y.flatMap C5)))],[Z 5 (.sl 5 u),Z 19 (.sl 19 e),Z 20 (I (len z)),Z 21 (I k)]⟩) (λ(k,u,y)=>0<=k/\k<=len z/\y=Eng.sub z 0 k/\len y=k) (λ(k,u,y)=>(len z-k).toNat) (0,.slice none 0 0,[]) U U ⟨Aa,Aa,rfl,rfl⟩ ?_
 rintro⟨k,u,y⟩ ⟨l,E,n,q⟩
 refine A1 U (λ b=>?_) (λ b=>?_)<;>simp only[zb]at b
 ·exact BA 7 U zeroValue52 U λ G=>BF 31 [at' z k] C5 7 113 ZB U U Ah U λ v31=>F5 72 U U U underlying79 type113 U U sL (by simp only[AM,len_nil];omega) λ v'=>AX (k+1,v',y++[at' z k]) U U ⟨Aa,Aa,by rw[n,FT l b],by rw[AQ,q];rfl⟩ Ag
 ·rw[G7 Aa]at n
  subst n
  exact A2 D U U U λ w M' s=>⟨u,M',rfl,trivial,s.le,s.st.drop _ (List.sublist_cons_self _ _),AG (s.f.get (k:=5) U) A4⟩
theorem Ao2{w0 wv:World}{M0 M:Mem}{Rs:List HO}(v:Value)(x:Tf)(hS:St w0 M0 wv M Rs)(hg:Gl w0)(hl:(A7 v x.flat).ok M)(hb:len x.flat<=16777217)(hsm:QI x.flat)(hsh: ∀t∈x.flat,len t.c.s<=1000000):
    Calls prog 175 [v].toArray wv (BJ w0 M0 M Rs (λ _:Unit=>.bool (LB x)) (λ _=>True) (λ _=>[]) λ _=>[]):=by
 have hlp:=x.EE
 refine AH (Hr:=Rs) AF func175 U ntmps175 [(0,A7 v x.flat)] [] [.sl 0 v] U hS (AG hl A4) (λ B S=>AJ U call205 U U (λ _ w M q=>Ag8 v x q.st.sat (hg.low q.st.low) (q.sl 0 U) hb hsm) U <|A1 U (λ h1=>?_) (λ h1=>?_)) U
 ·exact A2 S U U U λ w M' q=>⟨(),M',by unfold LB;rw[show QL x=false by simpa using h1];rfl,trivial,q.le,q.B9 [] U,A4⟩
 have G:QL x=true:=by simpa using h1
 have hgq:LB x=VV x:=by unfold LB;rw[G,Bool.true_and]
 have hw:CX x=true:=by unfold QL at G;simp only[Bool.and_eq_true]at G;exact G.1.1
 refine B5 (σ:=Int×List Tf) (λ(i,us)=>⟨[(0,A7 v x.flat)],[],[Z 0 (.sl 0 v),Z 10 (.sl 0 v),Z 11 (I (len x.flat)),Z 12 (I i)]⟩) (λ(i,us)=>D9 x.flat i us []/\LB x=K0 us/\ ∀u∈us,CX u=true) (λ(i,us)=>(len x.flat-i).toNat) (0,[x]) U U ⟨⟨Aa,by show x.flat=(x.flat++AO [])++[];simp[AO]⟩,by rw[hgq];show _=(VV x&&true);rw[Bool.and_true],λ u hu=>by rw[List.mem_singleton.1 hu];exact hw⟩ ?_
 rintro⟨i,us⟩ ⟨H,J,T⟩
 have V:=H.1
 refine A1 U (λ O=>?_) (λ O=>?_)<;>simp only[zb]at O
 ·cases us with
  |nil=>
   exfalso
   have X:=H.2
   have h3:(x.flat.drop i.toNat).length=0:=by rw[X];rfl
   rw[List.length_drop]at h3
   unfold len at O;omega
  |cons u us=>
  obtain⟨P,hq,j⟩:=H.step
  have A:(at' x.flat i).many=len u.ps:=by rw[hq]
  have hqo:(at' x.flat i).op=u.t.op:=by rw[hq]
  have C:(at' x.flat i).n=u.t.n:=by rw[hq]
  have hpn:=A9 u.ps
  have hfl:=j.KY Aa
  rw[JJ,AQ]at hfl
  have hfg:=JS u.ps
  have hfu:=A9 (AO us)
  have hfr:len ([]:Fl)=0:=rfl
  have W:=T u (.head _)
  have K: ∀z∈u.ps++us,CX z=true:=λ z L=>by
   rcases List.mem_append.1 L with L|L
   · exact(VW (VX W).2 z L).1
   · exact T z (.tail _ L)
  have y:=An8 u us
  refine BA 54 U zeroValue52 U λ b4=>?_
  refine A1 U (λ N=>?_) (λ N=>?_)<;>simp only[zb]at N<;>rw[hqo]at N
  ·refine AX (i+1,u.ps++us) U U ⟨j,?_,K⟩ Ag
   rw[J,y];unfold VU;rw[if_neg N,Bool.true_and]
  have Q:u.t.op=1:=by omega
  have D:=i6 W Q
  have b:Eng.sub x.flat (i+1) (i+1+(at' x.flat i).many)=u.ps.map Tf.node:=by rw[A];exact tM j λ z L=>(D.2 z L).1
  have E: ∀a∈u.ps.map Tf.node,ZD a:=λ a ha=>by
   obtain⟨z,L,rfl⟩:=List.mem_map.1 ha
   refine tN (D.2 z L).2 (hsh z.node ?_)
   have X:z.node∈Eng.sub x.flat (i+1) (i+1+(at' x.flat i).many):=by rw[b];exact ha
   unfold Eng.sub at X
   exact List.mem_of_mem_drop (List.mem_of_mem_take X)
  have R:(II (at' x.flat i).n (Eng.sub x.flat (i+1) (i+1+(at' x.flat i).many))).2=false->LB x=false:=λ h=>by
   rw[b,C]at h
   rw[J,y];unfold VU;rw[if_pos Q,h];rfl
  have F:(II (at' x.flat i).n (Eng.sub x.flat (i+1) (i+1+(at' x.flat i).many))).2=true->LB x=K0 (u.ps++us):=λ h=>by
   rw[b,C]at h
   rw[J,y];unfold VU;rw[if_pos Q,h,Bool.true_and]
  have hml:len (u.ps.map Tf.node)=len u.ps:=by unfold len;rw[List.length_map]
  refine DI [4,5,9,10] 5 (λ _ _ _ _ _ h=>h) U BM Ac <|G6 4 9 U U U ?_ ?_
  ·refine AS [] (λ u:Value=>.sl 25 u) [25] (λ _=>[]) (Fg:=λ u=>[(0,kn u 7 (Eng.sub x.flat (i+1) (i+1+(at' x.flat i).many)) C5)]) U U call207 U U (λ w M l hF=>tO v x.flat i l (hF.get (k:=0) U) hb V P (by rw[A];omega) (by rw[A];omega)) λ v25 _=>AD U <|G6 5 9 U U U ?_ ?_
   ·exact AS [] (λ _:Unit=>.tu [D3 (II (at' x.flat i).n (Eng.sub x.flat (i+1) (i+1+(at' x.flat i).many))).1,.v (.bool (II (at' x.flat i).n (Eng.sub x.flat (i+1) (i+1+(at' x.flat i).many))).2)]) [] (λ _=>[]) (Fg:=λ _=>[]) U U call206 U U (λ w M l hF=>hZ (at' x.flat i).n v25 (Eng.sub x.flat (i+1) (i+1+(at' x.flat i).many)) l hg (hF.get (k:=25) U) (by rw[b];omega) (by rw[b];exact E) (by rw[C];exact D.1)) λ _ _=>AD U <|AK 9 U U U <|BA 55 U zeroValue46 U λ b5=>AD U <|AK 10 U U U <|AD U <|BN U U U <|A1 U (λ e=>A2 S U U U λ w M' q=>⟨(),M',by rw[R (by simpa using e)];rfl,trivial,q.le,q.B9 [] U,A4⟩) (λ e=>AX (i+1,u.ps++us) U U ⟨j,F (by simpa using e),K⟩ Ag)
   ·exact BA 55 U zeroValue46 U λ b5=>AD U <|AK 5 U U U <|AS [] (λ _:Unit=>.tu [D3 (II (at' x.flat i).n (Eng.sub x.flat (i+1) (i+1+(at' x.flat i).many))).1,.v (.bool (II (at' x.flat i).n (Eng.sub x.flat (i+1) (i+1+(at' x.flat i).many))).2)]) [] (λ _=>[]) (Fg:=λ _=>[]) U U call206 U U (λ w M l hF=>hZ (at' x.flat i).n v25 (Eng.sub x.flat (i+1) (i+1+(at' x.flat i).many)) l hg (hF.get (k:=25) U) (by rw[b];omega) (by rw[b];exact E) (by rw[C];exact D.1)) λ _ _=>AD U <|AK 10 U U U <|AD U <|BN U U U <|A1 U (λ e=>A2 S U U U λ w M' q=>⟨(),M',by rw[R (by simpa using e)];rfl,trivial,q.le,q.B9 [] U,A4⟩) (λ e=>AX (i+1,u.ps++us) U U ⟨j,F (by simpa using e),K⟩ Ag)
  ·exact BA 55 U zeroValue46 U λ b5=>AD U <|AK 4 U U U <|AS [] (λ u:Value=>.sl 25 u) [25] (λ _=>[]) (Fg:=λ u=>[(0,kn u 7 (Eng.sub x.flat (i+1) (i+1+(at' x.flat i).many)) C5)]) U U call207 U U (λ w M l hF=>tO v x.flat i l (hF.get (k:=0) U) hb V P (by rw[A];omega) (by rw[A];omega)) λ v25 _=>AD U <|AK 5 U U U <|AS [] (λ _:Unit=>.tu [D3 (II (at' x.flat i).n (Eng.sub x.flat (i+1) (i+1+(at' x.flat i).many))).1,.v (.bool (II (at' x.flat i).n (Eng.sub x.flat (i+1) (i+1+(at' x.flat i).many))).2)]) [] (λ _=>[]) (Fg:=λ _=>[]) U U call206 U U (λ w M l hF=>hZ (at' x.flat i).n v25 (Eng.sub x.flat (i+1) (i+1+(at' x.flat i).many)) l hg (hF.get (k:=25) U) (by rw[b];omega) (by rw[b];exact E) (by rw[C];exact D.1)) λ _ _=>AD U <|AK 10 U U U <|AD U <|BN U U U <|A1 U (λ e=>A2 S U U U λ w M' q=>⟨(),M',by rw[R (by simpa using e)];rfl,trivial,q.le,q.B9 [] U,A4⟩) (λ e=>AX (i+1,u.ps++us) U U ⟨j,F (by simpa using e),K⟩ Ag)
 ·have hun:us=[]:=by
   cases us with
   |nil=>rfl
   |cons u us=>obtain⟨P,_⟩:=H.step;omega
  subst hun
  exact A2 S U U U λ w M' q=>⟨(),M',by rw[J];rfl,trivial,q.le,q.B9 [] U,A4⟩
end Go.Proofs.YtnoegalemkbbbaaGreatDoor
namespace Go.Eng
open Go.RowKit
def AL(f:Tf):List Tf:=f.ps.map (Tf.named [])
def K1(n:Int)(c:Nd):Tf:=.mk { AP 9 with n:=n,c:=c} []
def KL(n:A0)(g:Tf->Tf):List Tf->List Tf
 |[]=>[]
 |y::l=>if y.t.name=n then g y::l else y::KL n g l
def FZ(a:Tf):List Sp->Tf->Tf
 |[],x=>.mk x.t (x.ps++[a])
 |s::p,x=>.mk x.t (KL s.name (FZ a p) x.ps)
def E8:Tf->Int->Tf->Bool->PR Tf
 | .mk x [],i,t,h=>if(BK (C8 x.s).1 t).2=true then .ok (FZ (K1 (if h=true then x.n else MM x.n) x.c) (C8 x.s).1 t) 0 else .er i 5
 | .mk x [a],i,t,h=>E8 a (i+1) t (!h)
 | .mk x (a::b::_),i,t,h=>if decide (x.op=17)≠h then .er i 4 else(E8 a (i+1) t h).bind λ y _=>E8 b (i+1+a.size) y h
def HN(g:Tf->PR Tf):List Tf->PR (List Tf)
 |[]=>.ok [] 0
 |x::l=>(g x).bind λ y _=>(HN g l).bind λ r _=>.ok (y::r) 0
def CL:List A0->List Tf->List Tf
 |n::ns,x::l=>x.named n::CL ns l
 |_,l=>l
def CM(t:Tm)(ns:List A0)(l:List Tf):Tf:=.mk t (CL ns l)
def F1(im:Tf->Int->Tf->PR Tf)(g:Tf)(i:Int)(t:Tf):PR Tf:=(HN (λ x=>im g i x) (AN t)).bind λ l _=>.ok (CM { AP t.t.op with n:=t.t.n} (B7 t) l) 0
def K2:Tf:=.mk (AP 0) []
def Ao3(s:A0):Tf:=.mk { AP 1 with s:=s} []
def BO(g:Tf)(i:Int):Tf×Tf×Int:=if g.t.op=4 then(at' (AL g) 0,at' (AL g) 1,i+1)else(g,K2,i)
def LC(im:Tf->Int->Tf->PR Tf)(g:Tf)(i:Int)(t:Tf):PR Tf:=
 (E8 (at' (AL (BO g i).1) 0) ((BO g i).2.2+1) t true).bind λ u _=>if LB u=true then im (BO g i).2.1 ((BO g i).2.2+(BO g i).1.size) u else .er (BO g i).2.2 6
abbrev IJ:A0:=[107,101,121]
abbrev ET:A0:=[118,97,108,117,101]
def G0(v:Tf)(s:A0):Bool:=decide ((v.named []).flat=(Ao3 s).flat)
def GP(v:Tf)(i:Int):Tf×Int:=
 if G0 v ET=true then(K2,i)
 else if v.t.op=4/\G0 (at' v.ps 0) ET=true then(at' (AL v) 1,i+2)else(default,-1)
def DM(g:Tf):Tf×Int:=
 if g.t.op≠8\/len g.ps≠2 then(default,-1)
 else if(at' g.ps 0).t.name=IJ/\(at' g.ps 1).t.name=ET then(if G0 (at' g.ps 0) IJ=true then GP (at' g.ps 1) (1+(at' g.ps 0).size)else(default,-1))
 else if(at' g.ps 0).t.name=ET/\(at' g.ps 1).t.name=IJ then(if G0 (at' g.ps 1) IJ=true then GP (at' g.ps 0) 1 else(default,-1))
 else(default,-1)
def H5(g:Tf):Bool:=decide (g.t.op=7)||(decide (g.t.op=4)&&decide ((at' g.ps 0).t.op=7))
def EU(im:Tf->Int->Tf->PR Tf)(g:Tf)(i:Int)(t:Tf):PR Tf:=
 if t.t.op=5 then(if H5 g=true then(LC im g (i+1) (at' (AN t) 0)).bind λ y _=>.ok (.mk (AP 5) [y]) 0 else F1 im g (i+1) t)
 else if t.t.op=4 then F1 im g (i+1) t
 else if t.t.op=6 then(if 0<=(DM g).2 then F1 im (DM g).1 (i+1+(DM g).2) t else .er i 1)
 else .er i 1
def IK(p q:List Sp):Bool:=decide (p.take q.length≠q.take p.length)
def J2(im:Tf->Int->Tf->PR Tf)(t:Tf):List Tf->Int->List (List Sp)->PR (List Tf)
 |[],_,_=>.ok [] 0
 |x::r,i,seen=>(im (x.named []) i t).bind λ y _=>if seen.any (λ q=> !IK (D4 x.flat) q)then .er i 3 else(J2 im t r (i+x.size) (seen++[D4 x.flat])).bind λ ys _=>.ok (y::ys) 0
def KM(im:Tf->Int->Tf->PR Tf)(f:Tf)(i:Int)(t:Tf):PR Tf:=
 (J2 im t f.ps (i+1) []).bind λ l _=>.ok (if f.t.op=9 then .mk (AP 4) l else .mk (AP 2) (KX (CL (f.ps.map λ x=>x.t.name) l))) 0
def MQ(ns:List A0)(n:A0):Int:=if n∈ns then BU ns n else-1
def FE(i:Int):List Sp->Tf->PR Tf
 |[],t=>.er i 1
 |s::p,t=>if t.t.op≠2 then .er i 1 else if s.name ∉ B7 t then .er i 2
  else if p=[]then(if t.t.n≠0 then .er i 1 else .ok (.mk t.t (t.ps.eraseIdx (BU (B7 t) s.name).toNat)) 0)
  else(FE i p (at' (AN t) (BU (B7 t) s.name))).bind λ y _=>.ok (.mk t.t (t.ps.set (BU (B7 t) s.name).toNat (y.named s.name))) 0
def JN(x:Tm)(i:Int)(t:Tf):PR Tf:=
 if t.t.op≠5 then .er i 1 else if(BK (C8 x.s).1 (at' (AN t) 0)).2=true then .ok (.mk { AP (if x.op=12 then 8 else 7)with s:=x.s} (AN t)) 0 else .er i 5
def I6(x:Tm)(i:Int)(l:List Tf):PR Tf:=
 if(x.op=2/\len l<=x.n)\/(x.op=3/\len l<x.n)then .er i 2
 else if x.op=2 then .ok (at' l x.n) 0
 else .ok (.mk (AP 4) (if x.op=3 then l.drop x.n.toNat else l.reverse)) 0
def GQ(x:Tm)(i:Int)(t:Tf):PR Tf:=
 if x.op=1 then(if t.t.op=2 then(if x.s∈B7 t then .ok (at' (AN t) (BU (B7 t) x.s)) 0 else .er i 2)else .er i 1)
 else if x.op=2\/x.op=3\/x.op=14 then(if t.t.op=4 then I6 x i (AN t)else if t.t.op=5/\x.op≠2 then .ok t 0 else .er i 1)
 else if x.op=10 then(if t.t.op=3 then .ok (.mk (AP 6) (AN t)) 0 else .er i 1)
 else if x.op=11 then(if t.t.op=6 then .ok (.mk (AP 3) (AN t)) 0 else .er i 1)
 else .er i 1
def GD(im:Tf->Int->Tf->PR Tf)(f:Tf)(i:Int)(t:Tf):PR Tf:=
 if f.t.op=0 then .ok t 0
 else if f.t.op=4 then(im (at' (AL f) 0) (i+1) t).bind λ y _=>im (at' (AL f) 1) (i+1+(at' (AL f) 0).size) y
 else if f.t.op=5 then EU im (at' (AL f) 0) i t
 else if f.t.op=6 then(if t.t.n=0/\(t.t.op=5\/t.t.op=3\/t.t.op=4\/t.t.op=2)then F1 im (at' (AL f) 0) (i+1) t else .er i 1)
 else if f.t.op=7 then .er i 4
 else if f.t.op=8\/f.t.op=9 then KM im f i t
 else if f.t.op=12\/f.t.op=13 then JN f.t i t
 else if f.t.op=15 then(if(C8 f.t.s).1=[]\/(C8 f.t.s).1.any Sp.part=true then .er i 5 else FE i (C8 f.t.s).1 t)
 else GQ f.t i t
def BG:Nat->Tf->Int->Tf->PR Tf
 |0,_,i,_=>.er i 0
 |n+1,f,i,t=>GD (BG n) f i t
mutual
def hF:Tf->Nat
 | .mk t ps=>if t.op=4 then hP ps else if t.op=7 then 1+A6 ps else 1+hS ps
def hP:List Tf->Nat
 |[]=>1
 |x::l=>hF x*hP l
def hS:List Tf->Nat
 |[]=>0
 |x::l=>hF x+hS l
end
def gB(n:Nat):Nat:=[1,1,2,3,4,5,6,9,12,16,20,27,36,48,64,81,108,144,192,256,324,432,576,768,1024,1296,1728,2304,3072,4096,5184,6912,9216,12288,16384,20736,27648,36864,49152,65536,82944,110592,147456,196608].getD n 0
theorem tP: ∀a b:Fin 44,a.1+b.1+1<=43->gB a.1*gB b.1<=gB (a.1+b.1+1):=by decide+kernel
theorem Ao4: ∀a b:Fin 44,1<=a.1->1<=b.1->a.1+b.1<=43->gB a.1+gB b.1<=gB (a.1+b.1):=by decide+kernel
theorem Ao5: ∀a:Fin 44,a.1<=gB a.1:=by decide+kernel
theorem Ao6: ∀a:Fin 44,gB a.1<=196608:=by decide+kernel
theorem tQ: ∀l:List Tf,(∀x∈l,hF x<=gB x.size)->1+A6 l<=43->1+hS l<=gB (1+A6 l)
 |[],_,_=>by decide
 |x::l,h,hl=>by
  rw[A6]at hl ⊢
  rw[hS]
  have h1:=h x (.head _)
  have k:=tQ l (λ y b=>h y (.tail _ b)) Aa
  have e:=x.size_pos
  have i:=Ao4 ⟨x.size,Aa⟩ ⟨1+A6 l,Aa⟩ e (by show 1<=1+A6 l;omega) (by show x.size+(1+A6 l)<=43;omega)
  have j:x.size+(1+A6 l)=1+(x.size+A6 l):=by omega
  simp only[j]at i
  omega
theorem Ao7{t:Tm}(h:CU t=true)(ho:t.op=4\/t.op=17\/t.op=18):t.many=2:=by
 unfold CU at h
 rw[if_neg Aa,if_neg Aa,if_neg Aa,if_pos ho]at h
 simpa using(Bool.and_eq_true_iff.1 h).2
theorem Ao8{t:Tm}(h:CU t=true)(ho:t.op=5\/t.op=6\/t.op=7\/t.op=19):t.many=1:=by
 unfold CU at h
 rw[if_neg Aa,if_neg Aa,if_neg Aa,if_neg Aa,if_pos ho]at h
 simpa using(Bool.and_eq_true_iff.1 h).2
theorem tT{t:Tm}(h:CU t=true)(ho:t.op=16):t.many=0/\SL t.s=true/\(0<=t.n/\t.n<=5)/\Z3 t.c=true:=by
 unfold CU at h
 rw[if_neg Aa,if_neg Aa,if_neg Aa,if_neg Aa,if_neg Aa,if_neg Aa,if_neg Aa,if_pos ho]at h
 simp only[Bool.and_eq_true,decide_eq_true_eq]at h
 exact⟨h.1.1.1.1.2,h.1.1.1.2,⟨h.1.1.2,h.1.2⟩,h.2⟩
theorem ZE{t:Tm}(h:CU t=true)(ho:t.op=2\/t.op=3):t.many=0/\0<=t.n/\t.n<=1000000:=by
 unfold CU at h
 rw[if_neg Aa,if_neg Aa,if_pos ho]at h
 simp only[Bool.and_eq_true,decide_eq_true_eq]at h
 exact⟨h.1.1.2,h.1.2,h.2⟩
theorem i7{l:List Tf}(h:len l=2): ∃a b,l=[a,b]:=by
 match l,h with
 |[a,b],_=>exact⟨a,b,rfl⟩
 |[],h=>simp[len]at h
 |[a],h=>simp[len]at h
 |_::_::_::_,h=>simp[len]at h;omega
theorem tU{l:List Tf}(h:len l=1): ∃a,l=[a]:=by
 match l,h with
 |[a],_=>exact⟨a,rfl⟩
 |[],h=>simp[len]at h
 |_::_::_,h=>simp[len]at h;omega
theorem Tf.AR.two {f:Tf}(h:f.AR)(ho:f.t.op=4\/f.t.op=17\/f.t.op=18): ∃a b,f.ps=[a,b]:=i7 (Ao7 h.plain ho)
theorem Tf.AR.one {f:Tf}(h:f.AR)(ho:f.t.op=5\/f.t.op=6\/f.t.op=7\/f.t.op=19): ∃a,f.ps=[a]:=tU (Ao8 h.plain ho)
theorem J3(f:Tf):hF f=if f.t.op=4 then hP f.ps else if f.t.op=7 then 1+A6 f.ps else 1+hS f.ps:=by cases f;rw[hF];rfl
theorem iA: ∀(n:Nat) (f:Tf),f.size<=n->n<=43->f.AR->hF f<=gB f.size:=by
 intro n
 induction n with
 |zero=>intro f h;have:=f.size_pos;omega
 |succ n j=>
  intro f s w hg
  have hs:=f.size_eq
  have i: ∀x∈f.ps,hF x<=gB x.size:=λ x hx=>j x (by have:=I0 hx;omega) Aa (hg.kids x hx)
  rw[J3]
  split
  ·rename_i ho
   obtain⟨a,b,e⟩:=hg.two (.inl ho)
   rw[e]at i hs ⊢
   have k:=i a (.head _)
   have l:=i b (.tail _ (.head _))
   rw[A6,A6,A6]at hs
   have h1:=a.size_pos
   have y:=b.size_pos
   have q:=tP ⟨a.size,Aa⟩ ⟨b.size,Aa⟩ (by show a.size+b.size+1<=43;omega)
   rw[hP,hP,hP,Nat.mul_one,show f.size=a.size+b.size+1 by omega]
   exact Nat.le_trans (Nat.mul_le_mul k l) q
  ·split
   ·have:=Ao5 ⟨f.size,Aa⟩
    simp only at this;omega
   ·rw[hs];exact tQ f.ps i Aa
theorem KN(f:Tf)(h:f.AR):1<=hF f:=by
 have: ∀(n:Nat) (f:Tf),f.size<=n->f.AR->1<=hF f:=by
  intro n
  induction n with
  |zero=>intro f h;have:=f.size_pos;omega
  |succ n i=>
   intro f k hg
   have hs:=f.size_eq
   rw[J3]
   split
   ·rename_i ho
    obtain⟨a,b,e⟩:=hg.two (.inl ho)
    rw[e]at hs ⊢
    rw[A6,A6,A6]at hs
    have h1:=i a Aa (hg.kids a (by rw[e];simp))
    have j:=i b Aa (hg.kids b (by rw[e];simp))
    rw[hP,hP,hP,Nat.mul_one]
    exact Nat.mul_le_mul h1 j
   ·split<;>omega
 exact this f.size f (Nat.le_refl _) h
def QT(t:Tm)(ps:List Tf):Bool:=(!decide (t.op=1)||ps.all (λ x=>x.ps.isEmpty))&&(!(decide (t.op=3)||decide (5<=t.op/\t.op<=8))||decide (len ps=1))
mutual
def B6:Tf->Bool
 | .mk t ps=>QT t ps&&T3 ps
def T3:List Tf->Bool
 |[]=>true
 |x::l=>B6 x&&T3 l
end
theorem T4: ∀ {l:List Tf},T3 l=true↔ ∀x∈l,B6 x=true
 |[]=>by simp[T3]
 |x::l=>by rw[T3,Bool.and_eq_true,T4];simp
theorem VY(t:Tf):B6 t=(QT t.t t.ps&&T3 t.ps):=by cases t;rw[B6];rfl
theorem B6.kids {t:Tf}(h:B6 t=true): ∀x∈t.ps,B6 x=true:=by
 rw[VY,Bool.and_eq_true]at h;exact T4.1 h.2
theorem B6.one {t:Tf}(h:B6 t=true)(ho:t.t.op=3\/(5<=t.t.op/\t.t.op<=8)): ∃a,t.ps=[a]:=by
 rw[VY,Bool.and_eq_true]at h
 have h1:=h.1
 unfold QT at h1
 simp only[Bool.and_eq_true,Bool.or_eq_true,Bool.not_eq_true',decide_eq_true_eq,decide_eq_false_iff_not,Bool.or_eq_false_iff]at h1
 rcases h1.2 with b|b
 ·omega
 ·exact tU b
theorem B6.leaf {t:Tf}(h:B6 t=true)(ho:t.t.op=1): ∀x∈t.ps,x.ps=[]:=by
 rw[VY,Bool.and_eq_true]at h
 have h1:=h.1
 unfold QT at h1
 simp only[Bool.and_eq_true,Bool.or_eq_true,Bool.not_eq_true',decide_eq_false_iff_not,List.all_eq_true,List.isEmpty_iff]at h1
 exact h1.1.resolve_left (λ h=>h ho)
theorem ZF(n:A0)(x:Tf):B6 (x.named n)=B6 x:=by cases x;unfold Tf.named;rw[B6,B6];rfl
theorem MR{t:Tm}{ps:List Tf}(h1:t.op≠1)(b:(t.op=3\/(5<=t.op/\t.op<=8))->len ps=1)(h: ∀x∈ps,B6 x=true):B6 (.mk t ps)=true:=by
 rw[B6,Bool.and_eq_true,T4]
 refine⟨?_,h⟩
 unfold QT
 simp only[Bool.and_eq_true,Bool.or_eq_true,Bool.not_eq_true',decide_eq_true_eq,decide_eq_false_iff_not,Bool.or_eq_false_iff]
 refine⟨.inl h1,?_⟩
 by_cases h3:t.op=3\/(5<=t.op/\t.op<=8)
 ·exact .inr (b h3)
 ·exact .inl ⟨Aa,Aa⟩
def J4(x:Fl):Prop:= ∀t∈x,len t.name<=100/\len t.s<=100/\len t.c.s<=100
def AT(x:Tf):Prop:=J4 x.flat
theorem J4.app {a b:Fl}(e:J4 a)(h:J4 b):J4 (a++b):=λ t i=>(List.mem_append.1 i).elim (e t) (h t)
theorem H6(x:Tf):AT x↔(len x.t.name<=100/\len x.t.s<=100/\len x.t.c.s<=100)/\ ∀y∈x.ps,AT y:=by
 have j: ∀l:List Tf,J4 (AO l)↔ ∀y∈l,AT y:=by
  intro l
  induction l with
  |nil=>exact⟨λ _ y e=>absurd e (by simp),λ _ t b=>absurd b (by simp[AO])⟩
  |cons x l k=>
   constructor
   ·intro h y e
    have h1:J4 x.flat:=λ t b=>h t (List.mem_append_left _ b)
    have i:J4 (AO l):=λ t b=>h t (List.mem_append_right _ b)
    rcases List.mem_cons.1 e with rfl|e
    ·exact h1
    ·exact k.1 i y e
   ·intro h
    exact J4.app (h x (.head _)) (k.2 λ y e=>h y (.tail _ e))
 constructor
 ·intro h
  unfold AT at h
  rw[Tf.FI]at h
  have h0:=h _ (.head _)
  exact⟨h0,(j _).1 λ t b=>h t (.tail _ b)⟩
 ·rintro⟨h1,i⟩
  unfold AT
  rw[Tf.FI]
  intro t b
  rcases List.mem_cons.1 b with rfl|b
  ·exact h1
  ·exact(j _).2 i t b
theorem Tf.ZG (n:A0)(x:Tf):(x.named n).t= { x.t with name:=n}:=by cases x;rfl
theorem AT.root {x:Tf}(h:AT x):len x.t.name<=100/\len x.t.s<=100/\len x.t.c.s<=100:=((H6 x).1 h).1
theorem AT.kids {x:Tf}(h:AT x): ∀y∈x.ps,AT y:=((H6 x).1 h).2
theorem AT.named {x:Tf}(h:AT x){n:A0}(b:len n<=100):AT (x.named n):=by
 refine(H6 _).2 ⟨⟨by rw[Tf.ZG];exact b,by rw[Tf.ZG];exact h.root.2⟩,by rw[Tf.fW];exact h.kids⟩
theorem PR.HW {α β:Type}{r:PR α}{k:α->Int->PR β}{y:β}{j:Int}(h:r.bind k= .ok y j): ∃x i,r= .ok x i/\k x i= .ok y j:=by
 cases r with
 |er e p=>cases h
 |ok x i=>exact⟨x,i,rfl,h⟩
theorem PR.DQ {α:Type}{x y:α}{i j:Int}(h:(PR.ok x i:PR α)= .ok y j):x=y:=by cases h;rfl
theorem Ao9(n:A0)(l:List Tf):A6 (l.map (Tf.named n))=A6 l:=by
 induction l with
 |nil=>rfl
 |cons x l b=>rw[List.map_cons,A6,A6,b,Tf.E7]
theorem QU: ∀(ns:List A0) (l:List Tf),A6 (CL ns l)=A6 l
 |[],l=>by cases l<;>rfl
 |_::_,[]=>rfl
 |n::ns,x::l=>by rw[CL,A6,A6,QU ns l,Tf.E7]
theorem iB: ∀(ns:List A0) (l:List Tf),len (CL ns l)=len l
 |[],l=>by cases l<;>rfl
 |_::_,[]=>rfl
 |n::ns,x::l=>by rw[CL,AM,AM,iB ns l]
theorem ZH: ∀ {ns:List A0} {l:List Tf} {y:Tf},y∈CL ns l-> ∃x∈l,y=x\/ ∃n∈ns,y=x.named n
 |[],l,y,h=>by
  have:y∈l:=by cases l<;>exact h
  exact⟨y,this,.inl U⟩
 |_::_,[],y,h=>by cases h
 |n::ns,x::l,y,h=>by
  rw[CL]at h
  rcases List.mem_cons.1 h with rfl|h
  ·exact⟨x,.head _,.inr ⟨n,.head _,rfl⟩⟩
  ·obtain⟨z,b,i⟩:=ZH h
   refine⟨z,.tail _ b,i.imp id ?_⟩
   rintro⟨m,hm,e⟩;exact⟨m,.tail _ hm,e⟩
theorem VZ{a b:List Tf}(h:a.Perm b):A6 a=A6 b:=by
 induction h with
 |nil=>rfl
 |cons x _ e=>rw[A6,A6,e]
 |swap x y l=>rw[A6,A6,A6,A6];omega
 |trans _ _ h1 i=>rw[h1,i]
structure Im (y:Tf) (n:Nat):Prop where
 size:y.size<=n
 ar:B6 y=true
 sh:AT y
theorem MS{t:Tf}(e:B6 t=true)(hs:AT t):A6 (AN t)<=A6 t.ps/\ ∀x∈AN t,B6 x=true/\AT x:=by
 unfold AN
 split
 ·exact⟨Nat.zero_le _,λ x hx=>by cases hx⟩
 ·refine⟨by rw[Ao9];exact Nat.le_refl _,λ x hx=>?_⟩
  obtain⟨z,b,rfl⟩:=List.mem_map.1 hx
  exact⟨by rw[ZF];exact(B6.kids e) z b,(hs.kids z b).named (by show len ([]:A0)<=_;decide)⟩
theorem tV(n:A0)(g:Tf->Tf): ∀l:List Tf,(KL n g l).length=l.length
 |[]=>rfl
 |y::l=>by unfold KL;split<;>simp[tV n g l]
theorem tW{n:A0}{g:Tf->Tf}{k:Nat}(hg: ∀x,(g x).size<=x.size+k): ∀l:List Tf,A6 (KL n g l)<=A6 l+k
 |[]=>Nat.zero_le _
 |y::l=>by
  unfold KL
  have h1:=hg y
  have b:=tW (n:=n) hg l
  split<;>rw[A6,A6]<;>omega
theorem tX(a:Tf): ∀(p:List Sp) (t:Tf),(FZ a p t).size<=t.size+a.size
 |[],t=>by unfold FZ;rw[Tf.size_eq,t.size_eq];show 1+A6 (t.ps++[a])<=_;rw[IG,A6,A6];omega
 |s::p,t=>by
  unfold FZ
  rw[Tf.size_eq,t.size_eq]
  show 1+A6 (KL s.name (FZ a p) t.ps)<=_
  have:=tW (n:=s.name) (tX a p) t.ps
  omega
theorem iC{s:Sp}{p:List Sp}{t:Tf}(h:(BK (s::p) t).2=true):t.t.op=2/\s.part=false/\BK (s::p) t=GB t.ps 1 s.name (BK p):=by
 unfold BK at h
 split at h
 ·cases h
 ·rename_i h1
  have b:s.part=false:=by cases hs:s.part with|false=>rfl|true=>exact absurd (.inr hs) h1
  have e:t.t.op=2:=Decidable.byContradiction λ i=>h1 (.inl i)
  exact⟨e,b,by rw[BK,if_neg h1]⟩
theorem iD{n:A0}{g:Tf->Tf}{F:Tf->Int×Bool}{P:Tf->Prop}(hg: ∀x,(F x).2=true->P x->P (g x)): ∀ {l:List Tf} {o:Int},(GB l o n F).2=true->(∀x∈l,P x)-> ∀y∈KL n g l,P y
 |[],_,h,_,y,b=>by cases b
 |x::l,o,h,hP,y,b=>by
  unfold GB at h
  unfold KL at b
  split at h<;>rename_i e
  ·rw[if_pos e]at b
   split at h<;>rename_i i
   ·rcases List.mem_cons.1 b with rfl|b
    ·exact hg x i (hP x (.head _))
    ·exact hP y (.tail _ b)
   ·cases h
  ·rw[if_neg e]at b
   rcases List.mem_cons.1 b with rfl|b
   ·exact hP _ (.head _)
   ·exact iD hg h (λ z j=>hP z (.tail _ j)) y b
theorem tY{a:Tf}(h0:a.ps=[])(e:B6 a=true): ∀(p:List Sp) (t:Tf),(BK p t).2=true->B6 t=true->B6 (FZ a p t)=true
 |[],t,h,b=>by
  have ho:t.t.op=1:=of_decide_eq_true h
  unfold FZ
  rw[B6,Bool.and_eq_true,T4]
  refine⟨?_,λ x hx=>?_⟩
  ·unfold QT
   simp only[Bool.and_eq_true,Bool.or_eq_true,Bool.not_eq_true',decide_eq_false_iff_not,List.all_eq_true,List.isEmpty_iff,Bool.or_eq_false_iff]
   refine⟨.inr λ x hx=>?_,.inl ⟨Aa,Aa⟩⟩
   rcases List.mem_append.1 hx with hx|hx
   ·exact(B6.leaf b) ho x hx
   ·rw[List.mem_singleton.1 hx];exact h0
  ·rcases List.mem_append.1 hx with hx|hx
   ·exact(B6.kids b) x hx
   ·rw[List.mem_singleton.1 hx];exact e
 |s::p,t,h,b=>by
  obtain⟨h1,j,i⟩:=iC h
  rw[i]at h
  unfold FZ
  exact MR Aa Aa (iD (P:=λ x=>B6 x=true) (λ x hx hP=>tY h0 e p x hx hP) h (B6.kids b))
theorem tZ{a:Tf}(e:AT a): ∀(p:List Sp) (t:Tf),(BK p t).2=true->AT t->AT (FZ a p t)
 |[],t,h,b=>by
  unfold FZ
  refine(H6 _).2 ⟨b.root,λ x hx=>?_⟩
  rcases List.mem_append.1 hx with hx|hx
  ·exact b.kids x hx
  ·rw[List.mem_singleton.1 hx];exact e
 |s::p,t,h,b=>by
  obtain⟨h1,j,i⟩:=iC h
  rw[i]at h
  unfold FZ
  exact(H6 _).2 ⟨b.root,iD (P:=AT) (λ x hx hP=>tZ e p x hx hP) h b.kids⟩
theorem Ap0(a:Tf)(p:List Sp)(t:Tf):(FZ a p t).t=t.t:=by cases p<;>rfl
theorem Ap1{n:Int}{c:Nd}(h:len c.s<=100):(K1 n c).size=1/\B6 (K1 n c)=true/\AT (K1 n c):=by
 refine⟨rfl,MR (by show ¬(9:Int)=1;decide) (λ h=>absurd h (by show ¬((9:Int)=3\/(5<=(9:Int)/\(9:Int)<=8));omega)) (λ x hx=>by cases hx),(H6 _).2 ⟨⟨?_,?_,h⟩,λ x hx=>by cases hx⟩⟩<;>(show len ([]:A0)<=_;decide)
theorem QV: ∀(p:Tf) {i:Int} {t:Tf} {h:Bool} {y:Tf} {j:Int},E8 p i t h= .ok y j->AT p->B6 t=true->AT t->Im y (t.size+p.size)/\y.t=t.t
 | .mk x [],i,t,h,y,j,he,hp,e,hs=>by
  unfold E8 at he
  split at he
  ·rename_i hl
   have:=PR.DQ he
   subst this
   obtain⟨h1,q,w⟩:=Ap1 (n:=if h=true then x.n else MM x.n) hp.root.2.2
   refine⟨⟨?_,tY U q _ t hl e,tZ w _ t hl hs⟩,Ap0 _ _ _⟩
   have:=tX (K1 (if h=true then x.n else MM x.n) x.c) (C8 x.s).1 t
   exact Nat.le_trans this (Nat.le_of_eq (congrArg (t.size+ ·) h1))
  ·cases he
 | .mk x [a],i,t,h,y,j,he,hp,e,hs=>by
  unfold E8 at he
  obtain⟨h1,q⟩:=QV a he (hp.kids a (.head _)) e hs
  exact⟨⟨by have:=h1.size;rw[Tf.size,A6,A6];omega,h1.ar,h1.sh⟩,q⟩
 | .mk x (a::b::l),i,t,h,y,j,he,hp,e,hs=>by
  unfold E8 at he
  split at he
  ·cases he
  ·obtain⟨u,k,h1,q⟩:=PR.HW he
   obtain⟨w,A⟩:=QV a h1 (hp.kids a (.head _)) e hs
   obtain⟨z,B⟩:=QV b q (hp.kids b (.tail _ (.head _))) w.ar w.sh
   refine⟨⟨?_,z.ar,z.sh⟩,B.trans A⟩
   have:=w.size
   have:=z.size
   rw[Tf.size,A6,A6];omega
theorem u3{g:Tf->PR Tf}{h:Nat}: ∀ {l:List Tf} {ys:List Tf} {j:Int},HN g l= .ok ys j->(∀x∈l,∀y j,g x= .ok y j->Im y (x.size*h))->ys.length=l.length/\A6 ys<=A6 l*h/\ ∀y∈ys,B6 y=true/\AT y
 |[],ys,j,he,_=>by
  have:=PR.DQ he
  subst this
  exact⟨rfl,Nat.zero_le _,λ y i=>by cases i⟩
 |x::l,ys,j,he,hg=>by
  unfold HN at he
  obtain⟨y,k,h1,n⟩:=PR.HW he
  obtain⟨zs,m,q,s⟩:=PR.HW n
  have:=PR.DQ s
  subst this
  have e:=hg x (.head _) y k h1
  obtain⟨w,B,A⟩:=u3 q λ z b=>hg z (.tail _ b)
  refine⟨by simp[w],?_,λ z b=>?_⟩
  ·rw[A6,A6,Nat.add_mul];have:=e.size;omega
  ·rcases List.mem_cons.1 b with rfl|b
   ·exact⟨e.ar,e.sh⟩
   ·exact A z b
abbrev P6(im:Tf->Int->Tf->PR Tf)(g:Tf):Prop:= ∀i t y j,im g i t= .ok y j->B6 t=true->AT t->Im y (t.size*hF g)
theorem Ap2{s h:Nat}(b:1<=h):1+s*h<=(1+s)*h:=by rw[Nat.add_mul];omega
theorem u4{t:Tf}(h:AT t): ∀n∈B7 t,len n<=100:=by
 unfold B7
 split
 ·intro n b;cases b
 ·intro n b
  obtain⟨x,hx,rfl⟩:=List.mem_map.1 b
  exact(h.kids x hx).root.1
theorem W0{im:Tf->Int->Tf->PR Tf}{g:Tf}{i:Int}{t y:Tf}{j:Int}(hg:P6 im g)(h1:1<=hF g)(ho:t.t.op≠1)(he:F1 im g i t= .ok y j)(l:B6 t=true)(hs:AT t):Im y (t.size*hF g):=by
 unfold F1 at he
 obtain⟨ys,k,A,B⟩:=PR.HW he
 have:=PR.DQ B
 subst this
 obtain⟨C,q⟩:=MS l hs
 obtain⟨D,H,w⟩:=u3 (h:=hF g) A λ x hx y j E=>hg i x y j E (q x hx).1 (q x hx).2
 have b:len (CL (B7 t) ys)=len t.ps:=by rw[iB];unfold len;rw[D,MO ho,List.length_map]
 unfold CM
 refine⟨?_,MR ho (λ F=>?_) (λ z b=>?_),(H6 _).2 ⟨?_,λ z b=>?_⟩⟩
 ·rw[Tf.size_eq,t.size_eq]
  show 1+A6 (CL (B7 t) ys)<=_
  rw[QU]
  have:=Nat.mul_le_mul_right (hF g) C
  have:=Ap2 (s:=A6 t.ps) h1
  omega
 ·obtain⟨a,e⟩:=(B6.one l) F
  rw[b,e];rfl
 ·obtain⟨x,hx,e⟩:=ZH b
  have:=(w x hx).1
  rcases e with rfl|⟨n,_,rfl⟩
  ·exact this
  ·rw[ZF];exact this
 ·refine⟨?_,?_,?_⟩<;>(show len ([]:A0)<=_;decide)
 ·obtain⟨x,hx,e⟩:=ZH b
  have:=(w x hx).2
  rcases e with rfl|⟨n,G,rfl⟩
  ·exact this
  ·exact this.named (u4 hs n G)
inductive LS:A0->List Tk->Prop
 |nil:LS [] []
 |blank {c:UInt8} {r:A0} {u:List Tk}:M9 c=true->LS r u->LS (c::r) u
 |tok {w r:A0} {t:Tk} {u:List Tk}:w≠[]->C4 (w++r)=(t,len w,0)->LS r u->LS (w++r) (t::u)
def MT(r:A0):Prop:=r=[]\/ ∃c r',r=c::r'/\KG (c.toNat:Int)=true
theorem MT.stop {r:A0}(h:MT r):Stop [] r:=by
 rcases h with h|⟨c,r',rfl,h⟩
 ·exact .inl h
 ·exact .inr (.inl ⟨by simp,by rw[G8];exact h⟩)
theorem BJ4{c:UInt8}{r:A0}(h:KG (c.toNat:Int)=true):MT (c::r):=.inr ⟨c,r,rfl,h⟩
theorem LS.of {t:Tk}(h:HR t=true)(hp:t.pos=0){r:A0}{u:List Tk}(i:MT r)(hl:LS r u):LS (S1 t++r) (t::u):=by
 obtain⟨h1,b⟩:=AV5 h (r:=[]) (.inl rfl)
 have:=fD (v':=r) b h1 i.stop
 have e: { t with pos:=0}=t:=by cases t;simp only at hp;subst hp;rfl
 rw[e]at this
 exact .tok b this hl
theorem LS.mark {c:UInt8}(b:c∈([40,41,91,93,123,125,58,44,124]:A0)){r:A0}{u:List Tk}(hl:LS r u):LS (c::r) (VO [c] 0::u):=
 .tok (w:=[c]) (by simp) (Ag9 b r) hl
def nwR(r:A0):Prop:= ∀c r',r=c::r'->CK (c.toNat:Int) false=false/\c≠34
theorem MT.nw {r:A0}(h:MT r):nwR r:=by
 intro c r' e
 rcases h with h|⟨c2,b,rfl,h⟩
 ·rw[h]at e;cases e
 ·obtain⟨rfl,rfl⟩:=List.cons.inj e
  have:=fC h
  refine⟨oX h,λ e=>?_⟩
  subst e;exact this.2 rfl
def Ap4(s:A0):Tk:=⟨3,s,C0,0⟩
theorem ZI{s:A0}(h:FM s=true):s≠[]/\ ∀j:Int,0<=j->j<len s->CK (A3 s j) (j==0)=true:=V9.1 h
theorem LS.field {s r:A0}{u:List Tk}(hs:DO s=true)(i: ∀c r',r=c::r'->CK (c.toNat:Int) false=false)(hl:LS r u):LS ((46::FH s)++r) (Ap4 s::u):=by
 refine .tok (by simp) ?_ hl
 unfold FH
 by_cases h:FM s=true
 ·rw[if_pos h]
  obtain⟨h1,j⟩:=ZI h
  have hw:=s8 h1 j i
  unfold C4
  rw[List.cons_append,G8,VD,hw,if_pos ⟨rfl,h1⟩,AM,Int.add_comm];rfl
 ·rw[if_neg h,<-YG hs]
  have k:=fM hs r
  obtain⟨q,b⟩:=Z0 s
  have hw:BC (E5 s++r)=[]:=by rw[b];exact L1 (by rw[List.cons_append,G8];rfl)
  have e:Lib.hasPrefix (E5 s++r) [34]=true:=by rw[b];rfl
  unfold C4
  rw[List.cons_append,G8,VD,hw,if_neg (λ x=>x.2 U),if_pos ⟨rfl,e⟩,k,AM,Int.add_comm];rfl
theorem LS.text {s r:A0}{u:List Tk}(hs:DO s=true)(b:MT r)(hl:LS r u):LS (NC s++r) (⟨4,s,C0,0⟩::u):=by
 have:=LS.of (t:=⟨4,s,C0,0⟩) (by unfold HR;simp[hs]) U b hl
 rw[show S1 ⟨4,s,C0,0⟩=E5 s from rfl,YG hs]at this;exact this
theorem LS.num {c:Nd}{r:A0}{u:List Tk}(b:JB c=true)(e:MT r)(hl:LS r u):LS (IC c++r) (⟨5,[],c,0⟩::u):=by
 have:=LS.of (t:=⟨5,[],c,0⟩) (by unfold HR;simp[b]) U e hl
 exact this
theorem LS.word {s r:A0}{u:List Tk}(hs:FM s=true)(b:MT r)(hl:LS r u):LS (s++r) (VP s 0::u):=by
 have:=LS.of (t:=VP s 0) (by unfold HR VP;simp[hs]) U b hl
 exact this
theorem LS.sign {s r:A0}{u:List Tk}(hs:s∈Y2)(b:MT r)(hl:LS r u):LS (s++r) (VO s 0::u):=by
 have key: ∀s∈Y2,HR (VO s 0)=true:=by decide+kernel
 have:=LS.of (t:=VO s 0) (key s hs) U b hl
 exact this
abbrev iE(m:A0):Tk:=VO m 0
abbrev ZJ(m:A0):Tk:=VP m 0
def BJ5(c:Nd):Tk:=if c.kind=0 then ZJ V4 else if c.kind=1 then ZJ V3 else if c.kind=2 then ZJ V2 else if c.kind=3 then⟨5,[],c,0⟩else⟨4,c.s,C0,0⟩
end Go.Eng
