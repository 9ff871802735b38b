/- Lemmas for the card. -/
import Derived.Test.YtnoegalemkbbbaaGreatDoorKv15
set_option linter.unusedVariables false
set_option linter.unusedSimpArgs false
set_option maxRecDepth 100000
set_option maxRecDepth 100000
namespace Go.Proofs.YtnoegalemkbbbaaGreatDoor
open Go.Proofs.Tryz
open Go.Eng
theorem toE{P:Program}{f:FuncId}{args:Array Value}{w:World}{u:Value}(h:Calls P f args w λ e w'=>e= .returned u/\w'=w):Calls P f args w λ e w'=>e= .returned u/\Ext w w':=h.mono λ e w' ⟨h1,b⟩=>⟨h1,by rw[b];exact .refl _⟩
theorem VV(neg:Bool)(s:A0)(x:Int)(w:World)(hg:Gl w)(F:len s<=1099511627776):
   Calls prog 288 [.bool neg,str s,i64 x].toArray w λ e w'=>e= .returned (.tuple #[EU (CL neg s x).1,i64 (CL neg s x).2])/\Ext w w':=by
 have q:=dL s
 have A:=AF0 s
 have C:=mK (AY s)
 have D:=A9 (AY s)
 have E:=A9 (BG (AY s))
 refine AJ AG func288 U ntmps288 [] [] [.v (.bool neg),.v (str s),I x] U (BF w) A4 (λ B j=>BB 1 U zeroValue46 U λ G=>AK U call302 U U (λ _ w M h=>qQ s w (hg.low h.st.low) Aa) U ?_) U
 refine A1 U (λ h1=>?_) (λ h1=>?_)<;>simp only[zb]at h1
 ·exact A2 j U U U λ w M h=>⟨by unfold CL;rw[h1];rfl,h.st.low⟩
 refine AK (u:=str (AY s)) U call303 U U (λ _ w M h=>AD4 s [48] w Ab (Z4 Ab)) U <|A1 (b:=AY s==[]) U (λ l=>?_) (λ l=>?_)
 ·exact A2 j U U U λ w M h=>⟨by unfold CL;rw[if_pos h1,if_pos l];rfl,h.st.low⟩
 have i: ¬(AY s==[])=true:=by rw[l];decide
 refine A1 U (λ n=>?_) (λ n=>?_)
 ·exact A2 j U U U λ w M h=>⟨by unfold CL;rw[if_pos h1,if_neg i,if_pos n];rfl,h.st.low⟩
 have k:=Bool.eq_false_iff.1 n
 simp only[zb]at n
 refine AK (u:=str (BG (AY s))) U call304 U U (λ _ w M h=>dH (AY s) [48] w Aa Ab (Z4 Ab)) U <|AK (u:=.bool (decide (-1000<=x+(len (AY s)-len (BG (AY s))))&&decide (x+(len (AY s)-len (BG (AY s)))<=1000)&&decide (len (BG (AY s))+(x+(len (AY s)-len (BG (AY s))))<=1000))) U (hO:=by show _/\_;simp only[zb]<;>omega) call305 U U (λ _ w M h=>toE (qR (len (BG (AY s))) (x+(len (AY s)-len (BG (AY s)))) w Aa)) U ?_
 have y:=q
 refine A1 U (λ z=>?_) (λ z=>?_)<;>simp only[zb]at z
 ·exact A2 j U U U λ w M h=>⟨by unfold CL;rw[if_pos h1,if_neg i,if_neg k,if_pos (by simp only[zb];have:=y (by simpa using l);omega)];rfl,h.st.low⟩
 ·exact A2 j U U U λ w M h=>⟨by unfold CL;rw[if_pos h1,if_neg i,if_neg k,if_neg (by simp only[zb];omega)];rfl,h.st.low⟩
end Go.Proofs.YtnoegalemkbbbaaGreatDoor
namespace Go.Eng
open Go.RowKit
theorem An9: ∀a:Fin 128,DK ((a:Nat):Int)=[((a:Nat):Int).toNat.toUInt8]:=by decide+kernel
theorem tD{r:Int}(h:0<=r/\r<128):DK r=[r.toNat.toUInt8]:=by
 have:=An9 ⟨r.toNat,Aa⟩
 rw[show(((⟨r.toNat,Aa⟩:Fin 128):Nat):Int)=r by show(r.toNat:Int)=r;omega]at this
 exact this
abbrev H5(s:A0):Prop:= ∀b∈s,48<=b.toNat/\b.toNat<=57
theorem H5.at {s:A0}(h:H5 s){i:Int}(h0:0<=i)(h1:i<len s):48<=A3 s i/\A3 s i<=57:=by
 have hi:i.toNat<s.length:=by unfold len at h1;omega
 have:=h s[i.toNat] (List.getElem_mem hi)
 unfold A3
 rw[List.getD_eq_getElem?_getD,List.getElem?_eq_getElem hi]
 show(48:Int)<=(s[i.toNat].toNat:Int)/\_
 exact⟨Aa,by show(s[i.toNat].toNat:Int)<=57;omega⟩
theorem tE{α:Type}{p:α->Bool}{b:α}{r:List α}: ∀ {l:List α},l.dropWhile p=b::r->p b=false
 |[],h=>by cases h
 |a::l,h=>by
  rw[List.dropWhile_cons]at h
  split at h
  ·exact tE h
  ·rename_i e;cases h;simpa using e
theorem gX{α:Type}{p:α->Bool}: ∀ {l:List α},(∀x∈l,p x=true)->l.dropWhile p=[]
 |[],_=>rfl
 |a::l,h=>by rw[List.dropWhile_cons,if_pos (h a (.head _))];exact gX λ x hx=>h x (.tail _ hx)
theorem tF(c:UInt8)(s:A0):len (Lib.trimRightS s [c])<=len s/\(0<len (Lib.trimRightS s [c])->A3 s (len (Lib.trimRightS s [c])-1)≠(c.toNat:Int)):=by
 have h1:s.reverse=s.reverse.takeWhile (([c]:A0).contains ·)++s.reverse.dropWhile (([c]:A0).contains ·):=List.takeWhile_append_dropWhile.symm
 have e:s=(s.reverse.dropWhile (([c]:A0).contains ·)).reverse++(s.reverse.takeWhile (([c]:A0).contains ·)).reverse:=by
  rw[<-List.reverse_append,<-h1,List.reverse_reverse]
 have hd:Lib.trimRightS s [c]=(s.reverse.dropWhile (([c]:A0).contains ·)).reverse:=rfl
 rw[hd]
 refine⟨by unfold len;have:=congrArg List.length e;simp at this ⊢;omega,λ hp=>?_⟩
 cases hq:s.reverse.dropWhile (([c]:A0).contains ·)with
 |nil=>rw[hq]at hp;simp[len]at hp
 |cons b r=>
  have i:(([c]:A0).contains b)=false:=by
   exact tE hq
  rw[hq]at e
  unfold A3
  have hl:(len (b::r).reverse-1).toNat=r.length:=by unfold len;simp
  rw[hl,e]
  rw[List.getD_eq_getElem?_getD,List.getElem?_append_left (by simp)]
  simp only[List.reverse_cons,List.getElem?_append_right (show r.reverse.length<=r.length by simp),List.length_reverse,Nat.sub_self,List.getElem?_cons_zero,Option.getD_some]
  intro h
  have:b=c:=UInt8.toNat_inj.1 Aa
  rw[this]at i;simp at i
theorem Ao0(d:Int):0<=len (P4 d)/\(len (P4 d)<=0\/len (P4 d)=d):=by unfold P4 len;rw[List.length_replicate];omega
theorem Ao1(s:A0):len (P5 s)<=2*len s+2:=by
 have h0:=A9 s
 have h1:=mI (len s-len (I5 s))
 have b:=Q4 s 0 (len (I5 s)-1)
 have e:=A9 (I5 s)
 unfold P5
 split<;>simp only[AQ,AM,len_nil]<;>omega
theorem tG(s:A0):len (P6 s)<=2*len s+2:=by
 have h0:=A9 s
 have h1:=Ao0 (len s-len (BG s))
 have b:=Q4 s 0 (len (BG s)-1)
 have e:=A9 (BG s)
 unfold P6
 simp only[AQ,AM,len_nil];omega
theorem tH{s:A0}(h:JA s=true):H5 s:=λ b e=>by
 obtain⟨j,i,rfl⟩:=List.getElem_of_mem e
 exact(YR _).1 (YS.1 h j i)
theorem gY{s:A0}(h:H5 s)(k:Int):H5 (s++BD k):=λ b e=>by
 rcases List.mem_append.1 e with e|e
 ·exact h b e
 ·unfold BD at e;rw[(List.mem_replicate.1 e).2];decide
theorem tI{s:A0}(hs:s≠[])(h:Lib.trimB s 48=s)(k:Int):0<len (BG (s++BD k)):=by
 refine Decidable.byContradiction λ e=>hs ?_
 have h0:BG (s++BD k)=[]:=List.eq_nil_of_length_eq_zero (by unfold len at e;omega)
 unfold BG Lib.trimRightS at h0
 rw[List.reverse_eq_nil_iff]at h0
 have h1:=dropWhile_nil h0
 have i: ∀b∈s.reverse,(b==(48:UInt8))=true:=λ b j=>by
  have:=h1 b (by rw[List.reverse_append];exact List.mem_append_right _ j)
  simpa using this
 have l:Lib.trimRightB s 48=[]:=by
  unfold Lib.trimRightB
  rw[List.reverse_eq_nil_iff]
  exact gX i
 rw[<-h];unfold Lib.trimB;rw[l];rfl
structure QW (c:Nd):Prop where
 len:len c.s<=100
 e: -1000<=c.e/\c.e<=1000/\Eng.len c.s+c.e<=1000
 fig:H5 c.s
 trim:c.s≠[]->Lib.trimB c.s 48=c.s
theorem tJ{c:Nd}(h:GP c=true)(j:c.kind=3):QW c:=by
 unfold GP JX at h
 rw[if_neg Aa,if_pos j]at h
 simp only[Bool.and_eq_true]at h
 have h1:=h.1.1
 unfold OY at h1
 split at h1
 ·cases h1
 ·rename_i i
  simp only[not_or,Decidable.not_not,Bool.not_eq_false]at i
  obtain⟨_,_,_,a,b,d,e,f⟩:=i
  refine⟨Aa,⟨Aa,Aa,Aa⟩,tH f,λ hs=>?_⟩
  rw[if_neg hs]at h1
  simpa using h1
theorem tK{c:Nd}{b:Bool}{top:Int}(h:top=len c.s+c.e-(if c.neg=b/\c.s=[49]then 1 else 0)):(if-1000>top-100 then-1000 else top-100)=P7 c b:=by
 unfold P7;rw[<-h];omega
end Go.Eng
namespace Go.Proofs.YtnoegalemkbbbaaGreatDoor
open Go.Proofs.Tryz
open Go.Eng
theorem Ao2(s:A0)(w:World)(hg:Gl w)(n:H5 s)(D:len s<=4194304):Calls prog 289 [str s].toArray w λ e w'=>e= .returned (str (P5 s))/\Ext w w':=by
 have q:=A9 s
 have y:=A9 (I5 s)
 obtain⟨h,z⟩:=tF 57 s
 have k:len (I5 s)<=len s:=h
 have F:=OH (len s-len (I5 s)) Aa
 refine AJ AG func289 U ntmps289 [] [] [.v (str s)] U (BF w) A4 (λ B l=>AK (u:=str (I5 s)) U call304 U U (λ _ w M b=>dH s [57] w Aa Ab (Z4 Ab)) U <|AK (u:=str (BD (len s-len (I5 s)))) U call291 U U (λ _ w M b=>fU _ w Aa Aa) U ?_) U
 refine A1 U (λ h1=>?_) (λ h1=>?_)<;>simp only[zb]at h1
 ·exact A2 l U U (hO:=by simp only[AM,len_nil];and_intros<;>first|omega|trivial) U λ w M b=>⟨by unfold P5;rw[if_pos h1];rfl,b.st.low⟩
 have A:=n.at (i:=len (I5 s)-1) Aa Aa
 have C:=FG (s:=s) (i:=0) (j:=len (I5 s)-1) Aa Aa Aa
 refine G3 U BM Ac <|YN (.v (str (DK (A3 s (len (I5 s)-1)+1)))) U U (λ w M b=>PV.bG (A8 (v:=.v (.int .i32 (A3 s (len (I5 s)-1)+1))) (E:=[]) U) underlying21 underlying9) ?_
 rw[tD Aa]
 exact G4 U (hO:=by simp only[AQ,AM,len_nil];and_intros<;>first|omega|trivial) <|A2 l U U U λ w M b=>⟨by unfold P5;rw[if_neg h1];rfl,b.st.low⟩
theorem Ao3(s:A0)(w:World)(hg:Gl w)(l:H5 s)(C:len s<=4194304)(hp:0<len (BG s)):Calls prog 290 [str s].toArray w λ e w'=>e= .returned (str (P6 s))/\Ext w w':=by
 have n:=A9 s
 obtain⟨h,q⟩:=tF 48 s
 have k:len (BG s)<=len s:=h
 have D:len (P4 (len s-len (BG s)))=len s-len (BG s):=by unfold P4 len;rw[List.length_replicate];unfold len at*;omega
 refine AJ AG func290 U ntmps290 [] [] [.v (str s)] U (BF w) A4 (λ B y=>AK (u:=str (BG s)) U call304 U U (λ _ w M b=>dH s [48] w Aa Ab (Z4 Ab)) U ?_) U
 have z:=l.at (i:=len (BG s)-1) Aa Aa
 have A:=FG (s:=s) (i:=0) (j:=len (BG s)-1) Aa Aa Aa
 refine G3 U BM Ac <|YN (.v (str (DK (A3 s (len (BG s)-1)-1)))) U U (λ w M b=>PV.bG (A8 (v:=.v (.int .i32 (A3 s (len (BG s)-1)-1))) (E:=[]) U) underlying21 underlying9) ?_
 rw[tD Aa]
 exact HB (u:=str (P4 (len s-len (BG s)))) U (hO:=by simp only[AQ,AM,len_nil];and_intros<;>first|omega|trivial) call291 U U (λ _ w M b=>mB 57 _ w Aa Aa) U <|G4 U (hO:=by simp only[AQ,AM,len_nil];and_intros<;>first|omega|trivial) <|A2 y U U U λ w M b=>⟨rfl,b.st.low⟩
theorem Ao4(c:Nd)(b:Bool)(w:World)(hg:Gl w)(F:QW c):Calls prog 266 [EU c,.bool b].toArray w λ e w'=>e= .returned (.tuple #[EU (NR c b).1,.bool (NR c b).2])/\Ext w w':=by
 have T:=A9 c.s
 have V:=F.len
 have W:=F.e
 refine AJ AG func266 U ntmps266 [] [] [D8 c,.v (.bool b)] U (BF w) A4 (λ B Q=>BQ 2 U U U λ G=>BB 4 U zeroValue46 U λ H=>?_) U
 refine A1 U (λ h1=>?_) (λ h1=>?_)<;>simp only[zb]at h1
 ·refine AK U call288 U U (λ _ w M l=>VV (!b) [49] (-1000) w (hg.low l.st.low) Ab) U <|BB 6 U zeroValue46 U λ b6=>A2 Q U U U λ w M l=>⟨?_,l.st.low⟩
  unfold NR P8;rw[if_pos h1];rfl
 refine G3 U BM Ac <|G4 U ?_
 refine CY 0 (λ s=> ∃(f:FuncId) (S:A0->A0) (top:Int),CT prog f/\(∀k w,Gl w->0<=k->k<=2000->Calls prog f [str (c.s++BD k)].toArray w λ e w'=>e= .returned (str (S (c.s++BD k)))/\Ext w w')/\S=(if c.neg=b then P6 else P5)/\(∀s,len (S s)<=2*len s+2)/\top=len c.s+c.e-(if c.neg=b/\c.s=[49]then 1 else 0)/\
    s=⟨[],[(2,EN G c),(4,EN H (DH 0))],[Z 2 (.bx 2 G 0),Z 4 (.bx 4 H 0),Z 5 (.v (.bool false)),Z 8 (.v (.func (.func f) #[] #[])),Z 9 (I top)]⟩) U U (λ K=>?_) (λ K=>?_) ?_
 ·have n:c.neg=b:=by simpa using K
  have hd: ∀k w,Gl w->0<=k->k<=2000->Calls prog 290 [str (c.s++BD k)].toArray w λ e w'=>e= .returned (str (P6 (c.s++BD k)))/\Ext w w':=λ k w hg h0 L=>Ao3 _ w hg (gY F.fig k) (by rw[AQ,OH k h0];omega) (tI h1 (F.trim h1) k)
  refine A1 U (λ J=>?_) (λ J=>?_)<;>simp only[zb]at J
  ·exact AW _ U U ⟨290,P6,_,call290,hd,by rw[if_pos n],tG,by rw[if_pos ⟨n,J⟩],rfl⟩
  ·exact AW _ U U ⟨290,P6,_,call290,hd,by rw[if_pos n],tG,by rw[if_neg (λ q=>J q.2)];omega,rfl⟩
 ·have n: ¬c.neg=b:=by simpa using K
  exact AW _ U U ⟨289,P5,_,call289,λ k w hg h0 L=>Ao2 _ w hg (gY F.fig k) (by rw[AQ,OH k h0];omega),by rw[if_neg n],Ao1,by rw[if_neg (λ q=>n q.1)];omega,rfl⟩
 rintro _ ⟨f,S,top,C,hS,N,O,y,rfl⟩
 have X: -1001<=top/\top<=1000:=by rw[y];split<;>omega
 have D:=tK y
 obtain⟨z,R⟩: ∃z,z=P7 c b:=⟨_,rfl⟩
 rw[<-R]at D
 have hzb: -1000<=z/\z<=c.e:=by rw[<-D,y];split<;>split<;>omega
 refine AU (I z) U U (λ w M l=>by rw[<-D];exact PV.max2 (A8 (v:=I (top-100)) (E:=[]) U) (A8 (v:=I (-1000)) (E:=[]) U)) ?_
 have P:P8 c b=CL c.neg (S (c.s++BD (c.e-z))) z:=by unfold P8;rw[if_neg h1,N,<-R]
 have A:=OH (c.e-z) Aa
 have hSl:len (S (c.s++BD (c.e-z)))<=10000:=by have:=O (c.s++BD (c.e-z));rw[AQ,A]at this;omega
 refine xsj 3 (λ s=> ∃i,s=⟨[],[(2,EN G c),(4,EN H (DH 0)),(11,EN i (CL c.neg (S (c.s++BD (c.e-z))) z).1)],[Z 2 (.bx 2 G 0),Z 4 (.bx 4 H 0),Z 5 (.v (.bool false)),Z 11 (.bx 11 i 0),Z 12 (I (CL c.neg (S (c.s++BD (c.e-z))) z).2)]⟩) U ?_ ?_
 ·refine DN [9,11,13,17,18] 6 (λ _ _ _ _ _ h=>h) U BM Ac <|G5 9 17 U U U ?_ ?_
  ·refine AK U call291 U U (λ _ w M l=>fU _ w Aa Aa) U <|AE U <|G5 11 17 U U U ?_ ?_
   ·refine AR [] (λ _:Unit=>.v (str (S (c.s++BD (c.e-z))))) [] (λ _=>[]) (Fg:=λ _=>[]) (pu:=λ _=>True) U (hO:=by simp only[A]<;>omega) U C U U (λ w M j hF=>(hS (c.e-z) w (hg.low j.low) Aa Aa).mono λ e w' ⟨he,hx⟩=>⟨(),M,he,trivial,Mem.le.refl _,j.ext hx,A4⟩) λ _ _=>AE U <|G5 13 17 U U U ?_ ?_
    ·exact AK U call288 U U (λ _ w M l=>VV c.neg (S (c.s++BD (c.e-z))) z w (hg.low l.st.low) Aa) U <|AE U <|AL 17 U U U <|BB 11 U zeroValue46 U λ i=>AE U <|AL 18 U U U <|AE U <|BO U U U <|AW _ U U ⟨i,rfl⟩
    ·exact BB 11 U zeroValue46 U λ i=>AE U <|AL 13 U U U <|AK U call288 U U (λ _ w M l=>VV c.neg (S (c.s++BD (c.e-z))) z w (hg.low l.st.low) Aa) U <|AE U <|AL 18 U U U <|AE U <|BO U U U <|AW _ U U ⟨i,rfl⟩
   ·exact BB 11 U zeroValue46 U λ i=>AE U <|AL 11 U U U <|AR [] (λ _:Unit=>.v (str (S (c.s++BD (c.e-z))))) [] (λ _=>[]) (Fg:=λ _=>[]) (pu:=λ _=>True) U (hO:=by simp only[A]<;>omega) U C U U (λ w M j hF=>(hS (c.e-z) w (hg.low j.low) Aa Aa).mono λ e w' ⟨he,hx⟩=>⟨(),M,he,trivial,Mem.le.refl _,j.ext hx,A4⟩) λ _ _=>AE U <|AL 13 U U U <|AK U call288 U U (λ _ w M l=>VV c.neg (S (c.s++BD (c.e-z))) z w (hg.low l.st.low) Aa) U <|AE U <|AL 18 U U U <|AE U <|BO U U U <|AW _ U U ⟨i,rfl⟩
  ·exact BB 11 U zeroValue46 U λ i=>AE U <|AL 9 U U U <|AK U call291 U U (λ _ w M l=>fU _ w Aa Aa) U <|AE U <|AL 11 U U U <|AR [] (λ _:Unit=>.v (str (S (c.s++BD (c.e-z))))) [] (λ _=>[]) (Fg:=λ _=>[]) (pu:=λ _=>True) U (hO:=by simp only[A]<;>omega) U C U U (λ w M j hF=>(hS (c.e-z) w (hg.low j.low) Aa Aa).mono λ e w' ⟨he,hx⟩=>⟨(),M,he,trivial,Mem.le.refl _,j.ext hx,A4⟩) λ _ _=>AE U <|AL 13 U U U <|AK U call288 U U (λ _ w M l=>VV c.neg (S (c.s++BD (c.e-z))) z w (hg.low l.st.low) Aa) U <|AE U <|AL 18 U U U <|AE U <|BO U U U <|AW _ U U ⟨i,rfl⟩
 ·rintro _ ⟨i,rfl⟩
  refine A2 Q U U U λ w M l=>⟨?_,l.st.low⟩
  unfold NR;rw[P];rfl
end Go.Proofs.YtnoegalemkbbbaaGreatDoor
namespace Go.Eng
open Go.RowKit
theorem tL{c:Cx}{B:Exit->Act->World->Prop}{k:List Fr}{m:Md}{s:XS}(s2:XS)(h0:(⟨JC s2.F s.F,JD s2.H s.H,GH (keys s2.L) s.L⟩:XS)=s2)(b:XG c B k m s2):XG c B k m s:=λ a w hs=>b a w (hs.sub (XS.N6 h0))
def I6:List Nd:=[DH 0,DH 1,DH 2,DH 3]
theorem Ao5(a:Tm):len (HN a)<=2:=by
 unfold HN;split<;>simp only[AM,len_nil]<;>omega
theorem LG{α β:Type}(f:α->List β)(l:List α)(x:α):(l++[x]).flatMap f=l.flatMap f++f x:=by simp
theorem Ao6(l:List Tm):DZ l=I6++l.flatMap NS++[DH 4]++l.flatMap HN:=rfl
def tM(b:Bool):List Value:=[.bool b]
end Go.Eng
namespace Go.Proofs.YtnoegalemkbbbaaGreatDoor
open Go.Proofs.Tryz
open Go.Eng
theorem Ao7{w0 w:World}{M0 M:Mem}{T:HO}{Rs:List HO}{b:Nat}{v:Value}{l:List Tm}(hg:Gl w0)(hl:(kn v 7 l C6).ok M)(hb:len l<=16777216)(hn: ∀a∈l,a.c.kind=3->QW a.c)(hs: ∀a∈l,len a.c.s<=1048576):
    SX prog 265 [.pointer (some ⟨b,0,none⟩)] (DZ l).length w0 M0 (T:: .box b [v] 79::Rs)
     (λ k (_:Unit)=>[D8 (at' (DZ l) (k:Int))]) (λ _ _=>True) (λ _ _=>[]) w M:=by
 intro γ ub I' J Hy V W g0 ⟨G,H,K,L,N,hx⟩ hS hF hI hy
 have hl0:=A9 l
 have hS2:St w0 M0 w M (.box b [v] 79::G g0::H g0::K g0::L g0::N g0::(T::Rs)):=by
  rw[hx]at hS
  exact hS.perm (List.perm_middle (l₁:=[G g0,H g0,K g0,L g0,N g0,T])).symm
 refine YB (Hr:=T::Rs) AG func265 rfl ntmps265 rfl (λ w h=>by obtain⟨g,M',h,_⟩:=h;cases h) [(10,kn v 7 l C6),(9,IE (V g0))] [(0,.box b [.sl 10 v] 79),(1,.ho (G g0)),(2,.ho (H g0)),(3,.ho (K g0)),(4,.ho (L g0)),(5,.ho (N g0))] [.v (.func (.yield W) #[] #[]),.bx 0 b 0] rfl hS2 (AH hl (AH ⟨Sl.nil M 1,DC,hF⟩ A4)) (λ B hB=>BA 13 I6 Nd.cells 6 46 Nd.AT U U Ah U λ u0=>?_) rfl
 refine B5 (σ:=Int×Value×List Nd) (λ(k,u,y)=>⟨[(10,kn v 7 l C6),(13,kn u 6 y Nd.cells),(9,IE (V g0))],[(0,.box b [.sl 10 v] 79),(13,.ho (.own 46 6 u y.length (y.flatMap Nd.cells))),(1,.ho (G g0)),(2,.ho (H g0)),(3,.ho (K g0)),(4,.ho (L g0)),(5,.ho (N g0))],[Z 0 (.v (.func (.yield W) #[] #[])),Z 1 (.bx 0 b 0),Z 3 (.sl 13 u),Z 19 (.sl 10 v),Z 20 (I (len l)),Z 21 (I k)]⟩)
  (λ(k,u,y)=>0<=k/\k<=len l/\y=I6++(Eng.sub l 0 k).flatMap NS/\len y<=4+3*k) (λ(k,u,y)=>(len l-k).toNat) (0,u0,I6) U U ⟨Aa,Aa,by show I6=I6++[];rw[List.append_nil],Ab⟩ ?_
 rintro⟨k,u,y⟩ ⟨h0,h1,P,hy2⟩
 refine A1 U (λ j=>?_) (λ j=>?_)<;>simp only[zb]at j
 ·obtain⟨a,F⟩: ∃a,a=at' l k:=⟨_,rfl⟩
  have X:a∈l:=by rw[F];exact at_mem h0 j
  have D:=FT h0 j
  rw[<-F]at D
  refine BB 50 U zeroValue113 U λ b5=>?_
  refine A1 U (λ q=>?_) (λ q=>?_)<;>simp only[zb]at q<;>rw[<-F]at q
  ·refine AX (k+1,u,y) U U ⟨Aa,Aa,?_,Aa⟩ Ag
   rw[D,LG,show NS a=[]from by unfold NS;rw[if_neg q],List.append_nil];exact P
  have Q:a.c.kind=3:=by omega
  have hnb:=hn a X Q
  refine BA 32 [(at' l k).c] Nd.cells 6 46 Nd.AT U U Ah U λ v32=>F5 64 U U U underlying32 type46 U U Nd.cells_one (by simp only[AM,len_nil];omega) λ v1=>BA 34 [true,false] tM 1 4 (λ _=>rfl) U U Ah U λ v34=>?_
  refine B5 (σ:=Int×Value×List Nd) (λ(i,u,z)=>⟨[(10,kn v 7 l C6),(13,kn u 6 z Nd.cells),(34,kn v34 1 [true,false] tM),(9,IE (V g0))],[(0,.box b [.sl 10 v] 79),(13,.ho (.own 46 6 u z.length (z.flatMap Nd.cells))),(50,.box b5 [I (at' l k).n,I (at' l k).c.kind,I (at' l k).c.many,.v (str (at' l k).c.name),.v (str (at' l k).c.s),.v (.bool (at' l k).c.neg),I (at' l k).c.e] 113),(1,.ho (G g0)),(2,.ho (H g0)),(3,.ho (K g0)),(4,.ho (L g0)),(5,.ho (N g0))],[Z 0 (.v (.func (.yield W) #[] #[])),Z 1 (.bx 0 b 0),Z 3 (.sl 13 u),Z 5 (.bx 50 b5 0),Z 19 (.sl 10 v),Z 20 (I (len l)),Z 21 (I k),Z 34 (.sl 34 v34),Z 35 (I 2),Z 36 (I i)]⟩)
   (λ(i,u,z)=>0<=i/\i<=2/\z=y++[a.c]++(Eng.sub [true,false] 0 i).flatMap (MQ a.c)/\len z<=5+3*k+i) (λ(i,u,z)=>(2-i).toNat) (0,v1,y++[(at' l k).c]) U U ⟨Aa,Aa,by rw[<-F];simp[Eng.sub],by rw[AQ];simp only[AM,len_nil];omega⟩ ?_
  rintro⟨i,u,z⟩ ⟨hi0,hi1,C,hz2⟩
  have hl2:len [true,false]=2:=rfl
  refine A1 U (λ E=>?_) (λ E=>?_)<;>simp only[zb]at E
  ·have hs2:=FT (l:=[true,false]) hi0 (by rw[hl2];exact E)
   refine AK U call266 U U (λ _ w M R=>Ao4 (at' l k).c (at' [true,false] i) w (hg.low R.st.low) (by rw[<-F];exact hnb)) U <|BB 8 U zeroValue46 U λ b8=>A1 U (λ O=>?_) (λ O=>?_)
   ·refine BA 51 [(NR (at' l k).c (at' [true,false] i)).1] Nd.cells 6 46 Nd.AT U U Ah U λ v50=>F5 64 U U U underlying32 type46 U U Nd.cells_one (by simp only[AM,len_nil];omega) λ v2=>AX (i+1,v2,z++[(NR (at' l k).c (at' [true,false] i)).1]) U U ⟨Aa,Aa,?_,by rw[AQ];simp only[AM,len_nil];omega⟩ Ag
    rw[hs2,LG,<-F,<-List.append_assoc,<-C]
    rw[<-F]at O
    unfold MQ;rw[if_pos O]
   ·refine AX (i+1,u,z) U U ⟨Aa,Aa,?_,Aa⟩ Ag
    rw[hs2,LG]
    rw[<-F]at O
    rw[show MQ a.c (at' [true,false] i)=[]from by unfold MQ;rw[if_neg (by rw[O];decide)],List.append_nil];exact C
  ·have hi2:i=2:=by omega
   subst hi2
   refine AX (k+1,u,z) U U ⟨Aa,Aa,?_,Aa⟩ Ag
   rw[D,LG,show NS a=[a.c]++MQ a.c true++MQ a.c false from by unfold NS;rw[if_pos Q],C,P]
   simp[Eng.sub]
 have hke:k=len l:=by omega
 subst hke
 rw[G6 (Int.le_refl _)]at P
 refine BA 56 [DH 4] Nd.cells 6 46 Nd.AT U U Ah U λ v56=>F5 64 U U U underlying32 type46 U U Nd.cells_one (by simp only[AM,len_nil];omega) λ v57=>?_
 refine B5 (σ:=Int×Value×List Nd) (λ(k,u,z)=>⟨[(10,kn v 7 l C6),(13,kn u 6 z Nd.cells),(9,IE (V g0))],[(0,.box b [.sl 10 v] 79),(13,.ho (.own 46 6 u z.length (z.flatMap Nd.cells))),(1,.ho (G g0)),(2,.ho (H g0)),(3,.ho (K g0)),(4,.ho (L g0)),(5,.ho (N g0))],[Z 0 (.v (.func (.yield W) #[] #[])),Z 3 (.sl 13 u),Z 58 (.sl 10 v),Z 59 (I (len l)),Z 60 (I k)]⟩)
  (λ(k,u,z)=>0<=k/\k<=len l/\z=I6++l.flatMap NS++[DH 4]++(Eng.sub l 0 k).flatMap HN/\len z<=5+3*len l+2*k) (λ(k,u,z)=>(len l-k).toNat) (0,v57,y++[DH 4]) U U ⟨Aa,Aa,by rw[P];simp[Eng.sub],by rw[AQ];simp only[AM,len_nil];omega⟩ ?_
 rintro⟨k,u,z⟩ ⟨hk0,hk1,C,hz2⟩
 refine A1 U (λ j=>?_) (λ j=>?_)<;>simp only[zb]at j
 ·obtain⟨a,F⟩: ∃a,a=at' l k:=⟨_,rfl⟩
  have X:a∈l:=by rw[F];exact at_mem hk0 j
  have D:=FT hk0 j
  rw[<-F]at D
  have hsa:=hs a X
  refine BB 50 U zeroValue113 U λ b11=>?_
  refine A1 U (λ q=>?_) (λ q=>?_)<;>simp only[zb]at q<;>rw[<-F]at q
  ·refine BA 76 [(at' l k).c,⟨4,0,[],(at' l k).c.s++[0],false,0⟩] Nd.cells 6 46 Nd.AT U (hO:=by rw[<-F];simp only[AM,len_nil];and_intros<;>first|omega|trivial) U Ah U λ v76=>F5 64 U U U underlying32 type46 U U Nd.cells_one (by simp only[AM,len_nil];omega) λ v77=>AX (k+1,v77,z++[(at' l k).c,⟨4,0,[],(at' l k).c.s++[0],false,0⟩]) U U ⟨Aa,Aa,?_,by rw[AQ];simp only[AM,len_nil];omega⟩ Ag
   rw[D,LG,<-List.append_assoc,<-C,<-F,show HN a=[a.c,⟨4,0,[],a.c.s++[0],false,0⟩]from by unfold HN;rw[if_pos q]]
  ·refine AX (k+1,u,z) U U ⟨Aa,Aa,?_,Aa⟩ Ag
   rw[D,LG,show HN a=[]from by unfold HN;rw[if_neg q],List.append_nil];exact C
 have hke:k=len l:=by omega
 subst hke
 rw[G6 (Int.le_refl _),<-Ao6]at C
 subst C
 have hcl:len (DZ l)=((DZ l).length:Int):=rfl
 refine B5 (σ:=Nat×γ) (λ(k,g)=>⟨[(13,kn u 6 (DZ l) Nd.cells),(9,IE (V g))],[(0,.box b [.sl 10 v] 79),(1,.ho (G g)),(2,.ho (H g)),(3,.ho (K g)),(4,.ho (L g)),(5,.ho (N g))],[Z 0 (.v (.func (.yield W) #[] #[])),Z 79 (.sl 13 u),Z 80 (I (len (DZ l))),Z 81 (I k)]⟩) (λ(k,g)=>k<=(DZ l).length/\I' k g) (λ(k,g)=>(DZ l).length-k) (0,g0) U U ⟨Nat.zero_le _,hI⟩ ?_
 rintro⟨k,g⟩ ⟨hk,hIk⟩
 refine A1 U (λ j=>?_) (λ j=>?_)<;>simp only[zb]at j
 ·have hk2:k<(DZ l).length:=by omega
  refine BB 50 U zeroValue46 U λ b13=>CK U Ad Ae <|tL ⟨[(13,kn u 6 (DZ l) Nd.cells),(9,IE (V g))],[(0,.box b [.sl 10 v] 79),(1,.ho (G g)),(2,.ho (H g)),(3,.ho (K g)),(4,.ho (L g)),(5,.ho (N g))],[Z 0 (.v (.func (.yield W) #[] #[])),Z 79 (.sl 13 u),Z 80 (I (len (DZ l))),Z 81 (I k),Z 85 (.v (.func (.yield W) #[] #[])),Z 86 (D8 (at' (DZ l) (k:Int)))]⟩ U <|rD (λ A=>[(1,.ho (G A)),(2,.ho (H A)),(3,.ho (K A)),(4,.ho (L A)),(5,.ho (N A))]) ub [1,2,3,4,5] (γ:=γ) (pu:=λ g=>if ub g=true then I' (k+1) g else J g) (Fg:=λ A=>[(9,IE (V A))]) (Hg:=Hy) [9] U U U U U (λ w' M' hS' hF' hle=>?_) (hH:=λ A=>by rw[hx];rfl) λ A S=>?_
  ·have hp:(Hy g++(T:: .box b [v] 79::Rs)).Perm (G g::H g::K g::L g::N g:: .box b [v] 79::T::Rs):=by
    rw[hx]
    exact((((((List.Perm.swap _ _ _).cons _).cons _).cons _).cons _).cons _)
   obtain⟨fn,tt',asg,bd,e1,e2⟩:=hy k g () w' M' hk2 hIk trivial (hS'.perm hp) hle (λ x h=>by cases h) (hF'.get (k:=9) rfl).more
   refine⟨fn,tt',asg,bd,e1,e2.mono λ e w2 h=>?_⟩
   obtain⟨A,M2,r1,r2,r3,r4,r5⟩:=h
   refine⟨A,M2,r1,r2,r3,?_,AH ⟨Sl.nil M2 1,DC,r5⟩ A4⟩
   exact r4.perm (List.Perm.append_left _ (List.Perm.swap _ _ _))
  ·refine A1 U (λ E=>?_) (λ E=>?_)
   ·rw[if_neg (by simpa using E)]at S
    refine A2 hB U U U λ w' M' R=>⟨A,M',rfl,.inr S,R.le,R.st.perm ?_,(R.f.get (k:=9) U).more⟩
    rw[hx]
    exact List.Perm.append_left [G A,H A,K A,L A,N A] (List.Perm.swap _ _ _)
   ·rw[if_pos (by simpa using E)]at S
    exact AX (k+1,A) U U ⟨hk2,S⟩ (by show(DZ l).length-(k+1)<(DZ l).length-k;omega)
 ·have Q:k=(DZ l).length:=by omega
  refine UM hB U U λ w' M' R=>⟨g,M',rfl,.inl (by rw[<-Q];exact hIk),R.le,R.st.perm ?_,(R.f.get (k:=9) U).more⟩
  rw[hx]
  exact List.perm_middle (l₁:=[G g,H g,K g,L g,N g,T])
end Go.Proofs.YtnoegalemkbbbaaGreatDoor
namespace Go.Eng
open Go.RowKit
theorem tN{α:Type}[Inhabited α]{p:α->Bool}{l:List α}{k:Nat}(n:k<l.length)(b: ∀x∈l.take k,p x=false)(h:p (at' l (k:Int))=true):l.find? p=some (at' l (k:Int)):=by
 obtain⟨h1,j⟩:=CJ l (i:=(k:Int)) Aa (by unfold len;omega)
 have e:l=l.take k++(at' l (k:Int)::l.drop (k+1)):=by
  rw[j];simp
 rw[e,List.find?_append,List.find?_eq_none.2 (λ x hx=>by rw[b x hx];decide)]
 simp[h,<-e]
theorem tO{α:Type}{p:α->Bool}{l:List α}(b: ∀x∈l.take l.length,p x=false):l.find? p=none:=by
 rw[List.take_length]at b
 exact List.find?_eq_none.2 λ x hx=>by rw[b x hx];decide
theorem tP{α:Type}[Inhabited α]{p:α->Bool}{l:List α}{k:Nat}(e:k<l.length)(b: ∀x∈l.take k,p x=false)(h:p (at' l (k:Int))=false): ∀x∈l.take (k+1),p x=false:=by
 obtain⟨h1,j⟩:=CJ l (i:=(k:Int)) Aa (by unfold len;omega)
 rw[j]at h
 intro x hx
 rw[List.take_add_one]at hx
 rcases List.mem_append.1 hx with hx|hx
 ·exact b x hx
 ·simp[e]at hx;subst hx;simpa using h
abbrev QX(a:Nd):Prop:=len a.s<=1048576/\ -1048576<=a.e/\a.e<=1048576
theorem gZ(neg:Bool)(s:A0)(e:Int)(h:(CL neg s e).2=0):QX (CL neg s e).1:=by
 unfold CL at h ⊢
 split at h
 ·rw[if_pos (by assumption)]
  split at h
  ·rw[if_pos (by assumption)];exact⟨Ab,Ab,Ab⟩
  ·rw[if_neg (by assumption)]
   split at h
   ·simp at h
   ·rw[if_neg (by assumption)]
    split at h
    ·simp at h
    ·rename_i b
     rw[if_neg b]
     simp only[Bool.or_eq_true,decide_eq_true_eq,not_or]at b
     have:=A9 (BG (AY s))
     exact⟨by show len (BG (AY s))<=_;omega,by show-1048576<=e+_;omega,by show e+_<=1048576;omega⟩
 ·simp at h
theorem Ao8{l:List Tm}(j: ∀a∈l,QX a.c)(hs: ∀a∈l,len a.c.s<=1000000): ∀x∈DZ l,QX x:=by
 have z: ∀k,QX (DH k):=λ k=>⟨by show len ([]:A0)<=_;decide,by show(-1048576:Int)<=0;decide,by show(0:Int)<=_;decide⟩
 have h: ∀(c:Nd) (b:Bool),∀x∈MQ c b,QX x:=λ c b x hx=>by
  unfold MQ at hx
  split at hx
  ·rename_i n
   rw[List.mem_singleton.1 hx]
   have e:(P8 c b).2=0:=by unfold NR at n;simpa using n
   show QX (P8 c b).1
   unfold P8 at e ⊢
   split at e
   ·rw[if_pos (by assumption)];exact gZ _ _ _ e
   ·rw[if_neg (by assumption)];exact gZ _ _ _ e
  ·cases hx
 intro x hx
 rw[DZ]at hx
 simp only[List.mem_append,List.mem_cons,List.not_mem_nil,or_false,List.mem_flatMap]at hx
 rcases hx with((hx|⟨a,i,hx⟩)|hx)|⟨a,i,hx⟩
 ·rcases hx with rfl|rfl|rfl|rfl<;>exact z _
 ·unfold NS at hx
  split at hx
  ·simp only[List.mem_append,List.mem_singleton]at hx
   rcases hx with(rfl|hx)|hx
   ·exact j a i
   ·exact h _ _ _ hx
   ·exact h _ _ _ hx
  ·cases hx
 ·rw[hx];exact z _
 ·unfold HN at hx
  split at hx
  ·simp only[List.mem_cons,List.not_mem_nil,or_false]at hx
   rcases hx with rfl|rfl
   ·exact j a i
   ·have:=hs a i
    exact⟨by show len (a.c.s++[0])<=_;rw[AQ];simp only[AM,len_nil];omega,by show(-1048576:Int)<=0;decide,by show(0:Int)<=_;decide⟩
  ·cases hx
structure ZF (a:Tm):Prop where
 num:a.c.kind=3->QW a.c
 s:len a.c.s<=1000000
 e: -1048576<=a.c.e/\a.c.e<=1048576
theorem Ao9{mask:Int}{l:List Tm}{k:Nat}(e:k<(DZ l).length)(b: ∀x∈(DZ l).take k,NQ mask l x=false)(h:NQ mask l (at' (DZ l) (k:Int))=true):IJ mask l=(at' (DZ l) (k:Int),true):=by
 unfold IJ;rw[tN e b h]
theorem Ap0{mask:Int}{l:List Tm}(b: ∀x∈(DZ l).take (DZ l).length,NQ mask l x=false):IJ mask l=(DH 0,false):=by
 unfold IJ;rw[tO b]
end Go.Eng
namespace Go.Proofs.YtnoegalemkbbbaaGreatDoor
open Go.Proofs.Tryz
open Go.Eng
theorem Ap1{w0 i:World}{M0 M:Mem}{Rs:List HO}{v:Value}{l:List Tm}(hS:St w0 M0 i M Rs)(hl:(kn v 7 l C6).ok M):
  Calls prog 239 [v].toArray i (BJ w0 M0 M Rs (λ b:Nat=>.func (.func 265) #[] #[.pointer (some ⟨b,0,none⟩)]) (λ _=>True) (λ _=>[]) λ b=>[.box b [v] 79]):=AJ (Hr:=Rs) AG func239 U ntmps239 [(0,kn v 7 l C6)] [] [.sl 0 v] U hS (AH hl A4) (λ B j=>BQ 1 U U U λ b=>AU (.v (.func (.func 265) #[] #[.pointer (some ⟨b,0,none⟩)])) U U (λ w M e=>PV.makeFunc (xs:=[]) (ys:=[.tmp 1]) (vs:=[]) (us:=[.pointer (some ⟨b,0,none⟩)]) trivial ⟨A8 (v:=.bx 1 b 0) (E:=[]) U,trivial⟩) <|A2 j rfl rfl rfl λ w' M' e=>⟨b,M',rfl,trivial,e.le,e.st,λ x h=>by cases h⟩) U
theorem hY{w0 N:World}{M0 M:Mem}{Rs:List HO}(mask:Int)(v:Value)(l:List Tm)(hS:St w0 M0 N M Rs)(hg:Gl w0)(hl:(kn v 7 l C6).ok M)(P:len l<=16777216)(i: ∀a∈l,ZF a)(hm:0<=mask/\mask<=31):
    Calls prog 206 [i64 mask,v].toArray N (BJ w0 M0 M Rs (λ _:Unit=>.tuple #[EU (IJ mask l).1,.bool (IJ mask l).2]) (λ _=>True) (λ _=>[]) λ _=>[]):=by
 have H:=Ao8 (l:=l) (λ a h=>⟨by have:=(i a h).s;omega,(i a h).e.1,(i a h).e.2⟩) (λ a h=>(i a h).s)
 refine UP (Hr:=Rs) AG func206 U ntmps206 [(0,kn v 7 l C6)] [] [I mask,.sl 0 v] U hS (AH hl A4) (λ B O=>BQ 2 U U U λ q=>BQ 3 U U U λ z=>BB 4 U zeroValue46 U λ A=>BB 5 U zeroValue4 U λ C=>AR [] (λ b:Nat=>.v (.func (.func 265) #[] #[.pointer (some ⟨b,0,none⟩)])) [] (λ b=>[(6,.box b [.sl 0 v] 79)]) U U call239 U U (λ w M hS hF=>Ap1 hS (hF.get (k:=0) U)) λ W _=>XI [6] U U ?_) U
 refine gD (σ:=Nd×Bool) (τ:=Unit) (λ g=>⟨[(0,kn v 7 l C6)],[(2,.box q [I mask] 3),(3,.box z [.sl 0 v] 79),(4,EN A g.1),(5,.box C [.v (.bool g.2)] 4)],[Z 2 (.bx 2 q 0),Z 3 (.bx 3 z 0),Z 4 (.bx 4 A 0),Z 5 (.bx 5 C 0)]⟩)
   (λ k g=>g=(DH 0,false)/\ ∀x∈(DZ l).take k,NQ mask l x=false) (λ g=>g=IJ mask l) (DH 0,false)
   (λ k g y t=> ∃E,t=⟨[(0,kn v 7 l C6)],[(7,EN E (at' (DZ l) (k:Int))),(2,.box q [I mask] 3),(3,.box z [.sl 0 v] 79),(4,EN A g.1),(5,.box C [.v (.bool g.2)] 4)],[Z 6 (.bx 7 E 0),Z 2 (.bx 2 q 0),Z 3 (.bx 3 z 0),Z 4 (.bx 4 A 0),Z 5 (.bx 5 C 0)]⟩)
   (λ _ _ _ _ h=>h) U U call265 U ⟨rfl,λ x hx=>by simp at hx⟩ (λ _=>rfl) ⟨_,_,_,_,λ _=>rfl⟩ (λ w M D w' F=>Ao7 hg (F.f.get (k:=0) U) P (λ a h=>(i a h).num) (λ a h=>by have:=(i a h).s;omega)) (λ _ _=>rfl)
   (λ k g y Q D r M J G hp=>?_) U (λ k g y Q D r M J G hp t R=>?_) U (λ D g a w G=>?_) (λ D g a w S=>?_)
 ·exact BB 7 U zeroValue46 U λ E=>AW _ U U ⟨E,rfl⟩
 ·obtain⟨E,rfl⟩:=R
  obtain⟨rfl,j⟩:=G
  have K:at' (DZ l) (k:Int)∈DZ l:=at_mem Aa (by unfold len;omega)
  exact AK U call240 U U (λ _ w M F=>An7 mask v l (at' (DZ l) (k:Int)) w M F.st.sat (hg.low F.st.low) (F.f.get (k:=0) U) Aa (λ a h=>⟨by have:=(i a h).s;omega,(i a h).e.1,(i a h).e.2⟩) (H _ K) hm) U <|A1 U (λ n=>VM _ U U ⟨(at' (DZ l) (k:Int),true),rfl,(Ao9 J j n).symm⟩) (λ n=>AW _ U U ⟨(DH 0,false),rfl,rfl,tP J j n⟩)
 ·obtain⟨rfl,j⟩:=G
  have e:=Ap0 j
  refine XC 8 (λ _ _ _ _ h=>h) U (s:=⟨[(0,kn v 7 l C6)],[(2,.box q [I mask] 3),(3,.box z [.sl 0 v] 79),(4,EN A (DH 0)),(5,.box C [.v (.bool false)] 4)],[Z 2 (.bx 2 q 0),Z 3 (.bx 3 z 0),Z 4 (.bx 4 A 0),Z 5 (.bx 5 C 0)]⟩) ?_ a w
  refine rE O U U U U λ w' M' L T hle=>⟨(),M',by rw[e];rfl,trivial,hle,L.drop _ (List.sublist_append_right [_,_,_,_,_] _),A4⟩
 ·rintro hs ⟨M',h1,X,V⟩
  subst S
  show B .ret (CZ (IP D) a) w
  refine O.leave AG h1 hs U U λ w' h=>⟨(),M',rfl,trivial,V,h.drop _ (List.sublist_append_right [_,_,_,_,_] _),A4⟩
end Go.Proofs.YtnoegalemkbbbaaGreatDoor
namespace Go.Eng
open Go.RowKit
def VW(u:Tf):Bool:=if u.t.op=1 then(IJ u.t.n (u.ps.map Tf.node)).2 else true
mutual
def VX:Tf->Bool
 | .mk t ps=>VW (.mk t ps)&&K1 ps
def K1:List Tf->Bool
 |[]=>true
 |x::l=>VX x&&K1 l
end
def LH(x:Tf):Bool:=QQ x&&VX x
theorem Ap2(a b:List Tf):K1 (a++b)=(K1 a&&K1 b):=by
 induction a with
 |nil=>simp[K1]
 |cons x a e=>rw[List.cons_append,K1,K1,e,Bool.and_assoc]
theorem Ap3(u:Tf)(us:List Tf):K1 (u::us)=(VW u&&K1 (u.ps++us)):=by
 cases u with|mk t ps=>rw[K1,VX,Ap2,Bool.and_assoc];rfl
theorem VY{o:Int}: ∀ {l:List Tf},FC o l=true-> ∀x∈l,D2 x=true/\(decide (x.t.op=9)==decide (o=1))=true
 |[],_,x,hx=>by cases hx
 |y::l,h,x,hx=>by
  rw[FC]at h
  simp only[Bool.and_eq_true]at h
  obtain⟨⟨⟨⟨⟨h1,_⟩,_⟩,b⟩,_⟩,e⟩:=h
  rcases List.mem_cons.1 hx with rfl|hx
  ·exact⟨b,h1⟩
  ·exact VY e x hx
theorem VZ{u:Tf}(h:D2 u=true):I2 u.node=true/\FC u.t.op u.ps=true:=by
 rw[gL]at h
 simp only[Bool.and_eq_true]at h
 exact⟨h.1.1,h.1.2⟩
theorem Ap4{t:Tm}(h:I2 t=true)(ho:t.op=1):0<t.n/\t.n<=31:=by
 unfold I2 II at h
 rw[if_neg Aa,if_pos ho]at h
 simp only[Bool.and_eq_true,decide_eq_true_eq]at h
 exact⟨h.1.1.2,h.1.2⟩
theorem Ap5{t:Tm}(h:I2 t=true)(ho:t.op=9):t.many=0/\NN t.n t.c=true:=by
 unfold I2 II at h
 rw[if_neg Aa,if_neg Aa,if_pos ho]at h
 simp only[Bool.and_eq_true,beq_iff_eq]at h
 exact h.1
theorem hZ{u:Tf}(h:D2 u=true)(ho:u.t.op=1):(0<=u.t.n/\u.t.n<=31)/\ ∀x∈u.ps,x.ps=[]/\NN x.t.n x.t.c=true:=by
 obtain⟨h1,j⟩:=VZ h
 have e:=Ap4 h1 ho
 refine⟨⟨by have:0<u.t.n:=e.1;omega,e.2⟩,λ x hx=>?_⟩
 obtain⟨k,i⟩:=VY j x hx
 rw[ho]at i
 have b:x.t.op=9:=by simpa using i
 obtain⟨l,q⟩:=Ap5 (VZ k).1 b
 refine⟨?_,q⟩
 have s:len x.ps=0:=l
 exact List.eq_nil_of_length_eq_zero (by unfold len at s;omega)
theorem tQ{l:List Tf}(h: ∀x∈l,x.ps=[]):AP l=l.map Tf.node:=by
 induction l with
 |nil=>rfl
 |cons x l b=>
  rw[AP,Tf.GO,h x (.head _),List.map_cons,b λ y e=>h y (.tail _ e)];rfl
theorem tT{f:Fl}{i:Int}{u:Tf}{us:List Tf}{R:Fl}(h:DE f (i+1) (u.ps++us) R)(b: ∀x∈u.ps,x.ps=[]):Eng.sub f (i+1) (i+1+len u.ps)=u.ps.map Tf.node:=by
 have h0:=h.1
 unfold Eng.sub
 rw[h.2,JJ,tQ b,List.append_assoc,show(i+1+len u.ps).toNat-(i+1).toNat=(u.ps.map Tf.node).length by unfold len at*;rw[List.length_map];omega,List.take_left]
theorem Ap6{c:Nd}(h:GP c=true)(b:c.kind<5): -1000<=c.e/\c.e<=1000:=by
 by_cases h3:c.kind=3
 ·have:=(tJ h h3).e;omega
 ·unfold GP JX at h
  simp only[Bool.and_eq_true]at h
  have h1:=h.1.1
  split at h1
  ·simp only[decide_eq_true_eq,Nd.mk.injEq]at h1;omega
  ·split at h1
   ·simp only[Bool.and_eq_true,decide_eq_true_eq,Nd.mk.injEq]at h1;omega
   ·split at h1
    ·omega
    ·cases h1
theorem tU{a:Tm}(h:NN a.n a.c=true)(hs:len a.c.s<=1000000):ZF a:=by
 unfold NN at h
 simp only[Bool.and_eq_true,decide_eq_true_eq]at h
 have:=Ap6 h.2.2 h.2.1
 exact⟨λ b=>tJ h.2.2 b,hs,⟨Aa,Aa⟩⟩
end Go.Eng
namespace Go.Proofs.YtnoegalemkbbbaaGreatDoor
open Go.Proofs.Tryz
open Go.Eng
theorem tV{w0 A:World}{M0 M:Mem}{Rs:List HO}(v:Value)(f:Fl)(i:Int)(hS:St w0 M0 A M Rs)(hl:(A7 v f).ok M)(F:len f<=16777217)(h0:0<=i)(h1:i<len f)(hm:0<=(at' f i).many)(h:i+1+(at' f i).many<=len f):
   Calls prog 207 [v,i64 i].toArray A (BJ w0 M0 M Rs (λ u:Value=>u) (λ _=>True) (λ u=>[(0,kn u 7 (Eng.sub f (i+1) (i+1+(at' f i).many)) C6)]) λ _=>[]):=by
 obtain⟨z,j⟩: ∃z,z=Eng.sub f (i+1) (i+1+(at' f i).many):=⟨_,rfl⟩
 have C:len z=(at' f i).many:=by rw[j,FG Aa Aa h];omega
 rw[<-j]
 refine AJ (Hr:=Rs) AG func207 U ntmps207 [(0,A7 v f)] [] [.sl 0 v,I i] U hS (AH hl A4) (λ B D=>FO (gd:=none) 19 (i+1) (i+1+(at' f i).many) U U U ⟨.i64,_,rfl,AF U⟩ ⟨.i64,_,rfl,AF U⟩ underlying25 sizeOf52 Aa U λ e=>?_) U
 rw[<-j]
 refine UK 5 5 113 7 C6 ZD U <|B5 (σ:=Int×Value×Fl) (λ(k,u,y)=>⟨[(19,A7 e z),(5,kn u 7 y C6)],[(5,.ho (.own 113 7 u y.length (y.flatMap C6)))],[Z 5 (.sl 5 u),Z 19 (.sl 19 e),Z 20 (I (len z)),Z 21 (I k)]⟩) (λ(k,u,y)=>0<=k/\k<=len z/\y=Eng.sub z 0 k/\len y=k) (λ(k,u,y)=>(len z-k).toNat) (0,.slice none 0 0,[]) U U ⟨Aa,Aa,rfl,rfl⟩ ?_
 rintro⟨k,u,y⟩ ⟨l,E,n,q⟩
 refine A1 U (λ b=>?_) (λ b=>?_)<;>simp only[zb]at b
 ·exact BB 7 U zeroValue52 U λ G=>BA 31 [at' z k] C6 7 113 ZD U U Ah U λ v31=>F5 72 U U U underlying79 type113 U U sP (by simp only[AM,len_nil];omega) λ v'=>AX (k+1,v',y++[at' z k]) U U ⟨Aa,Aa,by rw[n,FT l b],by rw[AQ,q];rfl⟩ Ag
 ·rw[G6 Aa]at n
  subst n
  exact A2 D U U U λ w M' s=>⟨u,M',rfl,trivial,s.le,s.st.drop _ (List.sublist_cons_self _ _),AH (s.f.get (k:=5) U) A4⟩
theorem Ap7{w0 wv:World}{M0 M:Mem}{Rs:List HO}(v:Value)(x:Tf)(hS:St w0 M0 wv M Rs)(hg:Gl w0)(hl:(A7 v x.flat).ok M)(hb:len x.flat<=16777217)(hsm:QN x.flat)(hsh: ∀t∈x.flat,len t.c.s<=1000000):
    Calls prog 175 [v].toArray wv (BJ w0 M0 M Rs (λ _:Unit=>.bool (LH x)) (λ _=>True) (λ _=>[]) λ _=>[]):=by
 have hlp:=x.ER
 refine AJ (Hr:=Rs) AG func175 U ntmps175 [(0,A7 v x.flat)] [] [.sl 0 v] U hS (AH hl A4) (λ B S=>AK U call205 U U (λ _ w M q=>Ai2 v x q.st.sat (hg.low q.st.low) (q.sl 0 U) hb hsm) U <|A1 U (λ h1=>?_) (λ h1=>?_)) U
 ·exact A2 S U U U λ w M' q=>⟨(),M',by unfold LH;rw[show QQ x=false by simpa using h1];rfl,trivial,q.le,q.B9 [] U,A4⟩
 have G:QQ x=true:=by simpa using h1
 have hgq:LH x=VX x:=by unfold LH;rw[G,Bool.true_and]
 have hw:D2 x=true:=by unfold QQ at G;simp only[Bool.and_eq_true]at G;exact G.1.1
 refine B5 (σ:=Int×List Tf) (λ(i,us)=>⟨[(0,A7 v x.flat)],[],[Z 0 (.sl 0 v),Z 10 (.sl 0 v),Z 11 (I (len x.flat)),Z 12 (I i)]⟩) (λ(i,us)=>DE x.flat i us []/\LH x=K1 us/\ ∀u∈us,D2 u=true) (λ(i,us)=>(len x.flat-i).toNat) (0,[x]) U U ⟨⟨Aa,by show x.flat=(x.flat++AP [])++[];simp[AP]⟩,by rw[hgq];show _=(VX x&&true);rw[Bool.and_true],λ u hu=>by rw[List.mem_singleton.1 hu];exact hw⟩ ?_
 rintro⟨i,us⟩ ⟨H,J,T⟩
 have V:=H.1
 refine A1 U (λ O=>?_) (λ O=>?_)<;>simp only[zb]at O
 ·cases us with
  |nil=>
   exfalso
   have X:=H.2
   have h3:(x.flat.drop i.toNat).length=0:=by rw[X];rfl
   rw[List.length_drop]at h3
   unfold len at O;omega
  |cons u us=>
  obtain⟨P,hq,j⟩:=H.step
  have A:(at' x.flat i).many=len u.ps:=by rw[hq]
  have hqo:(at' x.flat i).op=u.t.op:=by rw[hq]
  have C:(at' x.flat i).n=u.t.n:=by rw[hq]
  have hpn:=A9 u.ps
  have hfl:=j.L4 Aa
  rw[JJ,AQ]at hfl
  have hfg:=JT u.ps
  have hfu:=A9 (AP us)
  have hfr:len ([]:Fl)=0:=rfl
  have W:=T u (.head _)
  have K: ∀z∈u.ps++us,D2 z=true:=λ z L=>by
   rcases List.mem_append.1 L with L|L
   · exact(VY (VZ W).2 z L).1
   · exact T z (.tail _ L)
  have y:=Ap3 u us
  refine BB 54 U zeroValue52 U λ b4=>?_
  refine A1 U (λ N=>?_) (λ N=>?_)<;>simp only[zb]at N<;>rw[hqo]at N
  ·refine AX (i+1,u.ps++us) U U ⟨j,?_,K⟩ Ag
   rw[J,y];unfold VW;rw[if_neg N,Bool.true_and]
  have Q:u.t.op=1:=by omega
  have D:=hZ W Q
  have b:Eng.sub x.flat (i+1) (i+1+(at' x.flat i).many)=u.ps.map Tf.node:=by rw[A];exact tT j λ z L=>(D.2 z L).1
  have E: ∀a∈u.ps.map Tf.node,ZF a:=λ a ha=>by
   obtain⟨z,L,rfl⟩:=List.mem_map.1 ha
   refine tU (D.2 z L).2 (hsh z.node ?_)
   have X:z.node∈Eng.sub x.flat (i+1) (i+1+(at' x.flat i).many):=by rw[b];exact ha
   unfold Eng.sub at X
   exact List.mem_of_mem_drop (List.mem_of_mem_take X)
  have R:(IJ (at' x.flat i).n (Eng.sub x.flat (i+1) (i+1+(at' x.flat i).many))).2=false->LH x=false:=λ h=>by
   rw[b,C]at h
   rw[J,y];unfold VW;rw[if_pos Q,h];rfl
  have F:(IJ (at' x.flat i).n (Eng.sub x.flat (i+1) (i+1+(at' x.flat i).many))).2=true->LH x=K1 (u.ps++us):=λ h=>by
   rw[b,C]at h
   rw[J,y];unfold VW;rw[if_pos Q,h,Bool.true_and]
  have hml:len (u.ps.map Tf.node)=len u.ps:=by unfold len;rw[List.length_map]
  refine DN [4,5,9,10] 5 (λ _ _ _ _ _ h=>h) U BM Ac <|G5 4 9 U U U ?_ ?_
  ·refine AR [] (λ u:Value=>.sl 25 u) [25] (λ _=>[]) (Fg:=λ u=>[(0,kn u 7 (Eng.sub x.flat (i+1) (i+1+(at' x.flat i).many)) C6)]) U U call207 U U (λ w M l hF=>tV v x.flat i l (hF.get (k:=0) U) hb V P (by rw[A];omega) (by rw[A];omega)) λ v25 _=>AE U <|G5 5 9 U U U ?_ ?_
   ·exact AR [] (λ _:Unit=>.tu [D8 (IJ (at' x.flat i).n (Eng.sub x.flat (i+1) (i+1+(at' x.flat i).many))).1,.v (.bool (IJ (at' x.flat i).n (Eng.sub x.flat (i+1) (i+1+(at' x.flat i).many))).2)]) [] (λ _=>[]) (Fg:=λ _=>[]) U U call206 U U (λ w M l hF=>hY (at' x.flat i).n v25 (Eng.sub x.flat (i+1) (i+1+(at' x.flat i).many)) l hg (hF.get (k:=25) U) (by rw[b];omega) (by rw[b];exact E) (by rw[C];exact D.1)) λ _ _=>AE U <|AL 9 U U U <|BB 55 U zeroValue46 U λ b5=>AE U <|AL 10 U U U <|AE U <|BO U U U <|A1 U (λ e=>A2 S U U U λ w M' q=>⟨(),M',by rw[R (by simpa using e)];rfl,trivial,q.le,q.B9 [] U,A4⟩) (λ e=>AX (i+1,u.ps++us) U U ⟨j,F (by simpa using e),K⟩ Ag)
   ·exact BB 55 U zeroValue46 U λ b5=>AE U <|AL 5 U U U <|AR [] (λ _:Unit=>.tu [D8 (IJ (at' x.flat i).n (Eng.sub x.flat (i+1) (i+1+(at' x.flat i).many))).1,.v (.bool (IJ (at' x.flat i).n (Eng.sub x.flat (i+1) (i+1+(at' x.flat i).many))).2)]) [] (λ _=>[]) (Fg:=λ _=>[]) U U call206 U U (λ w M l hF=>hY (at' x.flat i).n v25 (Eng.sub x.flat (i+1) (i+1+(at' x.flat i).many)) l hg (hF.get (k:=25) U) (by rw[b];omega) (by rw[b];exact E) (by rw[C];exact D.1)) λ _ _=>AE U <|AL 10 U U U <|AE U <|BO U U U <|A1 U (λ e=>A2 S U U U λ w M' q=>⟨(),M',by rw[R (by simpa using e)];rfl,trivial,q.le,q.B9 [] U,A4⟩) (λ e=>AX (i+1,u.ps++us) U U ⟨j,F (by simpa using e),K⟩ Ag)
  ·exact BB 55 U zeroValue46 U λ b5=>AE U <|AL 4 U U U <|AR [] (λ u:Value=>.sl 25 u) [25] (λ _=>[]) (Fg:=λ u=>[(0,kn u 7 (Eng.sub x.flat (i+1) (i+1+(at' x.flat i).many)) C6)]) U U call207 U U (λ w M l hF=>tV v x.flat i l (hF.get (k:=0) U) hb V P (by rw[A];omega) (by rw[A];omega)) λ v25 _=>AE U <|AL 5 U U U <|AR [] (λ _:Unit=>.tu [D8 (IJ (at' x.flat i).n (Eng.sub x.flat (i+1) (i+1+(at' x.flat i).many))).1,.v (.bool (IJ (at' x.flat i).n (Eng.sub x.flat (i+1) (i+1+(at' x.flat i).many))).2)]) [] (λ _=>[]) (Fg:=λ _=>[]) U U call206 U U (λ w M l hF=>hY (at' x.flat i).n v25 (Eng.sub x.flat (i+1) (i+1+(at' x.flat i).many)) l hg (hF.get (k:=25) U) (by rw[b];omega) (by rw[b];exact E) (by rw[C];exact D.1)) λ _ _=>AE U <|AL 10 U U U <|AE U <|BO U U U <|A1 U (λ e=>A2 S U U U λ w M' q=>⟨(),M',by rw[R (by simpa using e)];rfl,trivial,q.le,q.B9 [] U,A4⟩) (λ e=>AX (i+1,u.ps++us) U U ⟨j,F (by simpa using e),K⟩ Ag)
 ·have hun:us=[]:=by
   cases us with
   |nil=>rfl
   |cons u us=>obtain⟨P,_⟩:=H.step;omega
  subst hun
  exact A2 S U U U λ w M' q=>⟨(),M',by rw[J];rfl,trivial,q.le,q.B9 [] U,A4⟩
end Go.Proofs.YtnoegalemkbbbaaGreatDoor
namespace Go.Eng
open Go.RowKit
def AO(f:Tf):List Tf:=f.ps.map (Tf.named [])
def K2(n:Int)(c:Nd):Tf:=.mk { AD 9 with n:=n,c:=c} []
def KP(n:A0)(g:Tf->Tf):List Tf->List Tf
 |[]=>[]
 |y::l=>if y.t.name=n then g y::l else y::KP n g l
def FZ(a:Tf):List Sp->Tf->Tf
 |[],x=>.mk x.t (x.ps++[a])
 |s::p,x=>.mk x.t (KP s.name (FZ a p) x.ps)
def EB:Tf->Int->Tf->Bool->PR Tf
 | .mk x [],i,t,h=>if(BK (CB x.s).1 t).2=true then .ok (FZ (K2 (if h=true then x.n else MP x.n) x.c) (CB x.s).1 t) 0 else .er i 5
 | .mk x [a],i,t,h=>EB a (i+1) t (!h)
 | .mk x (a::b::_),i,t,h=>if decide (x.op=17)≠h then .er i 4 else(EB a (i+1) t h).bind λ y _=>EB b (i+1+a.size) y h
def HP(g:Tf->PR Tf):List Tf->PR (List Tf)
 |[]=>.ok [] 0
 |x::l=>(g x).bind λ y _=>(HP g l).bind λ r _=>.ok (y::r) 0
def CR:List A0->List Tf->List Tf
 |n::ns,x::l=>x.named n::CR ns l
 |_,l=>l
def CS(t:Tm)(ns:List A0)(l:List Tf):Tf:=.mk t (CR ns l)
def F0(im:Tf->Int->Tf->PR Tf)(g:Tf)(i:Int)(t:Tf):PR Tf:=(HP (λ x=>im g i x) (AN t)).bind λ l _=>.ok (CS { AD t.t.op with n:=t.t.n} (B6 t) l) 0
def MS:Tf:=.mk (AD 0) []
def FD(s:A0):Tf:=.mk { AD 1 with s:=s} []
def BP(g:Tf)(i:Int):Tf×Tf×Int:=if g.t.op=4 then(at' (AO g) 0,at' (AO g) 1,i+1)else(g,MS,i)
def LI(im:Tf->Int->Tf->PR Tf)(g:Tf)(i:Int)(t:Tf):PR Tf:=
 (EB (at' (AO (BP g i).1) 0) ((BP g i).2.2+1) t true).bind λ u _=>if LH u=true then im (BP g i).2.1 ((BP g i).2.2+(BP g i).1.size) u else .er (BP g i).2.2 6
abbrev C8:A0:=[107,101,121]
abbrev C2:A0:=[118,97,108,117,101]
def FE(v:Tf)(s:A0):Bool:=decide ((v.named []).flat=(FD s).flat)
def GC(v:Tf)(i:Int):Tf×Int:=
 if FE v C2=true then(MS,i)
 else if v.t.op=4/\FE (at' v.ps 0) C2=true then(at' (AO v) 1,i+2)else(default,-1)
def CO(g:Tf):Tf×Int:=
 if g.t.op≠8\/len g.ps≠2 then(default,-1)
 else if(at' g.ps 0).t.name=C8/\(at' g.ps 1).t.name=C2 then(if FE (at' g.ps 0) C8=true then GC (at' g.ps 1) (1+(at' g.ps 0).size)else(default,-1))
 else if(at' g.ps 0).t.name=C2/\(at' g.ps 1).t.name=C8 then(if FE (at' g.ps 1) C8=true then GC (at' g.ps 0) 1 else(default,-1))
 else(default,-1)
def K3(g:Tf):Bool:=decide (g.t.op=7)||(decide (g.t.op=4)&&decide ((at' g.ps 0).t.op=7))
def F1(im:Tf->Int->Tf->PR Tf)(g:Tf)(i:Int)(t:Tf):PR Tf:=
 if t.t.op=5 then(if K3 g=true then(LI im g (i+1) (at' (AN t) 0)).bind λ y _=>.ok (.mk (AD 5) [y]) 0 else F0 im g (i+1) t)
 else if t.t.op=4 then F0 im g (i+1) t
 else if t.t.op=6 then(if 0<=(CO g).2 then F0 im (CO g).1 (i+1+(CO g).2) t else .er i 1)
 else .er i 1
def IK(p q:List Sp):Bool:=decide (p.take q.length≠q.take p.length)
def J3(im:Tf->Int->Tf->PR Tf)(t:Tf):List Tf->Int->List (List Sp)->PR (List Tf)
 |[],_,_=>.ok [] 0
 |x::r,i,seen=>(im (x.named []) i t).bind λ y _=>if seen.any (λ q=> !IK (D9 x.flat) q)then .er i 3 else(J3 im t r (i+x.size) (seen++[D9 x.flat])).bind λ ys _=>.ok (y::ys) 0
def LK(im:Tf->Int->Tf->PR Tf)(f:Tf)(i:Int)(t:Tf):PR Tf:=
 (J3 im t f.ps (i+1) []).bind λ l _=>.ok (if f.t.op=9 then .mk (AD 4) l else .mk (AD 2) (L3 (CR (f.ps.map λ x=>x.t.name) l))) 0
def MT(ns:List A0)(n:A0):Int:=if n∈ns then BU ns n else-1
def G0(i:Int):List Sp->Tf->PR Tf
 |[],t=>.er i 1
 |s::p,t=>if t.t.op≠2 then .er i 1 else if s.name ∉ B6 t then .er i 2
  else if p=[]then(if t.t.n≠0 then .er i 1 else .ok (.mk t.t (t.ps.eraseIdx (BU (B6 t) s.name).toNat)) 0)
  else(G0 i p (at' (AN t) (BU (B6 t) s.name))).bind λ y _=>.ok (.mk t.t (t.ps.set (BU (B6 t) s.name).toNat (y.named s.name))) 0
def K4(x:Tm)(i:Int)(t:Tf):PR Tf:=
 if t.t.op≠5 then .er i 1 else if(BK (CB x.s).1 (at' (AN t) 0)).2=true then .ok (.mk { AD (if x.op=12 then 8 else 7)with s:=x.s} (AN t)) 0 else .er i 5
def IL(x:Tm)(i:Int)(l:List Tf):PR Tf:=
 if(x.op=2/\len l<=x.n)\/(x.op=3/\len l<x.n)then .er i 2
 else if x.op=2 then .ok (at' l x.n) 0
 else .ok (.mk (AD 4) (if x.op=3 then l.drop x.n.toNat else l.reverse)) 0
def HQ(x:Tm)(i:Int)(t:Tf):PR Tf:=
 if x.op=1 then(if t.t.op=2 then(if x.s∈B6 t then .ok (at' (AN t) (BU (B6 t) x.s)) 0 else .er i 2)else .er i 1)
 else if x.op=2\/x.op=3\/x.op=14 then(if t.t.op=4 then IL x i (AN t)else if t.t.op=5/\x.op≠2 then .ok t 0 else .er i 1)
 else if x.op=10 then(if t.t.op=3 then .ok (.mk (AD 6) (AN t)) 0 else .er i 1)
 else if x.op=11 then(if t.t.op=6 then .ok (.mk (AD 3) (AN t)) 0 else .er i 1)
 else .er i 1
def GR(im:Tf->Int->Tf->PR Tf)(f:Tf)(i:Int)(t:Tf):PR Tf:=
 if f.t.op=0 then .ok t 0
 else if f.t.op=4 then(im (at' (AO f) 0) (i+1) t).bind λ y _=>im (at' (AO f) 1) (i+1+(at' (AO f) 0).size) y
 else if f.t.op=5 then F1 im (at' (AO f) 0) i t
 else if f.t.op=6 then(if t.t.n=0/\(t.t.op=5\/t.t.op=3\/t.t.op=4\/t.t.op=2)then F0 im (at' (AO f) 0) (i+1) t else .er i 1)
 else if f.t.op=7 then .er i 4
 else if f.t.op=8\/f.t.op=9 then LK im f i t
 else if f.t.op=12\/f.t.op=13 then K4 f.t i t
 else if f.t.op=15 then(if(CB f.t.s).1=[]\/(CB f.t.s).1.any Sp.part=true then .er i 5 else G0 i (CB f.t.s).1 t)
 else HQ f.t i t
def BH:Nat->Tf->Int->Tf->PR Tf
 |0,_,i,_=>.er i 0
 |n+1,f,i,t=>GR (BH n) f i t
mutual
def hF:Tf->Nat
 | .mk t ps=>if t.op=4 then hP ps else if t.op=7 then 1+A6 ps else 1+hS ps
def hP:List Tf->Nat
 |[]=>1
 |x::l=>hF x*hP l
def hS:List Tf->Nat
 |[]=>0
 |x::l=>hF x+hS l
end
def gB(n:Nat):Nat:=[1,1,2,3,4,5,6,9,12,16,20,27,36,48,64,81,108,144,192,256,324,432,576,768,1024,1296,1728,2304,3072,4096,5184,6912,9216,12288,16384,20736,27648,36864,49152,65536,82944,110592,147456,196608].getD n 0
theorem Ap8: ∀a b:Fin 44,a.1+b.1+1<=43->gB a.1*gB b.1<=gB (a.1+b.1+1):=by decide+kernel
theorem Ap9: ∀a b:Fin 44,1<=a.1->1<=b.1->a.1+b.1<=43->gB a.1+gB b.1<=gB (a.1+b.1):=by decide+kernel
theorem Aq0: ∀a:Fin 44,a.1<=gB a.1:=by decide+kernel
theorem Aq1: ∀a:Fin 44,gB a.1<=196608:=by decide+kernel
theorem tW: ∀l:List Tf,(∀x∈l,hF x<=gB x.size)->1+A6 l<=43->1+hS l<=gB (1+A6 l)
 |[],_,_=>by decide
 |x::l,h,hl=>by
  rw[A6]at hl ⊢
  rw[hS]
  have h1:=h x (.head _)
  have k:=tW l (λ y b=>h y (.tail _ b)) Aa
  have e:=x.size_pos
  have i:=Ap9 ⟨x.size,Aa⟩ ⟨1+A6 l,Aa⟩ e (by show 1<=1+A6 l;omega) (by show x.size+(1+A6 l)<=43;omega)
  have j:x.size+(1+A6 l)=1+(x.size+A6 l):=by omega
  simp only[j]at i
  omega
theorem Aq2{t:Tm}(h:CQ t=true)(ho:t.op=4\/t.op=17\/t.op=18):t.many=2:=by
 unfold CQ at h
 rw[if_neg Aa,if_neg Aa,if_neg Aa,if_pos ho]at h
 simpa using(Bool.and_eq_true_iff.1 h).2
theorem Aq3{t:Tm}(h:CQ t=true)(ho:t.op=5\/t.op=6\/t.op=7\/t.op=19):t.many=1:=by
 unfold CQ at h
 rw[if_neg Aa,if_neg Aa,if_neg Aa,if_neg Aa,if_pos ho]at h
 simpa using(Bool.and_eq_true_iff.1 h).2
theorem tX{t:Tm}(h:CQ t=true)(ho:t.op=16):t.many=0/\SQ t.s=true/\(0<=t.n/\t.n<=5)/\Z5 t.c=true:=by
 unfold CQ at h
 rw[if_neg Aa,if_neg Aa,if_neg Aa,if_neg Aa,if_neg Aa,if_neg Aa,if_neg Aa,if_pos ho]at h
 simp only[Bool.and_eq_true,decide_eq_true_eq]at h
 exact⟨h.1.1.1.1.2,h.1.1.1.2,⟨h.1.1.2,h.1.2⟩,h.2⟩
theorem i6{t:Tm}(h:CQ t=true)(ho:t.op=2\/t.op=3):t.many=0/\0<=t.n/\t.n<=1000000:=by
 unfold CQ at h
 rw[if_neg Aa,if_neg Aa,if_pos ho]at h
 simp only[Bool.and_eq_true,decide_eq_true_eq]at h
 exact⟨h.1.1.2,h.1.2,h.2⟩
theorem i7{l:List Tf}(h:len l=2): ∃a b,l=[a,b]:=by
 match l,h with
 |[a,b],_=>exact⟨a,b,rfl⟩
 |[],h=>simp[len]at h
 |[a],h=>simp[len]at h
 |_::_::_::_,h=>simp[len]at h;omega
theorem tY{l:List Tf}(h:len l=1): ∃a,l=[a]:=by
 match l,h with
 |[a],_=>exact⟨a,rfl⟩
 |[],h=>simp[len]at h
 |_::_::_,h=>simp[len]at h;omega
theorem Tf.AS.two {f:Tf}(h:f.AS)(ho:f.t.op=4\/f.t.op=17\/f.t.op=18): ∃a b,f.ps=[a,b]:=i7 (Aq2 h.plain ho)
theorem Tf.AS.one {f:Tf}(h:f.AS)(ho:f.t.op=5\/f.t.op=6\/f.t.op=7\/f.t.op=19): ∃a,f.ps=[a]:=tY (Aq3 h.plain ho)
theorem J4(f:Tf):hF f=if f.t.op=4 then hP f.ps else if f.t.op=7 then 1+A6 f.ps else 1+hS f.ps:=by cases f;rw[hF];rfl
theorem Aq4: ∀(n:Nat) (f:Tf),f.size<=n->n<=43->f.AS->hF f<=gB f.size:=by
 intro n
 induction n with
 |zero=>intro f h;have:=f.size_pos;omega
 |succ n j=>
  intro f s w hg
  have hs:=f.size_eq
  have i: ∀x∈f.ps,hF x<=gB x.size:=λ x hx=>j x (by have:=I1 hx;omega) Aa (hg.kids x hx)
  rw[J4]
  split
  ·rename_i ho
   obtain⟨a,b,e⟩:=hg.two (.inl ho)
   rw[e]at i hs ⊢
   have k:=i a (.head _)
   have l:=i b (.tail _ (.head _))
   rw[A6,A6,A6]at hs
   have h1:=a.size_pos
   have y:=b.size_pos
   have q:=Ap8 ⟨a.size,Aa⟩ ⟨b.size,Aa⟩ (by show a.size+b.size+1<=43;omega)
   rw[hP,hP,hP,Nat.mul_one,show f.size=a.size+b.size+1 by omega]
   exact Nat.le_trans (Nat.mul_le_mul k l) q
  ·split
   ·have:=Aq0 ⟨f.size,Aa⟩
    simp only at this;omega
   ·rw[hs];exact tW f.ps i Aa
theorem KQ(f:Tf)(h:f.AS):1<=hF f:=by
 have: ∀(n:Nat) (f:Tf),f.size<=n->f.AS->1<=hF f:=by
  intro n
  induction n with
  |zero=>intro f h;have:=f.size_pos;omega
  |succ n i=>
   intro f k hg
   have hs:=f.size_eq
   rw[J4]
   split
   ·rename_i ho
    obtain⟨a,b,e⟩:=hg.two (.inl ho)
    rw[e]at hs ⊢
    rw[A6,A6,A6]at hs
    have h1:=i a Aa (hg.kids a (by rw[e];simp))
    have j:=i b Aa (hg.kids b (by rw[e];simp))
    rw[hP,hP,hP,Nat.mul_one]
    exact Nat.mul_le_mul h1 j
   ·split<;>omega
 exact this f.size f (Nat.le_refl _) h
def QY(t:Tm)(ps:List Tf):Bool:=(!decide (t.op=1)||ps.all (λ x=>x.ps.isEmpty))&&(!(decide (t.op=3)||decide (5<=t.op/\t.op<=8))||decide (len ps=1))
mutual
def B7:Tf->Bool
 | .mk t ps=>QY t ps&&T8 ps
def T8:List Tf->Bool
 |[]=>true
 |x::l=>B7 x&&T8 l
end
theorem T9: ∀ {l:List Tf},T8 l=true↔ ∀x∈l,B7 x=true
 |[]=>by simp[T8]
 |x::l=>by rw[T8,Bool.and_eq_true,T9];simp
theorem W0(t:Tf):B7 t=(QY t.t t.ps&&T8 t.ps):=by cases t;rw[B7];rfl
theorem B7.kids {t:Tf}(h:B7 t=true): ∀x∈t.ps,B7 x=true:=by
 rw[W0,Bool.and_eq_true]at h;exact T9.1 h.2
theorem B7.one {t:Tf}(h:B7 t=true)(ho:t.t.op=3\/(5<=t.t.op/\t.t.op<=8)): ∃a,t.ps=[a]:=by
 rw[W0,Bool.and_eq_true]at h
 have h1:=h.1
 unfold QY at h1
 simp only[Bool.and_eq_true,Bool.or_eq_true,Bool.not_eq_true',decide_eq_true_eq,decide_eq_false_iff_not,Bool.or_eq_false_iff]at h1
 rcases h1.2 with b|b
 ·omega
 ·exact tY b
theorem B7.leaf {t:Tf}(h:B7 t=true)(ho:t.t.op=1): ∀x∈t.ps,x.ps=[]:=by
 rw[W0,Bool.and_eq_true]at h
 have h1:=h.1
 unfold QY at h1
 simp only[Bool.and_eq_true,Bool.or_eq_true,Bool.not_eq_true',decide_eq_false_iff_not,List.all_eq_true,List.isEmpty_iff]at h1
 exact h1.1.resolve_left (λ h=>h ho)
theorem ZG(n:A0)(x:Tf):B7 (x.named n)=B7 x:=by cases x;unfold Tf.named;rw[B7,B7];rfl
theorem MU{t:Tm}{ps:List Tf}(h1:t.op≠1)(b:(t.op=3\/(5<=t.op/\t.op<=8))->len ps=1)(h: ∀x∈ps,B7 x=true):B7 (.mk t ps)=true:=by
 rw[B7,Bool.and_eq_true,T9]
 refine⟨?_,h⟩
 unfold QY
 simp only[Bool.and_eq_true,Bool.or_eq_true,Bool.not_eq_true',decide_eq_true_eq,decide_eq_false_iff_not,Bool.or_eq_false_iff]
 refine⟨.inl h1,?_⟩
 by_cases h3:t.op=3\/(5<=t.op/\t.op<=8)
 ·exact .inr (b h3)
 ·exact .inl ⟨Aa,Aa⟩
def JN(x:Fl):Prop:= ∀t∈x,len t.name<=100/\len t.s<=100/\len t.c.s<=100
def AV(x:Tf):Prop:=JN x.flat
theorem JN.app {a b:Fl}(e:JN a)(h:JN b):JN (a++b):=λ t i=>(List.mem_append.1 i).elim (e t) (h t)
theorem GD(x:Tf):AV x↔(len x.t.name<=100/\len x.t.s<=100/\len x.t.c.s<=100)/\ ∀y∈x.ps,AV y:=by
 have j: ∀l:List Tf,JN (AP l)↔ ∀y∈l,AV y:=by
  intro l
  induction l with
  |nil=>exact⟨λ _ y e=>absurd e (by simp),λ _ t b=>absurd b (by simp[AP])⟩
  |cons x l k=>
   constructor
   ·intro h y e
    have h1:JN x.flat:=λ t b=>h t (List.mem_append_left _ b)
    have i:JN (AP l):=λ t b=>h t (List.mem_append_right _ b)
    rcases List.mem_cons.1 e with rfl|e
    ·exact h1
    ·exact k.1 i y e
   ·intro h
    exact JN.app (h x (.head _)) (k.2 λ y e=>h y (.tail _ e))
 constructor
 ·intro h
  unfold AV at h
  rw[Tf.FJ]at h
  have h0:=h _ (.head _)
  exact⟨h0,(j _).1 λ t b=>h t (.tail _ b)⟩
 ·rintro⟨h1,i⟩
  unfold AV
  rw[Tf.FJ]
  intro t b
  rcases List.mem_cons.1 b with rfl|b
  ·exact h1
  ·exact(j _).2 i t b
theorem Tf.iA (n:A0)(x:Tf):(x.named n).t= { x.t with name:=n}:=by cases x;rfl
theorem AV.root {x:Tf}(h:AV x):len x.t.name<=100/\len x.t.s<=100/\len x.t.c.s<=100:=((GD x).1 h).1
theorem AV.kids {x:Tf}(h:AV x): ∀y∈x.ps,AV y:=((GD x).1 h).2
theorem AV.named {x:Tf}(h:AV x){n:A0}(b:len n<=100):AV (x.named n):=by
 refine(GD _).2 ⟨⟨by rw[Tf.iA];exact b,by rw[Tf.iA];exact h.root.2⟩,by rw[Tf.fX];exact h.kids⟩
theorem PR.KH {α β:Type}{r:PR α}{k:α->Int->PR β}{y:β}{j:Int}(h:r.bind k= .ok y j): ∃x i,r= .ok x i/\k x i= .ok y j:=by
 cases r with
 |er e p=>cases h
 |ok x i=>exact⟨x,i,rfl,h⟩
theorem PR.H6 {α:Type}{x y:α}{i j:Int}(h:(PR.ok x i:PR α)= .ok y j):x=y:=by cases h;rfl
theorem Aq5(n:A0)(l:List Tf):A6 (l.map (Tf.named n))=A6 l:=by
 induction l with
 |nil=>rfl
 |cons x l b=>rw[List.map_cons,A6,A6,b,Tf.DX]
theorem QZ: ∀(ns:List A0) (l:List Tf),A6 (CR ns l)=A6 l
 |[],l=>by cases l<;>rfl
 |_::_,[]=>rfl
 |n::ns,x::l=>by rw[CR,A6,A6,QZ ns l,Tf.DX]
theorem iB: ∀(ns:List A0) (l:List Tf),len (CR ns l)=len l
 |[],l=>by cases l<;>rfl
 |_::_,[]=>rfl
 |n::ns,x::l=>by rw[CR,AM,AM,iB ns l]
theorem ZH: ∀ {ns:List A0} {l:List Tf} {y:Tf},y∈CR ns l-> ∃x∈l,y=x\/ ∃n∈ns,y=x.named n
 |[],l,y,h=>by
  have:y∈l:=by cases l<;>exact h
  exact⟨y,this,.inl U⟩
 |_::_,[],y,h=>by cases h
 |n::ns,x::l,y,h=>by
  rw[CR]at h
  rcases List.mem_cons.1 h with rfl|h
  ·exact⟨x,.head _,.inr ⟨n,.head _,rfl⟩⟩
  ·obtain⟨z,b,i⟩:=ZH h
   refine⟨z,.tail _ b,i.imp id ?_⟩
   rintro⟨m,hm,e⟩;exact⟨m,.tail _ hm,e⟩
theorem W3{a b:List Tf}(h:a.Perm b):A6 a=A6 b:=by
 induction h with
 |nil=>rfl
 |cons x _ e=>rw[A6,A6,e]
 |swap x y l=>rw[A6,A6,A6,A6];omega
 |trans _ _ h1 i=>rw[h1,i]
structure Im (y:Tf) (n:Nat):Prop where
 size:y.size<=n
 ar:B7 y=true
 sh:AV y
theorem MV{t:Tf}(e:B7 t=true)(hs:AV t):A6 (AN t)<=A6 t.ps/\ ∀x∈AN t,B7 x=true/\AV x:=by
 unfold AN
 split
 ·exact⟨Nat.zero_le _,λ x hx=>by cases hx⟩
 ·refine⟨by rw[Aq5];exact Nat.le_refl _,λ x hx=>?_⟩
  obtain⟨z,b,rfl⟩:=List.mem_map.1 hx
  exact⟨by rw[ZG];exact(B7.kids e) z b,(hs.kids z b).named (by show len ([]:A0)<=_;decide)⟩
theorem tZ(n:A0)(g:Tf->Tf): ∀l:List Tf,(KP n g l).length=l.length
 |[]=>rfl
 |y::l=>by unfold KP;split<;>simp[tZ n g l]
theorem u3{n:A0}{g:Tf->Tf}{k:Nat}(hg: ∀x,(g x).size<=x.size+k): ∀l:List Tf,A6 (KP n g l)<=A6 l+k
 |[]=>Nat.zero_le _
 |y::l=>by
  unfold KP
  have h1:=hg y
  have b:=u3 (n:=n) hg l
  split<;>rw[A6,A6]<;>omega
theorem u4(a:Tf): ∀(p:List Sp) (t:Tf),(FZ a p t).size<=t.size+a.size
 |[],t=>by unfold FZ;rw[Tf.size_eq,t.size_eq];show 1+A6 (t.ps++[a])<=_;rw[IH,A6,A6];omega
 |s::p,t=>by
  unfold FZ
  rw[Tf.size_eq,t.size_eq]
  show 1+A6 (KP s.name (FZ a p) t.ps)<=_
  have:=u3 (n:=s.name) (u4 a p) t.ps
  omega
theorem iC{s:Sp}{p:List Sp}{t:Tf}(h:(BK (s::p) t).2=true):t.t.op=2/\s.part=false/\BK (s::p) t=GA t.ps 1 s.name (BK p):=by
 unfold BK at h
 split at h
 ·cases h
 ·rename_i h1
  have b:s.part=false:=by cases hs:s.part with|false=>rfl|true=>exact absurd (.inr hs) h1
  have e:t.t.op=2:=Decidable.byContradiction λ i=>h1 (.inl i)
  exact⟨e,b,by rw[BK,if_neg h1]⟩
theorem iD{n:A0}{g:Tf->Tf}{F:Tf->Int×Bool}{P:Tf->Prop}(hg: ∀x,(F x).2=true->P x->P (g x)): ∀ {l:List Tf} {o:Int},(GA l o n F).2=true->(∀x∈l,P x)-> ∀y∈KP n g l,P y
 |[],_,h,_,y,b=>by cases b
 |x::l,o,h,hP,y,b=>by
  unfold GA at h
  unfold KP at b
  split at h<;>rename_i e
  ·rw[if_pos e]at b
   split at h<;>rename_i i
   ·rcases List.mem_cons.1 b with rfl|b
    ·exact hg x i (hP x (.head _))
    ·exact hP y (.tail _ b)
   ·cases h
  ·rw[if_neg e]at b
   rcases List.mem_cons.1 b with rfl|b
   ·exact hP _ (.head _)
   ·exact iD hg h (λ z j=>hP z (.tail _ j)) y b
theorem u5{a:Tf}(h0:a.ps=[])(e:B7 a=true): ∀(p:List Sp) (t:Tf),(BK p t).2=true->B7 t=true->B7 (FZ a p t)=true
 |[],t,h,b=>by
  have ho:t.t.op=1:=of_decide_eq_true h
  unfold FZ
  rw[B7,Bool.and_eq_true,T9]
  refine⟨?_,λ x hx=>?_⟩
  ·unfold QY
   simp only[Bool.and_eq_true,Bool.or_eq_true,Bool.not_eq_true',decide_eq_false_iff_not,List.all_eq_true,List.isEmpty_iff,Bool.or_eq_false_iff]
   refine⟨.inr λ x hx=>?_,.inl ⟨Aa,Aa⟩⟩
   rcases List.mem_append.1 hx with hx|hx
   ·exact(B7.leaf b) ho x hx
   ·rw[List.mem_singleton.1 hx];exact h0
  ·rcases List.mem_append.1 hx with hx|hx
   ·exact(B7.kids b) x hx
   ·rw[List.mem_singleton.1 hx];exact e
 |s::p,t,h,b=>by
  obtain⟨h1,j,i⟩:=iC h
  rw[i]at h
  unfold FZ
  exact MU Aa Aa (iD (P:=λ x=>B7 x=true) (λ x hx hP=>u5 h0 e p x hx hP) h (B7.kids b))
theorem u6{a:Tf}(e:AV a): ∀(p:List Sp) (t:Tf),(BK p t).2=true->AV t->AV (FZ a p t)
 |[],t,h,b=>by
  unfold FZ
  refine(GD _).2 ⟨b.root,λ x hx=>?_⟩
  rcases List.mem_append.1 hx with hx|hx
  ·exact b.kids x hx
  ·rw[List.mem_singleton.1 hx];exact e
 |s::p,t,h,b=>by
  obtain⟨h1,j,i⟩:=iC h
  rw[i]at h
  unfold FZ
  exact(GD _).2 ⟨b.root,iD (P:=AV) (λ x hx hP=>u6 e p x hx hP) h b.kids⟩
theorem Aq6(a:Tf)(p:List Sp)(t:Tf):(FZ a p t).t=t.t:=by cases p<;>rfl
theorem Aq7{n:Int}{c:Nd}(h:len c.s<=100):(K2 n c).size=1/\B7 (K2 n c)=true/\AV (K2 n c):=by
 refine⟨rfl,MU (by show ¬(9:Int)=1;decide) (λ h=>absurd h (by show ¬((9:Int)=3\/(5<=(9:Int)/\(9:Int)<=8));omega)) (λ x hx=>by cases hx),(GD _).2 ⟨⟨?_,?_,h⟩,λ x hx=>by cases hx⟩⟩<;>(show len ([]:A0)<=_;decide)
theorem R0: ∀(p:Tf) {i:Int} {t:Tf} {h:Bool} {y:Tf} {j:Int},EB p i t h= .ok y j->AV p->B7 t=true->AV t->Im y (t.size+p.size)/\y.t=t.t
 | .mk x [],i,t,h,y,j,he,hp,e,hs=>by
  unfold EB at he
  split at he
  ·rename_i hl
   have:=PR.H6 he
   subst this
   obtain⟨h1,q,w⟩:=Aq7 (n:=if h=true then x.n else MP x.n) hp.root.2.2
   refine⟨⟨?_,u5 U q _ t hl e,u6 w _ t hl hs⟩,Aq6 _ _ _⟩
   have:=u4 (K2 (if h=true then x.n else MP x.n) x.c) (CB x.s).1 t
   exact Nat.le_trans this (Nat.le_of_eq (congrArg (t.size+ ·) h1))
  ·cases he
 | .mk x [a],i,t,h,y,j,he,hp,e,hs=>by
  unfold EB at he
  obtain⟨h1,q⟩:=R0 a he (hp.kids a (.head _)) e hs
  exact⟨⟨by have:=h1.size;rw[Tf.size,A6,A6];omega,h1.ar,h1.sh⟩,q⟩
 | .mk x (a::b::l),i,t,h,y,j,he,hp,e,hs=>by
  unfold EB at he
  split at he
  ·cases he
  ·obtain⟨u,k,h1,q⟩:=PR.KH he
   obtain⟨w,A⟩:=R0 a h1 (hp.kids a (.head _)) e hs
   obtain⟨z,B⟩:=R0 b q (hp.kids b (.tail _ (.head _))) w.ar w.sh
   refine⟨⟨?_,z.ar,z.sh⟩,B.trans A⟩
   have:=w.size
   have:=z.size
   rw[Tf.size,A6,A6];omega
theorem u7{g:Tf->PR Tf}{h:Nat}: ∀ {l:List Tf} {ys:List Tf} {j:Int},HP g l= .ok ys j->(∀x∈l,∀y j,g x= .ok y j->Im y (x.size*h))->ys.length=l.length/\A6 ys<=A6 l*h/\ ∀y∈ys,B7 y=true/\AV y
 |[],ys,j,he,_=>by
  have:=PR.H6 he
  subst this
  exact⟨rfl,Nat.zero_le _,λ y i=>by cases i⟩
 |x::l,ys,j,he,hg=>by
  unfold HP at he
  obtain⟨y,k,h1,n⟩:=PR.KH he
  obtain⟨zs,m,q,s⟩:=PR.KH n
  have:=PR.H6 s
  subst this
  have e:=hg x (.head _) y k h1
  obtain⟨w,B,A⟩:=u7 q λ z b=>hg z (.tail _ b)
  refine⟨by simp[w],?_,λ z b=>?_⟩
  ·rw[A6,A6,Nat.add_mul];have:=e.size;omega
  ·rcases List.mem_cons.1 b with rfl|b
   ·exact⟨e.ar,e.sh⟩
   ·exact A z b
abbrev PA(im:Tf->Int->Tf->PR Tf)(g:Tf):Prop:= ∀i t y j,im g i t= .ok y j->B7 t=true->AV t->Im y (t.size*hF g)
theorem Aq8{s h:Nat}(b:1<=h):1+s*h<=(1+s)*h:=by rw[Nat.add_mul];omega
theorem uA{t:Tf}(h:AV t): ∀n∈B6 t,len n<=100:=by
 unfold B6
 split
 ·intro n b;cases b
 ·intro n b
  obtain⟨x,hx,rfl⟩:=List.mem_map.1 b
  exact(h.kids x hx).root.1
theorem W4{im:Tf->Int->Tf->PR Tf}{g:Tf}{i:Int}{t y:Tf}{j:Int}(hg:PA im g)(h1:1<=hF g)(ho:t.t.op≠1)(he:F0 im g i t= .ok y j)(l:B7 t=true)(hs:AV t):Im y (t.size*hF g):=by
 unfold F0 at he
 obtain⟨ys,k,A,B⟩:=PR.KH he
 have:=PR.H6 B
 subst this
 obtain⟨C,q⟩:=MV l hs
 obtain⟨D,H,w⟩:=u7 (h:=hF g) A λ x hx y j E=>hg i x y j E (q x hx).1 (q x hx).2
 have b:len (CR (B6 t) ys)=len t.ps:=by rw[iB];unfold len;rw[D,KN ho,List.length_map]
 unfold CS
 refine⟨?_,MU ho (λ F=>?_) (λ z b=>?_),(GD _).2 ⟨?_,λ z b=>?_⟩⟩
 ·rw[Tf.size_eq,t.size_eq]
  show 1+A6 (CR (B6 t) ys)<=_
  rw[QZ]
  have:=Nat.mul_le_mul_right (hF g) C
  have:=Aq8 (s:=A6 t.ps) h1
  omega
 ·obtain⟨a,e⟩:=(B7.one l) F
  rw[b,e];rfl
 ·obtain⟨x,hx,e⟩:=ZH b
  have:=(w x hx).1
  rcases e with rfl|⟨n,_,rfl⟩
  ·exact this
  ·rw[ZG];exact this
 ·refine⟨?_,?_,?_⟩<;>(show len ([]:A0)<=_;decide)
 ·obtain⟨x,hx,e⟩:=ZH b
  have:=(w x hx).2
  rcases e with rfl|⟨n,G,rfl⟩
  ·exact this
  ·exact this.named (uA hs n G)
inductive LS:A0->List Tk->Prop
 |nil:LS [] []
 |blank {c:UInt8} {r:A0} {u:List Tk}:MD c=true->LS r u->LS (c::r) u
 |tok {w r:A0} {t:Tk} {u:List Tk}:w≠[]->C5 (w++r)=(t,len w,0)->LS r u->LS (w++r) (t::u)
def MW(r:A0):Prop:=r=[]\/ ∃c r',r=c::r'/\KJ (c.toNat:Int)=true
theorem MW.stop {r:A0}(h:MW r):Stop [] r:=by
 rcases h with h|⟨c,r',rfl,h⟩
 ·exact .inl h
 ·exact .inr (.inl ⟨by simp,by rw[G7];exact h⟩)
theorem BK7{c:UInt8}{r:A0}(h:KJ (c.toNat:Int)=true):MW (c::r):=.inr ⟨c,r,rfl,h⟩
theorem LS.of {t:Tk}(h:HT t=true)(hp:t.pos=0){r:A0}{u:List Tk}(i:MW r)(hl:LS r u):LS (S7 t++r) (t::u):=by
 obtain⟨h1,b⟩:=AW9 h (r:=[]) (.inl rfl)
 have:=fE (v':=r) b h1 i.stop
 have e: { t with pos:=0}=t:=by cases t;simp only at hp;subst hp;rfl
 rw[e]at this
 exact .tok b this hl
theorem LS.mark {c:UInt8}(b:c∈([40,41,91,93,123,125,58,44,124]:A0)){r:A0}{u:List Tk}(hl:LS r u):LS (c::r) (VQ [c] 0::u):=
 .tok (w:=[c]) (by simp) (Ai3 b r) hl
def nwR(r:A0):Prop:= ∀c r',r=c::r'->CP (c.toNat:Int) false=false/\c≠34
theorem MW.nw {r:A0}(h:MW r):nwR r:=by
 intro c r' e
 rcases h with h|⟨c2,b,rfl,h⟩
 ·rw[h]at e;cases e
 ·obtain⟨rfl,rfl⟩:=List.cons.inj e
  have:=fD h
  refine⟨pB h,λ e=>?_⟩
  subst e;exact this.2 rfl
def Ar0(s:A0):Tk:=⟨3,s,BY,0⟩
theorem ZI{s:A0}(h:FM s=true):s≠[]/\ ∀j:Int,0<=j->j<len s->CP (A3 s j) (j==0)=true:=VB.1 h
theorem LS.field {s r:A0}{u:List Tk}(hs:CV s=true)(i: ∀c r',r=c::r'->CP (c.toNat:Int) false=false)(hl:LS r u):LS ((46::FH s)++r) (Ar0 s::u):=by
 refine .tok (by simp) ?_ hl
 unfold FH
 by_cases h:FM s=true
 ·rw[if_pos h]
  obtain⟨h1,j⟩:=ZI h
  have hw:=sC h1 j i
  unfold C5
  rw[List.cons_append,G7,VF,hw,if_pos ⟨rfl,h1⟩,AM,Int.add_comm];rfl
 ·rw[if_neg h,<-YI hs]
  have k:=fN hs r
  obtain⟨q,b⟩:=Z2 s
  have hw:BE (E8 s++r)=[]:=by rw[b];exact L7 (by rw[List.cons_append,G7];rfl)
  have e:Lib.hasPrefix (E8 s++r) [34]=true:=by rw[b];rfl
  unfold C5
  rw[List.cons_append,G7,VF,hw,if_neg (λ x=>x.2 U),if_pos ⟨rfl,e⟩,k,AM,Int.add_comm];rfl
theorem LS.text {s r:A0}{u:List Tk}(hs:CV s=true)(b:MW r)(hl:LS r u):LS (NF s++r) (⟨4,s,BY,0⟩::u):=by
 have:=LS.of (t:=⟨4,s,BY,0⟩) (by unfold HT;simp[hs]) U b hl
 rw[show S7 ⟨4,s,BY,0⟩=E8 s from rfl,YI hs]at this;exact this
theorem LS.num {c:Nd}{r:A0}{u:List Tk}(b:JB c=true)(e:MW r)(hl:LS r u):LS (ID c++r) (⟨5,[],c,0⟩::u):=by
 have:=LS.of (t:=⟨5,[],c,0⟩) (by unfold HT;simp[b]) U e hl
 exact this
theorem LS.word {s r:A0}{u:List Tk}(hs:FM s=true)(b:MW r)(hl:LS r u):LS (s++r) (VR s 0::u):=by
 have:=LS.of (t:=VR s 0) (by unfold HT VR;simp[hs]) U b hl
 exact this
theorem LS.sign {s r:A0}{u:List Tk}(hs:s∈Y5)(b:MW r)(hl:LS r u):LS (s++r) (VQ s 0::u):=by
 have key: ∀s∈Y5,HT (VQ s 0)=true:=by decide+kernel
 have:=LS.of (t:=VQ s 0) (key s hs) U b hl
 exact this
abbrev iE(m:A0):Tk:=VQ m 0
abbrev ZJ(m:A0):Tk:=VR m 0
def BK8(c:Nd):Tk:=if c.kind=0 then ZJ V5 else if c.kind=1 then ZJ V4 else if c.kind=2 then ZJ V3 else if c.kind=3 then⟨5,[],c,0⟩else⟨4,c.s,BY,0⟩
end Go.Eng
