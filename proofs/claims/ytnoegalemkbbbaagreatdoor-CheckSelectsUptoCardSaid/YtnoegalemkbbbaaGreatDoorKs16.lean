/- Lemmas for the card. -/
import Derived.Test.YtnoegalemkbbbaaGreatDoorKs15
set_option linter.unusedVariables false
set_option linter.unusedSimpArgs false
set_option maxRecDepth 100000
set_option maxRecDepth 100000
namespace Go.Proofs.YtnoegalemkbbbaaGreatDoor
open Go.Proofs.Tryz
open Go.Eng
theorem toE{P:Program}{f:FuncId}{args:Array Value}{w:World}{u:Value}(h:Calls P f args w λ e w'=>e= .returned u/\w'=w):Calls P f args w λ e w'=>e= .returned u/\Ext w w':=h.mono λ e w' ⟨h1,b⟩=>⟨h1,by rw[b];exact .refl _⟩
theorem VE(neg:Bool)(s:A0)(x:Int)(w:World)(hg:Gl w)(F:len s<=1099511627776):
   Calls prog 288 [.bool neg,str s,i64 x].toArray w λ e w'=>e= .returned (.tuple #[ES (CH neg s x).1,i64 (CH neg s x).2])/\Ext w w':=by
 have q:=cJ s
 have A:=AA5 s
 have C:=lG (AW s)
 have D:=A8 (AW s)
 have E:=A8 (BG (AW s))
 refine AH AF func288 U ntmps288 [] [] [.v (.bool neg),.v (str s),I x] U (BE w) A3 (λ B j=>B9 1 U zeroValue46 U λ G=>AJ U call302 U U (λ _ w M h=>pL s w (hg.low h.st.low) Aa) U ?_) U
 refine A1 U (λ h1=>?_) (λ h1=>?_)<;>simp only[zb]at h1
 ·exact A2 j U U U λ w M h=>⟨by unfold CH;rw[h1];rfl,h.st.low⟩
 refine AJ (u:=str (AW s)) U call303 U U (λ _ w M h=>zP s [48] w Ab (YO Ab)) U <|A1 (b:=AW s==[]) U (λ l=>?_) (λ l=>?_)
 ·exact A2 j U U U λ w M h=>⟨by unfold CH;rw[if_pos h1,if_pos l];rfl,h.st.low⟩
 have i: ¬(AW s==[])=true:=by rw[l];decide
 refine A1 U (λ n=>?_) (λ n=>?_)
 ·exact A2 j U U U λ w M h=>⟨by unfold CH;rw[if_pos h1,if_neg i,if_pos n];rfl,h.st.low⟩
 have k:=Bool.eq_false_iff.1 n
 simp only[zb]at n
 refine AJ (u:=str (BG (AW s))) U call304 U U (λ _ w M h=>cF (AW s) [48] w Aa Ab (YO Ab)) U <|AJ (u:=.bool (decide (-1000<=x+(len (AW s)-len (BG (AW s))))&&decide (x+(len (AW s)-len (BG (AW s)))<=1000)&&decide (len (BG (AW s))+(x+(len (AW s)-len (BG (AW s))))<=1000))) U (hO:=by show _/\_;simp only[zb]<;>omega) call305 U U (λ _ w M h=>toE (pM (len (BG (AW s))) (x+(len (AW s)-len (BG (AW s)))) w Aa)) U ?_
 have y:=q
 refine A1 U (λ z=>?_) (λ z=>?_)<;>simp only[zb]at z
 ·exact A2 j U U U λ w M h=>⟨by unfold CH;rw[if_pos h1,if_neg i,if_neg k,if_pos (by simp only[zb];have:=y (by simpa using l);omega)];rfl,h.st.low⟩
 ·exact A2 j U U U λ w M h=>⟨by unfold CH;rw[if_pos h1,if_neg i,if_neg k,if_neg (by simp only[zb];omega)];rfl,h.st.low⟩
end Go.Proofs.YtnoegalemkbbbaaGreatDoor
namespace Go.Eng
open Go.RowKit
theorem Aj4: ∀a:Fin 128,DB ((a:Nat):Int)=[((a:Nat):Int).toNat.toUInt8]:=by decide+kernel
theorem rZ{r:Int}(h:0<=r/\r<128):DB r=[r.toNat.toUInt8]:=by
 have:=Aj4 ⟨r.toNat,Aa⟩
 rw[show(((⟨r.toNat,Aa⟩:Fin 128):Nat):Int)=r by show(r.toNat:Int)=r;omega]at this
 exact this
abbrev GX(s:A0):Prop:= ∀b∈s,48<=b.toNat/\b.toNat<=57
theorem GX.at {s:A0}(h:GX s){i:Int}(h0:0<=i)(h1:i<len s):48<=A4 s i/\A4 s i<=57:=by
 have hi:i.toNat<s.length:=by unfold len at h1;omega
 have:=h s[i.toNat] (List.getElem_mem hi)
 unfold A4
 rw[List.getD_eq_getElem?_getD,List.getElem?_eq_getElem hi]
 show(48:Int)<=(s[i.toNat].toNat:Int)/\_
 exact⟨Aa,by show(s[i.toNat].toNat:Int)<=57;omega⟩
theorem s0{α:Type}{p:α->Bool}{b:α}{r:List α}: ∀ {l:List α},l.dropWhile p=b::r->p b=false
 |[],h=>by cases h
 |a::l,h=>by
  rw[List.dropWhile_cons]at h
  split at h
  ·exact s0 h
  ·rename_i e;cases h;simpa using e
theorem gB{α:Type}{p:α->Bool}: ∀ {l:List α},(∀x∈l,p x=true)->l.dropWhile p=[]
 |[],_=>rfl
 |a::l,h=>by rw[List.dropWhile_cons,if_pos (h a (.head _))];exact gB λ x hx=>h x (.tail _ hx)
theorem s5(c:UInt8)(s:A0):len (Lib.trimRightS s [c])<=len s/\(0<len (Lib.trimRightS s [c])->A4 s (len (Lib.trimRightS s [c])-1)≠(c.toNat:Int)):=by
 have h1:s.reverse=s.reverse.takeWhile (([c]:A0).contains ·)++s.reverse.dropWhile (([c]:A0).contains ·):=List.takeWhile_append_dropWhile.symm
 have e:s=(s.reverse.dropWhile (([c]:A0).contains ·)).reverse++(s.reverse.takeWhile (([c]:A0).contains ·)).reverse:=by
  rw[<-List.reverse_append,<-h1,List.reverse_reverse]
 have hd:Lib.trimRightS s [c]=(s.reverse.dropWhile (([c]:A0).contains ·)).reverse:=rfl
 rw[hd]
 refine⟨by unfold len;have:=congrArg List.length e;simp at this ⊢;omega,λ hp=>?_⟩
 cases hq:s.reverse.dropWhile (([c]:A0).contains ·)with
 |nil=>rw[hq]at hp;simp[len]at hp
 |cons b r=>
  have i:(([c]:A0).contains b)=false:=by
   exact s0 hq
  rw[hq]at e
  unfold A4
  have hl:(len (b::r).reverse-1).toNat=r.length:=by unfold len;simp
  rw[hl,e]
  rw[List.getD_eq_getElem?_getD,List.getElem?_append_left (by simp)]
  simp only[List.reverse_cons,List.getElem?_append_right (show r.reverse.length<=r.length by simp),List.length_reverse,Nat.sub_self,List.getElem?_cons_zero,Option.getD_some]
  intro h
  have:b=c:=UInt8.toNat_inj.1 Aa
  rw[this]at i;simp at i
theorem Aj5(d:Int):0<=len (OL d)/\(len (OL d)<=0\/len (OL d)=d):=by unfold OL len;rw[List.length_replicate];omega
theorem Aj6(s:A0):len (OM s)<=2*len s+2:=by
 have h0:=A8 s
 have h1:=lE (len s-len (HT s))
 have b:=PJ s 0 (len (HT s)-1)
 have e:=A8 (HT s)
 unfold OM
 split<;>simp only[AO,AL,len_nil]<;>omega
theorem s6(s:A0):len (ON s)<=2*len s+2:=by
 have h0:=A8 s
 have h1:=Aj5 (len s-len (BG s))
 have b:=PJ s 0 (len (BG s)-1)
 have e:=A8 (BG s)
 unfold ON
 simp only[AO,AL,len_nil];omega
theorem s7{s:A0}(h:IY s=true):GX s:=λ b e=>by
 obtain⟨j,i,rfl⟩:=List.getElem_of_mem e
 exact(YB _).1 (YC.1 h j i)
theorem gC{s:A0}(h:GX s)(k:Int):GX (s++BC k):=λ b e=>by
 rcases List.mem_append.1 e with e|e
 ·exact h b e
 ·unfold BC at e;rw[(List.mem_replicate.1 e).2];decide
theorem s8{s:A0}(hs:s≠[])(h:Lib.trimB s 48=s)(k:Int):0<len (BG (s++BC k)):=by
 refine Decidable.byContradiction λ e=>hs ?_
 have h0:BG (s++BC k)=[]:=List.eq_nil_of_length_eq_zero (by unfold len at e;omega)
 unfold BG Lib.trimRightS at h0
 rw[List.reverse_eq_nil_iff]at h0
 have h1:=dropWhile_nil h0
 have i: ∀b∈s.reverse,(b==(48:UInt8))=true:=λ b j=>by
  have:=h1 b (by rw[List.reverse_append];exact List.mem_append_right _ j)
  simpa using this
 have l:Lib.trimRightB s 48=[]:=by
  unfold Lib.trimRightB
  rw[List.reverse_eq_nil_iff]
  exact gB i
 rw[<-h];unfold Lib.trimB;rw[l];rfl
structure QI (c:Nd):Prop where
 len:len c.s<=100
 e: -1000<=c.e/\c.e<=1000/\Eng.len c.s+c.e<=1000
 fig:GX c.s
 trim:c.s≠[]->Lib.trimB c.s 48=c.s
theorem s9{c:Nd}(h:GI c=true)(j:c.kind=3):QI c:=by
 unfold GI JL at h
 rw[if_neg Aa,if_pos j]at h
 simp only[Bool.and_eq_true]at h
 have h1:=h.1.1
 unfold OF at h1
 split at h1
 ·cases h1
 ·rename_i i
  simp only[not_or,Decidable.not_not,Bool.not_eq_false]at i
  obtain⟨_,_,_,a,b,d,e,f⟩:=i
  refine⟨Aa,⟨Aa,Aa,Aa⟩,s7 f,λ hs=>?_⟩
  rw[if_neg hs]at h1
  simpa using h1
theorem sA{c:Nd}{b:Bool}{top:Int}(h:top=len c.s+c.e-(if c.neg=b/\c.s=[49]then 1 else 0)):(if-1000>top-100 then-1000 else top-100)=OO c b:=by
 unfold OO;rw[<-h];omega
end Go.Eng
namespace Go.Proofs.YtnoegalemkbbbaaGreatDoor
open Go.Proofs.Tryz
open Go.Eng
theorem Aj7(s:A0)(w:World)(hg:Gl w)(n:GX s)(D:len s<=4194304):Calls prog 289 [str s].toArray w λ e w'=>e= .returned (str (OM s))/\Ext w w':=by
 have q:=A8 s
 have y:=A8 (HT s)
 obtain⟨h,z⟩:=s5 57 s
 have k:len (HT s)<=len s:=h
 have F:=NX (len s-len (HT s)) Aa
 refine AH AF func289 U ntmps289 [] [] [.v (str s)] U (BE w) A3 (λ B l=>AJ (u:=str (HT s)) U call304 U U (λ _ w M b=>cF s [57] w Aa Ab (YO Ab)) U <|AJ (u:=str (BC (len s-len (HT s)))) U call291 U U (λ _ w M b=>eY _ w Aa Aa) U ?_) U
 refine A1 U (λ h1=>?_) (λ h1=>?_)<;>simp only[zb]at h1
 ·exact A2 l U U (hO:=by simp only[AL,len_nil];and_intros<;>first|omega|trivial) U λ w M b=>⟨by unfold OM;rw[if_pos h1];rfl,b.st.low⟩
 have A:=n.at (i:=len (HT s)-1) Aa Aa
 have C:=FF (s:=s) (i:=0) (j:=len (HT s)-1) Aa Aa Aa
 refine FX U BK Ac <|Y7 (.v (str (DB (A4 s (len (HT s)-1)+1)))) U U (λ w M b=>PV.aF (A7 (v:=.v (.int .i32 (A4 s (len (HT s)-1)+1))) (E:=[]) U) underlying21 underlying9) ?_
 rw[rZ Aa]
 exact FY U (hO:=by simp only[AO,AL,len_nil];and_intros<;>first|omega|trivial) <|A2 l U U U λ w M b=>⟨by unfold OM;rw[if_neg h1];rfl,b.st.low⟩
theorem Aj8(s:A0)(w:World)(hg:Gl w)(l:GX s)(C:len s<=4194304)(hp:0<len (BG s)):Calls prog 290 [str s].toArray w λ e w'=>e= .returned (str (ON s))/\Ext w w':=by
 have n:=A8 s
 obtain⟨h,q⟩:=s5 48 s
 have k:len (BG s)<=len s:=h
 have D:len (OL (len s-len (BG s)))=len s-len (BG s):=by unfold OL len;rw[List.length_replicate];unfold len at*;omega
 refine AH AF func290 U ntmps290 [] [] [.v (str s)] U (BE w) A3 (λ B y=>AJ (u:=str (BG s)) U call304 U U (λ _ w M b=>cF s [48] w Aa Ab (YO Ab)) U ?_) U
 have z:=l.at (i:=len (BG s)-1) Aa Aa
 have A:=FF (s:=s) (i:=0) (j:=len (BG s)-1) Aa Aa Aa
 refine FX U BK Ac <|Y7 (.v (str (DB (A4 s (len (BG s)-1)-1)))) U U (λ w M b=>PV.aF (A7 (v:=.v (.int .i32 (A4 s (len (BG s)-1)-1))) (E:=[]) U) underlying21 underlying9) ?_
 rw[rZ Aa]
 exact H4 (u:=str (OL (len s-len (BG s)))) U (hO:=by simp only[AO,AL,len_nil];and_intros<;>first|omega|trivial) call291 U U (λ _ w M b=>l7 57 _ w Aa Aa) U <|FY U (hO:=by simp only[AO,AL,len_nil];and_intros<;>first|omega|trivial) <|A2 y U U U λ w M b=>⟨rfl,b.st.low⟩
theorem Aj9(c:Nd)(b:Bool)(w:World)(hg:Gl w)(F:QI c):Calls prog 266 [ES c,.bool b].toArray w λ e w'=>e= .returned (.tuple #[ES (N8 c b).1,.bool (N8 c b).2])/\Ext w w':=by
 have T:=A8 c.s
 have V:=F.len
 have W:=F.e
 refine AH AF func266 U ntmps266 [] [] [D1 c,.v (.bool b)] U (BE w) A3 (λ B Q=>BM 2 U U U λ G=>B9 4 U zeroValue46 U λ H=>?_) U
 refine A1 U (λ h1=>?_) (λ h1=>?_)<;>simp only[zb]at h1
 ·refine AJ U call288 U U (λ _ w M l=>VE (!b) [49] (-1000) w (hg.low l.st.low) Ab) U <|B9 6 U zeroValue46 U λ b6=>A2 Q U U U λ w M l=>⟨?_,l.st.low⟩
  unfold N8 OP;rw[if_pos h1];rfl
 refine FX U BK Ac <|FY U ?_
 refine CQ 0 (λ s=> ∃(f:FuncId) (S:A0->A0) (top:Int),CT prog f/\(∀k w,Gl w->0<=k->k<=2000->Calls prog f [str (c.s++BC k)].toArray w λ e w'=>e= .returned (str (S (c.s++BC k)))/\Ext w w')/\S=(if c.neg=b then ON else OM)/\(∀s,len (S s)<=2*len s+2)/\top=len c.s+c.e-(if c.neg=b/\c.s=[49]then 1 else 0)/\
    s=⟨[],[(2,EK G c),(4,EK H (D9 0))],[Z 2 (.bx 2 G 0),Z 4 (.bx 4 H 0),Z 5 (.v (.bool false)),Z 8 (.v (.func (.func f) #[] #[])),Z 9 (I top)]⟩) U U (λ K=>?_) (λ K=>?_) ?_
 ·have n:c.neg=b:=by simpa using K
  have hd: ∀k w,Gl w->0<=k->k<=2000->Calls prog 290 [str (c.s++BC k)].toArray w λ e w'=>e= .returned (str (ON (c.s++BC k)))/\Ext w w':=λ k w hg h0 L=>Aj8 _ w hg (gC F.fig k) (by rw[AO,NX k h0];omega) (s8 h1 (F.trim h1) k)
  refine A1 U (λ J=>?_) (λ J=>?_)<;>simp only[zb]at J
  ·exact AT _ U U ⟨290,ON,_,call290,hd,by rw[if_pos n],s6,by rw[if_pos ⟨n,J⟩],rfl⟩
  ·exact AT _ U U ⟨290,ON,_,call290,hd,by rw[if_pos n],s6,by rw[if_neg (λ q=>J q.2)];omega,rfl⟩
 ·have n: ¬c.neg=b:=by simpa using K
  exact AT _ U U ⟨289,OM,_,call289,λ k w hg h0 L=>Aj7 _ w hg (gC F.fig k) (by rw[AO,NX k h0];omega),by rw[if_neg n],Aj6,by rw[if_neg (λ q=>n q.1)];omega,rfl⟩
 rintro _ ⟨f,S,top,C,hS,N,O,y,rfl⟩
 have X: -1001<=top/\top<=1000:=by rw[y];split<;>omega
 have D:=sA y
 obtain⟨z,R⟩: ∃z,z=OO c b:=⟨_,rfl⟩
 rw[<-R]at D
 have hzb: -1000<=z/\z<=c.e:=by rw[<-D,y];split<;>split<;>omega
 refine AR (I z) U U (λ w M l=>by rw[<-D];exact PV.max2 (A7 (v:=I (top-100)) (E:=[]) U) (A7 (v:=I (-1000)) (E:=[]) U)) ?_
 have P:OP c b=CH c.neg (S (c.s++BC (c.e-z))) z:=by unfold OP;rw[if_neg h1,N,<-R]
 have A:=NX (c.e-z) Aa
 have hSl:len (S (c.s++BC (c.e-z)))<=10000:=by have:=O (c.s++BC (c.e-z));rw[AO,A]at this;omega
 refine zM 3 (λ s=> ∃i,s=⟨[],[(2,EK G c),(4,EK H (D9 0)),(11,EK i (CH c.neg (S (c.s++BC (c.e-z))) z).1)],[Z 2 (.bx 2 G 0),Z 4 (.bx 4 H 0),Z 5 (.v (.bool false)),Z 11 (.bx 11 i 0),Z 12 (I (CH c.neg (S (c.s++BC (c.e-z))) z).2)]⟩) U ?_ ?_
 ·refine D7 [9,11,13,17,18] 6 (λ _ _ _ _ _ h=>h) U BK Ac <|FZ 9 17 U U U ?_ ?_
  ·refine AJ U call291 U U (λ _ w M l=>eY _ w Aa Aa) U <|AE U <|FZ 11 17 U U U ?_ ?_
   ·refine AP [] (λ _:Unit=>.v (str (S (c.s++BC (c.e-z))))) [] (λ _=>[]) (Fg:=λ _=>[]) (pu:=λ _=>True) U (hO:=by simp only[A]<;>omega) U C U U (λ w M j hF=>(hS (c.e-z) w (hg.low j.low) Aa Aa).mono λ e w' ⟨he,hx⟩=>⟨(),M,he,trivial,Mem.le.refl _,j.ext hx,A3⟩) λ _ _=>AE U <|FZ 13 17 U U U ?_ ?_
    ·exact AJ U call288 U U (λ _ w M l=>VE c.neg (S (c.s++BC (c.e-z))) z w (hg.low l.st.low) Aa) U <|AE U <|AK 17 U U U <|B9 11 U zeroValue46 U λ i=>AE U <|AK 18 U U U <|AE U <|BL U U U <|AT _ U U ⟨i,rfl⟩
    ·exact B9 11 U zeroValue46 U λ i=>AE U <|AK 13 U U U <|AJ U call288 U U (λ _ w M l=>VE c.neg (S (c.s++BC (c.e-z))) z w (hg.low l.st.low) Aa) U <|AE U <|AK 18 U U U <|AE U <|BL U U U <|AT _ U U ⟨i,rfl⟩
   ·exact B9 11 U zeroValue46 U λ i=>AE U <|AK 11 U U U <|AP [] (λ _:Unit=>.v (str (S (c.s++BC (c.e-z))))) [] (λ _=>[]) (Fg:=λ _=>[]) (pu:=λ _=>True) U (hO:=by simp only[A]<;>omega) U C U U (λ w M j hF=>(hS (c.e-z) w (hg.low j.low) Aa Aa).mono λ e w' ⟨he,hx⟩=>⟨(),M,he,trivial,Mem.le.refl _,j.ext hx,A3⟩) λ _ _=>AE U <|AK 13 U U U <|AJ U call288 U U (λ _ w M l=>VE c.neg (S (c.s++BC (c.e-z))) z w (hg.low l.st.low) Aa) U <|AE U <|AK 18 U U U <|AE U <|BL U U U <|AT _ U U ⟨i,rfl⟩
  ·exact B9 11 U zeroValue46 U λ i=>AE U <|AK 9 U U U <|AJ U call291 U U (λ _ w M l=>eY _ w Aa Aa) U <|AE U <|AK 11 U U U <|AP [] (λ _:Unit=>.v (str (S (c.s++BC (c.e-z))))) [] (λ _=>[]) (Fg:=λ _=>[]) (pu:=λ _=>True) U (hO:=by simp only[A]<;>omega) U C U U (λ w M j hF=>(hS (c.e-z) w (hg.low j.low) Aa Aa).mono λ e w' ⟨he,hx⟩=>⟨(),M,he,trivial,Mem.le.refl _,j.ext hx,A3⟩) λ _ _=>AE U <|AK 13 U U U <|AJ U call288 U U (λ _ w M l=>VE c.neg (S (c.s++BC (c.e-z))) z w (hg.low l.st.low) Aa) U <|AE U <|AK 18 U U U <|AE U <|BL U U U <|AT _ U U ⟨i,rfl⟩
 ·rintro _ ⟨i,rfl⟩
  refine A2 Q U U U λ w M l=>⟨?_,l.st.low⟩
  unfold N8;rw[P];rfl
end Go.Proofs.YtnoegalemkbbbaaGreatDoor
namespace Go.Eng
open Go.RowKit
theorem sB{c:Cx}{B:Exit->Act->World->Prop}{k:List Fr}{m:Md}{s:XS}(s2:XS)(h0:(⟨J0 s2.F s.F,J1 s2.H s.H,G8 (keys s2.L) s.L⟩:XS)=s2)(b:XG c B k m s2):XG c B k m s:=λ a w hs=>b a w (hs.sub (XS.MN h0))
def HU:List Nd:=[D9 0,D9 1,D9 2,D9 3]
theorem Ak0(a:Tm):len (HE a)<=2:=by
 unfold HE;split<;>simp only[AL,len_nil]<;>omega
theorem KW{α β:Type}(f:α->List β)(l:List α)(x:α):(l++[x]).flatMap f=l.flatMap f++f x:=by simp
theorem Ak1(l:List Tm):DR l=HU++l.flatMap N9++[D9 4]++l.flatMap HE:=rfl
def sC(b:Bool):List Value:=[.bool b]
end Go.Eng
namespace Go.Proofs.YtnoegalemkbbbaaGreatDoor
open Go.Proofs.Tryz
open Go.Eng
theorem Ak2{w0 w:World}{M0 M:Mem}{T:HO}{Rs:List HO}{b:Nat}{v:Value}{l:List Tm}(hg:Gl w0)(hl:(kn v 7 l C2).ok M)(hb:len l<=16777216)(hn: ∀a∈l,a.c.kind=3->QI a.c)(hs: ∀a∈l,len a.c.s<=1048576):
    SG prog 265 [.pointer (some ⟨b,0,none⟩)] (DR l).length w0 M0 (T:: .box b [v] 79::Rs)
     (λ k (_:Unit)=>[D1 (at' (DR l) (k:Int))]) (λ _ _=>True) (λ _ _=>[]) w M:=by
 intro γ ub I' J Hy V W g0 ⟨G,H,K,L,N,hx⟩ hS hF hI hy
 have hl0:=A8 l
 have hS2:St w0 M0 w M (.box b [v] 79::G g0::H g0::K g0::L g0::N g0::(T::Rs)):=by
  rw[hx]at hS
  exact hS.perm (List.perm_middle (l₁:=[G g0,H g0,K g0,L g0,N g0,T])).symm
 refine XR (Hr:=T::Rs) AF func265 rfl ntmps265 rfl (λ w h=>by obtain⟨g,M',h,_⟩:=h;cases h) [(10,kn v 7 l C2),(9,I4 (V g0))] [(0,.box b [.sl 10 v] 79),(1,.ho (G g0)),(2,.ho (H g0)),(3,.ho (K g0)),(4,.ho (L g0)),(5,.ho (N g0))] [.v (.func (.yield W) #[] #[]),.bx 0 b 0] rfl hS2 (AD hl (AD ⟨Sl.nil M 1,DO,hF⟩ A3)) (λ B hB=>BH 13 HU Nd.cells 6 46 Nd.AS U U Ah U λ u0=>?_) rfl
 refine B7 (σ:=Int×Value×List Nd) (λ(k,u,y)=>⟨[(10,kn v 7 l C2),(13,kn u 6 y Nd.cells),(9,I4 (V g0))],[(0,.box b [.sl 10 v] 79),(13,.ho (.own 46 6 u y.length (y.flatMap Nd.cells))),(1,.ho (G g0)),(2,.ho (H g0)),(3,.ho (K g0)),(4,.ho (L g0)),(5,.ho (N g0))],[Z 0 (.v (.func (.yield W) #[] #[])),Z 1 (.bx 0 b 0),Z 3 (.sl 13 u),Z 19 (.sl 10 v),Z 20 (I (len l)),Z 21 (I k)]⟩)
  (λ(k,u,y)=>0<=k/\k<=len l/\y=HU++(Eng.sub l 0 k).flatMap N9/\len y<=4+3*k) (λ(k,u,y)=>(len l-k).toNat) (0,u0,HU) U U ⟨Aa,Aa,by show HU=HU++[];rw[List.append_nil],Ab⟩ ?_
 rintro⟨k,u,y⟩ ⟨h0,h1,P,hy2⟩
 refine A1 U (λ j=>?_) (λ j=>?_)<;>simp only[zb]at j
 ·obtain⟨a,F⟩: ∃a,a=at' l k:=⟨_,rfl⟩
  have X:a∈l:=by rw[F];exact at_mem h0 j
  have D:=G0 h0 j
  rw[<-F]at D
  refine B9 50 U zeroValue113 U λ b5=>?_
  refine A1 U (λ q=>?_) (λ q=>?_)<;>simp only[zb]at q<;>rw[<-F]at q
  ·refine AX (k+1,u,y) U U ⟨Aa,Aa,?_,Aa⟩ Ag
   rw[D,KW,show N9 a=[]from by unfold N9;rw[if_neg q],List.append_nil];exact P
  have Q:a.c.kind=3:=by omega
  have hnb:=hn a X Q
  refine BH 32 [(at' l k).c] Nd.cells 6 46 Nd.AS U U Ah U λ v32=>F4 64 U U U underlying32 type46 U U Nd.cells_one (by simp only[AL,len_nil];omega) λ v1=>BH 34 [true,false] sC 1 4 (λ _=>rfl) U U Ah U λ v34=>?_
  refine B7 (σ:=Int×Value×List Nd) (λ(i,u,z)=>⟨[(10,kn v 7 l C2),(13,kn u 6 z Nd.cells),(34,kn v34 1 [true,false] sC),(9,I4 (V g0))],[(0,.box b [.sl 10 v] 79),(13,.ho (.own 46 6 u z.length (z.flatMap Nd.cells))),(50,.box b5 [I (at' l k).n,I (at' l k).c.kind,I (at' l k).c.many,.v (str (at' l k).c.name),.v (str (at' l k).c.s),.v (.bool (at' l k).c.neg),I (at' l k).c.e] 113),(1,.ho (G g0)),(2,.ho (H g0)),(3,.ho (K g0)),(4,.ho (L g0)),(5,.ho (N g0))],[Z 0 (.v (.func (.yield W) #[] #[])),Z 1 (.bx 0 b 0),Z 3 (.sl 13 u),Z 5 (.bx 50 b5 0),Z 19 (.sl 10 v),Z 20 (I (len l)),Z 21 (I k),Z 34 (.sl 34 v34),Z 35 (I 2),Z 36 (I i)]⟩)
   (λ(i,u,z)=>0<=i/\i<=2/\z=y++[a.c]++(Eng.sub [true,false] 0 i).flatMap (M6 a.c)/\len z<=5+3*k+i) (λ(i,u,z)=>(2-i).toNat) (0,v1,y++[(at' l k).c]) U U ⟨Aa,Aa,by rw[<-F];simp[Eng.sub],by rw[AO];simp only[AL,len_nil];omega⟩ ?_
  rintro⟨i,u,z⟩ ⟨hi0,hi1,C,hz2⟩
  have hl2:len [true,false]=2:=rfl
  refine A1 U (λ E=>?_) (λ E=>?_)<;>simp only[zb]at E
  ·have hs2:=G0 (l:=[true,false]) hi0 (by rw[hl2];exact E)
   refine AJ U call266 U U (λ _ w M R=>Aj9 (at' l k).c (at' [true,false] i) w (hg.low R.st.low) (by rw[<-F];exact hnb)) U <|B9 8 U zeroValue46 U λ b8=>A1 U (λ O=>?_) (λ O=>?_)
   ·refine BH 51 [(N8 (at' l k).c (at' [true,false] i)).1] Nd.cells 6 46 Nd.AS U U Ah U λ v50=>F4 64 U U U underlying32 type46 U U Nd.cells_one (by simp only[AL,len_nil];omega) λ v2=>AX (i+1,v2,z++[(N8 (at' l k).c (at' [true,false] i)).1]) U U ⟨Aa,Aa,?_,by rw[AO];simp only[AL,len_nil];omega⟩ Ag
    rw[hs2,KW,<-F,<-List.append_assoc,<-C]
    rw[<-F]at O
    unfold M6;rw[if_pos O]
   ·refine AX (i+1,u,z) U U ⟨Aa,Aa,?_,Aa⟩ Ag
    rw[hs2,KW]
    rw[<-F]at O
    rw[show M6 a.c (at' [true,false] i)=[]from by unfold M6;rw[if_neg (by rw[O];decide)],List.append_nil];exact C
  ·have hi2:i=2:=by omega
   subst hi2
   refine AX (k+1,u,z) U U ⟨Aa,Aa,?_,Aa⟩ Ag
   rw[D,KW,show N9 a=[a.c]++M6 a.c true++M6 a.c false from by unfold N9;rw[if_pos Q],C,P]
   simp[Eng.sub]
 have hke:k=len l:=by omega
 subst hke
 rw[GD (Int.le_refl _)]at P
 refine BH 56 [D9 4] Nd.cells 6 46 Nd.AS U U Ah U λ v56=>F4 64 U U U underlying32 type46 U U Nd.cells_one (by simp only[AL,len_nil];omega) λ v57=>?_
 refine B7 (σ:=Int×Value×List Nd) (λ(k,u,z)=>⟨[(10,kn v 7 l C2),(13,kn u 6 z Nd.cells),(9,I4 (V g0))],[(0,.box b [.sl 10 v] 79),(13,.ho (.own 46 6 u z.length (z.flatMap Nd.cells))),(1,.ho (G g0)),(2,.ho (H g0)),(3,.ho (K g0)),(4,.ho (L g0)),(5,.ho (N g0))],[Z 0 (.v (.func (.yield W) #[] #[])),Z 3 (.sl 13 u),Z 58 (.sl 10 v),Z 59 (I (len l)),Z 60 (I k)]⟩)
  (λ(k,u,z)=>0<=k/\k<=len l/\z=HU++l.flatMap N9++[D9 4]++(Eng.sub l 0 k).flatMap HE/\len z<=5+3*len l+2*k) (λ(k,u,z)=>(len l-k).toNat) (0,v57,y++[D9 4]) U U ⟨Aa,Aa,by rw[P];simp[Eng.sub],by rw[AO];simp only[AL,len_nil];omega⟩ ?_
 rintro⟨k,u,z⟩ ⟨hk0,hk1,C,hz2⟩
 refine A1 U (λ j=>?_) (λ j=>?_)<;>simp only[zb]at j
 ·obtain⟨a,F⟩: ∃a,a=at' l k:=⟨_,rfl⟩
  have X:a∈l:=by rw[F];exact at_mem hk0 j
  have D:=G0 hk0 j
  rw[<-F]at D
  have hsa:=hs a X
  refine B9 50 U zeroValue113 U λ b11=>?_
  refine A1 U (λ q=>?_) (λ q=>?_)<;>simp only[zb]at q<;>rw[<-F]at q
  ·refine BH 76 [(at' l k).c,⟨4,0,[],(at' l k).c.s++[0],false,0⟩] Nd.cells 6 46 Nd.AS U (hO:=by rw[<-F];simp only[AL,len_nil];and_intros<;>first|omega|trivial) U Ah U λ v76=>F4 64 U U U underlying32 type46 U U Nd.cells_one (by simp only[AL,len_nil];omega) λ v77=>AX (k+1,v77,z++[(at' l k).c,⟨4,0,[],(at' l k).c.s++[0],false,0⟩]) U U ⟨Aa,Aa,?_,by rw[AO];simp only[AL,len_nil];omega⟩ Ag
   rw[D,KW,<-List.append_assoc,<-C,<-F,show HE a=[a.c,⟨4,0,[],a.c.s++[0],false,0⟩]from by unfold HE;rw[if_pos q]]
  ·refine AX (k+1,u,z) U U ⟨Aa,Aa,?_,Aa⟩ Ag
   rw[D,KW,show HE a=[]from by unfold HE;rw[if_neg q],List.append_nil];exact C
 have hke:k=len l:=by omega
 subst hke
 rw[GD (Int.le_refl _),<-Ak1]at C
 subst C
 have hcl:len (DR l)=((DR l).length:Int):=rfl
 refine B7 (σ:=Nat×γ) (λ(k,g)=>⟨[(13,kn u 6 (DR l) Nd.cells),(9,I4 (V g))],[(0,.box b [.sl 10 v] 79),(1,.ho (G g)),(2,.ho (H g)),(3,.ho (K g)),(4,.ho (L g)),(5,.ho (N g))],[Z 0 (.v (.func (.yield W) #[] #[])),Z 79 (.sl 13 u),Z 80 (I (len (DR l))),Z 81 (I k)]⟩) (λ(k,g)=>k<=(DR l).length/\I' k g) (λ(k,g)=>(DR l).length-k) (0,g0) U U ⟨Nat.zero_le _,hI⟩ ?_
 rintro⟨k,g⟩ ⟨hk,hIk⟩
 refine A1 U (λ j=>?_) (λ j=>?_)<;>simp only[zb]at j
 ·have hk2:k<(DR l).length:=by omega
  refine B9 50 U zeroValue46 U λ b13=>CL U Ad Ae <|sB ⟨[(13,kn u 6 (DR l) Nd.cells),(9,I4 (V g))],[(0,.box b [.sl 10 v] 79),(1,.ho (G g)),(2,.ho (H g)),(3,.ho (K g)),(4,.ho (L g)),(5,.ho (N g))],[Z 0 (.v (.func (.yield W) #[] #[])),Z 79 (.sl 13 u),Z 80 (I (len (DR l))),Z 81 (I k),Z 85 (.v (.func (.yield W) #[] #[])),Z 86 (D1 (at' (DR l) (k:Int)))]⟩ U <|qB (λ A=>[(1,.ho (G A)),(2,.ho (H A)),(3,.ho (K A)),(4,.ho (L A)),(5,.ho (N A))]) ub [1,2,3,4,5] (γ:=γ) (pu:=λ g=>if ub g=true then I' (k+1) g else J g) (Fg:=λ A=>[(9,I4 (V A))]) (Hg:=Hy) [9] U U U U U (λ w' M' hS' hF' hle=>?_) (hH:=λ A=>by rw[hx];rfl) λ A S=>?_
  ·have hp:(Hy g++(T:: .box b [v] 79::Rs)).Perm (G g::H g::K g::L g::N g:: .box b [v] 79::T::Rs):=by
    rw[hx]
    exact((((((List.Perm.swap _ _ _).cons _).cons _).cons _).cons _).cons _)
   obtain⟨fn,tt',asg,bd,e1,e2⟩:=hy k g () w' M' hk2 hIk trivial (hS'.perm hp) hle (λ x h=>by cases h) (hF'.get (k:=9) rfl).more
   refine⟨fn,tt',asg,bd,e1,e2.mono λ e w2 h=>?_⟩
   obtain⟨A,M2,r1,r2,r3,r4,r5⟩:=h
   refine⟨A,M2,r1,r2,r3,?_,AD ⟨Sl.nil M2 1,DO,r5⟩ A3⟩
   exact r4.perm (List.Perm.append_left _ (List.Perm.swap _ _ _))
  ·refine A1 U (λ E=>?_) (λ E=>?_)
   ·rw[if_neg (by simpa using E)]at S
    refine A2 hB U U U λ w' M' R=>⟨A,M',rfl,.inr S,R.le,R.st.perm ?_,(R.f.get (k:=9) U).more⟩
    rw[hx]
    exact List.Perm.append_left [G A,H A,K A,L A,N A] (List.Perm.swap _ _ _)
   ·rw[if_pos (by simpa using E)]at S
    exact AX (k+1,A) U U ⟨hk2,S⟩ (by show(DR l).length-(k+1)<(DR l).length-k;omega)
 ·have Q:k=(DR l).length:=by omega
  refine U8 hB U U λ w' M' R=>⟨g,M',rfl,.inl (by rw[<-Q];exact hIk),R.le,R.st.perm ?_,(R.f.get (k:=9) U).more⟩
  rw[hx]
  exact List.perm_middle (l₁:=[G g,H g,K g,L g,N g,T])
end Go.Proofs.YtnoegalemkbbbaaGreatDoor
namespace Go.Eng
open Go.RowKit
theorem sD{α:Type}[Inhabited α]{p:α->Bool}{l:List α}{k:Nat}(n:k<l.length)(b: ∀x∈l.take k,p x=false)(h:p (at' l (k:Int))=true):l.find? p=some (at' l (k:Int)):=by
 obtain⟨h1,j⟩:=CE l (i:=(k:Int)) Aa (by unfold len;omega)
 have e:l=l.take k++(at' l (k:Int)::l.drop (k+1)):=by
  rw[j];simp
 rw[e,List.find?_append,List.find?_eq_none.2 (λ x hx=>by rw[b x hx];decide)]
 simp[h,<-e]
theorem sE{α:Type}{p:α->Bool}{l:List α}(b: ∀x∈l.take l.length,p x=false):l.find? p=none:=by
 rw[List.take_length]at b
 exact List.find?_eq_none.2 λ x hx=>by rw[b x hx];decide
theorem sF{α:Type}[Inhabited α]{p:α->Bool}{l:List α}{k:Nat}(e:k<l.length)(b: ∀x∈l.take k,p x=false)(h:p (at' l (k:Int))=false): ∀x∈l.take (k+1),p x=false:=by
 obtain⟨h1,j⟩:=CE l (i:=(k:Int)) Aa (by unfold len;omega)
 rw[j]at h
 intro x hx
 rw[List.take_add_one]at hx
 rcases List.mem_append.1 hx with hx|hx
 ·exact b x hx
 ·simp[e]at hx;subst hx;simpa using h
abbrev QJ(a:Nd):Prop:=len a.s<=1048576/\ -1048576<=a.e/\a.e<=1048576
theorem gD(neg:Bool)(s:A0)(e:Int)(h:(CH neg s e).2=0):QJ (CH neg s e).1:=by
 unfold CH at h ⊢
 split at h
 ·rw[if_pos (by assumption)]
  split at h
  ·rw[if_pos (by assumption)];exact⟨Ab,Ab,Ab⟩
  ·rw[if_neg (by assumption)]
   split at h
   ·simp at h
   ·rw[if_neg (by assumption)]
    split at h
    ·simp at h
    ·rename_i b
     rw[if_neg b]
     simp only[Bool.or_eq_true,decide_eq_true_eq,not_or]at b
     have:=A8 (BG (AW s))
     exact⟨by show len (BG (AW s))<=_;omega,by show-1048576<=e+_;omega,by show e+_<=1048576;omega⟩
 ·simp at h
theorem Ak3{l:List Tm}(j: ∀a∈l,QJ a.c)(hs: ∀a∈l,len a.c.s<=1000000): ∀x∈DR l,QJ x:=by
 have z: ∀k,QJ (D9 k):=λ k=>⟨by show len ([]:A0)<=_;decide,by show(-1048576:Int)<=0;decide,by show(0:Int)<=_;decide⟩
 have h: ∀(c:Nd) (b:Bool),∀x∈M6 c b,QJ x:=λ c b x hx=>by
  unfold M6 at hx
  split at hx
  ·rename_i n
   rw[List.mem_singleton.1 hx]
   have e:(OP c b).2=0:=by unfold N8 at n;simpa using n
   show QJ (OP c b).1
   unfold OP at e ⊢
   split at e
   ·rw[if_pos (by assumption)];exact gD _ _ _ e
   ·rw[if_neg (by assumption)];exact gD _ _ _ e
  ·cases hx
 intro x hx
 rw[DR]at hx
 simp only[List.mem_append,List.mem_cons,List.not_mem_nil,or_false,List.mem_flatMap]at hx
 rcases hx with((hx|⟨a,i,hx⟩)|hx)|⟨a,i,hx⟩
 ·rcases hx with rfl|rfl|rfl|rfl<;>exact z _
 ·unfold N9 at hx
  split at hx
  ·simp only[List.mem_append,List.mem_singleton]at hx
   rcases hx with(rfl|hx)|hx
   ·exact j a i
   ·exact h _ _ _ hx
   ·exact h _ _ _ hx
  ·cases hx
 ·rw[hx];exact z _
 ·unfold HE at hx
  split at hx
  ·simp only[List.mem_cons,List.not_mem_nil,or_false]at hx
   rcases hx with rfl|rfl
   ·exact j a i
   ·have:=hs a i
    exact⟨by show len (a.c.s++[0])<=_;rw[AO];simp only[AL,len_nil];omega,by show(-1048576:Int)<=0;decide,by show(0:Int)<=_;decide⟩
  ·cases hx
structure YZ (a:Tm):Prop where
 num:a.c.kind=3->QI a.c
 s:len a.c.s<=1000000
 e: -1048576<=a.c.e/\a.c.e<=1048576
theorem Ak4{mask:Int}{l:List Tm}{k:Nat}(e:k<(DR l).length)(b: ∀x∈(DR l).take k,N7 mask l x=false)(h:N7 mask l (at' (DR l) (k:Int))=true):IB mask l=(at' (DR l) (k:Int),true):=by
 unfold IB;rw[sD e b h]
theorem Ak5{mask:Int}{l:List Tm}(b: ∀x∈(DR l).take (DR l).length,N7 mask l x=false):IB mask l=(D9 0,false):=by
 unfold IB;rw[sE b]
end Go.Eng
namespace Go.Proofs.YtnoegalemkbbbaaGreatDoor
open Go.Proofs.Tryz
open Go.Eng
theorem Ak6{w0 i:World}{M0 M:Mem}{Rs:List HO}{v:Value}{l:List Tm}(hS:St w0 M0 i M Rs)(hl:(kn v 7 l C2).ok M):
  Calls prog 239 [v].toArray i (BF w0 M0 M Rs (λ b:Nat=>.func (.func 265) #[] #[.pointer (some ⟨b,0,none⟩)]) (λ _=>True) (λ _=>[]) λ b=>[.box b [v] 79]):=AH (Hr:=Rs) AF func239 U ntmps239 [(0,kn v 7 l C2)] [] [.sl 0 v] U hS (AD hl A3) (λ B j=>BM 1 U U U λ b=>AR (.v (.func (.func 265) #[] #[.pointer (some ⟨b,0,none⟩)])) U U (λ w M e=>PV.makeFunc (xs:=[]) (ys:=[.tmp 1]) (vs:=[]) (us:=[.pointer (some ⟨b,0,none⟩)]) trivial ⟨A7 (v:=.bx 1 b 0) (E:=[]) U,trivial⟩) <|A2 j rfl rfl rfl λ w' M' e=>⟨b,M',rfl,trivial,e.le,e.st,λ x h=>by cases h⟩) U
theorem gE{w0 N:World}{M0 M:Mem}{Rs:List HO}(mask:Int)(v:Value)(l:List Tm)(hS:St w0 M0 N M Rs)(hg:Gl w0)(hl:(kn v 7 l C2).ok M)(P:len l<=16777216)(i: ∀a∈l,YZ a)(hm:0<=mask/\mask<=31):
    Calls prog 206 [i64 mask,v].toArray N (BF w0 M0 M Rs (λ _:Unit=>.tuple #[ES (IB mask l).1,.bool (IB mask l).2]) (λ _=>True) (λ _=>[]) λ _=>[]):=by
 have H:=Ak3 (l:=l) (λ a h=>⟨by have:=(i a h).s;omega,(i a h).e.1,(i a h).e.2⟩) (λ a h=>(i a h).s)
 refine UB (Hr:=Rs) AF func206 U ntmps206 [(0,kn v 7 l C2)] [] [I mask,.sl 0 v] U hS (AD hl A3) (λ B O=>BM 2 U U U λ q=>BM 3 U U U λ z=>B9 4 U zeroValue46 U λ A=>B9 5 U zeroValue4 U λ C=>AP [] (λ b:Nat=>.v (.func (.func 265) #[] #[.pointer (some ⟨b,0,none⟩)])) [] (λ b=>[(6,.box b [.sl 0 v] 79)]) U U call239 U U (λ w M hS hF=>Ak6 hS (hF.get (k:=0) U)) λ W _=>WW [6] U U ?_) U
 refine fH (σ:=Nd×Bool) (τ:=Unit) (λ g=>⟨[(0,kn v 7 l C2)],[(2,.box q [I mask] 3),(3,.box z [.sl 0 v] 79),(4,EK A g.1),(5,.box C [.v (.bool g.2)] 4)],[Z 2 (.bx 2 q 0),Z 3 (.bx 3 z 0),Z 4 (.bx 4 A 0),Z 5 (.bx 5 C 0)]⟩)
   (λ k g=>g=(D9 0,false)/\ ∀x∈(DR l).take k,N7 mask l x=false) (λ g=>g=IB mask l) (D9 0,false)
   (λ k g y t=> ∃E,t=⟨[(0,kn v 7 l C2)],[(7,EK E (at' (DR l) (k:Int))),(2,.box q [I mask] 3),(3,.box z [.sl 0 v] 79),(4,EK A g.1),(5,.box C [.v (.bool g.2)] 4)],[Z 6 (.bx 7 E 0),Z 2 (.bx 2 q 0),Z 3 (.bx 3 z 0),Z 4 (.bx 4 A 0),Z 5 (.bx 5 C 0)]⟩)
   (λ _ _ _ _ h=>h) U U call265 U ⟨rfl,λ x hx=>by simp at hx⟩ (λ _=>rfl) ⟨_,_,_,_,λ _=>rfl⟩ (λ w M D w' F=>Ak2 hg (F.f.get (k:=0) U) P (λ a h=>(i a h).num) (λ a h=>by have:=(i a h).s;omega)) (λ _ _=>rfl)
   (λ k g y Q D r M J G hp=>?_) U (λ k g y Q D r M J G hp t R=>?_) U (λ D g a w G=>?_) (λ D g a w S=>?_)
 ·exact B9 7 U zeroValue46 U λ E=>AT _ U U ⟨E,rfl⟩
 ·obtain⟨E,rfl⟩:=R
  obtain⟨rfl,j⟩:=G
  have K:at' (DR l) (k:Int)∈DR l:=at_mem Aa (by unfold len;omega)
  exact AJ U call240 U U (λ _ w M F=>Aj2 mask v l (at' (DR l) (k:Int)) w M F.st.sat (hg.low F.st.low) (F.f.get (k:=0) U) Aa (λ a h=>⟨by have:=(i a h).s;omega,(i a h).e.1,(i a h).e.2⟩) (H _ K) hm) U <|A1 U (λ n=>V6 _ U U ⟨(at' (DR l) (k:Int),true),rfl,(Ak4 J j n).symm⟩) (λ n=>AT _ U U ⟨(D9 0,false),rfl,rfl,sF J j n⟩)
 ·obtain⟨rfl,j⟩:=G
  have e:=Ak5 j
  refine WT 8 (λ _ _ _ _ h=>h) U (s:=⟨[(0,kn v 7 l C2)],[(2,.box q [I mask] 3),(3,.box z [.sl 0 v] 79),(4,EK A (D9 0)),(5,.box C [.v (.bool false)] 4)],[Z 2 (.bx 2 q 0),Z 3 (.bx 3 z 0),Z 4 (.bx 4 A 0),Z 5 (.bx 5 C 0)]⟩) ?_ a w
  refine qC O U U U U λ w' M' L T hle=>⟨(),M',by rw[e];rfl,trivial,hle,L.drop _ (List.sublist_append_right [_,_,_,_,_] _),A3⟩
 ·rintro hs ⟨M',h1,X,V⟩
  subst S
  show B .ret (CR (IH D) a) w
  refine O.leave AF h1 hs U U λ w' h=>⟨(),M',rfl,trivial,V,h.drop _ (List.sublist_append_right [_,_,_,_,_] _),A3⟩
end Go.Proofs.YtnoegalemkbbbaaGreatDoor
namespace Go.Eng
open Go.RowKit
def VF(u:Tf):Bool:=if u.t.op=1 then(IB u.t.n (u.ps.map Tf.node)).2 else true
mutual
def VG:Tf->Bool
 | .mk t ps=>VF (.mk t ps)&&JQ ps
def JQ:List Tf->Bool
 |[]=>true
 |x::l=>VG x&&JQ l
end
def KX(x:Tf):Bool:=QB x&&VG x
theorem Ak7(a b:List Tf):JQ (a++b)=(JQ a&&JQ b):=by
 induction a with
 |nil=>simp[JQ]
 |cons x a e=>rw[List.cons_append,JQ,JQ,e,Bool.and_assoc]
theorem Ak8(u:Tf)(us:List Tf):JQ (u::us)=(VF u&&JQ (u.ps++us)):=by
 cases u with|mk t ps=>rw[JQ,VG,Ak7,Bool.and_assoc];rfl
theorem VH{o:Int}: ∀ {l:List Tf},FC o l=true-> ∀x∈l,CX x=true/\(decide (x.t.op=9)==decide (o=1))=true
 |[],_,x,hx=>by cases hx
 |y::l,h,x,hx=>by
  rw[FC]at h
  simp only[Bool.and_eq_true]at h
  obtain⟨⟨⟨⟨⟨h1,_⟩,_⟩,b⟩,_⟩,e⟩:=h
  rcases List.mem_cons.1 hx with rfl|hx
  ·exact⟨b,h1⟩
  ·exact VH e x hx
theorem VI{u:Tf}(h:CX u=true):HQ u.node=true/\FC u.t.op u.ps=true:=by
 rw[fO]at h
 simp only[Bool.and_eq_true]at h
 exact⟨h.1.1,h.1.2⟩
theorem Ak9{t:Tm}(h:HQ t=true)(ho:t.op=1):0<t.n/\t.n<=31:=by
 unfold HQ I9 at h
 rw[if_neg Aa,if_pos ho]at h
 simp only[Bool.and_eq_true,decide_eq_true_eq]at h
 exact⟨h.1.1.2,h.1.2⟩
theorem Al0{t:Tm}(h:HQ t=true)(ho:t.op=9):t.many=0/\N4 t.n t.c=true:=by
 unfold HQ I9 at h
 rw[if_neg Aa,if_neg Aa,if_pos ho]at h
 simp only[Bool.and_eq_true,beq_iff_eq]at h
 exact h.1
theorem gF{u:Tf}(h:CX u=true)(ho:u.t.op=1):(0<=u.t.n/\u.t.n<=31)/\ ∀x∈u.ps,x.ps=[]/\N4 x.t.n x.t.c=true:=by
 obtain⟨h1,j⟩:=VI h
 have e:=Ak9 h1 ho
 refine⟨⟨by have:0<u.t.n:=e.1;omega,e.2⟩,λ x hx=>?_⟩
 obtain⟨k,i⟩:=VH j x hx
 rw[ho]at i
 have b:x.t.op=9:=by simpa using i
 obtain⟨l,q⟩:=Al0 (VI k).1 b
 refine⟨?_,q⟩
 have s:len x.ps=0:=l
 exact List.eq_nil_of_length_eq_zero (by unfold len at s;omega)
theorem sG{l:List Tf}(h: ∀x∈l,x.ps=[]):AN l=l.map Tf.node:=by
 induction l with
 |nil=>rfl
 |cons x l b=>
  rw[AN,Tf.G1,h x (.head _),List.map_cons,b λ y e=>h y (.tail _ e)];rfl
theorem sH{f:Fl}{i:Int}{u:Tf}{us:List Tf}{R:Fl}(h:D8 f (i+1) (u.ps++us) R)(b: ∀x∈u.ps,x.ps=[]):Eng.sub f (i+1) (i+1+len u.ps)=u.ps.map Tf.node:=by
 have h0:=h.1
 unfold Eng.sub
 rw[h.2,J8,sG b,List.append_assoc,show(i+1+len u.ps).toNat-(i+1).toNat=(u.ps.map Tf.node).length by unfold len at*;rw[List.length_map];omega,List.take_left]
theorem Al1{c:Nd}(h:GI c=true)(b:c.kind<5): -1000<=c.e/\c.e<=1000:=by
 by_cases h3:c.kind=3
 ·have:=(s9 h h3).e;omega
 ·unfold GI JL at h
  simp only[Bool.and_eq_true]at h
  have h1:=h.1.1
  split at h1
  ·simp only[decide_eq_true_eq,Nd.mk.injEq]at h1;omega
  ·split at h1
   ·simp only[Bool.and_eq_true,decide_eq_true_eq,Nd.mk.injEq]at h1;omega
   ·split at h1
    ·omega
    ·cases h1
theorem sI{a:Tm}(h:N4 a.n a.c=true)(hs:len a.c.s<=1000000):YZ a:=by
 unfold N4 at h
 simp only[Bool.and_eq_true,decide_eq_true_eq]at h
 have:=Al1 h.2.2 h.2.1
 exact⟨λ b=>s9 h.2.2 b,hs,⟨Aa,Aa⟩⟩
end Go.Eng
namespace Go.Proofs.YtnoegalemkbbbaaGreatDoor
open Go.Proofs.Tryz
open Go.Eng
theorem sJ{w0 A:World}{M0 M:Mem}{Rs:List HO}(v:Value)(f:Fl)(i:Int)(hS:St w0 M0 A M Rs)(hl:(A6 v f).ok M)(F:len f<=16777217)(h0:0<=i)(h1:i<len f)(hm:0<=(at' f i).many)(h:i+1+(at' f i).many<=len f):
   Calls prog 207 [v,i64 i].toArray A (BF w0 M0 M Rs (λ u:Value=>u) (λ _=>True) (λ u=>[(0,kn u 7 (Eng.sub f (i+1) (i+1+(at' f i).many)) C2)]) λ _=>[]):=by
 obtain⟨z,j⟩: ∃z,z=Eng.sub f (i+1) (i+1+(at' f i).many):=⟨_,rfl⟩
 have C:len z=(at' f i).many:=by rw[j,FF Aa Aa h];omega
 rw[<-j]
 refine AH (Hr:=Rs) AF func207 U ntmps207 [(0,A6 v f)] [] [.sl 0 v,I i] U hS (AD hl A3) (λ B D=>ET (gd:=none) 19 (i+1) (i+1+(at' f i).many) U U U ⟨.i64,_,rfl,AG U⟩ ⟨.i64,_,rfl,AG U⟩ underlying25 sizeOf52 Aa U λ e=>?_) U
 rw[<-j]
 refine U6 5 5 113 7 C2 YX U <|B7 (σ:=Int×Value×Fl) (λ(k,u,y)=>⟨[(19,A6 e z),(5,kn u 7 y C2)],[(5,.ho (.own 113 7 u y.length (y.flatMap C2)))],[Z 5 (.sl 5 u),Z 19 (.sl 19 e),Z 20 (I (len z)),Z 21 (I k)]⟩) (λ(k,u,y)=>0<=k/\k<=len z/\y=Eng.sub z 0 k/\len y=k) (λ(k,u,y)=>(len z-k).toNat) (0,.slice none 0 0,[]) U U ⟨Aa,Aa,rfl,rfl⟩ ?_
 rintro⟨k,u,y⟩ ⟨l,E,n,q⟩
 refine A1 U (λ b=>?_) (λ b=>?_)<;>simp only[zb]at b
 ·exact B9 7 U zeroValue52 U λ G=>BH 31 [at' z k] C2 7 113 YX U U Ah U λ v31=>F4 72 U U U underlying79 type113 U U rN (by simp only[AL,len_nil];omega) λ v'=>AX (k+1,v',y++[at' z k]) U U ⟨Aa,Aa,by rw[n,G0 l b],by rw[AO,q];rfl⟩ Ag
 ·rw[GD Aa]at n
  subst n
  exact A2 D U U U λ w M' s=>⟨u,M',rfl,trivial,s.le,s.st.drop _ (List.sublist_cons_self _ _),AD (s.f.get (k:=5) U) A3⟩
theorem Al2{w0 wv:World}{M0 M:Mem}{Rs:List HO}(v:Value)(x:Tf)(hS:St w0 M0 wv M Rs)(hg:Gl w0)(hl:(A6 v x.flat).ok M)(hb:len x.flat<=16777217)(hsm:Q8 x.flat)(hsh: ∀t∈x.flat,len t.c.s<=1000000):
    Calls prog 175 [v].toArray wv (BF w0 M0 M Rs (λ _:Unit=>.bool (KX x)) (λ _=>True) (λ _=>[]) λ _=>[]):=by
 have hlp:=x.EW
 refine AH (Hr:=Rs) AF func175 U ntmps175 [(0,A6 v x.flat)] [] [.sl 0 v] U hS (AD hl A3) (λ B S=>AJ U call205 U U (λ _ w M q=>Ad6 v x q.st.sat (hg.low q.st.low) (q.sl 0 U) hb hsm) U <|A1 U (λ h1=>?_) (λ h1=>?_)) U
 ·exact A2 S U U U λ w M' q=>⟨(),M',by unfold KX;rw[show QB x=false by simpa using h1];rfl,trivial,q.le,q.B6 [] U,A3⟩
 have G:QB x=true:=by simpa using h1
 have hgq:KX x=VG x:=by unfold KX;rw[G,Bool.true_and]
 have hw:CX x=true:=by unfold QB at G;simp only[Bool.and_eq_true]at G;exact G.1.1
 refine B7 (σ:=Int×List Tf) (λ(i,us)=>⟨[(0,A6 v x.flat)],[],[Z 0 (.sl 0 v),Z 10 (.sl 0 v),Z 11 (I (len x.flat)),Z 12 (I i)]⟩) (λ(i,us)=>D8 x.flat i us []/\KX x=JQ us/\ ∀u∈us,CX u=true) (λ(i,us)=>(len x.flat-i).toNat) (0,[x]) U U ⟨⟨Aa,by show x.flat=(x.flat++AN [])++[];simp[AN]⟩,by rw[hgq];show _=(VG x&&true);rw[Bool.and_true],λ u hu=>by rw[List.mem_singleton.1 hu];exact hw⟩ ?_
 rintro⟨i,us⟩ ⟨H,J,T⟩
 have V:=H.1
 refine A1 U (λ O=>?_) (λ O=>?_)<;>simp only[zb]at O
 ·cases us with
  |nil=>
   exfalso
   have X:=H.2
   have h3:(x.flat.drop i.toNat).length=0:=by rw[X];rfl
   rw[List.length_drop]at h3
   unfold len at O;omega
  |cons u us=>
  obtain⟨P,hq,j⟩:=H.step
  have A:(at' x.flat i).many=len u.ps:=by rw[hq]
  have hqo:(at' x.flat i).op=u.t.op:=by rw[hq]
  have C:(at' x.flat i).n=u.t.n:=by rw[hq]
  have hpn:=A8 u.ps
  have hfl:=j.KM Aa
  rw[J8,AO]at hfl
  have hfg:=JJ u.ps
  have hfu:=A8 (AN us)
  have hfr:len ([]:Fl)=0:=rfl
  have W:=T u (.head _)
  have K: ∀z∈u.ps++us,CX z=true:=λ z L=>by
   rcases List.mem_append.1 L with L|L
   · exact(VH (VI W).2 z L).1
   · exact T z (.tail _ L)
  have y:=Ak8 u us
  refine B9 54 U zeroValue52 U λ b4=>?_
  refine A1 U (λ N=>?_) (λ N=>?_)<;>simp only[zb]at N<;>rw[hqo]at N
  ·refine AX (i+1,u.ps++us) U U ⟨j,?_,K⟩ Ag
   rw[J,y];unfold VF;rw[if_neg N,Bool.true_and]
  have Q:u.t.op=1:=by omega
  have D:=gF W Q
  have b:Eng.sub x.flat (i+1) (i+1+(at' x.flat i).many)=u.ps.map Tf.node:=by rw[A];exact sH j λ z L=>(D.2 z L).1
  have E: ∀a∈u.ps.map Tf.node,YZ a:=λ a ha=>by
   obtain⟨z,L,rfl⟩:=List.mem_map.1 ha
   refine sI (D.2 z L).2 (hsh z.node ?_)
   have X:z.node∈Eng.sub x.flat (i+1) (i+1+(at' x.flat i).many):=by rw[b];exact ha
   unfold Eng.sub at X
   exact List.mem_of_mem_drop (List.mem_of_mem_take X)
  have R:(IB (at' x.flat i).n (Eng.sub x.flat (i+1) (i+1+(at' x.flat i).many))).2=false->KX x=false:=λ h=>by
   rw[b,C]at h
   rw[J,y];unfold VF;rw[if_pos Q,h];rfl
  have F:(IB (at' x.flat i).n (Eng.sub x.flat (i+1) (i+1+(at' x.flat i).many))).2=true->KX x=JQ (u.ps++us):=λ h=>by
   rw[b,C]at h
   rw[J,y];unfold VF;rw[if_pos Q,h,Bool.true_and]
  have hml:len (u.ps.map Tf.node)=len u.ps:=by unfold len;rw[List.length_map]
  refine D7 [4,5,9,10] 5 (λ _ _ _ _ _ h=>h) U BK Ac <|FZ 4 9 U U U ?_ ?_
  ·refine AP [] (λ u:Value=>.sl 25 u) [25] (λ _=>[]) (Fg:=λ u=>[(0,kn u 7 (Eng.sub x.flat (i+1) (i+1+(at' x.flat i).many)) C2)]) U U call207 U U (λ w M l hF=>sJ v x.flat i l (hF.get (k:=0) U) hb V P (by rw[A];omega) (by rw[A];omega)) λ v25 _=>AE U <|FZ 5 9 U U U ?_ ?_
   ·exact AP [] (λ _:Unit=>.tu [D1 (IB (at' x.flat i).n (Eng.sub x.flat (i+1) (i+1+(at' x.flat i).many))).1,.v (.bool (IB (at' x.flat i).n (Eng.sub x.flat (i+1) (i+1+(at' x.flat i).many))).2)]) [] (λ _=>[]) (Fg:=λ _=>[]) U U call206 U U (λ w M l hF=>gE (at' x.flat i).n v25 (Eng.sub x.flat (i+1) (i+1+(at' x.flat i).many)) l hg (hF.get (k:=25) U) (by rw[b];omega) (by rw[b];exact E) (by rw[C];exact D.1)) λ _ _=>AE U <|AK 9 U U U <|B9 55 U zeroValue46 U λ b5=>AE U <|AK 10 U U U <|AE U <|BL U U U <|A1 U (λ e=>A2 S U U U λ w M' q=>⟨(),M',by rw[R (by simpa using e)];rfl,trivial,q.le,q.B6 [] U,A3⟩) (λ e=>AX (i+1,u.ps++us) U U ⟨j,F (by simpa using e),K⟩ Ag)
   ·exact B9 55 U zeroValue46 U λ b5=>AE U <|AK 5 U U U <|AP [] (λ _:Unit=>.tu [D1 (IB (at' x.flat i).n (Eng.sub x.flat (i+1) (i+1+(at' x.flat i).many))).1,.v (.bool (IB (at' x.flat i).n (Eng.sub x.flat (i+1) (i+1+(at' x.flat i).many))).2)]) [] (λ _=>[]) (Fg:=λ _=>[]) U U call206 U U (λ w M l hF=>gE (at' x.flat i).n v25 (Eng.sub x.flat (i+1) (i+1+(at' x.flat i).many)) l hg (hF.get (k:=25) U) (by rw[b];omega) (by rw[b];exact E) (by rw[C];exact D.1)) λ _ _=>AE U <|AK 10 U U U <|AE U <|BL U U U <|A1 U (λ e=>A2 S U U U λ w M' q=>⟨(),M',by rw[R (by simpa using e)];rfl,trivial,q.le,q.B6 [] U,A3⟩) (λ e=>AX (i+1,u.ps++us) U U ⟨j,F (by simpa using e),K⟩ Ag)
  ·exact B9 55 U zeroValue46 U λ b5=>AE U <|AK 4 U U U <|AP [] (λ u:Value=>.sl 25 u) [25] (λ _=>[]) (Fg:=λ u=>[(0,kn u 7 (Eng.sub x.flat (i+1) (i+1+(at' x.flat i).many)) C2)]) U U call207 U U (λ w M l hF=>sJ v x.flat i l (hF.get (k:=0) U) hb V P (by rw[A];omega) (by rw[A];omega)) λ v25 _=>AE U <|AK 5 U U U <|AP [] (λ _:Unit=>.tu [D1 (IB (at' x.flat i).n (Eng.sub x.flat (i+1) (i+1+(at' x.flat i).many))).1,.v (.bool (IB (at' x.flat i).n (Eng.sub x.flat (i+1) (i+1+(at' x.flat i).many))).2)]) [] (λ _=>[]) (Fg:=λ _=>[]) U U call206 U U (λ w M l hF=>gE (at' x.flat i).n v25 (Eng.sub x.flat (i+1) (i+1+(at' x.flat i).many)) l hg (hF.get (k:=25) U) (by rw[b];omega) (by rw[b];exact E) (by rw[C];exact D.1)) λ _ _=>AE U <|AK 10 U U U <|AE U <|BL U U U <|A1 U (λ e=>A2 S U U U λ w M' q=>⟨(),M',by rw[R (by simpa using e)];rfl,trivial,q.le,q.B6 [] U,A3⟩) (λ e=>AX (i+1,u.ps++us) U U ⟨j,F (by simpa using e),K⟩ Ag)
 ·have hun:us=[]:=by
   cases us with
   |nil=>rfl
   |cons u us=>obtain⟨P,_⟩:=H.step;omega
  subst hun
  exact A2 S U U U λ w M' q=>⟨(),M',by rw[J];rfl,trivial,q.le,q.B6 [] U,A3⟩
end Go.Proofs.YtnoegalemkbbbaaGreatDoor
namespace Go.Eng
open Go.RowKit
def AQ(f:Tf):List Tf:=f.ps.map (Tf.named [])
def IT(n:Int)(c:Nd):Tf:=.mk { AV 9 with n:=n,c:=c} []
def KC(n:A0)(g:Tf->Tf):List Tf->List Tf
 |[]=>[]
 |y::l=>if y.t.name=n then g y::l else y::KC n g l
def FD(a:Tf):List Sp->Tf->Tf
 |[],x=>.mk x.t (x.ps++[a])
 |s::p,x=>.mk x.t (KC s.name (FD a p) x.ps)
def DN:Tf->Int->Tf->Bool->PR Tf
 | .mk x [],i,t,h=>if(B1 (BZ x.s).1 t).2=true then .ok (FD (IT (if h=true then x.n else IA x.n) x.c) (BZ x.s).1 t) 0 else .er i 5
 | .mk x [a],i,t,h=>DN a (i+1) t (!h)
 | .mk x (a::b::_),i,t,h=>if decide (x.op=17)≠h then .er i 4 else(DN a (i+1) t h).bind λ y _=>DN b (i+1+a.size) y h
def KY(g:Tf->PR Tf):List Tf->PR (List Tf)
 |[]=>.ok [] 0
 |x::l=>(g x).bind λ y _=>(KY g l).bind λ r _=>.ok (y::r) 0
def CN:List A0->List Tf->List Tf
 |n::ns,x::l=>x.named n::CN ns l
 |_,l=>l
def CK(t:Tm)(ns:List A0)(l:List Tf):Tf:=.mk t (CN ns l)
def IU(im:Tf->Int->Tf->PR Tf)(g:Tf)(i:Int)(t:Tf):PR Tf:=(KY (λ x=>im g i x) (AM t)).bind λ l _=>.ok (CK { AV t.t.op with n:=t.t.n} (BA t) l) 0
def SR:Tf:=.mk (AV 0) []
def Al3(s:A0):Tf:=.mk { AV 1 with s:=s} []
def CJ(g:Tf)(i:Int):Tf×Tf×Int:=if g.t.op=4 then(at' (AQ g) 0,at' (AQ g) 1,i+1)else(g,SR,i)
def SS(im:Tf->Int->Tf->PR Tf)(g:Tf)(i:Int)(t:Tf):PR Tf:=
 (DN (at' (AQ (CJ g i).1) 0) ((CJ g i).2.2+1) t true).bind λ u _=>if KX u=true then im (CJ g i).2.1 ((CJ g i).2.2+(CJ g i).1.size) u else .er (CJ g i).2.2 6
abbrev IC:A0:=[107,101,121]
abbrev ER:A0:=[118,97,108,117,101]
def FU(v:Tf)(s:A0):Bool:=decide ((v.named []).flat=(Al3 s).flat)
def GK(v:Tf)(i:Int):Tf×Int:=
 if FU v ER=true then(SR,i)
 else if v.t.op=4/\FU (at' v.ps 0) ER=true then(at' (AQ v) 1,i+2)else(default,-1)
def DI(g:Tf):Tf×Int:=
 if g.t.op≠8\/len g.ps≠2 then(default,-1)
 else if(at' g.ps 0).t.name=IC/\(at' g.ps 1).t.name=ER then(if FU (at' g.ps 0) IC=true then GK (at' g.ps 1) (1+(at' g.ps 0).size)else(default,-1))
 else if(at' g.ps 0).t.name=ER/\(at' g.ps 1).t.name=IC then(if FU (at' g.ps 1) IC=true then GK (at' g.ps 0) 1 else(default,-1))
 else(default,-1)
def KZ(g:Tf):Bool:=decide (g.t.op=7)||(decide (g.t.op=4)&&decide ((at' g.ps 0).t.op=7))
def HV(im:Tf->Int->Tf->PR Tf)(g:Tf)(i:Int)(t:Tf):PR Tf:=
 if t.t.op=5 then(if KZ g=true then(SS im g (i+1) (at' (AM t) 0)).bind λ y _=>.ok (.mk (AV 5) [y]) 0 else IU im g (i+1) t)
 else if t.t.op=4 then IU im g (i+1) t
 else if t.t.op=6 then(if 0<=(DI g).2 then IU im (DI g).1 (i+1+(DI g).2) t else .er i 1)
 else .er i 1
def ID(p q:List Sp):Bool:=decide (p.take q.length≠q.take p.length)
def M8(im:Tf->Int->Tf->PR Tf)(t:Tf):List Tf->Int->List (List Sp)->PR (List Tf)
 |[],_,_=>.ok [] 0
 |x::r,i,seen=>(im (x.named []) i t).bind λ y _=>if seen.any (λ q=> !ID (D2 x.flat) q)then .er i 3 else(M8 im t r (i+x.size) (seen++[D2 x.flat])).bind λ ys _=>.ok (y::ys) 0
def QK(im:Tf->Int->Tf->PR Tf)(f:Tf)(i:Int)(t:Tf):PR Tf:=
 (M8 im t f.ps (i+1) []).bind λ l _=>.ok (if f.t.op=9 then .mk (AV 4) l else .mk (AV 2) (LV (CN (f.ps.map λ x=>x.t.name) l))) 0
def M9(ns:List A0)(n:A0):Int:=if n∈ns then BP ns n else-1
def HW(i:Int):List Sp->Tf->PR Tf
 |[],t=>.er i 1
 |s::p,t=>if t.t.op≠2 then .er i 1 else if s.name ∉ BA t then .er i 2
  else if p=[]then(if t.t.n≠0 then .er i 1 else .ok (.mk t.t (t.ps.eraseIdx (BP (BA t) s.name).toNat)) 0)
  else(HW i p (at' (AM t) (BP (BA t) s.name))).bind λ y _=>.ok (.mk t.t (t.ps.set (BP (BA t) s.name).toNat (y.named s.name))) 0
def L0(x:Tm)(i:Int)(t:Tf):PR Tf:=
 if t.t.op≠5 then .er i 1 else if(B1 (BZ x.s).1 (at' (AM t) 0)).2=true then .ok (.mk { AV (if x.op=12 then 8 else 7)with s:=x.s} (AM t)) 0 else .er i 5
def JC(x:Tm)(i:Int)(l:List Tf):PR Tf:=
 if(x.op=2/\len l<=x.n)\/(x.op=3/\len l<x.n)then .er i 2
 else if x.op=2 then .ok (at' l x.n) 0
 else .ok (.mk (AV 4) (if x.op=3 then l.drop x.n.toNat else l.reverse)) 0
def JR(x:Tm)(i:Int)(t:Tf):PR Tf:=
 if x.op=1 then(if t.t.op=2 then(if x.s∈BA t then .ok (at' (AM t) (BP (BA t) x.s)) 0 else .er i 2)else .er i 1)
 else if x.op=2\/x.op=3\/x.op=14 then(if t.t.op=4 then JC x i (AM t)else if t.t.op=5/\x.op≠2 then .ok t 0 else .er i 1)
 else if x.op=10 then(if t.t.op=3 then .ok (.mk (AV 6) (AM t)) 0 else .er i 1)
 else if x.op=11 then(if t.t.op=6 then .ok (.mk (AV 3) (AM t)) 0 else .er i 1)
 else .er i 1
def VJ(im:Tf->Int->Tf->PR Tf)(f:Tf)(i:Int)(t:Tf):PR Tf:=
 if f.t.op=0 then .ok t 0
 else if f.t.op=4 then(im (at' (AQ f) 0) (i+1) t).bind λ y _=>im (at' (AQ f) 1) (i+1+(at' (AQ f) 0).size) y
 else if f.t.op=5 then HV im (at' (AQ f) 0) i t
 else if f.t.op=6 then(if t.t.n=0/\(t.t.op=5\/t.t.op=3\/t.t.op=4\/t.t.op=2)then IU im (at' (AQ f) 0) (i+1) t else .er i 1)
 else if f.t.op=7 then .er i 4
 else if f.t.op=8\/f.t.op=9 then QK im f i t
 else if f.t.op=12\/f.t.op=13 then L0 f.t i t
 else if f.t.op=15 then(if(BZ f.t.s).1=[]\/(BZ f.t.s).1.any Sp.part=true then .er i 5 else HW i (BZ f.t.s).1 t)
 else JR f.t i t
def CO:Nat->Tf->Int->Tf->PR Tf
 |0,_,i,_=>.er i 0
 |n+1,f,i,t=>VJ (CO n) f i t
mutual
def hF:Tf->Nat
 | .mk t ps=>if t.op=4 then hP ps else if t.op=7 then 1+AB ps else 1+hS ps
def hP:List Tf->Nat
 |[]=>1
 |x::l=>hF x*hP l
def hS:List Tf->Nat
 |[]=>0
 |x::l=>hF x+hS l
end
theorem Al4{t:Tm}(h:DH t=true)(ho:t.op=4\/t.op=17\/t.op=18):t.many=2:=by
 unfold DH at h
 rw[if_neg Aa,if_neg Aa,if_neg Aa,if_pos ho]at h
 simpa using(Bool.and_eq_true_iff.1 h).2
theorem Al5{t:Tm}(h:DH t=true)(ho:t.op=5\/t.op=6\/t.op=7\/t.op=19):t.many=1:=by
 unfold DH at h
 rw[if_neg Aa,if_neg Aa,if_neg Aa,if_neg Aa,if_pos ho]at h
 simpa using(Bool.and_eq_true_iff.1 h).2
theorem VK{t:Tm}(h:DH t=true)(ho:t.op=16):t.many=0/\OD t.s=true/\(0<=t.n/\t.n<=5)/\YP t.c=true:=by
 unfold DH at h
 rw[if_neg Aa,if_neg Aa,if_neg Aa,if_neg Aa,if_neg Aa,if_neg Aa,if_neg Aa,if_pos ho]at h
 simp only[Bool.and_eq_true,decide_eq_true_eq]at h
 exact⟨h.1.1.1.1.2,h.1.1.1.2,⟨h.1.1.2,h.1.2⟩,h.2⟩
theorem gG{t:Tm}(h:DH t=true)(ho:t.op=2\/t.op=3):t.many=0/\0<=t.n/\t.n<=1000000:=by
 unfold DH at h
 rw[if_neg Aa,if_neg Aa,if_pos ho]at h
 simp only[Bool.and_eq_true,decide_eq_true_eq]at h
 exact⟨h.1.1.2,h.1.2,h.2⟩
theorem gH{l:List Tf}(h:len l=2): ∃a b,l=[a,b]:=by
 match l,h with
 |[a,b],_=>exact⟨a,b,rfl⟩
 |[],h=>simp[len]at h
 |[a],h=>simp[len]at h
 |_::_::_::_,h=>simp[len]at h;omega
theorem sK{l:List Tf}(h:len l=1): ∃a,l=[a]:=by
 match l,h with
 |[a],_=>exact⟨a,rfl⟩
 |[],h=>simp[len]at h
 |_::_::_,h=>simp[len]at h;omega
theorem Tf.B3.two {f:Tf}(h:f.B3)(ho:f.t.op=4\/f.t.op=17\/f.t.op=18): ∃a b,f.ps=[a,b]:=gH (Al4 h.plain ho)
theorem Tf.B3.one {f:Tf}(h:f.B3)(ho:f.t.op=5\/f.t.op=6\/f.t.op=7\/f.t.op=19): ∃a,f.ps=[a]:=sK (Al5 h.plain ho)
theorem JD(f:Tf):hF f=if f.t.op=4 then hP f.ps else if f.t.op=7 then 1+AB f.ps else 1+hS f.ps:=by cases f;rw[hF];rfl
theorem KD(f:Tf)(h:f.B3):1<=hF f:=by
 have: ∀(n:Nat) (f:Tf),f.size<=n->f.B3->1<=hF f:=by
  intro n
  induction n with
  |zero=>intro f h;have:=f.size_pos;omega
  |succ n i=>
   intro f k hg
   have hs:=f.size_eq
   rw[JD]
   split
   ·rename_i ho
    obtain⟨a,b,e⟩:=hg.two (.inl ho)
    rw[e]at hs ⊢
    rw[AB,AB,AB]at hs
    have h1:=i a Aa (hg.kids a (by rw[e];simp))
    have j:=i b Aa (hg.kids b (by rw[e];simp))
    rw[hP,hP,hP,Nat.mul_one]
    exact Nat.mul_le_mul h1 j
   ·split<;>omega
 exact this f.size f (Nat.le_refl _) h
def QL(t:Tm)(ps:List Tf):Bool:=(!decide (t.op=1)||ps.all (λ x=>x.ps.isEmpty))&&(!(decide (t.op=3)||decide (5<=t.op/\t.op<=8))||decide (len ps=1))
mutual
def B8:Tf->Bool
 | .mk t ps=>QL t ps&&SU ps
def SU:List Tf->Bool
 |[]=>true
 |x::l=>B8 x&&SU l
end
theorem VL: ∀ {l:List Tf},SU l=true↔ ∀x∈l,B8 x=true
 |[]=>by simp[SU]
 |x::l=>by rw[SU,Bool.and_eq_true,VL];simp
theorem Z0(t:Tf):B8 t=(QL t.t t.ps&&SU t.ps):=by cases t;rw[B8];rfl
theorem B8.kids {t:Tf}(h:B8 t=true): ∀x∈t.ps,B8 x=true:=by
 rw[Z0,Bool.and_eq_true]at h;exact VL.1 h.2
theorem B8.one {t:Tf}(h:B8 t=true)(ho:t.t.op=3\/(5<=t.t.op/\t.t.op<=8)): ∃a,t.ps=[a]:=by
 rw[Z0,Bool.and_eq_true]at h
 have h1:=h.1
 unfold QL at h1
 simp only[Bool.and_eq_true,Bool.or_eq_true,Bool.not_eq_true',decide_eq_true_eq,decide_eq_false_iff_not,Bool.or_eq_false_iff]at h1
 rcases h1.2 with b|b
 ·omega
 ·exact sK b
theorem B8.leaf {t:Tf}(h:B8 t=true)(ho:t.t.op=1): ∀x∈t.ps,x.ps=[]:=by
 rw[Z0,Bool.and_eq_true]at h
 have h1:=h.1
 unfold QL at h1
 simp only[Bool.and_eq_true,Bool.or_eq_true,Bool.not_eq_true',decide_eq_false_iff_not,List.all_eq_true,List.isEmpty_iff]at h1
 exact h1.1.resolve_left (λ h=>h ho)
theorem Z1(n:A0)(x:Tf):B8 (x.named n)=B8 x:=by cases x;unfold Tf.named;rw[B8,B8];rfl
theorem MA{t:Tm}{ps:List Tf}(h1:t.op≠1)(b:(t.op=3\/(5<=t.op/\t.op<=8))->len ps=1)(h: ∀x∈ps,B8 x=true):B8 (.mk t ps)=true:=by
 rw[B8,Bool.and_eq_true,VL]
 refine⟨?_,h⟩
 unfold QL
 simp only[Bool.and_eq_true,Bool.or_eq_true,Bool.not_eq_true',decide_eq_true_eq,decide_eq_false_iff_not,Bool.or_eq_false_iff]
 refine⟨.inl h1,?_⟩
 by_cases h3:t.op=3\/(5<=t.op/\t.op<=8)
 ·exact .inr (b h3)
 ·exact .inl ⟨Aa,Aa⟩
def JE(x:Fl):Prop:= ∀t∈x,len t.name<=100/\len t.s<=100/\len t.c.s<=100
def AU(x:Tf):Prop:=JE x.flat
theorem JE.app {a b:Fl}(e:JE a)(h:JE b):JE (a++b):=λ t i=>(List.mem_append.1 i).elim (e t) (h t)
theorem IE(x:Tf):AU x↔(len x.t.name<=100/\len x.t.s<=100/\len x.t.c.s<=100)/\ ∀y∈x.ps,AU y:=by
 have j: ∀l:List Tf,JE (AN l)↔ ∀y∈l,AU y:=by
  intro l
  induction l with
  |nil=>exact⟨λ _ y e=>absurd e (by simp),λ _ t b=>absurd b (by simp[AN])⟩
  |cons x l k=>
   constructor
   ·intro h y e
    have h1:JE x.flat:=λ t b=>h t (List.mem_append_left _ b)
    have i:JE (AN l):=λ t b=>h t (List.mem_append_right _ b)
    rcases List.mem_cons.1 e with rfl|e
    ·exact h1
    ·exact k.1 i y e
   ·intro h
    exact JE.app (h x (.head _)) (k.2 λ y e=>h y (.tail _ e))
 constructor
 ·intro h
  unfold AU at h
  rw[Tf.FG]at h
  have h0:=h _ (.head _)
  exact⟨h0,(j _).1 λ t b=>h t (.tail _ b)⟩
 ·rintro⟨h1,i⟩
  unfold AU
  rw[Tf.FG]
  intro t b
  rcases List.mem_cons.1 b with rfl|b
  ·exact h1
  ·exact(j _).2 i t b
theorem Tf.gI (n:A0)(x:Tf):(x.named n).t= { x.t with name:=n}:=by cases x;rfl
theorem AU.root {x:Tf}(h:AU x):len x.t.name<=100/\len x.t.s<=100/\len x.t.c.s<=100:=((IE x).1 h).1
theorem AU.kids {x:Tf}(h:AU x): ∀y∈x.ps,AU y:=((IE x).1 h).2
theorem AU.named {x:Tf}(h:AU x){n:A0}(b:len n<=100):AU (x.named n):=by
 refine(IE _).2 ⟨⟨by rw[Tf.gI];exact b,by rw[Tf.gI];exact h.root.2⟩,by rw[Tf.fC];exact h.kids⟩
theorem PR.K5 {α β:Type}{r:PR α}{k:α->Int->PR β}{y:β}{j:Int}(h:r.bind k= .ok y j): ∃x i,r= .ok x i/\k x i= .ok y j:=by
 cases r with
 |er e p=>cases h
 |ok x i=>exact⟨x,i,rfl,h⟩
theorem PR.HF {α:Type}{x y:α}{i j:Int}(h:(PR.ok x i:PR α)= .ok y j):x=y:=by cases h;rfl
theorem Al6(n:A0)(l:List Tf):AB (l.map (Tf.named n))=AB l:=by
 induction l with
 |nil=>rfl
 |cons x l b=>rw[List.map_cons,AB,AB,b,Tf.G2]
theorem QM: ∀(ns:List A0) (l:List Tf),AB (CN ns l)=AB l
 |[],l=>by cases l<;>rfl
 |_::_,[]=>rfl
 |n::ns,x::l=>by rw[CN,AB,AB,QM ns l,Tf.G2]
theorem gJ: ∀(ns:List A0) (l:List Tf),len (CN ns l)=len l
 |[],l=>by cases l<;>rfl
 |_::_,[]=>rfl
 |n::ns,x::l=>by rw[CN,AL,AL,gJ ns l]
theorem Z2: ∀ {ns:List A0} {l:List Tf} {y:Tf},y∈CN ns l-> ∃x∈l,y=x\/ ∃n∈ns,y=x.named n
 |[],l,y,h=>by
  have:y∈l:=by cases l<;>exact h
  exact⟨y,this,.inl U⟩
 |_::_,[],y,h=>by cases h
 |n::ns,x::l,y,h=>by
  rw[CN]at h
  rcases List.mem_cons.1 h with rfl|h
  ·exact⟨x,.head _,.inr ⟨n,.head _,rfl⟩⟩
  ·obtain⟨z,b,i⟩:=Z2 h
   refine⟨z,.tail _ b,i.imp id ?_⟩
   rintro⟨m,hm,e⟩;exact⟨m,.tail _ hm,e⟩
theorem VM{a b:List Tf}(h:a.Perm b):AB a=AB b:=by
 induction h with
 |nil=>rfl
 |cons x _ e=>rw[AB,AB,e]
 |swap x y l=>rw[AB,AB,AB,AB];omega
 |trans _ _ h1 i=>rw[h1,i]
structure Im (y:Tf) (n:Nat):Prop where
 size:y.size<=n
 ar:B8 y=true
 sh:AU y
theorem MB{t:Tf}(e:B8 t=true)(hs:AU t):AB (AM t)<=AB t.ps/\ ∀x∈AM t,B8 x=true/\AU x:=by
 unfold AM
 split
 ·exact⟨Nat.zero_le _,λ x hx=>by cases hx⟩
 ·refine⟨by rw[Al6];exact Nat.le_refl _,λ x hx=>?_⟩
  obtain⟨z,b,rfl⟩:=List.mem_map.1 hx
  exact⟨by rw[Z1];exact(B8.kids e) z b,(hs.kids z b).named (by show len ([]:A0)<=_;decide)⟩
theorem sL(n:A0)(g:Tf->Tf): ∀l:List Tf,(KC n g l).length=l.length
 |[]=>rfl
 |y::l=>by unfold KC;split<;>simp[sL n g l]
theorem sM{n:A0}{g:Tf->Tf}{k:Nat}(hg: ∀x,(g x).size<=x.size+k): ∀l:List Tf,AB (KC n g l)<=AB l+k
 |[]=>Nat.zero_le _
 |y::l=>by
  unfold KC
  have h1:=hg y
  have b:=sM (n:=n) hg l
  split<;>rw[AB,AB]<;>omega
theorem sN(a:Tf): ∀(p:List Sp) (t:Tf),(FD a p t).size<=t.size+a.size
 |[],t=>by unfold FD;rw[Tf.size_eq,t.size_eq];show 1+AB (t.ps++[a])<=_;rw[I7,AB,AB];omega
 |s::p,t=>by
  unfold FD
  rw[Tf.size_eq,t.size_eq]
  show 1+AB (KC s.name (FD a p) t.ps)<=_
  have:=sM (n:=s.name) (sN a p) t.ps
  omega
theorem gK{s:Sp}{p:List Sp}{t:Tf}(h:(B1 (s::p) t).2=true):t.t.op=2/\s.part=false/\B1 (s::p) t=EJ t.ps 1 s.name (B1 p):=by
 unfold B1 at h
 split at h
 ·cases h
 ·rename_i h1
  have b:s.part=false:=by cases hs:s.part with|false=>rfl|true=>exact absurd (.inr hs) h1
  have e:t.t.op=2:=Decidable.byContradiction λ i=>h1 (.inl i)
  exact⟨e,b,by rw[B1,if_neg h1]⟩
theorem gL{n:A0}{g:Tf->Tf}{F:Tf->Int×Bool}{P:Tf->Prop}(hg: ∀x,(F x).2=true->P x->P (g x)): ∀ {l:List Tf} {o:Int},(EJ l o n F).2=true->(∀x∈l,P x)-> ∀y∈KC n g l,P y
 |[],_,h,_,y,b=>by cases b
 |x::l,o,h,hP,y,b=>by
  unfold EJ at h
  unfold KC at b
  split at h<;>rename_i e
  ·rw[if_pos e]at b
   split at h<;>rename_i i
   ·rcases List.mem_cons.1 b with rfl|b
    ·exact hg x i (hP x (.head _))
    ·exact hP y (.tail _ b)
   ·cases h
  ·rw[if_neg e]at b
   rcases List.mem_cons.1 b with rfl|b
   ·exact hP _ (.head _)
   ·exact gL hg h (λ z j=>hP z (.tail _ j)) y b
theorem sO{a:Tf}(h0:a.ps=[])(e:B8 a=true): ∀(p:List Sp) (t:Tf),(B1 p t).2=true->B8 t=true->B8 (FD a p t)=true
 |[],t,h,b=>by
  have ho:t.t.op=1:=of_decide_eq_true h
  unfold FD
  rw[B8,Bool.and_eq_true,VL]
  refine⟨?_,λ x hx=>?_⟩
  ·unfold QL
   simp only[Bool.and_eq_true,Bool.or_eq_true,Bool.not_eq_true',decide_eq_false_iff_not,List.all_eq_true,List.isEmpty_iff,Bool.or_eq_false_iff]
   refine⟨.inr λ x hx=>?_,.inl ⟨Aa,Aa⟩⟩
   rcases List.mem_append.1 hx with hx|hx
   ·exact(B8.leaf b) ho x hx
   ·rw[List.mem_singleton.1 hx];exact h0
  ·rcases List.mem_append.1 hx with hx|hx
   ·exact(B8.kids b) x hx
   ·rw[List.mem_singleton.1 hx];exact e
 |s::p,t,h,b=>by
  obtain⟨h1,j,i⟩:=gK h
  rw[i]at h
  unfold FD
  exact MA Aa Aa (gL (P:=λ x=>B8 x=true) (λ x hx hP=>sO h0 e p x hx hP) h (B8.kids b))
theorem sP{a:Tf}(e:AU a): ∀(p:List Sp) (t:Tf),(B1 p t).2=true->AU t->AU (FD a p t)
 |[],t,h,b=>by
  unfold FD
  refine(IE _).2 ⟨b.root,λ x hx=>?_⟩
  rcases List.mem_append.1 hx with hx|hx
  ·exact b.kids x hx
  ·rw[List.mem_singleton.1 hx];exact e
 |s::p,t,h,b=>by
  obtain⟨h1,j,i⟩:=gK h
  rw[i]at h
  unfold FD
  exact(IE _).2 ⟨b.root,gL (P:=AU) (λ x hx hP=>sP e p x hx hP) h b.kids⟩
theorem Al7(a:Tf)(p:List Sp)(t:Tf):(FD a p t).t=t.t:=by cases p<;>rfl
theorem Al8{n:Int}{c:Nd}(h:len c.s<=100):(IT n c).size=1/\B8 (IT n c)=true/\AU (IT n c):=by
 refine⟨rfl,MA (by show ¬(9:Int)=1;decide) (λ h=>absurd h (by show ¬((9:Int)=3\/(5<=(9:Int)/\(9:Int)<=8));omega)) (λ x hx=>by cases hx),(IE _).2 ⟨⟨?_,?_,h⟩,λ x hx=>by cases hx⟩⟩<;>(show len ([]:A0)<=_;decide)
theorem OR: ∀(p:Tf) {i:Int} {t:Tf} {h:Bool} {y:Tf} {j:Int},DN p i t h= .ok y j->AU p->B8 t=true->AU t->Im y (t.size+p.size)/\y.t=t.t
 | .mk x [],i,t,h,y,j,he,hp,e,hs=>by
  unfold DN at he
  split at he
  ·rename_i hl
   have:=PR.HF he
   subst this
   obtain⟨h1,q,w⟩:=Al8 (n:=if h=true then x.n else IA x.n) hp.root.2.2
   refine⟨⟨?_,sO U q _ t hl e,sP w _ t hl hs⟩,Al7 _ _ _⟩
   have:=sN (IT (if h=true then x.n else IA x.n) x.c) (BZ x.s).1 t
   exact Nat.le_trans this (Nat.le_of_eq (congrArg (t.size+ ·) h1))
  ·cases he
 | .mk x [a],i,t,h,y,j,he,hp,e,hs=>by
  unfold DN at he
  obtain⟨h1,q⟩:=OR a he (hp.kids a (.head _)) e hs
  exact⟨⟨by have:=h1.size;rw[Tf.size,AB,AB];omega,h1.ar,h1.sh⟩,q⟩
 | .mk x (a::b::l),i,t,h,y,j,he,hp,e,hs=>by
  unfold DN at he
  split at he
  ·cases he
  ·obtain⟨u,k,h1,q⟩:=PR.K5 he
   obtain⟨w,A⟩:=OR a h1 (hp.kids a (.head _)) e hs
   obtain⟨z,B⟩:=OR b q (hp.kids b (.tail _ (.head _))) w.ar w.sh
   refine⟨⟨?_,z.ar,z.sh⟩,B.trans A⟩
   have:=w.size
   have:=z.size
   rw[Tf.size,AB,AB];omega
theorem sQ{g:Tf->PR Tf}{h:Nat}: ∀ {l:List Tf} {ys:List Tf} {j:Int},KY g l= .ok ys j->(∀x∈l,∀y j,g x= .ok y j->Im y (x.size*h))->ys.length=l.length/\AB ys<=AB l*h/\ ∀y∈ys,B8 y=true/\AU y
 |[],ys,j,he,_=>by
  have:=PR.HF he
  subst this
  exact⟨rfl,Nat.zero_le _,λ y i=>by cases i⟩
 |x::l,ys,j,he,hg=>by
  unfold KY at he
  obtain⟨y,k,h1,n⟩:=PR.K5 he
  obtain⟨zs,m,q,s⟩:=PR.K5 n
  have:=PR.HF s
  subst this
  have e:=hg x (.head _) y k h1
  obtain⟨w,B,A⟩:=sQ q λ z b=>hg z (.tail _ b)
  refine⟨by simp[w],?_,λ z b=>?_⟩
  ·rw[AB,AB,Nat.add_mul];have:=e.size;omega
  ·rcases List.mem_cons.1 b with rfl|b
   ·exact⟨e.ar,e.sh⟩
   ·exact A z b
abbrev OS(im:Tf->Int->Tf->PR Tf)(g:Tf):Prop:= ∀i t y j,im g i t= .ok y j->B8 t=true->AU t->Im y (t.size*hF g)
theorem Al9{s h:Nat}(b:1<=h):1+s*h<=(1+s)*h:=by rw[Nat.add_mul];omega
theorem sR{t:Tf}(h:AU t): ∀n∈BA t,len n<=100:=by
 unfold BA
 split
 ·intro n b;cases b
 ·intro n b
  obtain⟨x,hx,rfl⟩:=List.mem_map.1 b
  exact(h.kids x hx).root.1
theorem VN{l:Tf->Int->Tf->PR Tf}{g:Tf}{i:Int}{t y:Tf}{j:Int}(hg:OS l g)(h1:1<=hF g)(ho:t.t.op≠1)(he:IU l g i t= .ok y j)(q:B8 t=true)(hs:AU t):Im y (t.size*hF g):=by
 unfold IU at he
 obtain⟨ys,k,B,C⟩:=PR.K5 he
 have:=PR.HF C
 subst this
 obtain⟨D,w⟩:=MB q hs
 obtain⟨E,J,A⟩:=sQ (h:=hF g) B λ x hx y j F=>hg i x y j F (w x hx).1 (w x hx).2
 have b:len (CN (BA t) ys)=len t.ps:=by rw[gJ];unfold len;rw[E,NA ho,List.length_map]
 unfold CK
 refine⟨?_,MA ho (λ G=>?_) (λ z b=>?_),(IE _).2 ⟨?_,λ z b=>?_⟩⟩
 ·rw[Tf.size_eq,t.size_eq]
  show 1+AB (CN (BA t) ys)<=_
  rw[QM]
  have:=Nat.mul_le_mul_right (hF g) D
  have:=Al9 (s:=AB t.ps) h1
  omega
 ·obtain⟨a,e⟩:=(B8.one q) G
  rw[b,e];rfl
 ·obtain⟨x,hx,e⟩:=Z2 b
  have:=(A x hx).1
  rcases e with rfl|⟨n,_,rfl⟩
  ·exact this
  ·rw[Z1];exact this
 ·refine⟨?_,?_,?_⟩<;>(show len ([]:A0)<=_;decide)
 ·obtain⟨x,hx,e⟩:=Z2 b
  have:=(A x hx).2
  rcases e with rfl|⟨n,H,rfl⟩
  ·exact this
  ·exact this.named (sR hs n H)
inductive LS:A0->List Tk->Prop
 |nil:LS [] []
 |blank {c:UInt8} {r:A0} {u:List Tk}:LO c=true->LS r u->LS (c::r) u
 |tok {w r:A0} {t:Tk} {u:List Tk}:w≠[]->C1 (w++r)=(t,len w,0)->LS r u->LS (w++r) (t::u)
def MC(r:A0):Prop:=r=[]\/ ∃c r',r=c::r'/\K7 (c.toNat:Int)=true
theorem MC.stop {r:A0}(h:MC r):Stop [] r:=by
 rcases h with h|⟨c,r',rfl,h⟩
 ·exact .inl h
 ·exact .inr (.inl ⟨by simp,by rw[FT];exact h⟩)
theorem BE3{c:UInt8}{r:A0}(h:K7 (c.toNat:Int)=true):MC (c::r):=.inr ⟨c,r,rfl,h⟩
theorem LS.of {t:Tk}(h:HH t=true)(hp:t.pos=0){r:A0}{u:List Tk}(i:MC r)(hl:LS r u):LS (RU t++r) (t::u):=by
 obtain⟨h1,b⟩:=AS3 h (r:=[]) (.inl rfl)
 have:=eG (v':=r) b h1 i.stop
 have e: { t with pos:=0}=t:=by cases t;simp only at hp;subst hp;rfl
 rw[e]at this
 exact .tok b this hl
theorem LS.mark {c:UInt8}(b:c∈([40,41,91,93,123,125,58,44,124]:A0)){r:A0}{u:List Tk}(hl:LS r u):LS (c::r) (VA [c] 0::u):=
 .tok (w:=[c]) (by simp) (Ad7 b r) hl
def nwR(r:A0):Prop:= ∀c r',r=c::r'->CF (c.toNat:Int) false=false/\c≠34
theorem MC.nw {r:A0}(h:MC r):nwR r:=by
 intro c r' e
 rcases h with h|⟨c2,b,rfl,h⟩
 ·rw[h]at e;cases e
 ·obtain⟨rfl,rfl⟩:=List.cons.inj e
  have:=eF h
  refine⟨o5 h,λ e=>?_⟩
  subst e;exact this.2 rfl
def Am1(s:A0):Tk:=⟨3,s,C3,0⟩
theorem Z3{s:A0}(h:FK s=true):s≠[]/\ ∀j:Int,0<=j->j<len s->CF (A4 s j) (j==0)=true:=UW.1 h
theorem LS.field {s r:A0}{u:List Tk}(hs:DJ s=true)(i: ∀c r',r=c::r'->CF (c.toNat:Int) false=false)(hl:LS r u):LS ((46::EV s)++r) (Am1 s::u):=by
 refine .tok (by simp) ?_ hl
 unfold EV
 by_cases h:FK s=true
 ·rw[if_pos h]
  obtain⟨h1,j⟩:=Z3 h
  have hw:=rD h1 j i
  unfold C1
  rw[List.cons_append,FT,UZ,hw,if_pos ⟨rfl,h1⟩,AL,Int.add_comm];rfl
 ·rw[if_neg h,<-Y2 hs]
  have k:=eQ hs r
  obtain⟨q,b⟩:=YM s
  have hw:BD (DZ s++r)=[]:=by rw[b];exact KP (by rw[List.cons_append,FT];rfl)
  have e:Lib.hasPrefix (DZ s++r) [34]=true:=by rw[b];rfl
  unfold C1
  rw[List.cons_append,FT,UZ,hw,if_neg (λ x=>x.2 U),if_pos ⟨rfl,e⟩,k,AL,Int.add_comm];rfl
theorem LS.text {s r:A0}{u:List Tk}(hs:DJ s=true)(b:MC r)(hl:LS r u):LS (MW s++r) (⟨4,s,C3,0⟩::u):=by
 have:=LS.of (t:=⟨4,s,C3,0⟩) (by unfold HH;simp[hs]) U b hl
 rw[show RU ⟨4,s,C3,0⟩=DZ s from rfl,Y2 hs]at this;exact this
theorem LS.num {c:Nd}{r:A0}{u:List Tk}(b:IZ c=true)(e:MC r)(hl:LS r u):LS (I3 c++r) (⟨5,[],c,0⟩::u):=by
 have:=LS.of (t:=⟨5,[],c,0⟩) (by unfold HH;simp[b]) U e hl
 exact this
theorem LS.word {s r:A0}{u:List Tk}(hs:FK s=true)(b:MC r)(hl:LS r u):LS (s++r) (VB s 0::u):=by
 have:=LS.of (t:=VB s 0) (by unfold HH VB;simp[hs]) U b hl
 exact this
theorem LS.sign {s r:A0}{u:List Tk}(hs:s∈XJ)(b:MC r)(hl:LS r u):LS (s++r) (VA s 0::u):=by
 have key: ∀s∈XJ,HH (VA s 0)=true:=by decide+kernel
 have:=LS.of (t:=VA s 0) (key s hs) U b hl
 exact this
theorem Am2: ∀(n:Int),0<=n->CG (Lib.itoa n)=n/\CD (Lib.itoa n)/\Lib.itoa n≠[]/\(0<n->A4 (Lib.itoa n) 0≠48)/\(n<10->len (Lib.itoa n)=1):=by
 intro n
 induction h:n.toNat using Nat.strongRecOn generalizing n with
 |_ m k=>
  intro h0
  have hs:=cQ h0
  have hd:toStr [48+n%10]=[UInt8.ofNat (48+n%10).toNat]:=cP _ _ U
  have i:((UInt8.ofNat (48+n%10).toNat).toNat:Int)=48+n%10:=K8 Aa Aa
  have j:CS (UInt8.ofNat (48+n%10).toNat)=true:=by unfold CS C5;rw[i];simp;omega
  rw[hd]at hs
  by_cases h10:10<=n
  ·rw[if_pos h10]at hs
   obtain⟨g1,g2,g3,g4,g5⟩:=k (n/10).toNat Aa (n/10) rfl Aa
   rw[hs]
   refine⟨?_,g2.app (λ b e=>by rw[List.mem_singleton.1 e];exact j),by simp,λ _=>?_,λ h=>by omega⟩
   ·rw[Q3,g1,i];omega
   ·rw[I5 (Int.le_refl 0) (GL g3)];exact g4 Aa
  ·rw[if_neg h10,List.nil_append]at hs
   rw[hs]
   refine⟨?_,λ b e=>by rw[List.mem_singleton.1 e];exact j,by simp,λ hp=>?_,λ _=>rfl⟩
   ·show CG ([]++[_])=n
    rw[Q3,i,show CG []=0 from rfl];omega
   ·rw[FT,i];omega
theorem Am3{n:Int}(h0:0<=n)(h1:n<=1000000):len (Lib.itoa n)<=7:=by
 have step: ∀k:Int,0<=k->len (Lib.itoa k)=(if 10<=k then len (Lib.itoa (k/10))else 0)+1:=λ k b=>by
  rw[cQ b,AO]
  have:len (toStr [48+k%10])=1:=rfl
  rw[this];split<;>rfl
 rw[step n h0];split
 ·rw[step _ Aa];split
  ·rw[step _ Aa];split
   ·rw[step _ Aa];split
    ·rw[step _ Aa];split
     ·rw[step _ Aa];split
      ·rw[step _ Aa];split
       ·omega
       ·omega
      ·omega
     ·omega
    ·omega
   ·omega
  ·omega
 ·omega
abbrev gM(m:A0):Tk:=VA m 0
abbrev Z4(m:A0):Tk:=VB m 0
def BE4(c:Nd):Tk:=if c.kind=0 then Z4 UP else if c.kind=1 then Z4 UO else if c.kind=2 then Z4 UN else if c.kind=3 then⟨5,[],c,0⟩else⟨4,c.s,C3,0⟩
end Go.Eng
