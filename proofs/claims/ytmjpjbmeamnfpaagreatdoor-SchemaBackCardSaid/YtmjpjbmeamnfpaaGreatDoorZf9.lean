/- Lemmas for the card. -/
import Derived.Test.YtmjpjbmeamnfpaaGreatDoorZf8
set_option linter.unusedVariables false
set_option linter.unusedSimpArgs false
namespace Go.Eng
open Go.RowKit
theorem k8{k:Int}(h:0<=k):BB (k+1)=48::BB k:=by unfold BB;rw[show(k+1).toNat=k.toNat+1 from by omega,List.replicate_succ]
theorem aV{k:Int}(h:0<=k):BB (k+1)=BB k++[48]:=by unfold BB;rw[show(k+1).toNat=k.toNat+1 from by omega,List.replicate_succ']
theorem aW{s:A1}{p:Int}(c:UInt8):((A2 s p).toNat.toUInt8=c)↔A2 s p=(c.toNat:Int):=by
 unfold A2
 rw[Int.toNat_natCast,<-UInt8.toNat_inj]
 simp;omega
theorem aX(x:UInt8): ¬0<=Lib.indexByte [] x:=by unfold Lib.indexByte;decide
theorem aY(c x:UInt8)(l:List UInt8):0<=Lib.indexByte (c::l) x↔c=x\/0<=Lib.indexByte l x:=by
 have hm: ∀l:List UInt8,-1<=Lib.indexByte l x:=by
  intro l
  induction l with
  |nil=>unfold Lib.indexByte;decide
  |cons a l ih=>unfold Lib.indexByte;(repeat' split)<;>omega
 have:=hm l
 rw[Lib.indexByte]
 by_cases h:c=x
 ·rw[if_pos (by simpa using h)];exact⟨λ _=>.inl h,λ _=>Int.le_refl _⟩
 ·rw[if_neg (by simpa using h)]
  by_cases h2:Lib.indexByte l x= -1
  ·rw[if_pos (by simpa using h2)];exact⟨λ h3=>by omega,λ h3=>h3.elim (λ h4=>absurd h4 h) (λ h4=>by omega)⟩
  ·rw[if_neg (by simpa using h2)];exact⟨λ _=>.inr (by omega),λ _=>by omega⟩
theorem RX{s:A1}{c:UInt8}{p:Int}:BK s [c] p=true↔p<len s/\A2 s p=(c.toNat:Int):=by
 unfold BK
 simp only[Bool.and_eq_true,decide_eq_true_eq,aY,aX,or_false]
 rw[<-aW c,eq_comm (a:=c)]
theorem k9{s:A1}{c d:UInt8}{p:Int}:BK s [c,d] p=true↔p<len s/\(A2 s p=(c.toNat:Int)\/A2 s p=(d.toNat:Int)):=by
 unfold BK
 simp only[Bool.and_eq_true,decide_eq_true_eq,aY,aX,or_false]
 rw[<-aW c,<-aW d,eq_comm (a:=c),eq_comm (a:=d)]
def KF(s:A1):Int×Int×Bool:=
 let a:Int:=if 0<len s/\A2 s 0=45 then 1 else 0
 if AI s a=a then(a,a,false)else if A2 s a=48 then(a,a+1,true)else(a,AI s a,true)
def F3(s:A1)(i:Int):Int×A1×Int:=
 if i=len s\/ ¬(A2 s i=101\/A2 s i=69)then(0,[],i)
 else if i+1<len s/\(A2 s (i+1)=43\/A2 s (i+1)=45)then
  (if A2 s (i+1)=45 then-1 else 1,Eng.sub s (i+1+1) (AI s (i+1+1)),AI s (i+1+1))
 else(1,Eng.sub s (i+1) (AI s (i+1)),AI s (i+1))
def GP(s:A1)(fg:A1)(e:Int)(i:Int):Nd×Int×Int:=
 let p:=F3 s i
 if p.2.2<len s\/(p.1≠0/\p.2.1=[])then(B2,p.2.2,1)
 else if 6<len (AT p.2.1)then(B2,0,2)
 else((EL (A2 s 0==45) fg (e+p.1*BA (AT p.2.1))).1,0,(EL (A2 s 0==45) fg (e+p.1*BA (AT p.2.1))).2)
def TO(s:A1):Nd×Int×Int:=
 let wh:=KF s
 if wh.2.2=false then(B2,wh.1,1)
 else if wh.2.1<len s/\A2 s wh.2.1=46 then
  if AI s (wh.2.1+1)=wh.2.1+1 then(B2,AI s (wh.2.1+1),1)
  else GP s (Eng.sub s wh.1 wh.2.1++Eng.sub s (wh.2.1+1) (AI s (wh.2.1+1))) (wh.2.1+1-AI s (wh.2.1+1)) (AI s (wh.2.1+1))
 else GP s (Eng.sub s wh.1 wh.2.1) 0 wh.2.1
theorem RY{α:Type}{s:List α}{i j:Int}(h0:0<=i)(h1:i<=j)(h2:j<=len s):Eng.sub s i j=[]↔j=i:=by
 constructor
 ·intro h
  have:=FB h0 h1 h2
  rw[h,len_nil]at this;omega
 ·rintro rfl;unfold Eng.sub;simp
theorem PQ{s:A1}{i j k:Int}(h0:0<=i)(h1:0<=k)(h2:i+k<j)(h3:j<=len s):A2 (Eng.sub s i j) k=A2 s (i+k):=by
 unfold A2 Eng.sub
 rw[List.getD_eq_getElem?_getD,List.getElem?_take,if_pos (by omega),List.getElem?_drop,<-List.getD_eq_getElem?_getD,show i.toNat+k.toNat=(i+k).toNat from by omega]
theorem aZ{s fg:A1}{x b c2 side:Int}{pw:A1}(hp:F3 s b=(side,pw,c2))(h0:side≠0):GP s fg x b=if pw=[]\/c2<len s then(B2,c2,1)else G6 (A2 s 0==45) fg x pw side:=by
 unfold GP G6
 rw[hp]
 dsimp only
 by_cases c3:pw=[]\/c2<len s
 ·rw[if_pos c3,if_pos (by rcases c3 with c3|c3;exact .inr ⟨h0,c3⟩;exact .inl c3)]
 ·rw[if_neg c3,if_neg (by rintro(c4|⟨_,c4⟩);exact c3 (.inr c4);exact c3 (.inl c4))]
theorem kA{s:A1}{neg:Bool}{fg:A1}{x b:Int}(hneg:neg=(A2 s 0==45))(h0:0<=b)(h1:b<=len s):
  FN s neg fg x b=GP s fg x b:=by
 subst hneg
 have e1:= @k9 s 101 69 b
 have e2:= @RX s 45 (b+1)
 have e3:= @RX s 43 (b+1)
 simp only[show((101:UInt8).toNat:Int)=101 from rfl,show((69:UInt8).toNat:Int)=69 from rfl,show((45:UInt8).toNat:Int)=45 from rfl,show((43:UInt8).toNat:Int)=43 from rfl]at e1 e2 e3
 unfold FN
 by_cases c1:BK s [101,69] b=true
 ·have c1':=e1.1 c1
  have hn0: ¬(b=len s\/ ¬(A2 s b=101\/A2 s b=69)):=by rintro(h|h);omega;exact h c1'.2
  rw[if_pos c1,P8 c1]
  unfold O9
  by_cases c2:BK s [45] (b+1)=true
  ·have c2':=e2.1 c2
   have hp:F3 s b=(-1,Eng.sub s (b+1+1) (AI s (b+1+1)),AI s (b+1+1)):=by
    unfold F3;rw[if_neg hn0,if_pos ⟨c2'.1,.inr c2'.2⟩,if_pos c2'.2]
   rw[aZ hp (by decide),P8 c2]
   simp only[c2,if_true]
  ·rw[N7 (by simpa using c2)]
   by_cases c4:BK s [43] (b+1)=true
   ·have c4':=e3.1 c4
    have hp:F3 s b=(1,Eng.sub s (b+1+1) (AI s (b+1+1)),AI s (b+1+1)):=by
     unfold F3;rw[if_neg hn0,if_pos ⟨c4'.1,.inl c4'.2⟩,if_neg (by omega)]
    rw[aZ hp (by decide),P8 c4]
    simp only[c2,Bool.false_eq_true,if_false]
   ·rw[N7 (by simpa using c4)]
    have hn: ¬(b+1<len s/\(A2 s (b+1)=43\/A2 s (b+1)=45)):=by
     rintro⟨h2,h3|h3⟩
     ·exact c4 (e3.2 ⟨h2,h3⟩)
     ·exact c2 (e2.2 ⟨h2,h3⟩)
    have hp:F3 s b=(1,Eng.sub s (b+1) (AI s (b+1)),AI s (b+1)):=by
     unfold F3;rw[if_neg hn0,if_neg hn]
    rw[aZ hp (by decide)]
    simp only[c2,Bool.false_eq_true,if_false]
 ·have hn:b=len s\/ ¬(A2 s b=101\/A2 s b=69):=by
   by_cases h:b=len s
   ·exact .inl h
   ·exact .inr λ h2=>c1 (e1.2 ⟨by omega,h2⟩)
  have hp:F3 s b=(0,[],b):=by unfold F3;rw[if_pos hn]
  rw[if_neg c1,N7 (by simpa using c1)]
  unfold GP G6
  rw[hp]
  dsimp only
  by_cases c3:b<len s
  ·rw[if_pos c3,if_pos (.inl c3)]
  ·rw[if_neg c3,if_neg (show ¬(b<len s\/((0:Int)≠0/\([]:A1)=[]))from by rintro(h|h);exact c3 h;exact h.1 rfl)]
   simp only[show AT []=[]from rfl,len_nil,show ¬((6:Int)<0)from by decide,if_false,show BA []=0 from rfl,Int.mul_zero]
theorem kB{s:A1}{a:Int}(ha:B3 s [45] 0=a):BW s=
 if 1<len (Eng.sub s a (AI s a))/\A2 (Eng.sub s a (AI s a)) 0=48 then(B2,a+1,1)
 else if Eng.sub s a (AI s a)=[]then(B2,AI s a,1)
 else if BK s [46] (AI s a)then
  if Eng.sub s (B3 s [46] (AI s a)) (AI s (B3 s [46] (AI s a)))=[]then(B2,AI s (B3 s [46] (AI s a)),1)
  else FN s (BK s [45] 0) (Eng.sub s a (AI s a)++Eng.sub s (B3 s [46] (AI s a)) (AI s (B3 s [46] (AI s a)))) (-(len (Eng.sub s (B3 s [46] (AI s a)) (AI s (B3 s [46] (AI s a)))))) (AI s (B3 s [46] (AI s a)))
 else FN s (BK s [45] 0) (Eng.sub s a (AI s a)) 0 (B3 s [46] (AI s a)):=by subst ha;rfl
theorem b9{s:A1}{a b:Int}(hw:KF s=(a,b,true)):TO s=
  if b<len s/\A2 s b=46 then
   if AI s (b+1)=b+1 then(B2,AI s (b+1),1)
   else GP s (Eng.sub s a b++Eng.sub s (b+1) (AI s (b+1))) (b+1-AI s (b+1)) (AI s (b+1))
  else GP s (Eng.sub s a b) 0 b:=by
 unfold TO;rw[hw];simp only[Bool.true_eq_false,if_false]
theorem kC{s:A1}{a b:Int}{neg:Bool}(hneg:neg=(A2 s 0==45))(h0:0<=a)(h1:a<=b)(h2:b<=len s):
  (if BK s [46] b then
   if Eng.sub s (B3 s [46] b) (AI s (B3 s [46] b))=[]then(B2,AI s (B3 s [46] b),1)
   else FN s neg (Eng.sub s a b++Eng.sub s (B3 s [46] b) (AI s (B3 s [46] b))) (-(len (Eng.sub s (B3 s [46] b) (AI s (B3 s [46] b))))) (AI s (B3 s [46] b))
  else FN s neg (Eng.sub s a b) 0 (B3 s [46] b))=
  if b<len s/\A2 s b=46 then
   if AI s (b+1)=b+1 then(B2,AI s (b+1),1)
   else GP s (Eng.sub s a b++Eng.sub s (b+1) (AI s (b+1))) (b+1-AI s (b+1)) (AI s (b+1))
  else GP s (Eng.sub s a b) 0 b:=by
 have h46:= @RX s 46 b
 simp only[show((46:UInt8).toNat:Int)=46 from rfl]at h46
 by_cases c3:BK s [46] b=true
 ·have c3':=h46.1 c3
  rw[if_pos c3,if_pos c3',P8 c3]
  have hb2:=KQ s (b+1) (by omega) (by omega)
  have hnil2:=RY (s:=s) (i:=b+1) (j:=AI s (b+1)) (by omega) hb2.1 hb2.2
  by_cases c4:AI s (b+1)=b+1
  ·rw[if_pos c4,if_pos (hnil2.2 c4)]
  ·rw[if_neg c4,if_neg (λ h=>c4 (hnil2.1 h))]
   rw[kA hneg (by omega) hb2.2,FB (by omega) hb2.1 hb2.2]
   congr 1;omega
 ·rw[if_neg c3,if_neg (λ h=>c3 (h46.2 h)),N7 (by simpa using c3)]
  rw[kA hneg (by omega) (by omega)]
theorem yY(s:A1):TO s=BW s:=by
 have h45:= @RX s 45 0
 simp only[show((45:UInt8).toNat:Int)=45 from rfl]at h45
 have hl:=A4 s
 have hneg:BK s [45] 0=(A2 s 0==45):=by
  rw[Bool.eq_iff_iff,h45,beq_iff_eq]
  refine⟨λ h=>h.2,λ h=>⟨?_,h⟩⟩
  rcases Int.lt_or_le 0 (len s)with h2|h2
  ·exact h2
  ·have:s=[]:=by cases s with|nil=>rfl|cons a l=>rw[A6]at h2;have:=A4 l;omega
   subst this;revert h;decide
 have ha:(if 0<len s/\A2 s 0=45 then(1:Int)else 0)=B3 s [45] 0:=by
  unfold B3
  by_cases c:BK s [45] 0=true
  ·rw[if_pos c,if_pos (h45.1 c)];rfl
  ·rw[if_neg c,if_neg (λ h=>c (h45.2 h))]
 have hab:=O8 s [45] 0 hl
 generalize hA:B3 s [45] 0=a at*
 have hw:KF s=if AI s a=a then(a,a,false)else if A2 s a=48 then(a,a+1,true)else(a,AI s a,true):=by unfold KF;simp only[ha]
 have hb:=KQ s a hab.1 hab.2
 have hnil:=RY hab.1 hb.1 hb.2
 have hfl:=FB hab.1 hb.1 hb.2
 rw[kB hA]
 by_cases c0:AI s a=a
 ·rw[if_pos c0]at hw
  have hs:=hnil.2 c0
  rw[hs,if_neg (by rw[len_nil];omega),if_pos U,c0]
  unfold TO;rw[hw];rfl
 ·rw[if_neg c0]at hw
  have hs: ¬Eng.sub s a (AI s a)=[]:=λ h=>c0 (hnil.1 h)
  have hb0:A2 (Eng.sub s a (AI s a)) 0=A2 s a:=by rw[PQ hab.1 (by omega) (by omega) hb.2,Int.add_zero]
  by_cases c1:A2 s a=48
  ·rw[if_pos c1]at hw
   by_cases c2:1<len (Eng.sub s a (AI s a))
   ·have hfig:= @gK s a (a+1) hab.1 (by omega) (by omega)
    unfold BG at hfig
    simp only[Bool.and_eq_true,decide_eq_true_eq]at hfig
    have hp:F3 s (a+1)=(0,[],a+1):=by unfold F3;rw[if_pos (.inr (by omega))]
    rw[if_pos ⟨c2,by rw[hb0,c1]⟩,b9 hw,if_neg (by omega)]
    unfold GP;rw[hp];dsimp only
    rw[if_pos (.inl (by omega))]
   ·have he:AI s a=a+1:=by omega
    rw[he]at c2 hs hb
    rw[he,if_neg (λ h=>c2 h.1),if_neg hs,kC hneg hab.1 (by omega) (by omega),b9 hw]
  ·rw[if_neg c1]at hw
   rw[if_neg (λ h=>c1 (by rw[<-hb0];exact h.2)),if_neg hs,kC hneg hab.1 (by omega) (by omega),b9 hw]
theorem yZ{s:A1}{i:Int}(h0:0<=i)(h1:i<=len s):(-1<=(F3 s i).1/\(F3 s i).1<=1)/\(0<=len (F3 s i).2.1/\len (F3 s i).2.1<=len s)/\(i<=(F3 s i).2.2/\(F3 s i).2.2<=len s)/\ ∀b∈(F3 s i).2.1,C5 b=true:=by
 unfold F3
 split
 ·refine⟨by dsimp only;omega,⟨Int.le_refl _,A4 s⟩,by dsimp only;omega,by intro b hb;cases hb⟩
 ·rename_i hn
  have hlt:i<len s:=by
   rcases Int.lt_or_le i (len s)with h|h
   ·exact h
   ·exact absurd (.inl (by omega)) hn
  split
  ·rename_i h2
   have hr:=KQ s (i+1+1) (by omega) (by omega)
   refine⟨by dsimp only;split<;>omega,HB _ _ _,by dsimp only;omega,SN (by omega)⟩
  ·have hr:=KQ s (i+1) (by omega) (by omega)
   refine⟨by dsimp only;omega,HB _ _ _,by dsimp only;omega,SN (by omega)⟩
theorem z6{t:A1}(h: ∀b∈t,C5 b=true)(hl:len t<=6)(k:Int):0<=BA (Eng.sub t 0 k)/\BA (Eng.sub t 0 k)<1000000:=by
 have h1:=V9 (Eng.sub t 0 k) 0 (λ b hb=>h b ((List.take_sublist _ _).subset hb|>λ x=>by simpa using x)) (by omega)
 have h2:=HB t 0 k
 have h3:(10:Int)^ (Eng.sub t 0 k).length<=10^6:=by
  have:(10:Nat)^ (Eng.sub t 0 k).length<=10^6:=Nat.pow_le_pow_right (by omega) (by unfold len at*;omega)
  exact_mod_cast this
 unfold BA;omega
theorem z7(s:A1):0<=(KF s).1/\(KF s).1<=len s/\(KF s).1<=(KF s).2.1/\(KF s).2.1<=len s/\((KF s).2.2=true->0<len s):=by
 have hl:=A4 s
 have key: ∀a:Int,0<=a->a<=len s->(let w:=if AI s a=a then(a,a,false)else if A2 s a=48 then(a,a+1,true)else(a,AI s a,true);0<=w.1/\w.1<=len s/\w.1<=w.2.1/\w.2.1<=len s/\(w.2.2=true->0<len s)):=by
  intro a h0 h1
  have hr:=KQ s a h0 h1
  dsimp only
  split
  ·exact⟨h0,h1,Int.le_refl _,h1,λ h=>by cases h⟩
  ·split
   ·refine⟨h0,h1,?_,?_,λ _=>?_⟩<;>(try dsimp only)<;>omega
   ·refine⟨h0,h1,?_,?_,λ _=>?_⟩<;>(try dsimp only)<;>omega
 unfold KF
 exact key _ (by split<;>omega) (by split<;>omega)
theorem z8(s:A1):0<=(BW s).2.1/\(BW s).2.1<=len s/\((BW s).2.2=0\/(BW s).2.2=1\/(BW s).2.2=2\/(BW s).2.2=4):=by
 have hmk: ∀(neg:Bool) (fg:A1) (x:Int),(EL neg fg x).2=0\/(EL neg fg x).2=2\/(EL neg fg x).2=4:=by
  intro neg fg x;unfold EL;(repeat' split)<;>simp
 have hw:=z7 s
 have hl:=A4 s
 have hx: ∀(fg:A1) (e i:Int),0<=i->i<=len s->0<=(GP s fg e i).2.1/\(GP s fg e i).2.1<=len s/\((GP s fg e i).2.2=0\/(GP s fg e i).2.2=1\/(GP s fg e i).2.2=2\/(GP s fg e i).2.2=4):=by
  intro fg e i h0 h1
  have hp:=yZ h0 h1
  unfold GP
  dsimp only
  split
  ·exact⟨by dsimp only;omega,by dsimp only;omega,.inr (.inl U)⟩
  ·split
   ·exact⟨Int.le_refl _,hl,.inr (.inr (.inl U))⟩
   ·refine⟨Int.le_refl _,hl,?_⟩
    dsimp only
    have:=hmk (A2 s 0==45) fg (e+(F3 s i).1*BA (AT (F3 s i).2.1))
    rcases this with h|h|h<;>rw[h]<;>simp
 rw[<-yY]
 unfold TO
 dsimp only
 split
 ·exact⟨by dsimp only;omega,by dsimp only;omega,.inr (.inl U)⟩
 ·split
  ·rename_i h2
   have hr:=KQ s ((KF s).2.1+1) (by omega) (by omega)
   split
   ·exact⟨by dsimp only;omega,by dsimp only;omega,.inr (.inl U)⟩
   ·exact hx _ _ _ (by omega) (by omega)
  ·exact hx _ _ _ (by omega) (by omega)
def HH(e:Int×Int):A1×Int:=if e.2=0 then([],0)else(toStr (Lib.encodeRuneZ e.1),e.2)
def F4(s:A1)(i:Int):A1×Int:=if A2 s i=92 then HH (AW (A3 s i))else(Eng.sub s i (i+rune s i),rune s i)
def ML(f:Nat)(s:A1)(i:Int)(o:A1):Prop:= ∃acc,o=toStr acc/\DL f s i acc=AH s
theorem WM(a b:List Int):toStr (a++b)=toStr a++toStr b:=List.map_append
theorem IT{s:A1}{i:Int}(h0:0<=i)(h1:i<len s){c:Int}(hc:c<128):AO s i=c↔A2 s i=c:=by
 rcases LX h0 h1 with⟨_,h2,_,h3⟩|⟨_,_,_,_,h2,h3⟩<;>omega
theorem kD{s:A1}{i:Int}(h0:0<=i)(h1:i<len s){c:Int}(hc:c<=128):AO s i<c↔A2 s i<c:=by
 rcases LX h0 h1 with⟨_,h2,_,h3⟩|⟨_,_,_,_,h2,h3⟩<;>omega
theorem WN{s:A1}{i:Int}(h0:0<=i)(h1:i<len s):rune s i=0↔(AO s i=65533/\runeLen s i=1):=by
 rcases LX h0 h1 with⟨h2,h3,h4,_⟩|⟨h2,h3,h4,_,_⟩
 ·exact⟨λ _=>⟨h3,h4⟩,λ _=>h2⟩
 ·exact⟨λ h=>by omega,λ h=>absurd h h4⟩
theorem ML.quote {f:Nat}{s o:A1}{i:Int}(h:ML f s i o)(hf:(len s-i).toNat<=f)(h0:0<=i)(h1:i<len s)(h2:A2 s i=34):AH s=(o,i+1,0):=by
 obtain⟨acc,rfl,h⟩:=h
 rw[<-h,KS hf h1,if_pos (by rw[QY s i h0,IT h0 h1 (by decide)];exact h2)]
theorem ML.bad {f:Nat}{s o:A1}{i:Int}(h:ML f s i o)(hf:(len s-i).toNat<=f)(h0:0<=i)(h1:i<len s)(h2: ¬A2 s i=34)(h3:(F4 s i).2=0\/A2 s i<32):AH s=([],i,1):=by
 obtain⟨acc,rfl,h⟩:=h
 rw[<-h,KS hf h1,QY s i h0,PA s i h0,if_neg (by rw[IT h0 h1 (by decide)];exact h2)]
 unfold F4 HH at h3
 by_cases h4:A2 s i=92
 ·rw[if_pos (by rw[IT h0 h1 (by decide)];exact h4)]
  rw[if_pos h4]at h3
  have:(AW (A3 s i)).2=0:=by
   rcases h3 with h3|h3
   ·split at h3
    ·assumption
    ·exact h3
   ·omega
  rw[if_pos this]
 ·rw[if_neg (by rw[IT h0 h1 (by decide)];exact h4)]
  rw[if_neg h4]at h3
  dsimp only at h3
  rw[if_pos]
  rcases h3 with h3|h3
  ·exact .inr ((WN h0 h1).1 h3)
  ·exact .inl ((kD h0 h1 (by decide)).2 h3)
theorem ML.step {f:Nat}{s o:A1}{i:Int}(h:ML f s i o)(hf:(len s-i).toNat<=f)(h0:0<=i)(h1:i<len s)(h2: ¬A2 s i=34)(h3: ¬((F4 s i).2=0\/A2 s i<32)):
  ML (f-1) s (i+(F4 s i).2) (o++(F4 s i).1):=by
 obtain⟨acc,rfl,h⟩:=h
 rw[KS hf h1,QY s i h0,PA s i h0,if_neg (by rw[IT h0 h1 (by decide)];exact h2)]at h
 unfold F4 HH at*
 by_cases h4:A2 s i=92
 ·rw[if_pos (by rw[IT h0 h1 (by decide)];exact h4)]at h
  rw[if_pos h4]at h3 ⊢
  by_cases h5:(AW (A3 s i)).2=0
  ·rw[if_pos h5]at h3;exact absurd (.inl U) h3
  ·rw[if_neg h5]at h ⊢
   exact⟨_,(WM _ _).symm,h⟩
 ·rw[if_neg (by rw[IT h0 h1 (by decide)];exact h4)]at h
  rw[if_neg h4]at h3 ⊢
  dsimp only at h3 ⊢
  rw[if_neg]at h
  ·rcases LX h0 h1 with⟨h5,_⟩|⟨_,h5,_,h6,_⟩
   ·exact absurd (.inl h5) h3
   ·rw[h5]at h
    exact⟨_,by rw[WM,h6],h⟩
  ·rintro(h5|h5)
   ·exact h3 (.inr ((kD h0 h1 (by decide)).1 h5))
   ·exact h3 (.inl ((WN h0 h1).2 h5))
theorem ML.bA {f:Nat}{s o:A1}{i:Int}(h:ML f s i o)(h1: ¬i<len s):AH s=([],len s,1):=by
 obtain⟨acc,rfl,h⟩:=h
 rw[<-h,gV h1]
theorem zA{s:A1}{i:Int}(h0:0<=i)(h1:i<len s):0<=(F4 s i).2/\i+(F4 s i).2<=len s/\len (F4 s i).1<=4/\(¬A2 s i=92->len (F4 s i).1=rune s i):=by
 have h2:=VI (A3 s i)
 have h3:=CO s i h0 (by omega)
 have h4:=rune_le s i h1
 have h5:=LR s i
 have h6:=FB (s:=s) (i:=i) (j:=i+rune s i) h0 (by omega) (by omega)
 have h7:=Lib.encodeRuneZ_length (AW (A3 s i)).1
 unfold F4 HH
 split
 ·rename_i h8
  refine⟨?_,?_,?_,λ h=>absurd h8 h⟩
  ·split<;>(dsimp only;omega)
  ·split<;>(dsimp only;omega)
  ·split
   ·decide
   ·unfold len toStr;simp;omega
 ·dsimp only;exact⟨h5.1,h4,by omega,λ _=>by omega⟩
theorem MM{s:A1}{c:UInt8}:Lib.hasPrefix s [c]=true↔ ¬s=[]/\A2 s 0=(c.toNat:Int):=by
 cases s with
 |nil=>simp[Lib.hasPrefix]
 |cons a l=>
  have:A2 (a::l) 0=(a.toNat:Int):=rfl
  rw[this]
  simp only[Lib.hasPrefix,List.isPrefixOf,List.isPrefixOf_nil_left,Bool.and_true,beq_iff_eq,reduceCtorEq,not_false_eq_true,true_and]
  rw[<-UInt8.toNat_inj];omega
def L9:A1:=[34,92,47,98,102,110,114,116]
def kE:A1:=[34,92,47,8,12,10,13,9]
def RZ(c k:Int):Prop:= ∀j:Int,0<=j->j<k->c≠A2 L9 j
theorem RZ.step {c k:Int}(h:RZ c k)(h2: ¬c=A2 L9 k):RZ c (k+1):=by
 intro j h3 h4
 by_cases h5:j=k
 ·subst h5;exact h2
 ·exact h j h3 (by omega)
theorem RZ.bA {c k:Int}(h:RZ c k)(hk:8<=k):HU c=false:=by
 have h0:=h 0 (by omega) (by omega)
 have h1:=h 1 (by omega) (by omega)
 have h2:=h 2 (by omega) (by omega)
 have h3:=h 3 (by omega) (by omega)
 have h4:=h 4 (by omega) (by omega)
 have h5:=h 5 (by omega) (by omega)
 have h6:=h 6 (by omega) (by omega)
 have h7:=h 7 (by omega) (by omega)
 have e:A2 L9 0=34/\A2 L9 1=92/\A2 L9 2=47/\A2 L9 3=98/\A2 L9 4=102/\A2 L9 5=110/\A2 L9 6=114/\A2 L9 7=116:=by decide
 unfold HU;simp;omega
theorem zB{c k:Int}(h0:0<=k)(h1:k<8)(h2:c=A2 L9 k):HU c=true/\toStr (Lib.encodeRuneZ (J4 c))=Eng.sub kE k (k+1):=by
 subst h2
 have:k=0\/k=1\/k=2\/k=3\/k=4\/k=5\/k=6\/k=7:=by omega
 rcases this with rfl|rfl|rfl|rfl|rfl|rfl|rfl|rfl<;>exact⟨by decide,by decide⟩
theorem zC{s:A1}(h1: ¬len s<2)(h2:HU (A2 s 1)=true):HH (AW s)=(toStr (Lib.encodeRuneZ (J4 (A2 s 1))),2):=by
 unfold AW;rw[if_neg h1,if_pos h2];rfl
def BU(c:Int):Int:=if 48<=c/\c<=57 then c-48 else if 97<=c/\c<=102 then c-87 else if 65<=c/\c<=70 then c-55 else-1
theorem bB(b:UInt8):LV b=BU (b.toNat:Int):=by unfold LV BU;(repeat' split)<;>omega
theorem kF{s:A1}{i k:Int}(h:0<=i)(h0:i<=k)(h1:k<len s): ∃b,Eng.sub s i (k+1)=Eng.sub s i k++[b]/\(b.toNat:Int)=A2 s k:=by
 have h2:k.toNat<s.length:=by unfold len at h1;omega
 refine⟨s[k.toNat],?_,by simp[A2,h2]⟩
 unfold Eng.sub
 have h3:k.toNat-i.toNat<(s.drop i.toNat).length:=by rw[List.length_drop];omega
 rw[show(k+1).toNat-i.toNat=(k.toNat-i.toNat)+1 from by omega,List.take_succ_eq_append_getElem h3,List.getElem_drop]
 congr 3;omega
theorem TP{s:A1}{i k:Int}(h:0<=i)(h0:i<=k)(h1:k<len s)(h2:ER (Eng.sub s i k)=true)(h3:0<=BU (A2 s k)):
  ER (Eng.sub s i (k+1))=true/\FC (Eng.sub s i (k+1))=FC (Eng.sub s i k)*16+BU (A2 s k):=by
 obtain⟨b,h4,h5⟩:=kF h h0 h1
 rw[h4,<-h5,<-bB]
 rw[<-h5,<-bB]at h3
 unfold ER FC at*
 rw[List.all_append,h2,List.foldl_append]
 simp[h3]
theorem bC{s:A1}{i k j:Int}(h:0<=i)(h0:i<=k)(h1:k<j)(h2:j<=len s)(h3:BU (A2 s k)<0):ER (Eng.sub s i j)=false:=by
 unfold ER
 rw[List.all_eq_false]
 have hk:k.toNat<s.length:=by unfold len at h2;omega
 refine⟨s[k.toNat],?_,?_⟩
 ·unfold Eng.sub
  rw[List.mem_take_iff_getElem]
  refine⟨k.toNat-i.toNat,by rw[List.length_drop];omega,?_⟩
  rw[List.getElem_drop];congr 1;omega
 ·rw[bB]
  have:((s[k.toNat]).toNat:Int)=A2 s k:=by simp[A2,hk]
  rw[this];simp;omega
theorem zD{l:A1}(h:ER l=true)(hl:len l<=4):0<=FC l/\FC l<=65535:=by
 unfold ER at h
 have:=SO l 0 (by simpa[List.all_eq_true]using h) (by omega)
 have h2:(16:Int)^l.length<=16^4:=by
  have:(16:Nat)^l.length<=16^4:=Nat.pow_le_pow_right (by omega) (by unfold len at hl;omega)
  exact_mod_cast this
 unfold FC;omega
theorem zE{l:A1}(h:ER l=true)(hl:len l<=3):0<=FC l/\FC l<=4095:=by
 unfold ER at h
 have:=SO l 0 (by simpa[List.all_eq_true]using h) (by omega)
 have h2:(16:Int)^l.length<=16^3:=by
  have:(16:Nat)^l.length<=16^3:=Nat.pow_le_pow_right (by omega) (by unfold len at hl;omega)
  exact_mod_cast this
 unfold FC;omega
theorem WO{s:A1}{i:Int}(h0:0<=i)(h1:i+6<=len s)(h2:A2 s i=92)(h3:A2 s (i+1)=117):
  B9 (A3 s i)=if ER (Eng.sub s (i+2) (i+6))then FC (Eng.sub s (i+2) (i+6))else-1:=by
 have e:Eng.sub (A3 s i) 2 6=Eng.sub s (i+2) (i+6):=by
  unfold Eng.sub A3;rw[List.drop_drop];congr 1
  ·omega
  ·congr 1;omega
 unfold B9
 rw[if_neg (by rw[CO s i h0 (by omega)];omega),e,if_neg]
 obtain⟨a,ha,hb⟩:=J3 s i h0 (by omega)
 obtain⟨c,hc,hd⟩:=J3 s (i+1) (by omega) (by omega)
 rw[ha,hc]
 have ea:a=92:=by rw[<-UInt8.toNat_inj];show a.toNat=92;omega
 have ec:c=117:=by rw[<-UInt8.toNat_inj];show c.toNat=117;omega
 rw[ea,ec];simp[Lib.hasPrefix]
theorem kG{s:A1}{i:Int}(h0:0<=i)(h:len s<i+6\/ ¬A2 s i=92\/ ¬A2 s (i+1)=117):B9 (A3 s i)= -1:=by
 unfold B9
 by_cases h1:len (A3 s i)<6
 ·rw[if_pos h1]
 ·rw[if_neg h1]
  have h2:=VH s i h0
  have h3:i+6<=len s:=by split at h2<;>omega
  rw[if_pos]
  obtain⟨a,ha,hb⟩:=J3 s i h0 (by omega)
  obtain⟨c,hc,hd⟩:=J3 s (i+1) (by omega) (by omega)
  rw[ha,hc]
  cases hp:Lib.hasPrefix (a::c::A3 s (i+1+1)) [92,117]with
  |false=>rfl
  |true=>
   exfalso
   simp[Lib.hasPrefix]at hp
   obtain⟨rfl,rfl⟩:=hp
   rcases h with h|h|h
   ·omega
   ·exact h (by rw[hb];rfl)
   ·exact h (by rw[hd];rfl)
theorem kH{r:Int}(h:128<=r): ∀b∈toStr (Lib.encodeRuneZ r),128<=b.toNat:=by
 have key: ∀x∈Lib.encodeRuneZ r,128<=x:=by
  intro x hx
  unfold Lib.encodeRuneZ at hx
  (repeat' split at hx)<;>simp at hx<;>omega
 intro b hb
 unfold toStr at hb
 obtain⟨x,hx,rfl⟩:=List.mem_map.1 hb
 have h1:=key x hx
 have h2:=Lib.encodeRuneZ_byte r x hx
 simp;omega
theorem zF: ∀n:Fin 128,IE (UInt8.ofNat n.val)=D8 (n.val:Int):=by decide+kernel
theorem zG{b:UInt8}(h:b.toNat<128):IE b=D8 (b.toNat:Int):=by
 have:=zF ⟨b.toNat,h⟩
 simpa using this
theorem zH{b:UInt8}(h:128<=b.toNat):IE b=[b]:=by
 unfold IE GI
 rw[if_neg (by omega),if_neg (by omega),if_neg (by omega),if_neg (by omega),if_neg (by omega),if_neg (by omega),if_neg (by omega),if_neg (by omega)]
 simp only[toStr,List.map_cons,List.map_nil]
 rw[KU b _ U]
theorem zI{l:A1}(h: ∀b∈l,128<=b.toNat):l.flatMap IE=l:=by
 induction l with
 |nil=>rfl
 |cons a l ih=>rw[List.flatMap_cons,zH (h a (by simp)),ih (λ b hb=>h b (by simp[hb]))];rfl
theorem PS{α:Type}(s:List α)(i j:Int)(h0:0<=i)(h1:i<=j):A3 s i=Eng.sub s i j++A3 s j:=by
 unfold A3 Eng.sub
 have:s.drop j.toNat=(s.drop i.toNat).drop (j.toNat-i.toNat):=by rw[List.drop_drop];congr 1;omega
 rw[this,List.take_append_drop]
theorem kI{r:Int}(h:128<=r):D8 r=toStr (Lib.encodeRuneZ r):=by
 unfold D8
 rw[if_neg (by unfold JX;simp;omega),if_neg (by omega)];rfl
theorem kJ{s:A1}{i:Int}(h0:0<=i)(h1:i<=len s)(h:G4 s i=true):FD s i=(A3 s i).flatMap IE:=by
 by_cases hlt:i<len s
 ·have hb:=LR s i
  have hle:=rune_le s i hlt
  rcases LX h0 hlt with⟨h2,_⟩|⟨h2,h3,_,h5,h6,h7⟩
  ·rw[SI s i h0 hlt h2]at h;cases h
  ·rw[<-N3 s i h0 hlt (by omega)]at h
   rw[QW h0 hlt,h3,kJ (i:=i+rune s i) (by omega) (by omega) h,PS s i (i+rune s i) h0 (by omega),List.flatMap_append]
   congr 1
   by_cases hc:A2 s i<128
   ·obtain⟨h8,h9⟩:=h6 hc
    obtain⟨b,hb1,hb2⟩:=J3 s i h0 hlt
    rw[h8]
    have:Eng.sub s i (i+1)=[b]:=by
     have:=PS s i (i+1) h0 (by omega)
     rw[hb1]at this
     exact(List.append_cancel_right (this.symm.trans (List.singleton_append).symm)).trans U
    rw[this,h9,hb2]
    simp only[List.flatMap_cons,List.flatMap_nil,List.append_nil]
    rw[zG (by omega)]
   ·rw[<-h5,zI (kH (h7 (by omega))),kI (h7 (by omega))]
 ·rw[VA hlt,O6 s i (by omega)];rfl
termination_by (len s-i).toNat
decreasing_by have:=LR s i;omega
theorem TQ{s:A1}(h:CR s=true):AE s=J5 s:=by
 unfold AE J5
 rw[kJ (by omega) (A4 s) h];rfl
theorem zJ(s:A1):len (s.flatMap IE)<=6*len s:=by
 induction s with
 |nil=>decide
 |cons a s ih=>
  have:=gX (a.toNat:Int)
  rw[List.flatMap_cons,A5,A6]
  unfold IE at*;omega
theorem kK(s:A1):2<=len (J5 s)/\len (J5 s)<=6*len s+2:=by
 have:=zJ s
 have h0:=A4 (s.flatMap IE)
 unfold J5
 rw[A5,A6,A6,len_nil];omega
theorem kL(s:A1):0<=len (CG s)/\len (CG s)<=6*len s+2:=by
 have:=kK s
 have:=A4 s
 unfold CG;split<;>omega
theorem kM{t:A1}{i:Int}(h0:0<=i):KO t i=true↔ ¬t=[]/\ ∀j:Int,i<=j->j<len t->BS (A2 t j) (j==0)=true:=by
 by_cases hlt:i<len t
 ·have hc:(E9 (A2 t i)||i != 0&&BG (A2 t i))=BS (A2 t i) (i==0):=rfl
  by_cases hw:BS (A2 t i) (i==0)=true
  ·rw[<-fH t i h0 hlt (by rw[hc];exact hw),kM (i:=i+1) (by omega)]
   refine and_congr_right λ _=>⟨λ h j h1 h2=>?_,λ h j h1 h2=>h j (by omega) h2⟩
   by_cases e:j=i
   ·subst e;exact hw
   ·exact h j (by omega) h2
  ·rw[fI t i h0 hlt (by rw[hc];exact hw)]
   exact⟨λ h=>(by cases h),λ h=>absurd (h.2 i (Int.le_refl _) hlt) hw⟩
 ·rw[fJ t i hlt,bne_iff_ne]
  exact Iff.intro (λ h=>And.intro h (λ j h1 h2=>by omega)) (λ h=>h.1)
termination_by (len t-i).toNat
theorem TR{t:A1}:CF t=true↔ ¬t=[]/\ ∀j:Int,0<=j->j<len t->BS (A2 t j) (j==0)=true:=kM (Int.le_refl 0)
theorem WQ{α:Type}(s:List α)(i j:Int)(h0:0<=i)(h1:0<=j):Eng.sub (A3 s i) 0 j=Eng.sub s i (i+j):=by
 unfold Eng.sub A3
 simp only[Int.toNat_zero,List.drop_zero,Nat.sub_zero]
 congr 1;omega
theorem zK: ∀n:Fin 256,HW (UInt8.ofNat n.val)=decide ((48<=n.val/\n.val<=57)\/n.val=43\/n.val=45\/n.val=46\/n.val=101\/n.val=69):=by decide+kernel
theorem WR(b:UInt8):HW b=true↔(48<=b.toNat/\b.toNat<=57)\/b.toNat=43\/b.toNat=45\/b.toNat=46\/b.toNat=101\/b.toNat=69:=by
 have:=zK ⟨b.toNat,b.toNat_lt⟩
 simp only[UInt8.ofNat_toNat]at this
 rw[this,decide_eq_true_eq]
theorem zL{k:Int}(hk0:0<=k)(hk1:k<17):1<=len (at' AL k)/\len (at' AL k)<=2:=by
 have:k=0\/k=1\/k=2\/k=3\/k=4\/k=5\/k=6\/k=7\/k=8\/k=9\/k=10\/k=11\/k=12\/k=13\/k=14\/k=15\/k=16:=by omega
 rcases this with rfl|rfl|rfl|rfl|rfl|rfl|rfl|rfl|rfl|rfl|rfl|rfl|rfl|rfl|rfl|rfl|rfl<;>decide
section tok
variable {s:A1} {i:Int}
end tok
theorem zM{s:A1}(h1:0<len s)(h:A2 s 0=45\/BG (A2 s 0)=true):1<=len (runN s):=by
 rw[SS]
 cases s with
 |nil=>exact absurd h1 (by decide)
 |cons b l=>
  have hb:HW b=true:=by
   rw[WR]
   have e:A2 (b::l) 0=(b.toNat:Int):=rfl
   rw[e]at h
   unfold BG at h
   simp only[Bool.and_eq_true,decide_eq_true_eq]at h
   omega
  rw[List.takeWhile_cons,hb]
  simp[len];omega
theorem kN{s:A1}(h1:0<len s):0<=(AB s).2.1/\(AB s).2.1<=len s/\((AB s).2.2=0->1<=(AB s).2.1)/\((AB s).2.2=0\/(AB s).2.2=1\/(AB s).2.2=2\/(AB s).2.2=4):=by
 have hf:=CO s 1 (by omega) (by omega)
 have hw1:=OC (A3 s 1)
 have hw0:=OC s
 have hu1:=N8 (A3 s 1)
 have hu0:=N8 s
 have hr:=z8 (runN s)
 have hrl:len (runN s)<=len s:=by unfold runN;exact(HB _ _ _).2
 have hrl0:=A4 (runN s)
 unfold AB
 split
 ·exact⟨by dsimp only;omega,by dsimp only;omega,λ _=>by dsimp only;omega,.inl U⟩
 ·split
  ·refine⟨by dsimp only;omega,by dsimp only;omega,λ _=>by dsimp only;omega,?_⟩
   dsimp only;omega
  ·split
   ·rename_i hm
    have hp:len (BY s)<=len s:=by
     rcases PC s with h|h
     ·exact absurd h hm
     ·exact VK h.2
    have:=G0 hm
    exact⟨by dsimp only;omega,by dsimp only;omega,λ _=>by dsimp only;omega,.inl U⟩
   ·split
    ·rename_i hn
     have:=G0 hn
     exact⟨by dsimp only;omega,by dsimp only;omega,λ _=>by dsimp only;omega,.inl U⟩
    ·split
     ·refine⟨by dsimp only;omega,by dsimp only;omega,λ h=>by dsimp only at h ⊢;omega,?_⟩
      dsimp only;omega
     ·split
      ·rename_i hd
       have hp:=zM h1 hd
       split
       ·rename_i he
        exact⟨by dsimp only;omega,by dsimp only;omega,λ h=>absurd h he,by dsimp only;omega⟩
       ·exact⟨by dsimp only;omega,by dsimp only;omega,λ h=>by dsimp only;omega,.inl U⟩
      ·exact⟨Int.le_refl _,by dsimp only;omega,λ h=>absurd h (by decide),.inr (.inl U)⟩
def bE(t:Tk):Prop:=len t.s<=1048576/\len t.c.s<=1048576/\(t.kind=5-> -1000000<=t.c.e/\t.c.e<=1000000)
theorem zN(r:Int):0<=len (D8 r)/\len (D8 r)<=6:=by
 have:=Lib.encodeRuneZ_length r
 unfold D8
 split
 ·simp only[A6,len_nil];omega
 ·split
  ·simp only[A6,len_nil];omega
  ·unfold Lib.encodeRune len;rw[List.length_map];omega
theorem kO(s:A1)(i:Int)(h0:0<=i)(h1:i<=len s):len (FD s i)<=6*(len s-i):=by
 by_cases h:i<len s
 ·have hb:=SU h0 h
  have ih:=kO s (i+runeLen s i) (by omega) (by omega)
  have:=zN (AO s i)
  rw[QW h0 h,A5];omega
 ·rw[VA h,len_nil];omega
termination_by (len s-i).toNat
decreasing_by have hb:=SU h0 h;omega
theorem kP(s:A1):2<=len (AE s)/\len (AE s)<=6*len s+2:=by
 have:=kO s 0 (Int.le_refl 0) (A4 s)
 have h0:=A4 (FD s 0)
 unfold AE
 rw[A5,A6,A6,len_nil];omega
def marksOf(c:Int):List A1:=AL.filter (λ m=>A2 m 0==c)
def NK(M:Mem)(l:List KV):Prop:= ∀c:Int,∃v,(BP l c).getD (.slice none 0 0)=v/\Sl M 1 (marksOf c).length v ((marksOf c).flatMap AZ)
abbrev MG:=List (KV×List A1)
def kQ(e:TypeId)(p:KV×List A1):HO:=.own e 1 p.1.val p.2.length (p.2.flatMap AZ)
def LA(e:TypeId)(G:MG):List HO:=G.map (kQ e)
def rowOf:MG->Int->List A1
 |[],_=>[]
 |p::G,c=>if c=p.1.key then p.2 else rowOf G c
def OP(k:Int)(G:MG):Prop:= ∀c,rowOf G c=(Eng.sub AL 0 k).filter (λ m=>A2 m 0==c)
theorem OP.start:OP 0 []:=λ _=>rfl
def bF(e:TypeId)(G:MG)(c:Int)(v:Value)(xs:List A1)(R:List HO):Prop:=
 (∃G1 p G2,G=G1++p::G2/\p.1.key=c/\(∀q∈G1,q.1.key≠c)/\v=p.1.val/\xs=p.2/\R=LA e (G1++G2))\/
 ((∀q∈G,q.1.key≠c)/\v= .slice none 0 0/\xs=[]/\R=LA e G)
theorem bG(c:Int): ∀G:MG,(∃G1 p G2,G=G1++p::G2/\p.1.key=c/\(∀q∈G1,q.1.key≠c))\/(∀q∈G,q.1.key≠c)
 |[]=>.inr λ _ h=>by cases h
 |p::G=>by
  by_cases h:p.1.key=c
  ·exact .inl ⟨[],p,G,rfl,h,λ _ h=>by cases h⟩
  ·rcases bG c G with⟨G1,q,G2,h1,h2,h3⟩|h1
   ·refine .inl ⟨p::G1,q,G2,by rw[h1];rfl,h2,λ r hr=>?_⟩
    rcases List.mem_cons.1 hr with rfl|hr
    ·exact h
    ·exact h3 r hr
   ·refine .inr λ r hr=>?_
    rcases List.mem_cons.1 hr with rfl|hr
    ·exact h
    ·exact h1 r hr
theorem bH{c:Int}: ∀(G1:MG) (p:KV×List A1) (G2:MG),p.1.key=c->(∀q∈G1,q.1.key≠c)->BP ((G1++p::G2).map Prod.fst) c=some p.1.val
 |[],p,G2,h,_=>by simp[BP,h]
 |q::G1,p,G2,h,h2=>by
  have: ¬c=q.1.key:=λ e=>h2 q (by simp) e.symm
  simp only[List.cons_append,List.map_cons,BP,beq_iff_eq,this,if_false]
  exact bH G1 p G2 h (λ r hr=>h2 r (by simp[hr]))
theorem bI{c:Int}: ∀G:MG,(∀q∈G,q.1.key≠c)->BP (G.map Prod.fst) c=none
 |[],_=>rfl
 |q::G,h=>by
  have: ¬c=q.1.key:=λ e=>h q (by simp) e.symm
  simp only[List.map_cons,BP,beq_iff_eq,this,if_false]
  exact bI G (λ r hr=>h r (by simp[hr]))
theorem kR{c:Int}(v:Value): ∀(G1:MG) (p:KV×List A1) (G2:MG),p.1.key=c->(∀q∈G1,q.1.key≠c)->HQ ((G1++p::G2).map Prod.fst) c v=some ((G1.map Prod.fst)++⟨c,v,p.1.born⟩::G2.map Prod.fst)
 |[],p,G2,h,_=>by simp[HQ,h]
 |q::G1,p,G2,h,h2=>by
  have: ¬c=q.1.key:=λ e=>h2 q (by simp) e.symm
  simp only[List.cons_append,List.map_cons,HQ,beq_iff_eq,this,if_false]
  have ih:=kR v G1 p G2 h (λ r hr=>h2 r (by simp[hr]))
  rw[ih];rfl
theorem kS{c:Int}(v:Value): ∀G:MG,(∀q∈G,q.1.key≠c)->HQ (G.map Prod.fst) c v=none
 |[],_=>rfl
 |q::G,h=>by
  have: ¬c=q.1.key:=λ e=>h q (by simp) e.symm
  simp only[List.map_cons,HQ,beq_iff_eq,this,if_false]
  rw[kS v G (λ r hr=>h r (by simp[hr]))];rfl
theorem S0{c:Int}: ∀(G1:MG) (p:KV×List A1) (G2:MG),(∀q∈G1,q.1.key≠p.1.key)->rowOf (G1++p::G2) c=if c=p.1.key then p.2 else rowOf (G1++G2) c
 |[],p,G2,_=>rfl
 |q::G1,p,G2,h=>by
  have ih:=S0 (c:=c) G1 p G2 (λ r hr=>h r (by simp[hr]))
  have hq:=h q (by simp)
  simp only[List.cons_append,rowOf]
  by_cases e:c=q.1.key
  ·rw[if_pos e,if_neg (λ e2=>hq (by rw[<-e,e2])),if_pos e]
  ·rw[if_neg e,ih,if_neg e]
theorem zO{c:Int}: ∀(G:MG) (p:KV×List A1),(∀q∈G,q.1.key≠p.1.key)->rowOf (G++[p]) c=if c=p.1.key then p.2 else rowOf G c:=by
 intro G p h
 have:=S0 (c:=c) G p [] h
 rw[List.append_nil]at this;exact this
theorem bJ{c:Int}: ∀G:MG,(∀q∈G,q.1.key≠c)->rowOf G c=[]
 |[],_=>rfl
 |q::G,h=>by
  rw[rowOf,if_neg (λ e=>h q (by simp) e.symm)]
  exact bJ G (λ r hr=>h r (by simp[hr]))
theorem zP{e:TypeId}{G:MG}{c k:Int}{v:Value}{xs:List A1}{R:List HO}(h:bF e G c v xs R)(hG:OP k G)(h0:0<=k):len xs<=17:=by
 rcases h with⟨G1,p,G2,rfl,h2,h3,rfl,rfl,rfl⟩|⟨_,_,rfl,_⟩
 ·have:=hG c
  rw[S0 G1 p G2 (by rw[h2];exact h3),if_pos h2.symm]at this
  rw[this]
  have h4:=List.length_filter_le (λ m=>A2 m 0==c) (Eng.sub AL 0 k)
  have h5:=(HB AL 0 k).2
  have h6:len AL=17:=rfl
  unfold len at*;omega
 ·decide
section
variable {w0 w:World} {M0 M:Mem} {A B C:HO} {e:TypeId} {Rs:List HO}
theorem zQ{G:MG}(c:Int)(hS:St w0 M0 w M (A::B::C::(LA e G++Rs))): ∃v xs R,bF e G c v xs R/\(BP (G.map Prod.fst) c).getD (.slice none 0 0)=v/\St w0 M0 w M (A::B::C:: .own e 1 v xs.length (xs.flatMap AZ)::(R++Rs)):=by
 rcases bG c G with⟨G1,p,G2,h1,h2,h3⟩|h1
 ·refine⟨_,_,_,.inl ⟨G1,p,G2,h1,h2,h3,rfl,rfl,rfl⟩,by rw[h1,bH G1 p G2 h2 h3];rfl,?_⟩
  refine hS.perm ?_
  refine .cons _ (.cons _ (.cons _ ?_))
  subst h1
  unfold LA
  rw[List.map_append,List.map_append,List.map_cons,List.append_assoc,List.append_assoc,List.cons_append]
  exact List.perm_middle.symm
 ·refine⟨_,_,_,.inr ⟨h1,rfl,rfl,rfl⟩,by rw[bI G h1];rfl,?_⟩
  have:=hS.KN e 1
  refine this.perm ?_
  exact List.perm_middle (l₁:=[A,B,C])
theorem zR{G:MG}{c:Int}{v:Value}{xs:List A1}{R:List HO}(clk:Nat)(h:bF e G c v xs R)(x:A1)(v':Value): ∃G',FM (G.map Prod.fst) clk c v'=G'.map Prod.fst/\
  (∀ {w:World} {M:Mem},St w0 M0 w M (A::B::C:: .own e 1 v' (xs++[x]).length ((xs++[x]).flatMap AZ)::(R++Rs))->St w0 M0 w M (A::B::C::(LA e G'++Rs)))/\
  ∀ {k:Int},0<=k->k<17->x=at' AL k->c=A2 x 0->OP k G->OP (k+1) G':=by
 have hf: ∀ {k:Int},0<=k->k<17->x=at' AL k-> ∀c',(Eng.sub AL 0 (k+1)).filter (λ m=>A2 m 0==c')=(Eng.sub AL 0 k).filter (λ m=>A2 m 0==c')++if A2 x 0=c' then [x]else []:=by
  intro k h0 h1 hx c'
  rw[sub_succ AL k h0 h1,List.filter_append,show AL.getD k.toNat default=x from hx.symm]
  congr 1
  by_cases e:A2 x 0=c'<;>simp[e]
 rcases h with⟨G1,p,G2,rfl,h2,h3,rfl,rfl,rfl⟩|⟨h1,rfl,rfl,rfl⟩
 ·refine⟨G1++(⟨c,v',p.1.born⟩,p.2++[x])::G2,?_,λ hS=>?_,λ h0 hk hx hc hG c'=>?_⟩
  ·unfold FM;rw[kR v' G1 p G2 h2 h3];simp
  ·refine hS.perm (.cons _ (.cons _ (.cons _ ?_)))
   unfold LA
   rw[List.map_append,List.map_append,List.map_cons,List.append_assoc,List.append_assoc,List.cons_append]
   exact List.perm_middle
  ·have:=hG c'
   rw[S0 G1 p G2 (by rw[h2];exact h3)]at this
   rw[S0 G1 (⟨c,v',p.1.born⟩,p.2++[x]) G2 h3,hf h0 hk hx,<-this,h2]
   dsimp only
   rw[<-hc]
   by_cases e:c'=c
   ·rw[if_pos e,if_pos e,if_pos e.symm]
   ·rw[if_neg e,if_neg e,if_neg (λ e2=>e e2.symm),List.append_nil]
 ·refine⟨G++[(⟨c,v',clk⟩,[x])],?_,λ hS=>?_,λ h0 hk hx hc hG c'=>?_⟩
  ·unfold FM;rw[kS v' G h1];simp
  ·refine hS.perm (.cons _ (.cons _ (.cons _ ?_)))
   unfold LA
   rw[List.map_append,List.append_assoc]
   exact List.perm_middle
  ·have:=hG c'
   rw[zO G _ h1,hf h0 hk hx,<-this]
   dsimp only
   rw[<-hc]
   by_cases e:c'=c
   ·rw[if_pos e,if_pos e.symm,e,bJ G h1];rfl
   ·rw[if_neg e,if_neg (λ e2=>e e2.symm),List.append_nil]
theorem zS{G:MG}(hS:St w0 M0 w M (A::B::C::(LA e G++Rs)))(hG:OP 17 G):NK M (G.map Prod.fst)/\St w0 M0 w M (A::B::C::Rs):=by
 refine⟨λ c=>?_,hS.drop _ (.cons_cons _ (.cons_cons _ (.cons_cons _ (List.sublist_append_right _ _))))⟩
 have hc:=hG c
 rw[JW AL 17 (Int.le_refl _)]at hc
 have hm:marksOf c=rowOf G c:=hc.symm
 rw[hm]
 rcases bG c G with⟨G1,p,G2,h1,h2,h3⟩|h1
 ·refine⟨_,by rw[h1,bH G1 p G2 h2 h3],?_⟩
  rw[h1,S0 G1 p G2 (by rw[h2];exact h3),if_pos h2.symm]
  have hmem:kQ e p∈(A::B::C::(LA e G++Rs)):=by
   rw[h1];unfold LA;simp
  obtain⟨i,hi⟩:=List.getElem?_of_mem hmem
  exact hS.sl (i:=i) hi
 ·refine⟨_,by rw[bI G h1],?_⟩
  rw[bJ G h1];exact Sl.nil _ 1
end
theorem find_congr{α:Type}{p q:α->Bool}: ∀ {l:List α},(∀x∈l,p x=q x)->l.find? p=l.find? q
 |[],_=>rfl
 |a::l,h=>by
  rw[List.find?_cons,List.find?_cons,h a (by simp),find_congr (λ x hx=>h x (by simp[hx]))]
theorem zT{m:A1}(hm:m∈AL): ¬m=[]:=by
 simp only[AL,List.mem_cons,List.not_mem_nil,or_false]at hm
 rcases hm with rfl|rfl|rfl|rfl|rfl|rfl|rfl|rfl|rfl|rfl|rfl|rfl|rfl|rfl|rfl|rfl|rfl<;>simp
theorem zU{s m:A1}(h:Lib.hasPrefix s m=true)(hm: ¬m=[]):A2 m 0=A2 s 0:=by
 cases m with
 |nil=>exact absurd U hm
 |cons a m=>
  cases s with
  |nil=>simp[Lib.hasPrefix]at h
  |cons b s=>
   simp only[Lib.hasPrefix,List.isPrefixOf,Bool.and_eq_true,beq_iff_eq]at h
   rw[h.1];rfl
theorem kT(s:A1):BY s=((marksOf (A2 s 0)).find? (λ m=>Lib.hasPrefix s m)).getD []:=by
 unfold BY marksOf
 rw[List.find?_filter]
 congr 1
 refine find_congr λ m hm=>?_
 cases hp:Lib.hasPrefix s m with
 |false=>simp
 |true=>simp[zU hp (zT hm)]
def LB(s:A1)(L:List A1)(k:Int):Prop:=(Eng.sub L 0 k).find? (λ m=>Lib.hasPrefix s m)=none
theorem LB.step {s:A1}{L:List A1}{k:Int}(h:LB s L k)(h0:0<=k)(h1:k<len L)(h2:Lib.hasPrefix s (at' L k)=false):LB s L (k+1):=by
 unfold LB at*
 rw[sub_succ L k h0 h1,List.find?_append,h,Option.none_or,List.find?_cons,show L.getD k.toNat default=at' L k from rfl,h2];rfl
theorem LB.found {s:A1}{L:List A1}{k:Int}(h:LB s L k)(h0:0<=k)(h1:k<len L)(h2:Lib.hasPrefix s (at' L k)=true):(L.find? (λ m=>Lib.hasPrefix s m)).getD []=at' L k:=by
 unfold LB at h
 have e:L=Eng.sub L 0 k++A3 L k:=PS L 0 k (Int.le_refl _) h0
 have hk:k.toNat<L.length:=by unfold len at h1;omega
 have e2:A3 L k=at' L k::A3 L (k+1):=by
  unfold A3 at'
  rw[show(k+1).toNat=k.toNat+1 from by omega,List.drop_eq_getElem_cons hk]
  simp[hk]
 have e3:L.find? (λ m=>Lib.hasPrefix s m)=some (at' L k):=by
  conv=>lhs;rw[e]
  rw[List.find?_append,h,e2,List.find?_cons,h2];rfl
 rw[e3];rfl
theorem LB.bK {s:A1}{L:List A1}{k:Int}(h:LB s L k)(hk:len L<=k):(L.find? (λ m=>Lib.hasPrefix s m)).getD []=[]:=by
 unfold LB at h
 rw[JW L k hk]at h;rw[h];rfl
end Go.Eng
set_option maxRecDepth 100000
namespace Go.Proofs.YtmjpjbmeamnfpaaGreatDoor
open Go.Proofs.Tryz
open Go.Eng
theorem kU:Lib.fields [61,61,32,33,61,32,60,61,32,62,61,32,46,32,124,32,44,32,58,32,40,32,41,32,91,32,93,32,123,32,125,32,60,32,62,32,63]=AL:=by decide+kernel
theorem zV(M:Mem)(w:World)(hM:Sat w M)(hg:Gl w):Calls prog 115 [str [61,61,32,33,61,32,60,61,32,62,61,32,46,32,124,32,44,32,58,32,40,32,41,32,91,32,93,32,123,32,125,32,60,32,62,32,63]].toArray w λ e w'=> ∃v M',e= .returned v/\Sl M' 1 AL.length v (AL.flatMap AZ)/\Grow w M w' M':=by
 have:=uC M [61,61,32,33,61,32,60,61,32,62,61,32,46,32,124,32,44,32,58,32,40,32,41,32,91,32,93,32,123,32,125,32,60,32,62,32,63] w hM hg (by decide) (uB (by decide)) (by rw[kU];decide)
 rw[kU]at this
 exact this
theorem zW{w wv:World}{M0 M:Mem}{Rs:List HO}(pb b:Nat)(hS:St w M0 wv M (.box pb [(.pointer (some ⟨b,0,none⟩))] 131:: .box b [(.int .u32 0),(.int .i32 1),(.int .u32 0),(.map none)] 104::Rs))(hg:Gl w):
  Calls prog 114 [(.pointer (some ⟨pb,0,none⟩))].toArray wv λ e w'=> ∃v,e= .returned v/\ ∃mb l c M',v= .tuple #[]/\NK M' l/\St w M0 w' M' (.raw mb (AK .u8 l c):: .box pb [.pointer (some ⟨b,0,none⟩)] 131:: .box b [.int .u32 0,.int .i32 1,.int .u32 0,.map (some mb)] 104::Rs)/\M.le M':=by
 refine CW.BH func114 U ntmps114 (Nat.le_of_ble_eq_true U) λ Q hE=>?_
 have hm17:len AL=17:=rfl
 refine An [0] (L':=[Y 0 (.pointer (some ⟨pb,0,none⟩))]) ?_ U
 refine Ad (Ab (.B8 (v:=(.pointer (some ⟨b,0,none⟩))) hS AR (i:=0) U (.t U) isAgg131 U) U ?_)
 refine RL.makeMap .u8 hS U (λ w1 b2 hS3=>?_)
 replace hS3:St w M0 w1 M (.raw b2 (AK .u8 [] 0):: .box pb [(.pointer (some ⟨b,0,none⟩))] 131:: .box b [(.int .u32 0),(.int .i32 1),(.int .u32 0),(.map none)] 104::Rs):=hS3
 refine Ab (.IB (.t U)) U (Ab (.BI (q:=⟨b,3,none⟩) (.t U) (λ w=>by kernel_rfl)) U ?_)
 refine RL.st hS3 (i:=2) U (.t U) (.t U) sizeOf102 U U U U U (λ w4 hS5=>(Aa (Ac ?_)))
 refine Ad ?_
 refine RL.sN hS5 call115 (.cons .c .nil) ((zV M _ hS5.sat (hg.low hS5.low))) U ?_
 rintro v6 w7 M8 hS9 hle10 hsl_v6
 refine Ab (.QM hsl_v6 (.t U) ⟨_,underlying32⟩) U (Ab (.move .c) U ?_)
 refine Aa (CW.at [Y 0 (.pointer (some ⟨pb,0,none⟩)),Y 7 v6,Y 8 (i64 (len AL)),Y 9 (i64 0)] U (Am ?_))
 refine CW.loop (σ:=Int×MG×Nat×Mem) (λ(k,G,clk,Ml)=>[Y 0 (.pointer (some ⟨pb,0,none⟩)),Y 7 v6,Y 8 (i64 (len AL)),Y 9 (i64 k)]) (λ(k,G,clk,Ml) wl=>St w M0 wl Ml (.raw b2 (AK .u8 (G.map Prod.fst) clk):: .box pb [(.pointer (some ⟨b,0,none⟩))] 131:: .box b [(.int .u32 0),(.int .i32 1),(.int .u32 0),(.map (some b2))] 104::(LA 9 G++Rs))/\Sl Ml 1 AL.length v6 (AL.flatMap AZ)/\0<=k/\k<=17/\OP k G/\M.le Ml) (λ(k,G,clk,Ml)=>(17-k).toNat) ((0,[],0,M8)) [0,7,8,9] U ?_ ?_
 ·refine⟨hS9,hsl_v6,?_⟩;exact⟨by omega,by omega,OP.start,hle10⟩
 ·rintro⟨k,G,clk,Ml⟩ wl ⟨hS12,hsl_v6,h0,h1,hG,hMl⟩
  have hml:=λ h=>zL h0 (k:=k) h
  refine Ad (Ab (.lss (.t U) (.t U)) U (Aa (Ac (Ag ?_))))
  refine Af rfl ?_ ?_<;>intro hb1<;>try simp only[zb]at hb1
  ·refine Ai (Ac (Ag (Am (Ad ?_))))
   refine Ab (.UU hsl_v6 (.t U) (.t U) underlying32 sizeOf9 (λ _=>by first|omega)) U (Ab (.US (f:=AZ) (i:=k) (j:=0) (u:=(str (at' AL k))) hS12 AR hsl_v6 DZ (.t U) isAgg9 (λ _=>by first|omega) U U) U (Aj U U (Aa (Ac ?_))))
   obtain⟨vx13,xs14,R15,hO16,hget17,hS18⟩:=zQ (A2 (at' AL k) 0) hS12
   replace hS18:St w M0 wl Ml (.raw b2 (AK .u8 (G.map Prod.fst) clk):: .box pb [(.pointer (some ⟨b,0,none⟩))] 131:: .box b [(.int .u32 0),(.int .i32 1),(.int .u32 0),(.map (some b2))] 104:: .own 9 1 vx13 xs14.length (xs14.flatMap AZ)::(R15++Rs)):=hS18
   have hxl:=zP hO16 hG h0
   refine An [0,2,7,8,9] (L':=[Y 0 (.pointer (some ⟨pb,0,none⟩)),Y 2 (str (at' AL k)),Y 7 v6,Y 8 (i64 (len AL)),Y 9 (i64 k)]) ?_ U
   replace hS18:St w M0 wl Ml (.box pb [(.pointer (some ⟨b,0,none⟩))] 131:: .box b [(.int .u32 0),(.int .i32 1),(.int .u32 0),(.map (some b2))] 104:: .raw b2 (AK .u8 (G.map Prod.fst) clk):: .own 9 1 vx13 xs14.length (xs14.flatMap AZ)::(R15++Rs)):=(hS18.front 2 U U).front 2 U U
   replace hS18:St w M0 wl Ml (.raw b2 (AK .u8 (G.map Prod.fst) clk):: .box pb [(.pointer (some ⟨b,0,none⟩))] 131:: .box b [(.int .u32 0),(.int .i32 1),(.int .u32 0),(.map (some b2))] 104:: .own 9 1 vx13 xs14.length (xs14.flatMap AZ)::(R15++Rs)):=hS18.front 2 U U
   refine CW.tR (HsQ:=[.raw b2 (AK .u8 (G.map Prod.fst) clk),.box pb [(.pointer (some ⟨b,0,none⟩))] 131,.box b [(.int .u32 0),(.int .i32 1),(.int .u32 0),(.map (some b2))] 104]) 16 [.is true (.pointer (some ⟨b,0,none⟩)),.is true (.pointer (some ⟨b,0,none⟩)),.is true (.pointer (some ⟨b,3,none⟩)),.is true (.map (some b2)),.is true (str (at' AL k)),.is true (.int .u8 (A2 (at' AL k) 0)),.is true (.pointer (some ⟨b,0,none⟩)),.is true (.pointer (some ⟨b,0,none⟩)),.is true (.pointer (some ⟨b,3,none⟩)),.is true (.map (some b2)),.is true (str (at' AL k)),.is true (.int .u8 (A2 (at' AL k) 0)),.is true vx13,.is true (str (at' AL k)),.any,.any,.any] [(27,.eq λ vz=>(.own 9 1 vz (([at' AL k]:List A1)).length ((([at' AL k]:List A1)).flatMap AZ):: .own 9 1 vx13 xs14.length (xs14.flatMap AZ)::(R15++Rs))),(28,.eq λ vz=>(.own 9 1 vz (xs14++[at' AL k]).length ((xs14++[at' AL k]).flatMap AZ)::(R15++Rs)))] (.own 9 1 vx13 xs14.length (xs14.flatMap AZ)::(R15++Rs)) [none,none,none,none,none,none,none,none,none,none,none,none,none,none,some 0,some 1] hS18 N6 [0,2,7,8,9] U (by decide+kernel) (by decide+kernel) U U (by decide+kernel) (by decide+kernel) [27,28] U (by decide+kernel) (.cons ?_ (.cons ?_ (.cons ?_ (.cons ?_ (.cons ?_ (.cons ?_ (.cons ?_ (.cons ?_ (.cons ?_ (.cons ?_ (.cons ?_ (.cons ?_ (.cons ?_ (.cons ?_ (.cons ?_ (.cons ?_ (.cons ?_ (.nil))))))))))))))))))
   ·intro LL w19 M20 X hle22 hS21 hK hD
    replace hsl_v6:=hsl_v6.mono hle22
    replace hS21:St w M0 w19 M20 (.raw b2 (AK .u8 (G.map Prod.fst) clk):: .box pb [(.pointer (some ⟨b,0,none⟩))] 131:: .box b [(.int .u32 0),(.int .i32 1),(.int .u32 0),(.map (some b2))] 104::X):=hS21
    refine Ab (.B8 (v:=(.pointer (some ⟨b,0,none⟩))) hS21 AR (i:=1) U (.t (hK _ _ U)) isAgg131 U) U ?_
    exact Aa (Al λ a hs=>⟨_,_,Mem.le.refl _,hS21,hs,_,_,rfl,rfl,rfl⟩)
   ·intro LL w23 M24 X hle26 hS25 hK hD
    replace hsl_v6:=hsl_v6.mono hle26
    replace hS25:St w M0 w23 M24 (.raw b2 (AK .u8 (G.map Prod.fst) clk):: .box pb [(.pointer (some ⟨b,0,none⟩))] 131:: .box b [(.int .u32 0),(.int .i32 1),(.int .u32 0),(.map (some b2))] 104::X):=hS25
    obtain⟨g13,v13,hl13,rfl,rfl⟩:=hD 0 (by decide+kernel)
    refine Ab (.IB (.t hl13)) U ?_
    exact Aa (Al λ a hs=>⟨_,_,Mem.le.refl _,hS25,hs,_,_,rfl,rfl,rfl⟩)
   ·intro LL w27 M28 X hle30 hS29 hK hD
    replace hsl_v6:=hsl_v6.mono hle30
    replace hS29:St w M0 w27 M28 (.raw b2 (AK .u8 (G.map Prod.fst) clk):: .box pb [(.pointer (some ⟨b,0,none⟩))] 131:: .box b [(.int .u32 0),(.int .i32 1),(.int .u32 0),(.map (some b2))] 104::X):=hS29
    obtain⟨g14,v14,hl14,rfl,rfl⟩:=hD 1 (by decide+kernel)
    refine Ab (.BI (q:=⟨b,3,none⟩) (.t hl14) (λ w=>by kernel_rfl)) U ?_
    exact Aa (Al λ a hs=>⟨_,_,Mem.le.refl _,hS29,hs,_,_,rfl,rfl,rfl⟩)
   ·intro LL w31 M32 X hle34 hS33 hK hD
    replace hsl_v6:=hsl_v6.mono hle34
    replace hS33:St w M0 w31 M32 (.raw b2 (AK .u8 (G.map Prod.fst) clk):: .box pb [(.pointer (some ⟨b,0,none⟩))] 131:: .box b [(.int .u32 0),(.int .i32 1),(.int .u32 0),(.map (some b2))] 104::X):=hS33
    obtain⟨g15,v15,hl15,rfl,rfl⟩:=hD 2 (by decide+kernel)
    refine Ab (.B8 (v:=(.map (some b2))) hS33 AR (i:=2) U (.t hl15) isAgg102 U) U ?_
    exact Aa (Al λ a hs=>⟨_,_,Mem.le.refl _,hS33,hs,_,_,rfl,rfl,rfl⟩)
   ·intro LL w35 M36 X hle38 hS37 hK hD
    replace hsl_v6:=hsl_v6.mono hle38
    replace hS37:St w M0 w35 M36 (.raw b2 (AK .u8 (G.map Prod.fst) clk):: .box pb [(.pointer (some ⟨b,0,none⟩))] 131:: .box b [(.int .u32 0),(.int .i32 1),(.int .u32 0),(.map (some b2))] 104::X):=hS37
    refine Ab (.move (.t (hK _ _ U))) U ?_
    exact Aa (Al λ a hs=>⟨_,_,Mem.le.refl _,hS37,hs,_,_,rfl,rfl,rfl⟩)
   ·intro LL w39 M40 X hle42 hS41 hK hD
    replace hsl_v6:=hsl_v6.mono hle42
    replace hS41:St w M0 w39 M40 (.raw b2 (AK .u8 (G.map Prod.fst) clk):: .box pb [(.pointer (some ⟨b,0,none⟩))] 131:: .box b [(.int .u32 0),(.int .i32 1),(.int .u32 0),(.map (some b2))] 104::X):=hS41
    obtain⟨g17,v17,hl17,rfl,rfl⟩:=hD 4 (by decide+kernel)
    refine Ab (.C2 (.t hl17) .c underlying9 (λ _=>by first|omega)) U ?_
    exact Aa (Al λ a hs=>⟨_,_,Mem.le.refl _,hS41,hs,_,_,rfl,rfl,rfl⟩)
   ·intro LL w43 M44 X hle46 hS45 hK hD
    replace hsl_v6:=hsl_v6.mono hle46
    replace hS45:St w M0 w43 M44 (.raw b2 (AK .u8 (G.map Prod.fst) clk):: .box pb [(.pointer (some ⟨b,0,none⟩))] 131:: .box b [(.int .u32 0),(.int .i32 1),(.int .u32 0),(.map (some b2))] 104::X):=hS45
    refine Ab (.B8 (v:=(.pointer (some ⟨b,0,none⟩))) hS45 AR (i:=1) U (.t (hK _ _ U)) isAgg131 U) U ?_
    exact Aa (Al λ a hs=>⟨_,_,Mem.le.refl _,hS45,hs,_,_,rfl,rfl,rfl⟩)
   ·intro LL w47 M48 X hle50 hS49 hK hD
    replace hsl_v6:=hsl_v6.mono hle50
    replace hS49:St w M0 w47 M48 (.raw b2 (AK .u8 (G.map Prod.fst) clk):: .box pb [(.pointer (some ⟨b,0,none⟩))] 131:: .box b [(.int .u32 0),(.int .i32 1),(.int .u32 0),(.map (some b2))] 104::X):=hS49
    obtain⟨g19,v19,hl19,rfl,rfl⟩:=hD 6 (by decide+kernel)
    refine Ab (.IB (.t hl19)) U ?_
    exact Aa (Al λ a hs=>⟨_,_,Mem.le.refl _,hS49,hs,_,_,rfl,rfl,rfl⟩)
   ·intro LL w51 M52 X hle54 hS53 hK hD
    replace hsl_v6:=hsl_v6.mono hle54
    replace hS53:St w M0 w51 M52 (.raw b2 (AK .u8 (G.map Prod.fst) clk):: .box pb [(.pointer (some ⟨b,0,none⟩))] 131:: .box b [(.int .u32 0),(.int .i32 1),(.int .u32 0),(.map (some b2))] 104::X):=hS53
    obtain⟨g20,v20,hl20,rfl,rfl⟩:=hD 7 (by decide+kernel)
    refine Ab (.BI (q:=⟨b,3,none⟩) (.t hl20) (λ w=>by kernel_rfl)) U ?_
    exact Aa (Al λ a hs=>⟨_,_,Mem.le.refl _,hS53,hs,_,_,rfl,rfl,rfl⟩)
   ·intro LL w55 M56 X hle58 hS57 hK hD
    replace hsl_v6:=hsl_v6.mono hle58
    replace hS57:St w M0 w55 M56 (.raw b2 (AK .u8 (G.map Prod.fst) clk):: .box pb [(.pointer (some ⟨b,0,none⟩))] 131:: .box b [(.int .u32 0),(.int .i32 1),(.int .u32 0),(.map (some b2))] 104::X):=hS57
    obtain⟨g21,v21,hl21,rfl,rfl⟩:=hD 8 (by decide+kernel)
    refine Ab (.B8 (v:=(.map (some b2))) hS57 AR (i:=2) U (.t hl21) isAgg102 U) U ?_
    exact Aa (Al λ a hs=>⟨_,_,Mem.le.refl _,hS57,hs,_,_,rfl,rfl,rfl⟩)
   ·intro LL w59 M60 X hle62 hS61 hK hD
    replace hsl_v6:=hsl_v6.mono hle62
    replace hS61:St w M0 w59 M60 (.raw b2 (AK .u8 (G.map Prod.fst) clk):: .box pb [(.pointer (some ⟨b,0,none⟩))] 131:: .box b [(.int .u32 0),(.int .i32 1),(.int .u32 0),(.map (some b2))] 104::X):=hS61
    refine Ab (.move (.t (hK _ _ U))) U ?_
    exact Aa (Al λ a hs=>⟨_,_,Mem.le.refl _,hS61,hs,_,_,rfl,rfl,rfl⟩)
   ·intro LL w63 M64 X hle66 hS65 hK hD
    replace hsl_v6:=hsl_v6.mono hle66
    replace hS65:St w M0 w63 M64 (.raw b2 (AK .u8 (G.map Prod.fst) clk):: .box pb [(.pointer (some ⟨b,0,none⟩))] 131:: .box b [(.int .u32 0),(.int .i32 1),(.int .u32 0),(.map (some b2))] 104::X):=hS65
    obtain⟨g23,v23,hl23,rfl,rfl⟩:=hD 10 (by decide+kernel)
    refine Ab (.C2 (.t hl23) .c underlying9 (λ _=>by first|omega)) U ?_
    exact Aa (Al λ a hs=>⟨_,_,Mem.le.refl _,hS65,hs,_,_,rfl,rfl,rfl⟩)
   ·intro LL w67 M68 X hle70 hS69 hK hD
    replace hsl_v6:=hsl_v6.mono hle70
    replace hS69:St w M0 w67 M68 (.raw b2 (AK .u8 (G.map Prod.fst) clk):: .box pb [(.pointer (some ⟨b,0,none⟩))] 131:: .box b [(.int .u32 0),(.int .i32 1),(.int .u32 0),(.map (some b2))] 104::X):=hS69
    obtain⟨g22,v22,hl22,rfl,rfl⟩:=hD 9 (by decide+kernel)
    obtain⟨g24,v24,hl24,rfl,rfl⟩:=hD 11 (by decide+kernel)
    refine Ab (.lookup (k:=.u8) (v:=vx13) hS69 AR (i:=0) U (.t hl22) (.t hl24) underlying102 underlying5 zeroValue32 hget17) U ?_
    exact Aa (Al λ a hs=>⟨_,_,Mem.le.refl _,hS69,hs,_,_,rfl,rfl,rfl⟩)
   ·intro LL w71 M72 X hle74 hS73 hK hD
    replace hsl_v6:=hsl_v6.mono hle74
    replace hS73:St w M0 w71 M72 (.raw b2 (AK .u8 (G.map Prod.fst) clk):: .box pb [(.pointer (some ⟨b,0,none⟩))] 131:: .box b [(.int .u32 0),(.int .i32 1),(.int .u32 0),(.map (some b2))] 104::X):=hS73
    refine Ab (.move (.t (hK _ _ U))) U ?_
    exact Aa (Al λ a hs=>⟨_,_,Mem.le.refl _,hS73,hs,_,_,rfl,rfl,rfl⟩)
   ·intro LL w75 M76 X hle78 hS77 hK hD hX
    replace hsl_v6:=hsl_v6.mono hle78
    obtain rfl:(.own 9 1 vx13 xs14.length (xs14.flatMap AZ)::(R15++Rs))=X:=Eq.symm hX
    replace hS77:St w M0 w75 M76 (.raw b2 (AK .u8 (G.map Prod.fst) clk):: .box pb [(.pointer (some ⟨b,0,none⟩))] 131:: .box b [(.int .u32 0),(.int .i32 1),(.int .u32 0),(.map (some b2))] 104:: .own 9 1 vx13 xs14.length (xs14.flatMap AZ)::(R15++Rs)):=hS77
    obtain⟨g26,v26,hl26,rfl,rfl⟩:=hD 13 (by decide+kernel)
    refine RL.buildSlice (n:=1) (sz:=1) (e:=9) (vs:=[(0,(str (at' AL k)))]) (cs:=[(str (at' AL k))]) hS77 (.cons (.t hl26) .nil) U U (λ w=>by kernel_rfl) U (λ v79 w80 M81 hS82 hle83=>?_)
    replace hS82:St w M0 w80 M81 (.own 9 1 v79 (([at' AL k]:List A1)).length ((([at' AL k]:List A1)).flatMap AZ):: .raw b2 (AK .u8 (G.map Prod.fst) clk):: .box pb [(.pointer (some ⟨b,0,none⟩))] 131:: .box b [(.int .u32 0),(.int .i32 1),(.int .u32 0),(.map (some b2))] 104:: .own 9 1 vx13 xs14.length (xs14.flatMap AZ)::(R15++Rs)):=hS82
    replace hsl_v6:=hsl_v6.mono hle83
    replace hS82:St w M0 w80 M81 (.box pb [(.pointer (some ⟨b,0,none⟩))] 131:: .box b [(.int .u32 0),(.int .i32 1),(.int .u32 0),(.map (some b2))] 104:: .own 9 1 v79 (([at' AL k]:List A1)).length ((([at' AL k]:List A1)).flatMap AZ):: .raw b2 (AK .u8 (G.map Prod.fst) clk):: .own 9 1 vx13 xs14.length (xs14.flatMap AZ)::(R15++Rs)):=(hS82.front 3 U U).front 3 U U
    replace hS82:St w M0 w80 M81 (.raw b2 (AK .u8 (G.map Prod.fst) clk):: .box pb [(.pointer (some ⟨b,0,none⟩))] 131:: .box b [(.int .u32 0),(.int .i32 1),(.int .u32 0),(.map (some b2))] 104:: .own 9 1 v79 (([at' AL k]:List A1)).length ((([at' AL k]:List A1)).flatMap AZ):: .own 9 1 vx13 xs14.length (xs14.flatMap AZ)::(R15++Rs)):=hS82.front 3 U U
    exact Aa (Al λ a hs=>⟨_,_,(.own 9 1 v79 (([at' AL k]:List A1)).length ((([at' AL k]:List A1)).flatMap AZ):: .own 9 1 vx13 xs14.length (xs14.flatMap AZ)::(R15++Rs)),hle83,hS82,hs,⟨_,_,rfl,trivial⟩,⟨_,rfl,rfl⟩⟩)
   ·intro LL w84 M85 X hle87 hS86 hK hD hX
    replace hsl_v6:=hsl_v6.mono hle87
    obtain⟨vx88,hl27,rfl⟩:=hX
    replace hS86:St w M0 w84 M85 (.raw b2 (AK .u8 (G.map Prod.fst) clk):: .box pb [(.pointer (some ⟨b,0,none⟩))] 131:: .box b [(.int .u32 0),(.int .i32 1),(.int .u32 0),(.map (some b2))] 104:: .own 9 1 vx88 (([at' AL k]:List A1)).length ((([at' AL k]:List A1)).flatMap AZ):: .own 9 1 vx13 xs14.length (xs14.flatMap AZ)::(R15++Rs)):=hS86
    obtain⟨g25,v25,hl25,rfl,hv25⟩:=hD 12 (by decide+kernel)
    subst v25
    refine RL.SH (f:=AZ) (l:=xs14) (y:=at' AL k) hS86 (k:=4) U (.t hl25) (.t hl27) (hS86.sl (i:=3) U) underlying32 type9 U U U YP (by':=16) U U (by first|omega) U (Hs':=λ v'=>(.raw b2 (AK .u8 (G.map Prod.fst) clk):: .box pb [(.pointer (some ⟨b,0,none⟩))] 131:: .box b [(.int .u32 0),(.int .i32 1),(.int .u32 0),(.map (some b2))] 104:: .own 9 1 vx88 (([at' AL k]:List A1)).length ((([at' AL k]:List A1)).flatMap AZ):: .own 9 1 v' (xs14++[at' AL k]).length ((xs14++[at' AL k]).flatMap AZ)::(R15++Rs))) (λ _=>rfl) (λ v89 w90 M91 hS92 hle93=>?_)
    replace hS92:=hS92.erase 3 U
    replace hsl_v6:=hsl_v6.mono hle93
    replace hS92:St w M0 w90 M91 (.box pb [(.pointer (some ⟨b,0,none⟩))] 131:: .box b [(.int .u32 0),(.int .i32 1),(.int .u32 0),(.map (some b2))] 104:: .raw b2 (AK .u8 (G.map Prod.fst) clk):: .own 9 1 v89 (xs14++[at' AL k]).length ((xs14++[at' AL k]).flatMap AZ)::(R15++Rs)):=(hS92.front 2 U U).front 2 U U
    replace hS92:St w M0 w90 M91 (.raw b2 (AK .u8 (G.map Prod.fst) clk):: .box pb [(.pointer (some ⟨b,0,none⟩))] 131:: .box b [(.int .u32 0),(.int .i32 1),(.int .u32 0),(.map (some b2))] 104:: .own 9 1 v89 (xs14++[at' AL k]).length ((xs14++[at' AL k]).flatMap AZ)::(R15++Rs)):=hS92.front 2 U U
    exact Aa (Al λ a hs=>⟨_,_,(.own 9 1 v89 (xs14++[at' AL k]).length ((xs14++[at' AL k]).flatMap AZ)::(R15++Rs)),hle93,hS92,hs,⟨_,_,rfl,trivial⟩,⟨_,rfl,rfl⟩⟩)
   ·intro LL w94 M95 X hle97 hS96 hK hD hX
    replace hsl_v6:=hsl_v6.mono hle97
    obtain⟨vx98,hl28,rfl⟩:=hX
    replace hS96:St w M0 w94 M95 (.raw b2 (AK .u8 (G.map Prod.fst) clk):: .box pb [(.pointer (some ⟨b,0,none⟩))] 131:: .box b [(.int .u32 0),(.int .i32 1),(.int .u32 0),(.map (some b2))] 104:: .own 9 1 vx98 (xs14++[at' AL k]).length ((xs14++[at' AL k]).flatMap AZ)::(R15++Rs)):=hS96
    obtain⟨g16,v16,hl16,rfl,rfl⟩:=hD 3 (by decide)
    obtain⟨g18,v18,hl18,rfl,rfl⟩:=hD 5 (by decide)
    refine RL.fU (v:=vx98) hS96 (i:=0) U (.t hl16) (.t hl18) (.t hl28) underlying102 underlying5 (l':=(FM (G.map Prod.fst) clk (A2 (at' AL k) 0) vx98)) U (c':=(HR (G.map Prod.fst) clk (A2 (at' AL k) 0) vx98)) U (Hs':=(.raw b2 (AK .u8 (FM (G.map Prod.fst) clk (A2 (at' AL k) 0) vx98) (HR (G.map Prod.fst) clk (A2 (at' AL k) 0) vx98)):: .box pb [(.pointer (some ⟨b,0,none⟩))] 131:: .box b [(.int .u32 0),(.int .i32 1),(.int .u32 0),(.map (some b2))] 104:: .own 9 1 vx98 (xs14++[at' AL k]).length ((xs14++[at' AL k]).flatMap AZ)::(R15++Rs))) U (λ w99 hS100=>?_)
    refine Aa (fV (E:=[Y 0 (.pointer (some ⟨pb,0,none⟩)),Y 2 (str (at' AL k)),Y 7 v6,Y 8 (i64 (len AL)),Y 9 (i64 k)]) (.cons (hK _ _ U) (.cons (hK _ _ U) (.cons (hK _ _ U) (.cons (hK _ _ U) (.cons (hK _ _ U) .nil))))) ?_)
    refine(CW.at [Y 0 (.pointer (some ⟨pb,0,none⟩)),Y 7 v6,Y 8 (i64 (len AL)),Y 9 (i64 k)] U ?_)
    refine CW.region (Ab (.add (.t U) .c (λ _=>by first|omega)) U (Ae U U ?_))
    replace hS100:St w M0 w99 M95 (.box pb [(.pointer (some ⟨b,0,none⟩))] 131:: .box b [(.int .u32 0),(.int .i32 1),(.int .u32 0),(.map (some b2))] 104:: .raw b2 (AK .u8 (FM (G.map Prod.fst) clk (A2 (at' AL k) 0) vx98) (HR (G.map Prod.fst) clk (A2 (at' AL k) 0) vx98)):: .own 9 1 vx98 (xs14++[at' AL k]).length ((xs14++[at' AL k]).flatMap AZ)::(R15++Rs)):=(hS100.front 2 U U).front 2 U U
    replace hS100:St w M0 w99 M95 (.raw b2 (AK .u8 (FM (G.map Prod.fst) clk (A2 (at' AL k) 0) vx98) (HR (G.map Prod.fst) clk (A2 (at' AL k) 0) vx98)):: .box pb [(.pointer (some ⟨b,0,none⟩))] 131:: .box b [(.int .u32 0),(.int .i32 1),(.int .u32 0),(.map (some b2))] 104:: .own 9 1 vx98 (xs14++[at' AL k]).length ((xs14++[at' AL k]).flatMap AZ)::(R15++Rs)):=hS100.front 2 U U
    obtain⟨G102,hG1,hG2,hG3⟩:=zR (w0:=w) (M0:=M0) (A:=.raw b2 (AK .u8 (FM (G.map Prod.fst) clk (A2 (at' AL k) 0) vx98) (HR (G.map Prod.fst) clk (A2 (at' AL k) 0) vx98))) (B:=.box pb [(.pointer (some ⟨b,0,none⟩))] 131) (C:=.box b [(.int .u32 0),(.int .i32 1),(.int .u32 0),(.map (some b2))] 104) (Rs:=Rs) clk hO16 (at' AL k) vx98
    have hS101:=hG2 hS100
    rw[hG1]at hS101
    refine Aa λ a hs=>Exists.intro ((k+1,G102,(HR (G.map Prod.fst) clk (A2 (at' AL k) 0) vx98),M95)) ⟨hs.BC [0,7,8,9],?_,?_⟩
    ·refine⟨hS101,hsl_v6,?_⟩
     exact⟨by omega,by omega,hG3 h0 (by omega) U U hG,(hMl.trans hle97)⟩
    ·show Int.toNat _<Int.toNat _;omega
  ·obtain⟨hMM,hS103⟩:=zS hS12 (by rw[show(17:Int)=k from by omega];exact hG)
   replace hS103:St w M0 wl Ml (.box pb [(.pointer (some ⟨b,0,none⟩))] 131:: .box b [(.int .u32 0),(.int .i32 1),(.int .u32 0),(.map (some b2))] 104:: .raw b2 (AK .u8 (G.map Prod.fst) clk)::Rs):=(hS103.front 2 U U).front 2 U U
   replace hS103:St w M0 wl Ml (.raw b2 (AK .u8 (G.map Prod.fst) clk):: .box pb [(.pointer (some ⟨b,0,none⟩))] 131:: .box b [(.int .u32 0),(.int .i32 1),(.int .u32 0),(.map (some b2))] 104::Rs):=hS103.front 2 U U
   refine CW.exit (hE.e0 U ?_)
   exact⟨_,rfl,_,_,_,Ml,rfl,hMM,hS103,hMl⟩
theorem bL{w:World}{b:Nat}{cs:List Value}{t:TypeId}(i:Nat)(x:Value)(h:w.heap[b]? =some (.cells cs.toArray t (0,0))):w.setCell ⟨b,i,none⟩ x=w.setRow b (cs.set i x).toArray:=by
 unfold World.setCell World.setRow
 congr 1
 apply Array.ext_getElem?
 intro k
 by_cases hk:b=k
 ·subst hk;simp[Array.getElem?_modify,h]
 ·simp[Array.getElem?_modify,hk]
theorem TU{w:World}{b:Nat}{cs:List Value}{t:TypeId}(h:w.heap[b]? =some (.cells cs.toArray t (0,0)))(i:Nat):w.cell? ⟨b,i,none⟩=cs[i]?:=by simp[World.cell?,h]
theorem bM{w:World}{b:Nat}{cs:List Value}{t:TypeId}(h:w.heap[b]? =some (.cells cs.toArray t (0,0)))(i:Nat):w.frozen? ⟨b,i,none⟩=false:=by simp[World.frozen?,h]
def MN(M:Mem)(cs:List Value)(X:HO):Prop:=
 (cs=[.int .u32 0,.int .i32 0,.int .u32 0,.map none]/\X= .own 9 1 (.slice none 0 0) 0 [])\/
 ∃mb l c,cs=[.int .u32 1,.int .i32 0,.int .u32 0,.map (some mb)]/\X= .raw mb (AK .u8 l c)/\NK M l
theorem NK.mono {M M':Mem}{l:List KV}(h:NK M l)(hm:M.le M'):NK M' l:=λ c=>by obtain⟨v,h1,h2⟩:=h c;exact⟨v,h1,h2.mono hm⟩
theorem MN.mono {M M':Mem}{cs:List Value}{X:HO}(h:MN M cs X)(hm:M.le M'):MN M' cs X:=h.imp id λ⟨mb,l,c,h1,h2,h3⟩=>⟨mb,l,c,h1,h2,NK.mono h3 hm⟩
theorem zX{w wv:World}{M0 M:Mem}{Rs:List HO}(pb b:Nat)(cs:List Value)(X:HO)(hS:St w M0 wv M (.box pb [.pointer (some ⟨b,0,none⟩)] 131:: .box b cs 104::X::Rs))(hm:MN M cs X)(hg:Gl w):
  Calls prog 113 [.pointer (some ⟨b,0,none⟩),.func (.func 114) #[] #[.pointer (some ⟨pb,0,none⟩)]].toArray wv λ e w'=> ∃v,e= .returned v/\ ∃mb l c M',v= .tuple #[]/\NK M' l/\St w M0 w' M' (.box pb [.pointer (some ⟨b,0,none⟩)] 131:: .box b [.int .u32 1,.int .i32 0,.int .u32 0,.map (some mb)] 104:: .raw mb (AK .u8 l c)::Rs)/\M.le M':=by
 rcases hm with⟨rfl,rfl⟩|⟨mb,l,c,rfl,rfl,hM⟩
 ·have hb:=(hS.obj (i:=1) U).2.1
  have hS1:St w M0 (wv.setCell ⟨b,1,none⟩ (.int .i32 1)) M (.box pb [.pointer (some ⟨b,0,none⟩)] 131:: .box b [.int .u32 0,.int .i32 1,.int .u32 0,.map none] 104:: .own 9 1 (.slice none 0 0) 0 []::Rs):=by
   rw[bL 1 _ hb];exact hS.SG (i:=1) U _
  have hS2:=hS1.erase 2 (Hs':=.box pb [.pointer (some ⟨b,0,none⟩)] 131:: .box b [.int .u32 0,.int .i32 1,.int .u32 0,.map none] 104::Rs) U
  refine(yW 114 #[.pointer (some ⟨pb,0,none⟩)] b wv (λ w1=> ∃mb l c M',NK M' l/\St w M0 w1 M' (.raw mb (AK .u8 l c):: .box pb [.pointer (some ⟨b,0,none⟩)] 131:: .box b [.int .u32 0,.int .i32 1,.int .u32 0,.map (some mb)] 104::Rs)/\M.le M') call114 (by rw[TU hb];rfl) (by rw[TU hb];rfl) (bM hb 1) ?_).mono ?_
  ·refine(zW pb b hS2 hg).mono ?_
   rintro e w' ⟨v,rfl,mb,l,c,M',rfl,h1,h2,h3⟩
   have hb':=(h2.obj (i:=2) U).2.1
   exact⟨rfl,by rw[TU hb'];rfl,bM hb' 0,by rw[TU hb'];rfl,bM hb' 1,mb,l,c,M',h1,h2,h3⟩
  ·rintro e w' ⟨rfl,w1,⟨mb,l,c,M',h1,h2,h3⟩,_,_,_,_,rfl⟩
   refine⟨_,rfl,mb,l,c,M',rfl,h1,?_,h3⟩
   have h4:=h2.ext (Ext.drew w1)
   have hb4:=(h4.obj (i:=2) U).2.1
   rw[bL 0 _ hb4]
   have h5:St w M0 (w1.drew.setRow b [.int .u32 1,.int .i32 1,.int .u32 0,.map (some mb)].toArray) M' (.raw mb (AK .u8 l c):: .box pb [.pointer (some ⟨b,0,none⟩)] 131:: .box b [.int .u32 1,.int .i32 1,.int .u32 0,.map (some mb)] 104::Rs):=h4.SG (i:=2) U _
   have hb5:=(h5.obj (i:=2) U).2.1
   show St w M0 ((w1.drew.setRow b [.int .u32 1,.int .i32 1,.int .u32 0,.map (some mb)].toArray).setCell ⟨b,1,none⟩ (.int .i32 0)) M' _
   rw[bL 1 _ hb5]
   have h6:St w M0 ((w1.drew.setRow b [.int .u32 1,.int .i32 1,.int .u32 0,.map (some mb)].toArray).setRow b [.int .u32 1,.int .i32 0,.int .u32 0,.map (some mb)].toArray) M' (.raw mb (AK .u8 l c):: .box pb [.pointer (some ⟨b,0,none⟩)] 131:: .box b [.int .u32 1,.int .i32 0,.int .u32 0,.map (some mb)] 104::Rs):=h5.SG (i:=2) U _
   exact(h6.front 1 U U).front 2 U U|>.front 1 U U
 ·have hb:=(hS.obj (i:=1) U).2.1
  refine(yX ⟨b,0,none⟩ 1 (by decide) _ wv (by rw[TU hb];rfl)).mono ?_
  rintro e w' ⟨rfl,rfl⟩
  exact⟨_,rfl,mb,l,c,M,rfl,hM,hS,Mem.le.refl _⟩
theorem kV{w wv:World}{M0 M:Mem}{Rs:List HO}(b:Nat)(cs:List Value)(X:HO)(s:A1)(hS:St w M0 wv M (.box b cs 104::X::Rs))(hm:MN M cs X)(hg:Gl w)(h0:0<len s)(hb:len s<=1099511627776):
  Calls prog 79 [(.pointer (some ⟨b,0,none⟩)),(str s)].toArray wv λ e w'=> ∃v,e= .returned v/\ ∃cs' X' M',v=str (BY s)/\MN M' cs' X'/\St w M0 w' M' (.box b cs' 104::X'::Rs)/\M.le M':=by
 refine CW.BH func79 U ntmps79 (Nat.le_of_ble_eq_true U) λ Q hE=>?_
 refine An [0,1] (L':=[Y 0 (.pointer (some ⟨b,0,none⟩)),Y 1 (str s)]) ?_ U
 refine Ad ?_
 refine RL.box (v:=(.pointer (some ⟨b,0,none⟩))) hS (.t U) U (λ w1 b2 hS3=>?_)
 refine Ab (.assign .c) U (Aa (Ac ?_))
 refine Ad (Ab (.B8 (v:=(.pointer (some ⟨b,0,none⟩))) hS3 AR (i:=0) U (.t U) isAgg131 U) U (Ab (.IB (.t U)) U (Ab (.BI (q:=⟨b,0,none⟩) (.t U) (λ w=>by kernel_rfl)) U (Ab (.makeFunc .nil (.cons (.t U) .nil)) U ?_))))
 replace hS3:St w M0 w1 M (.box b cs 104::X:: .box b2 [(.pointer (some ⟨b,0,none⟩))] 131::Rs):=(hS3.front 2 U U).front 2 U U
 replace hS3:St w M0 w1 M (.box b2 [(.pointer (some ⟨b,0,none⟩))] 131:: .box b cs 104::X::Rs):=hS3.front 2 U U
 refine RL.DP call113 (.cons (.t U) (.cons (.t U) .nil)) (zX (Rs:=Rs) b2 b cs X hS3 (by assumption) hg) U ?_
 rintro v7 w8 ⟨mb4,ml5,mc6,M9,rfl,hMM_mb4,hS10,hle11⟩
 replace hS10:St w M0 w8 M9 (.box b2 [(.pointer (some ⟨b,0,none⟩))] 131:: .box b [(.int .u32 1),(.int .i32 0),(.int .u32 0),(.map (some mb4))] 104:: .raw mb4 (AK .u8 ml5 mc6)::Rs):=hS10
 refine Aa (CW.at [Y 1 (str s),Y 2 (.pointer (some ⟨b2,0,none⟩))] U (Ag (Ag ?_)))
 refine CW.P5 hS10 N6 (by decide+kernel) ?_
 refine RQ.v .none (.B8 (v:=(.pointer (some ⟨b,0,none⟩))) hS10 (λ _ h=>h) (i:=0) U (.t U) isAgg131 U) U ?_
 refine RQ.v .none (.IB (.t U)) U ?_
 refine RQ.v .none (.BI (q:=⟨b,3,none⟩) (.t U) (λ w=>by kernel_rfl)) U ?_
 refine RQ.v .none (.B8 (v:=(.map (some mb4))) hS10 (λ _ h=>h) (i:=1) U (.t U) isAgg102 U) U ?_
 refine RQ.v .none (.move (.t U)) U ?_
 refine RQ.v .none (.C2 (.t U) .c underlying9 (λ _=>by omega)) U ?_
 obtain⟨mv,hmv,hmsl⟩:=hMM_mb4 (A2 s 0)
 refine RQ.v .none (.lookup (k:=.u8) (v:=mv) hS10 (λ _ h=>h) (i:=2) U (.t U) (.t U) underlying102 underlying5 zeroValue32 hmv) U ?_
 refine RQ.v .none (.QM hmsl (.t U) ⟨_,underlying32⟩) U ?_
 refine RQ.v .none (.move .c) U ?_
 refine RQ.nil (λ a hs w12 hS13=>CW.at [Y 1 (str s),Y 18 mv,Y 19 (i64 (len (marksOf (A2 s 0)))),Y 20 (i64 0)] U ?_ a hs)
 refine Am ?_
 refine CW.loop (σ:=Int) (λ k=>[Y 1 (str s),Y 18 mv,Y 19 (i64 (len (marksOf (A2 s 0)))),Y 20 (i64 k)]) (λ k wl=>St w M0 wl M9 (.box b2 [(.pointer (some ⟨b,0,none⟩))] 131:: .box b [(.int .u32 1),(.int .i32 0),(.int .u32 0),(.map (some mb4))] 104:: .raw mb4 (AK .u8 ml5 mc6)::Rs)/\0<=k/\k<=len (marksOf (A2 s 0))/\LB s (marksOf (A2 s 0)) k) (λ k=>(len (marksOf (A2 s 0))-k).toNat) 0 [1,18,19,20] U ?_ ?_
 ·refine⟨hS13,?_⟩;exact⟨by omega,A4 _,rfl⟩
 ·rintro k wl ⟨hS14,hk0,hk1,hN⟩
  have hll:=hmsl.le
  change len (marksOf (A2 s 0))<=9223372036854775807 at hll
  refine Ad (Ab (.lss (.t U) (.t U)) U (Aa (Ac (Ag ?_))))
  refine Af rfl ?_ ?_<;>intro hb1<;>try simp only[zb]at hb1
  ·refine Ai (Ac (Ag (Am (Ad ?_))))
   refine Ab (.UU hmsl (.t U) (.t U) underlying32 sizeOf9 (λ _=>by omega)) U (Ab (.US (f:=AZ) (i:=k) (j:=0) (u:=(str (at' (marksOf (A2 s 0)) k))) hS14 AR hmsl DZ (.t U) isAgg9 (λ _=>by omega) U U) U (Aj U U (Aa (Ac ?_))))
   refine Ad (Ae U U (Ae U U ?_))
   refine RL.DC .none call77 (.cons (.t U) (.cons (.t U) .nil)) (λ _=>(P6 s (at' (marksOf (A2 s 0)) k) _)) U ?_
   refine Aa (CW.at [Y 1 (str s),Y 6 (str (at' (marksOf (A2 s 0)) k)),Y 18 mv,Y 19 (i64 (len (marksOf (A2 s 0)))),Y 20 (i64 k),Y 26 (.bool (Lib.hasPrefix s (at' (marksOf (A2 s 0)) k)))] U ?_)
   refine Af rfl ?_ ?_<;>intro hb2<;>try simp only[zb]at hb2
   ·refine Ad (Ae U U (Aj U U (Aa (Ac (Ah (hE.r1 U U ?_))))))
    replace hS14:St w M0 wl M9 (.raw mb4 (AK .u8 ml5 mc6):: .box b [(.int .u32 1),(.int .i32 0),(.int .u32 0),(.map (some mb4))] 104::Rs):=(hS14.erase 0 U).front 1 U U
    replace hS14:St w M0 wl M9 (.box b [(.int .u32 1),(.int .i32 0),(.int .u32 0),(.map (some mb4))] 104:: .raw mb4 (AK .u8 ml5 mc6)::Rs):=hS14.front 1 U U
    have hq:BY s=at' (marksOf (A2 s 0)) k:=by rw[kT,hN.found hk0 hb1 hb2]
    exact⟨_,rfl,_,_,_,by rw[hq],.inr ⟨_,_,_,rfl,rfl,hMM_mb4⟩,hS14,hle11⟩
   ·refine Ai (Ac ?_)
    refine CW.region (Ab (.add (.t U) .c (λ _=>by omega)) U (Ae U U ?_))
    refine Aa λ a hs=>Exists.intro (k+1) ⟨hs.BC [1,18,19,20],?_,?_⟩
    ·refine⟨hS14,?_⟩
     exact⟨by omega,by omega,hN.step hk0 hb1 (by simpa using hb2)⟩
    ·show Int.toNat _<Int.toNat _;omega
  ·refine CW.exit (CW.at [] U ?_)
   refine Ad (Ab (.assign .c) U (Aa (Ac (Ah (hE.r1 U U ?_)))))
   replace hS14:St w M0 wl M9 (.raw mb4 (AK .u8 ml5 mc6):: .box b [(.int .u32 1),(.int .i32 0),(.int .u32 0),(.map (some mb4))] 104::Rs):=(hS14.erase 0 U).front 1 U U
   replace hS14:St w M0 wl M9 (.box b [(.int .u32 1),(.int .i32 0),(.int .u32 0),(.map (some mb4))] 104:: .raw mb4 (AK .u8 ml5 mc6)::Rs):=hS14.front 1 U U
   have hq:BY s=[]:=by rw[kT,hN.bK (by omega)]
   exact⟨_,rfl,_,_,_,by rw[hq],.inr ⟨_,_,_,rfl,rfl,hMM_mb4⟩,hS14,hle11⟩
end Go.Proofs.YtmjpjbmeamnfpaaGreatDoor
