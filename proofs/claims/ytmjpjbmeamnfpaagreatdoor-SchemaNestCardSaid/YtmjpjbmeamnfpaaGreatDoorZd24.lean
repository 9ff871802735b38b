/-
  Parts NumB Back Lok In Ps R3 R4 R5 R6 Ra Io, put together and made short by wip/py/merge.py (mini.py).
-/
import Derived.Test.YtmjpjbmeamnfpaaGreatDoorZd23
import Derived.Test.YtmjpjbmeamnfpaaGreatDoorZd14
import Derived.Lib.SlTrimSet
import Derived.Test.YtmjpjbmeamnfpaaGreatDoorZd16
import Derived.Lib.Join
import Derived.Test.YtmjpjbmeamnfpaaGreatDoorZd13
import Derived.Test.YtmjpjbmeamnfpaaGreatDoorZd10
import Derived.Test.YtmjpjbmeamnfpaaGreatDoorZd4
import Derived.Laws.BitsLemmas
import Derived.Test.YtmjpjbmeamnfpaaGreatDoorZd3
import Derived.Test.YtmjpjbmeamnfpaaGreatDoorProg
import Derived.Test.YtmjpjbmeamnfpaaGreatDoorZd19
import Derived.Test.YtmjpjbmeamnfpaaGreatDoorZd17
import Derived.Lib.AtoiTie
import Derived.Lib.AtoiAllCases
import Derived.Test.YtmjpjbmeamnfpaaGreatDoorZd0
set_option linter.unusedVariables false
set_option linter.unusedSimpArgs false
namespace Go.Eng
open Go.RowKit
def IT(l:A1):Prop:= ∀b∈l,DD b=true
theorem T9{s:A1}:H0 s=true↔IT s:=by
 rw[WY]
 constructor
 ·intro h b hb
  obtain⟨j,hj,e⟩:=List.getElem_of_mem hb
  have:=h j hj
  rw[e]at this;exact this
 ·intro h j hj;exact h _ (List.getElem_mem hj)
theorem IT.app {a b:A1}(h:IT a)(k:IT b):IT (a++b):=λ x hx=>by
 rcases List.mem_append.1 hx with hx|hx
 ·exact h x hx
 ·exact k x hx
theorem gM{n:Nd}(h:KC n=true):n=⟨3,0,[],n.s,n.neg,n.e⟩/\IT n.s/\len n.s<=100/\ -1000<=n.e/\n.e<=1000/\len n.s+n.e<=1000/\((n.s=[]/\n.neg=false/\n.e=0)\/(n.s≠[]/\A2 n.s 0≠48/\A2 n.s (len n.s-1)≠48)):=by
 obtain⟨kind,many,name,s,neg,e⟩:=n
 unfold KC at h
 dsimp only at h ⊢
 split at h
 ·cases h
 rename_i hc
 simp only[Bool.or_eq_true,decide_eq_true_eq,bne_iff_ne,Bool.not_eq_true',beq_eq_false_iff_ne,not_or,ne_eq,Classical.not_not]at hc
 obtain⟨⟨⟨⟨⟨⟨⟨c1,c2⟩,c3⟩,c4⟩,c5⟩,c6⟩,c7⟩,c8⟩:=hc
 subst c1;subst c2;subst c3
 refine⟨rfl,T9.1 (by simpa using c4),by omega,by omega,by omega,by omega,?_⟩
 split at h
 ·rename_i hs
  simp only[Bool.and_eq_true,Bool.not_eq_true',beq_iff_eq]at h hs
  exact .inl ⟨hs,h.1,h.2⟩
 ·rename_i hs
  simp only[Bool.and_eq_true,bne_iff_ne,beq_iff_eq]at h hs
  exact .inr ⟨hs,h.1,h.2⟩
theorem vW{neg:Bool}{s:A1}{e:Int}(h:(E5 neg s e).2=0):KC (E5 neg s e).1=true:=by
 unfold E5 at h ⊢
 by_cases c1:H0 s=true
 ·rw[if_pos c1]at h ⊢
  by_cases c2:(AU s==[])=true
  ·rw[if_pos c2];decide+kernel
  rw[if_neg c2]at h ⊢
  split at h
  ·cases h
  rename_i c3
  rw[if_neg c3]
  split at h
  ·cases h
  rename_i c4
  rw[if_neg c4]
  simp only[Bool.or_eq_true,decide_eq_true_eq]at c4
  have c2': ¬AU s=[]:=by simpa using c2
  have hp:=b8 s c2'
  have htn:CN (AU s)≠[]:=vR.2 hp
  have hpre: ∃r,CN (AU s)++r=AU s:=by
   unfold CN Lib.trimRightS
   have:=List.dropWhile_suffix (([48]:A1).contains ·) (l:=(AU s).reverse)
   obtain⟨r,hr⟩:=this
   refine⟨r.reverse,?_⟩
   rw[<-List.reverse_append,hr,List.reverse_reverse]
  obtain⟨r,hr⟩:=hpre
  have hF:IT (CN (AU s)):=λ b hb=>(bC (T9.1 c1)) b (by rw[<-hr];simp[hb])
  have hfirst:A2 (CN (AU s)) 0≠48:=by
   rw[<-XU (v:=r) (Int.le_refl 0) hp,hr]
   cases hd:AU s with
   |nil=>exact absurd hd c2'
   |cons b l=>
    have:=VK hd
    intro e;rw[L4]at e;rw[bK.2 e]at this;cases this
  have hlast:A2 (CN (AU s)) (len (CN (AU s))-1)≠48:=by
   obtain⟨b,e1,e2⟩:=oG hp
   rw[<-e2]
   intro e3
   have hb:([48]:A1).contains b=true:=bK.2 e3
   have:CN (AU s)=((AU s).reverse.dropWhile (([48]:A1).contains ·)).reverse:=rfl
   rw[this]at e1
   have h2:=congrArg List.reverse e1
   rw[List.reverse_reverse,List.reverse_append,List.reverse_cons,List.reverse_nil,List.nil_append,List.singleton_append]at h2
   have:=VK (s:=(AU s).reverse) (b:=b) (l:=(Eng.sub (CN (AU s)) 0 (len (CN (AU s))-1)).reverse) h2
   rw[hb]at this;cases this
  unfold KC
  dsimp only
  rw[if_neg (by
   simp only[Bool.or_eq_true,decide_eq_true_eq,bne_iff_ne,Bool.not_eq_true',beq_eq_false_iff_ne,T9.2 hF]
   simp only[not_or]
   refine⟨⟨⟨⟨⟨⟨⟨by simp,by simp⟩,by simp⟩,by simp⟩,by omega⟩,by omega⟩,by omega⟩,by omega⟩),if_neg (by simpa using htn)]
  simp[hfirst,hlast]
 ·rw[if_neg c1]at h;exact absurd h (by decide)
theorem vX{neg:Bool}{s:A1}{e:Int}(h:IT s):(E5 neg s e).2=0\/(E5 neg s e).2=2:=by
 unfold E5
 rw[if_pos (T9.2 h)]
 split
 ·exact .inl U
 ·split
  ·exact .inr U
  ·split
   ·exact .inr U
   ·exact .inl U
def TB(r:Nd×Int×Int):Prop:=(r.2.2=0->KC r.1=true)/\(r.2.2=0\/r.2.2=1\/r.2.2=2)
theorem gN{neg:Bool}{fg:A1}{x:Int}{pw:A1}{side:Int}(h:IT fg):TB (IB neg fg x pw side):=by
 unfold IB
 split
 ·exact⟨λ e=>absurd e (by decide),.inr (.inr U)⟩
 ·refine⟨λ e=>vW e,?_⟩
  rcases vX (neg:=neg) (e:=x+side*D0 (AU pw)) h with e|e
  ·exact .inl e
  ·exact .inr (.inr e)
theorem Q3(n:Nd)(p:Int):TB (n,p,1):=⟨λ e=>absurd e (show ¬(1:Int)=0 by decide),.inr (.inl U)⟩
theorem gO{s fg:A1}{neg:Bool}{x b:Int}(h:IT fg):TB (G0 s neg fg x b):=by
 unfold G0
 split
 ·unfold LQ
  dsimp only
  repeat' split
  all_goals first|exact Q3 _ _|exact gN h
 ·split
  ·exact Q3 _ _
  ·exact gN h
theorem gP(s:A1):TB (BQ s):=by
 have h0:=KQ s [45] 0 (AA s)
 have hr:=IA s (AW s [45] 0) (by omega) h0.2
 have h1:=KQ s [46] (AG s (AW s [45] 0)) hr.2
 unfold BQ
 dsimp only
 have hF:IT (Eng.sub s (AW s [45] 0) (AG s (AW s [45] 0))):=P5 h0.1
 split
 ·exact Q3 _ _
 ·split
  ·exact Q3 _ _
  ·split
   ·split
    ·exact Q3 _ _
    ·exact gO (hF.app (P5 (by omega)))
   ·exact gO hF
end Go.Eng
namespace Go.Eng
open Go.RowKit
theorem JG{x:Int}(h0:0<=x)(h1:x<256):((UInt8.ofNat x.toNat).toNat:Int)=x:=by
 rw[show(UInt8.ofNat x.toNat).toNat=x.toNat%256 from rfl,Nat.mod_eq_of_lt (by omega)];omega
theorem gQ{a b:A1}: ∀(j:Int),0<=j->GF b j=true->GF (a++b) (len a+j)=true
 |j,h0,h=>by
  have hl:=AJ a b
  have ha:=AA a
  by_cases hj:j<len b
  ·by_cases hr:rune b j=0
   ·rw[YY b j h0 hj hr]at h;cases h
   have hb:=U0 b j
   have hle:=rune_le b j hj
   rw[<-MS b j h0 hj (by omega)]at h
   have agr:=gG (s:=b) (s':=a++b) (i:=j) (i':=len a+j) h0 (by omega) (by omega) hj (by omega) (λ k x y=>by
    rw[show len a+j+k=len a+(j+k)from by omega,gF (by omega)])
   rw[<-MS (a++b) (len a+j) (by omega) (by omega) (by rw[agr.1];omega),agr.1,Int.add_assoc]
   exact gQ (j+rune b j) (by omega) h
  ·exact U2 _ _ (by omega)
termination_by j=>(len b-j).toNat
theorem gR{a b:A1}(hb:F2 b=true): ∀(i:Int),0<=i->i<=len a->GF a i=true->GF (a++b) i=true
 |i,h0,h1,h=>by
  have hl:=AJ a b
  have hbn:=AA b
  by_cases hi:i<len a
  ·by_cases hr:rune a i=0
   ·rw[YY a i h0 hi hr]at h;cases h
   have hbd:=U0 a i
   have hle:=rune_le a i hi
   rw[<-MS a i h0 hi (by omega)]at h
   have agr:=gG (s:=a) (s':=a++b) (i:=i) (i':=i) h0 h0 (by omega) hi (by omega) (λ k x y=>XU (by omega) (by omega))
   rw[<-MS (a++b) i h0 (by omega) (by rw[agr.1];omega),agr.1]
   exact gR hb (i+rune a i) (by omega) hle h
  ·have e:i=len a:=by omega
   subst e
   have:=gQ (a:=a) (b:=b) 0 (Int.le_refl 0) hb
   rwa [Int.add_zero]at this
termination_by i=>(len a-i).toNat
theorem TC{s:A1}(hn:0<len s)(h:rune s 0=len s):F2 s=true:=by
 unfold F2
 rw[<-MS s 0 (Int.le_refl 0) hn (by omega)]
 exact U2 s (0+rune s 0) (by omega)
theorem vY(r:Int):F2 (toStr (Lib.encodeRuneZ r))=true:=by
 have b0: ∀(x:UInt8) (l:A1),A2 (x::l) 0=(x.toNat:Int):=λ _ _=>rfl
 have b1: ∀(x y:UInt8) (l:A1),A2 (x::y::l) (0+1)=(y.toNat:Int):=λ _ _ _=>rfl
 have b2: ∀(x y z:UInt8) (l:A1),A2 (x::y::z::l) (0+2)=(z.toNat:Int):=λ _ _ _ _=>rfl
 have b3: ∀(x y z u:UInt8) (l:A1),A2 (x::y::z::u::l) (0+3)=(u.toNat:Int):=λ _ _ _ _ _=>rfl
 have l1: ∀(x:UInt8),len [x]=1:=λ _=>rfl
 have l2: ∀(x y:UInt8),len [x,y]=2:=λ _ _=>rfl
 have l3: ∀(x y z:UInt8),len [x,y,z]=3:=λ _ _ _=>rfl
 have l4: ∀(x y z u:UInt8),len [x,y,z,u]=4:=λ _ _ _ _=>rfl
 unfold Lib.encodeRuneZ
 split
 ·refine TC (show(0:Int)<1 by decide) ?_
  show rune [UInt8.ofNat r.toNat] 0=1
  unfold rune
  rw[b0,JG (by omega) (by omega)]
  dsimp only
  rw[if_pos (by omega)]
 split
 ·refine TC (show(0:Int)<2 by decide) ?_
  show rune [UInt8.ofNat (192+r/64).toNat,UInt8.ofNat (128+r%64).toNat] 0=2
  unfold rune cont
  rw[b0,b1,l2,JG (by omega) (by omega),JG (by omega) (by omega)]
  dsimp only
  simp only[Bool.and_eq_true,decide_eq_true_eq]
  rw[if_neg (by omega),if_pos (by omega)]
 split
 ·refine TC (show(0:Int)<3 by decide) ?_
  show rune [UInt8.ofNat (224+r/4096).toNat,UInt8.ofNat (128+r/64%64).toNat,UInt8.ofNat (128+r%64).toNat] 0=3
  unfold rune cont
  rw[b0,b1,b2,l3,JG (by omega) (by omega),JG (by omega) (by omega),JG (by omega) (by omega)]
  dsimp only
  simp only[Bool.and_eq_true,Bool.or_eq_true,decide_eq_true_eq,beq_iff_eq]
  rw[if_neg (by omega),if_neg (by omega),if_pos (by omega),if_neg (by omega)]
 split
 ·refine TC (show(0:Int)<4 by decide) ?_
  show rune [UInt8.ofNat (240+r/262144).toNat,UInt8.ofNat (128+r/4096%64).toNat,UInt8.ofNat (128+r/64%64).toNat,UInt8.ofNat (128+r%64).toNat] 0=4
  unfold rune cont
  rw[b0,b1,b2,b3,l4,JG (by omega) (by omega),JG (by omega) (by omega),JG (by omega) (by omega),JG (by omega) (by omega)]
  dsimp only
  simp only[Bool.and_eq_true,Bool.or_eq_true,decide_eq_true_eq,beq_iff_eq]
  rw[if_neg (by omega),if_neg (by omega),if_neg (by omega),if_pos (by omega),if_neg (by omega)]
 ·decide+kernel
theorem gS{acc:List Int}(h:F2 (toStr acc)=true)(r:Int):F2 (toStr (acc++Lib.encodeRuneZ r))=true:=by
 rw[WL]
 exact gR (vY r) 0 (Int.le_refl 0) (AA _) h
theorem O5:F2 []=true:=by decide+kernel
theorem XX{s:A1}: ∀(f:Nat) (i:Int) (acc:List Int),F2 (toStr acc)=true->F2 (DE f s i acc).1=true
 |0,_,_,_=>by unfold DE;exact O5
 |f+1,i,acc,h=>by
  unfold DE
  split
  ·split
   ·exact h
   ·split
    ·split
     ·exact O5
     ·exact XX f _ _ (gS h _)
    ·split
     ·exact O5
     ·exact XX f _ _ (gS h _)
  ·exact O5
theorem gT(s:A1):F2 (AQ s).1=true:=by
 unfold AQ
 split
 ·exact XX _ _ _ O5
 ·exact O5
theorem gU{s:A1}(h: ∀j:Int,0<=j->j<len s->A2 s j<128): ∀i:Int,0<=i->GF s i=true
 |i,h0=>by
  by_cases hi:i<len s
  ·have hr:rune s i=1:=by unfold rune;dsimp only;rw[if_pos (h i h0 hi)]
   rw[<-MS s i h0 hi (by omega),hr]
   exact gU h (i+1) (by omega)
  ·exact U2 _ _ hi
termination_by i=>(len s-i).toNat
theorem gV(s:A1): ∀j:Int,0<=j->j<len (B9 s)->BN (A2 (B9 s) j) (j==0)=true:=λ j a b=>by
 have hb:=LU (s:=s) (i:=0) (Int.le_refl 0) (AA s)
 rw[VS]at b
 have:=(gI (s:=s) 0 (Int.le_refl 0)).1 j a b
 unfold B9
 rw[SO (Int.le_refl 0) a (by omega) hb.2,Int.zero_add];exact this
theorem vZ{s:A1}(h:B9 s≠[]):MT (B9 s)=true:=cW.2 ⟨h,gV s⟩
theorem wA{c:Int}{f:Bool}(h:BN c f=true):c<128:=by
 rcases Int.lt_or_le c 128 with x|x
 ·exact x
 ·rw[TZ x]at h;cases h
theorem wB(s:A1):F2 (B9 s)=true:=gU (λ j a b=>wA (gV s j a b)) 0 (Int.le_refl 0)
theorem gW{s:A1}{t:Tk}{n:Int}(h:A6 s=(t,n,0)):FT t=true:=by
 have hno:(B2=B2):=rfl
 unfold A6 at h
 split at h
 ·cases h;unfold FT;simp[wB]
 split at h
 ·simp only[Prod.mk.injEq]at h
  rw[<-h.1];unfold FT;simp[gT]
 split at h
 ·rename_i hm
  cases h
  rcases VQ s with e|e
  ·exact absurd e hm
  ·unfold FT Z0;simp[e.1]
 split at h
 ·rename_i hw
  cases h;unfold FT;simp[vZ hw]
 split at h
 ·simp only[Prod.mk.injEq]at h
  rw[<-h.1];unfold FT;simp[gT]
 split at h
 ·split at h
  ·rename_i hr
   simp only[Prod.mk.injEq]at h
   exact absurd h.2.2 hr
  ·rename_i hr
   cases h
   have:=(gP (runN s)).1 (by simpa using hr)
   unfold FT;simp[this]
 ·simp at h
theorem wC{s:A1}{t:Tk}{n e:Int}(h:A6 s=(t,n,e)):e=0\/e=1\/e=2:=by
 have u1:=LV (A3 s 1)
 have u2:=LV s
 have r:=(gP (runN s)).2
 unfold A6 at h
 repeat' split at h
 all_goals (simp only[Prod.mk.injEq]at h;omega)
def gX(r:A1):Prop:=r=[]\/ ∃q,r=32::q
theorem gX.stop {r:A1}(h:gX r)(v:A1):Stop v r:=by
 rcases h with rfl|⟨q,rfl⟩
 ·exact .inl U
 ·exact .inr (.inl ⟨by simp,rfl⟩)
theorem Lx.FT {s:A1}{i:Int}{l:List Tk}(h:Lx s i l): ∀t∈l,Eng.FT t=true:=by
 induction h with
 |done _ _=>intro t ht;cases ht
 | @step i n t l _ _ h _ ih=>
  intro t' ht
  rcases List.mem_cons.1 ht with rfl|ht
  ·have:Eng.FT t=true:=gW h
   exact this
  ·exact ih t' ht
theorem HB.err {s:A1}{i p e:Int}(h:HB s i p e):e=1\/e=2:=by
 induction h with
 |here _ _ h he=>have:=wC h;omega
 |there _ _ _ _ ih=>exact ih
theorem wD{t:Tk}(h:Eng.FT t=true)(hl:len t.s<=1048576):WO t:=by
 have h0:len t.c.s<=1048576/\ -1000000<=t.c.e/\t.c.e<=1000000:=by
  unfold Eng.FT at h
  have no:t.c=B2->len t.c.s<=1048576/\ -1000000<=t.c.e/\t.c.e<=1000000:=λ e=>by rw[e];decide
  split at h
  ·simp only[Bool.and_eq_true,decide_eq_true_eq]at h;exact no h.2
  split at h
  ·simp only[Bool.and_eq_true,decide_eq_true_eq]at h;exact no h.2
  split at h
  ·simp only[Bool.and_eq_true,decide_eq_true_eq]at h;exact no h.2
  split at h
  ·simp only[Bool.and_eq_true]at h
   obtain⟨_,_,h1,h2,h3,_⟩:=gM h.2
   omega
  ·cases h
 exact⟨hl,h0.1,λ _=>h0.2⟩
theorem wE(r:Int):len (Lib.encodeRuneZ r)<=4:=by
 unfold Lib.encodeRuneZ
 repeat' split
 all_goals (unfold len;simp)
theorem XY{s:A1}: ∀(f:Nat) (i:Int) (acc:List Int),0<=i->i<=len s->len (DE f s i acc).1<=len acc+4*(len s-i)
 |0,i,acc,h0,h1=>by unfold DE;have:=AA acc;rw[len_nil];omega
 |f+1,i,acc,h0,h1=>by
  have ha:=AA acc
  have hn:len ([]:A1)=0:=rfl
  have he:=wE
  unfold DE
  split
  ·rename_i hlt
   have hf:=DK s i h0 h1
   split
   ·have:len (toStr acc)=len acc:=by unfold toStr len;simp
    dsimp only;omega
   ·split
    ·have hb:=bP (A3 s i)
     split
     ·dsimp only;omega
     ·have:=XY (s:=s) f (i+(BD (A3 s i)).2) (acc++Lib.encodeRuneZ (BD (A3 s i)).1) (by omega) (by omega)
      have:=he (BD (A3 s i)).1
      rw[AJ]at*
      omega
    ·split
     ·dsimp only;omega
     ·have hb:=SB h0 hlt
      rw[S9 s i h0]
      have:=XY (s:=s) f (i+runeLen s i) (acc++Lib.encodeRuneZ (AM (A3 s i) 0)) (by omega) (by omega)
      have:=he (AM (A3 s i) 0)
      rw[AJ]at*
      omega
  ·dsimp only;omega
theorem TE(s:A1):len (AQ s).1<=4*len s:=by
 have:=AA s
 unfold AQ
 split
 ·rename_i h
  have h1:(1:Int)<=len s:=SC h
  have:=XY (s:=s) s.length 1 [] (by omega) h1
  rw[len_nil]at this;omega
 ·show len ([]:A1)<=_
  rw[len_nil];omega
theorem wF{s:A1}{t:Tk}{n:Int}(h:A6 s=(t,n,0)):len t.s<=4*len s+2:=by
 have h0:=AA s
 have h1:=LO s 1
 have w1:=P8 (A3 s 1)
 have w2:=P8 s
 have u1:=TE (A3 s 1)
 have u2:=TE s
 have m1:len (C3 s)<=2:=by
  rcases VQ s with e|e
  ·rw[e];decide
  ·have: ∀m∈AB,len m<=2:=by decide
   exact this _ e.1
 have n0:len ([]:A1)=0:=rfl
 unfold A6 at h
 repeat' split at h
 all_goals (simp only[Prod.mk.injEq]at h;first|(rw[<-h.1];dsimp only;omega)|(exfalso;omega))
theorem Lx.bd {s:A1}(hs:len s<=100000){i:Int}{l:List Tk}(h:Lx s i l):(∀t∈l,WO t)/\(i<=len s->len l<=len s-i):=by
 induction h with
 |done _ _=>exact⟨λ t ht=>(by cases ht),λ x=>by rw[len_nil];omega⟩
 | @step i n t l h0 h1 h _ ih=>
  have hb:=MH h0 h1 h
  have hbl:=IG s (i+n) (by omega) hb.2.1
  have hl:=wF h
  have hf:=DK s i h0 (by omega)
  refine⟨λ t' ht=>?_,λ x=>?_⟩
  ·rcases List.mem_cons.1 ht with rfl|ht
   ·have:WO t:=wD (gW h) (by omega)
    exact this
   ·exact ih.1 t' ht
  ·have:=ih.2 hbl.2
   rw[AL];omega
end Go.Eng
namespace Go.Eng
theorem wG{t:Tk}(h:Eng.FT t=true)(hk:t.kind=5):KC t.c=true:=by
 unfold Eng.FT at h
 simp only[hk]at h
 simp at h
 exact h.2
theorem wH{s:A1}(hs:len s<=100000)(h:(BF s).2.2=0):DV (BF s).1:=by
 obtain⟨l,h1,h2⟩:=gL h
 have hb:=h1.bd hs
 have hr:=h1.FT
 have hbl:=IG s 0 (Int.le_refl 0) (AA s)
 rw[h2]
 dsimp only
 have hll:len (l++[F8 s])=len l+1:=by rw[AJ];rfl
 refine⟨λ i h0 hi hk=>?_,λ t ht hk=>?_,λ t ht hk=>?_,λ t ht=>?_,?_⟩
 ·rw[hll]at hi ⊢
  rcases Int.lt_or_eq_of_le (show i<=len l by omega)with hl|hl
  ·omega
  ·exact absurd (by rw[pO l (F8 s) hl];rfl) hk
 ·rcases List.mem_append.1 ht with ht|ht
  ·obtain⟨_,hf,_⟩:=gM (wG (hr t ht) hk)
   exact hf
  ·rw[List.mem_singleton.1 ht]at hk;exact absurd hk (by show ¬(6:Int)=5;decide)
 ·rcases List.mem_append.1 ht with ht|ht
  ·have:=hb.1 t ht
   exact⟨this.2.1,by have:=this.2.2 hk;omega⟩
  ·rw[List.mem_singleton.1 ht]at hk;exact absurd hk (by show ¬(6:Int)=5;decide)
 ·rcases List.mem_append.1 ht with ht|ht
  ·exact(hb.1 t ht).1
  ·rw[List.mem_singleton.1 ht];show len ([]:A1)<=_;decide
 ·have:=hb.2 hbl.2
  rw[hll];omega
end Go.Eng
set_option maxRecDepth 100000
namespace Go.Proofs.YtmjpjbmeamnfpaaGreatDoor
open Go.Eng
abbrev O6(bx by' bz:Nat)(x y z:Value):List HO:=[.box bx [x] 36,.box by' [y] 3,.box bz [z] 26]
theorem wI{w0 wv:World}{M0 M:Mem}{Rs:List HO}(bx by' bz:Nat)(x y z:Value)(hS:St w0 M0 wv M (O6 bx by' bz x y z++Rs)):
   CallsD Tryz.prog 39 [.pointer (some ⟨bx,0,none⟩),.pointer (some ⟨by',0,none⟩),.pointer (some ⟨bz,0,none⟩)].toArray .returning wv (λ e u' w'=>e= .returned (.tuple #[])/\u'=(EY .returning).2/\ ∃M',St w0 M0 w' M' (O6 bx by' bz x y z++Rs)/\M.le M'):=by
 refine gD (Hr:=Rs) AT Tryz.func39 U Tryz.ntmps39 U U U U (λ a w=>rfl) [] [(0,.box bx [.v x] 36),(1,.box by' [.v y] 3),(2,.box bz [.v z] 26)] (.v .nilIface) [.bx 0 bx 0,.bx 1 by' 0,.bx 2 bz 0] U U hS A7 (λ B hB=>?_) U
 refine CZ (.tu [.ag [I 0,I 0],.v (.bool false)]) U (A0 U) (by omega) U (λ w M hX=>PV.vE (AI (v:=.v .nilIface) (E:=[]) U (A0 U)) Tryz.underlying82 Tryz.zeroValue82) ?_
 refine CI 3 U (A0 U) (by omega) Tryz.zeroValue82 U λ b3=>?_
 refine A8 U (A0 U) (by omega) (λ hb1=>?_) (λ hb1=>?_)
 ·cases hb1
 ·exact gE hB U (A0 U) (by omega) λ w M' hX=>⟨M',hX.BX [0,1,2] U,hX.le⟩
theorem gY{w0 wv:World}{M0 M:Mem}{Rs:List HO}(ec p:Int)(bx by' bz:Nat)(x y z:Value)(hS:St w0 M0 wv M (O6 bx by' bz x y z++Rs)):
   CallsD Tryz.prog 39 [.pointer (some ⟨bx,0,none⟩),.pointer (some ⟨by',0,none⟩),.pointer (some ⟨bz,0,none⟩)].toArray (.panicking [KG 82 ec p]) wv (λ e u' w'=>e= .returned (.tuple #[])/\u'=(EY (.panicking [KG 82 ec p])).2/\ ∃M',St w0 M0 w' M' (O6 bx by' bz (.slice none 0 0) (i64 p) (i64 ec)++Rs)/\M.le M'):=by
 refine gD (Hr:=Rs) AT Tryz.func39 U Tryz.ntmps39 U U U U (λ a w=>rfl) [] [(0,.box bx [.v x] 36),(1,.box by' [.v y] 3),(2,.box bz [.v z] 26)] (.v (.iface 82 (.agg #[i64 ec,i64 p]))) [.bx 0 bx 0,.bx 1 by' 0,.bx 2 bz 0] U U hS A7 (λ B hB=>?_) U
 refine CZ (.tu [.ag [I ec,I p],.v (.bool true)]) U (A0 U) (by omega) U (λ w M hX=>PV.vD (v:=.agg #[i64 ec,i64 p]) (AI (v:=.v (.iface 82 (.agg #[i64 ec,i64 p]))) (E:=[]) U (A0 U)) Tryz.underlying82) ?_
 refine CI 3 U (A0 U) (by omega) Tryz.zeroValue82 U λ b3=>?_
 refine A8 U (A0 U) (by omega) (λ hb1=>?_) (λ hb1=>?_)
 ·refine KY [4,5,6] 4 (λ _ _ _ _ _ h=>h) U (A0 U) (by omega) EU (by decide+kernel) ?_
  refine CO 4 U (A0 U) (by omega) U U ?_
  refine C6 U (A0 U) (by omega) ?_
  refine CO 5 U (A0 U) (by omega) U U ?_
  refine C6 U (A0 U) (by omega) ?_
  refine CO 6 U (A0 U) (by omega) U U ?_
  refine C6 U (A0 U) (by omega) ?_
  refine HQ U (A0 U) (by omega) U U ?_
  exact gE hB U (A0 U) (by omega) λ w M' hX=>⟨M',hX.BX [0,1,2] U,hX.le⟩
 ·cases hb1
abbrev wJ(w:World)(M:Mem)(r:Fl×Int×Int):Ending->World->Prop:=aM w M (λ h:AO=>.tuple #[h.v,i64 r.2.1,i64 r.2.2]) (λ _=>True) λ h=>[(0,CJ h.v r.1)]
theorem Q4{rt:Tf->Bool}(hrt:K3 rt)(s:A1)(w:World)(M:Mem)(hM:Sat w M)(hg:Gl w)(hb:len s<=100000):
    Calls Tryz.prog 17 [str s].toArray w (wJ w M (DT AH rt s)):=by
 refine vJ (Hr:=[]) AT Tryz.func17 U Tryz.ntmps17 [] [] [.v (str s)] U (St.start hM) A7 (λ B hB=>?_) U
 refine CI 0 U (A0 U) (by omega) Tryz.zeroValue36 U λ bx=>?_
 refine CI 1 U (A0 U) (by omega) Tryz.zeroValue3 U λ by'=>?_
 refine CI 2 U (A0 U) (by omega) Tryz.zeroValue26 U λ bz=>?_
 refine NF (λ u:Value=>.tu [.sl 3 u,I (BF s).2.1,I (BF s).2.2]) [3] (Fg:=λ u=>[(0,kn u 9 (BF s).1 Tk.cells)]) (pu:=λ _=>True) U (A0 U) (by omega) U Tryz.call22 U U (A0 U) (λ w M hX=>(sK M s w hX.st.sat (hg.low hX.st.low) (by omega)).mono λ e w' ⟨v,M',he,⟨u,hv,hsl⟩,hgr⟩=>⟨u,M',by rw[he,hv];rfl,trivial,hgr,fc 0 hsl (λ _=>rfl) A7⟩) (λ _=>rfl) λ v _=>?_
 refine A8 U (A0 U) (by omega) (λ hb1=>?_) (λ hb1=>?_)<;>simp only[zb]at hb1
 ·have e:DT AH rt s=([],(BF s).2.1,(BF s).2.2):=by unfold DT;rw[if_pos hb1]
  rw[e]at hB
  refine KY [2,3,4] 4 (λ _ _ _ _ _ h=>h) U (A0 U) (by omega) EU (by decide+kernel) ?_
  refine CO 2 U (A0 U) (by omega) U U ?_
  refine C6 U (A0 U) (by omega) ?_
  refine CO 3 U (A0 U) (by omega) U U ?_
  refine C6 U (A0 U) (by omega) ?_
  refine CO 4 U (A0 U) (by omega) U U ?_
  refine C6 U (A0 U) (by omega) ?_
  refine HQ U (A0 U) (by omega) U U ?_
  exact AE hB.ends U U (A0 U) (by omega) U (A0 U) λ w M' hX=>⟨⟨none,0,0⟩,M',rfl,trivial,(hX.BX [] U).done,BW ⟨Sl.nil M' 11,Tm.C1,trivial⟩ A7⟩
 have hlx:(BF s).2.2=0:=by omega
 have ok:=wH hb hlx
 have hl1:0<len (BF s).1:=by
  obtain⟨l,_,h2⟩:=gL hlx
  rw[h2];dsimp only;rw[AJ];have:=AA l;show 0<_+(1:Int);omega
 have ep:DT AH rt s=SF AH rt (BF s).1:=by unfold DT;rw[if_neg (λ q=>q hlx)]
 rw[ep]at hB
 unfold SF at hB
 refine CZ (.v (.func (.func 39) #[] #[.pointer (some ⟨bx,0,none⟩),.pointer (some ⟨by',0,none⟩),.pointer (some ⟨bz,0,none⟩)])) U (A0 U) (by omega) U (λ w M hX=>PV.makeFunc (xs:=[]) (ys:=[.tmp 2,.tmp 3,.tmp 4]) (vs:=[]) (us:=[.pointer (some ⟨bx,0,none⟩),.pointer (some ⟨by',0,none⟩),.pointer (some ⟨bz,0,none⟩)]) trivial ⟨AI (v:=.bx 0 bx 0) (E:=[]) U (A0 U),AI (v:=.bx 1 by' 0) (E:=[]) U (A0 U),AI (v:=.bx 2 bz 0) (E:=[]) U (A0 U),trivial⟩) ?_
 refine vK (λ _ _ _ _ h=>h) (λ _ _ _ _ _ h=>h) U (A0 U) (by omega) U (A0 U) U ?_
 refine F7 4 U (A0 U) (by omega) U U (A0 U) λ b4=>?_
 have key: ∀ {w:World} {M:Mem} {Rs:List HO} {w0:World} {M0:Mem} {r:PR Tf},AY AH rt (4*(BF s).1.length+4) (BF s).1 0 0=r->Gl w0->St w0 M0 w M (E6 b4 v 0 0::Rs)->Sl M 9 (BF s).1.length v ((BF s).1.flatMap Tk.cells)->Calls Tryz.prog 40 [.pointer (some ⟨b4,0,none⟩)].toArray w (L1 w0 M0 M Rs b4 v 0 r):=λ hr hg hS hl=>by
  subst hr
  exact(XN hrt _ _ (Nat.le_refl _)).rd ⟨hS,hl,hg,ok,by omega,hl1⟩ (by omega) (by omega) (by unfold len;omega) trivial
 cases hr:AY AH rt (4*(BF s).1.length+4) (BF s).1 0 0 with
 |er ec p=>
  rw[hr]at hB
  refine ET [4] U (A0 U) (by omega) U Tryz.call40 U (A0 U) U (λ w M hS hF=>key hr hg hS (hF.get (k:=3) U).sl) λ a w M hs hS hle=>DQ _ (hB.gC hs ?_)
  have hS2:St _ _ w M (O6 bx by' bz (.slice none 0 0) (i64 (BF s).2.1) (i64 (BF s).2.2)++[]):=hS.perm (List.reverse_perm [_,_,_])
  refine XR Tryz.call39 (λ h=>by cases h) rfl (gY ec p bx by' bz _ _ _ hS2) λ w' ⟨M',hS',hle'⟩=>⟨_,T8 AT (H:=[(0,.box bx [.v (.slice none 0 0)] 36),(1,.box by' [I p] 3),(2,.box bz [I ec] 26)]) (Hr:=[]) hS' hs rfl rfl (A0 rfl),?_⟩
  exact⟨⟨none,0,0⟩,M',rfl,trivial,(hS'.drop [] (List.nil_sublist _)).done,BW ⟨Sl.nil M' 11,Tm.C1,trivial⟩ A7⟩
 |ok x j=>
  have g:=(JF rt ok _).ty 0 0 x j (by omega) hl1 hr
  have hlt:=g.lt
  have hle:=g.le
  have hfew:=ok.few
  rw[hr]at hB
  dsimp only at hB
  refine B6 [4] (λ h:AO=>.sl 5 h.v) [] (λ h=>[(4,AK b4 v j 0),(5,CD h.v x.flat)]) U (A0 U) (by omega) U Tryz.call40 U U (A0 U) U (λ w M hS hF=>key hr hg hS (hF.get (k:=3) U).sl) (λ _=>rfl) (λ _=>rfl) λ h5 _=>?_
  refine HK 5 U ?_
  refine C4 [4] (D1 (at' (BF s).1 j)) U (A0 U) (by omega) Tryz.call41 U U (A0 U) U (λ _ w M hS hF=>DH hS (hF.get (k:=3) U).sl (by omega) hle) U ?_
  refine A8 U (A0 U) (by omega) (λ hb2=>?_) (λ hb2=>?_)<;>simp only[zb]at hb2
  ·rw[if_neg hb2]at hB
   refine C4 [4] (D1 (at' (BF s).1 j)) U (A0 U) (by omega) Tryz.call41 U U (A0 U) U (λ _ w M hS hF=>DH hS (hF.get (k:=3) U).sl (by omega) hle) U ?_
   refine ET [4] U (A0 U) (by omega) U Tryz.call42 U (A0 U) U (λ w M hS hF=>H7 (at' (BF s).1 j) 1 hS) λ a w M hs hS hle=>DQ _ (hB.gC hs ?_)
   have hS2:St _ _ w M (O6 bx by' bz h5.v (i64 (BF s).2.1) (i64 (BF s).2.2)++[]):=hS.perm (List.reverse_perm [_,_,_])
   refine XR Tryz.call39 (λ h=>by cases h) rfl (gY 1 (at' (BF s).1 j).pos bx by' bz _ _ _ hS2) λ w' ⟨M',hS',hle'⟩=>⟨_,T8 AT (H:=[(0,.box bx [.v (.slice none 0 0)] 36),(1,.box by' [I (at' (BF s).1 j).pos] 3),(2,.box bz [I 1] 26)]) (Hr:=[]) hS' hs rfl rfl (A0 rfl),?_⟩
   exact⟨⟨none,0,0⟩,M',rfl,trivial,(hS'.drop [] (List.nil_sublist _)).done,BW ⟨Sl.nil M' 11,Tm.C1,trivial⟩ A7⟩
  ·rw[if_pos (by omega)]at hB
   refine vL hB rfl (A0 rfl) (by omega) λ a w M hs hX=>XR Tryz.call39 (λ h=>by cases h) rfl (wI bx by' bz _ _ _ (hX.BX [0,1,2] rfl)) λ w' ⟨M',hS',hle'⟩=>⟨_,T8 AT (H:=[(0,.box bx [.sl 5 h5.v] 36),(1,.box by' [I 0] 3),(2,.box bz [I 0] 26)]) (Hr:=[]) hS' hs rfl rfl (A0 rfl),?_⟩
   exact⟨h5,M',rfl,trivial,(hS'.drop [] (List.nil_sublist _)).done,BW ((hX.f.get (k:=5) U).mono hle') A7⟩
end Go.Proofs.YtmjpjbmeamnfpaaGreatDoor
namespace Go.Eng
open Go.RowKit
def Q5(s:A1)(i:Int):A1:=((A3 s i).takeWhile DD).take 7
def Q6(s:A1)(i:Int):Int×Int:=
 if Q5 s i=[]\/(A2 s i=48/\1<len (Q5 s i))\/1000000<D0 (Q5 s i)then(-1,i)else(D0 (Q5 s i),i+len (Q5 s i))
def TF:Sp:=⟨false,[],0⟩
def gZ(s:A1)(i j:Int):Sp×Int:=
 if len s<=j\/A2 s j≠91 then(TF,i)
 else if(Q6 s (j+1)).1<0\/len s<=(Q6 s (j+1)).2\/A2 s (Q6 s (j+1)).2≠93 then(TF,i)
 else(⟨true,[],(Q6 s (j+1)).1⟩,(Q6 s (j+1)).2+1)
def XZ(s:A1)(i:Int)(first:Bool):Sp×Int:=
 if i<len s/\A2 s i=46 then
  if B9 (A3 s (i+1))≠[]then(⟨false,B9 (A3 s (i+1)),0⟩,i+1+len (B9 (A3 s (i+1))))
  else if(AQ (A3 s (i+1))).2.2=0/\MT (AQ (A3 s (i+1))).1=false/\oE (AQ (A3 s (i+1))).1=Eng.sub s (i+1) (i+1+(AQ (A3 s (i+1))).2.1)then(⟨false,(AQ (A3 s (i+1))).1,0⟩,i+1+(AQ (A3 s (i+1))).2.1)
  else if first=false then(TF,i)else gZ s i (i+1)
 else if first then(TF,i)else gZ s i i
def Y0:Nat->A1->List Sp->Int->List Sp×Int
 |0,_,p,i=>(p,i)
 |f+1,s,p,i=>if(XZ s i (p.isEmpty)).2=i then(p,i)else Y0 f s (p++[(XZ s i (p.isEmpty)).1]) (XZ s i (p.isEmpty)).2
def Q7(s:A1)(i:Int):List Sp×Int:=if(Y0 20 s [] i).1=[]/\i<len s/\A2 s i=46 then([],i+1)else Y0 20 s [] i
def wK(s:A1):List Sp×Int×Int:=
 if s=[46]then((Q7 s 0).1,0,0)else if(Q7 s 0).1=[]then([],0,1)else if(Q7 s 0).2<len s then([],(Q7 s 0).2,1)else((Q7 s 0).1,0,0)
def hP(s:A1):Bool:=(wK s).2.2==0
def Sp.Y1 (x:Sp):Prop:=(x.part=true->x.name=[]/\0<=x.n/\x.n<=1000000)/\(x.part=false->x.n=0/\F2 x.name=true)
end Go.Eng
set_option maxRecDepth 100000
namespace Go.Proofs.YtmjpjbmeamnfpaaGreatDoor
open Go.Eng
end Go.Proofs.YtmjpjbmeamnfpaaGreatDoor
set_option maxRecDepth 100000
namespace Go.Proofs.YtmjpjbmeamnfpaaGreatDoor
open Go.Eng
end Go.Proofs.YtmjpjbmeamnfpaaGreatDoor
set_option maxRecDepth 100000
namespace Go.Proofs.YtmjpjbmeamnfpaaGreatDoor
open Go.Eng
end Go.Proofs.YtmjpjbmeamnfpaaGreatDoor
set_option maxRecDepth 100000
namespace Go.Proofs.YtmjpjbmeamnfpaaGreatDoor
open Go.Eng
end Go.Proofs.YtmjpjbmeamnfpaaGreatDoor
set_option maxRecDepth 100000
namespace Go.Proofs.YtmjpjbmeamnfpaaGreatDoor
open Go.Eng
theorem Q8{P:Program}{f:FuncId}{args:Array Value}{w:World}{u:Value}(h:Calls P f args w λ e w'=>e= .returned u/\w'=w):Calls P f args w λ e w'=>e= .returned u/\Ext w w':=h.mono λ e w' ⟨h1,h2⟩=>⟨h1,by rw[h2];exact .refl _⟩
end Go.Proofs.YtmjpjbmeamnfpaaGreatDoor
set_option maxRecDepth 100000
namespace Go.Eng
def G6:Sp:=⟨false,[],0⟩
def EN(s:A1):Sp×Int:=
 if Lib.hasPrefix s [46]=false then(G6,0)
 else if 0<CG (A3 s 1) 0 then(⟨false,Eng.sub s 1 (CG (A3 s 1) 0+1),0⟩,CG (A3 s 1) 0+1)
 else if(AQ (A3 s 1)).2.2≠0\/NN (AQ (A3 s 1)).1=true\/AH (AQ (A3 s 1)).1≠Eng.sub s 1 (1+(AQ (A3 s 1)).2.1)then(G6,0)
 else(⟨false,(AQ (A3 s 1)).1,0⟩,(AQ (A3 s 1)).2.1+1)
def DZ(s:A1):Sp×Int:=
 if Lib.hasPrefix s [91]=false\/Lib.indexByte s 93<2\/8<Lib.indexByte s 93 then(G6,0)
 else match Lib.atoi (Eng.sub s 1 (Lib.indexByte s 93))with
  |none=>(G6,0)
  |some n=>if 1000000<n\/Lib.itoa n≠Eng.sub s 1 (Lib.indexByte s 93)\/n<0 then(G6,0)else(⟨true,[],n⟩,Lib.indexByte s 93+1)
def G7(s:A1)(i:Int):Int:=if i=0/\Lib.hasPrefix s [46]=true then 1 else 0
def EC(s:A1)(i:Int):Sp×Int:=
 if(EN (A3 s i)).2≠0 then EN (A3 s i)
 else if 0<i\/0<G7 s i then
  if(DZ (A3 s (i+G7 s i))).2=0 then(G6,0)else((DZ (A3 s (i+G7 s i))).1,(DZ (A3 s (i+G7 s i))).2+G7 s i)
 else(G6,0)
def HZ:Nat->A1->List Sp->Int->List Sp×Int
 |0,_,p,i=>(p,i)
 |f+1,s,p,i=>if i<len s then if(EC s i).2=0 then(p,i)else HZ f s (p++[(EC s i).1]) (i+(EC s i).2)else(p,i)
def GW(s:A1):List Sp×Int×Int:=
 if s=[46]then([],0,0)
 else if(HZ 20 s [] 0).2<len s\/(HZ 20 s [] 0).1=[]then([],(HZ 20 s [] 0).2,1)else((HZ 20 s [] 0).1,0,0)
def HC(s:A1):List Sp×Bool:=((GW s).1,decide ((GW s).2.2=0)&& !((GW s).1.any λ x=>x.part))
theorem TG{s:A1}{c:UInt8}(h:Lib.hasPrefix s [c]=true):1<=len s:=SC h
theorem hU(s:A1)(c:UInt8):Lib.indexByte s c<len s:=by
 induction s with
 |nil=>show(-1:Int)<0;decide
 |cons a s ih=>
  unfold Lib.indexByte
  have:=AA s
  rw[AL]
  split
  ·omega
  ·split<;>omega
theorem hY(s:A1):0<=(EN s).2/\(EN s).2<=len s/\len (EN s).1.name<=4*len s/\(EN s).1.part=false/\(EN s).1.n=0:=by
 have hl:=AA s
 unfold EN
 split
 ·exact⟨by omega,hl,by show(0:Int)<=_;omega,rfl,rfl⟩
 ·rename_i hp
  have h1:=TG (by simpa using hp)
  have hfl:len (A3 s 1)=len s-1:=DK _ _ (by omega) h1
  have hw:=LU (s:=A3 s 1) (i:=0) (by omega) (by omega)
  have hu:=LV (A3 s 1)
  have hul:=TE (A3 s 1)
  split
  ·refine⟨by omega,by omega,?_,rfl,rfl⟩
   show len (Eng.sub s 1 _)<=_
   have:len (Eng.sub s 1 (CG (A3 s 1) 0+1))<=len s:=by unfold Eng.sub len;rw[List.length_take,List.length_drop];unfold len at*;omega
   omega
  ·split
   ·exact⟨by omega,hl,by show(0:Int)<=_;omega,rfl,rfl⟩
   ·exact⟨by omega,by omega,by show len (AQ (A3 s 1)).1<=_;omega,rfl,rfl⟩
theorem hZ(s:A1):0<=(DZ s).2/\(DZ s).2<=len s/\len (DZ s).1.name<=0/\((DZ s).1.part=true->0<=(DZ s).1.n/\(DZ s).1.n<=1000000):=by
 have hl:=AA s
 have hi:=hU s 93
 have hn:len G6.name<=0:=by decide
 unfold DZ
 split
 ·exact⟨by omega,hl,hn,λ h=>by cases h⟩
 ·rename_i hc
  split
  ·exact⟨by omega,hl,hn,λ h=>by cases h⟩
  ·split
   ·exact⟨by omega,hl,hn,λ h=>by cases h⟩
   ·rename_i n _ hd
    exact⟨by omega,by omega,hn,λ _=>⟨show(0:Int)<=n by omega,show n<=(1000000:Int) by omega⟩⟩
end Go.Eng
namespace Go.Proofs.YtmjpjbmeamnfpaaGreatDoor
open Go.Eng
theorem wL(s:A1)(w:World)(hg:Gl w)(hb:len s<=200000000000):
    Calls Tryz.prog 302 [str s].toArray w λ e w'=>e= .returned (.tuple #[.agg (EN s).1.cells.toArray,i64 (EN s).2])/\Ext w w':=by
 have hl0:=AA s
 refine AX AT Tryz.func302 U Tryz.ntmps302 [] [] [.v (str s)] U (FZ w) A7 (λ B hB=>?_) U
 refine CI 2 U (A0 U) (by omega) Tryz.zeroValue68 U λ b2=>?_
 refine BG U (A0 U) (by omega) Tryz.call77 U U (A0 U) (λ _ w M hX=>Q8 (LC s [46] w)) U ?_
 refine A8 U (A0 U) (by omega) (λ hb1=>?_) (λ hb1=>?_)<;>simp only[zb]at hb1
 ·exact AE hB U U (A0 U) (by omega) U (A0 U) λ w M hX=>⟨by unfold EN;rw[if_pos hb1];rfl,hX.st.low⟩
 have h1:=TG hb1
 have hfl:len (A3 s 1)=len s-1:=DK _ _ (by omega) h1
 have hw:=LU (s:=A3 s 1) (i:=0) (by omega) (by omega)
 have hu:=LV (A3 s 1)
 have hul:=TE (A3 s 1)
 refine BG U (A0 U) (by simp only[zb]<;>omega) Tryz.call280 U U (A0 U) (λ _ w M hX=>eA (A3 s 1) w (by omega)) U ?_
 refine A8 U (A0 U) (by omega) (λ hb2=>?_) (λ hb2=>?_)<;>simp only[zb]at hb2
 ·exact AE hB U U (A0 U) (by simp only[zb]<;>omega) U (A0 U) λ w M hX=>⟨by unfold EN;rw[if_neg (by rw[hb1];decide),if_pos hb2];rfl,hX.st.low⟩
 refine BG U (A0 U) (by simp only[zb]<;>omega) Tryz.call78 U U (A0 U) (λ _ w M hX=>SX (A3 s 1) w (hg.low hX.st.low) (by omega)) U ?_
 refine KL U (A0 U) (by omega) EU (by decide+kernel) ?_
 refine KN U (A0 U) (by simp only[zb]<;>omega) Tryz.call254 U U (A0 U) (λ _ w M hX=>eB (AQ (A3 s 1)).1 w (by omega)) U ?_
 refine KN U (A0 U) (by simp only[zb]<;>omega) Tryz.call255 U U (A0 U) (λ _ w M hX=>dS (AQ (A3 s 1)).1 w (hg.low hX.st.low) (by omega)) U ?_
 refine KM U (A0 U) (by simp only[zb]<;>omega) ?_
 refine A8 U (A0 U) (by omega) (λ hb3=>?_) (λ hb3=>?_)<;>simp only[zb]at hb3
 ·exact AE hB U U (A0 U) (by omega) U (A0 U) λ w M hX=>⟨by unfold EN;rw[if_neg (by rw[hb1];decide),if_neg (by omega),if_pos (by simpa only[or_assoc]using hb3)];rfl,hX.st.low⟩
 ·have hno: ¬((AQ (A3 s 1)).2.2≠0\/NN (AQ (A3 s 1)).1=true\/AH (AQ (A3 s 1)).1≠Eng.sub s 1 (1+(AQ (A3 s 1)).2.1)):=by
   rintro(q|q|q)
   · exact q hb3.1.1
   · rw[hb3.1.2]at q;cases q
   · exact q hb3.2
  exact AE hB U U (A0 U) (by simp only[zb]<;>omega) U (A0 U) λ w M hX=>⟨by unfold EN;rw[if_neg (by rw[hb1];decide),if_neg (by omega),if_neg hno];rfl,hX.st.low⟩
theorem wM{w0 wv:World}{M0 M:Mem}{Rs:List HO}(s:A1)(hS:St w0 M0 wv M Rs)(hg:Gl w0)(hb:len s<=18):
   Calls Tryz.prog 120 [str s].toArray wv (CM w0 M0 M Rs (λ u:Int×Value=>.tuple #[i64 u.1,u.2]) (λ u=>(∃n,Lib.atoi s=some n/\u=(n,.nilIface)/\ -9223372036854775808<=n/\n<=9223372036854775807)\/(Lib.atoi s=none/\u.1=0/\ ∃t p,u.2= .iface t p)) (λ _=>[]) λ _=>[]):=by
 have hgw:=hg.low hS.low
 have hsl:s.length<=18:=by unfold len at hb;omega
 have hall:=Lib.atoiAll_short s hsl
 cases ha:Lib.atoi s with
 |some n=>
  rw[ha]at hall
  have hbd:=Lib.atoiAll_bounds hall
  exact(UA s n wv (by omega) hall).mono λ e w' ⟨he,hx⟩=>⟨(n,.nilIface),M,he,.inl ⟨n,rfl,rfl,hbd⟩,Mem.le.refl _,hS.ext hx,A7⟩
 |none=>
  rw[ha]at hall
  obtain⟨ev,h1,h2⟩:=hgw.err
  exact(Any.strconv_Atoi_syntax Tryz.YD ⟨⟨s⟩⟩ (by show s.length<=_;omega) hall ev wv h1 h2).mono λ e w' ⟨N,he,_,_,hx⟩=>⟨(0,_),M,he,.inr ⟨rfl,rfl,_,_,rfl⟩,Mem.le.refl _,hS.ext hx,A7⟩
theorem wN(s:A1)(w:World):Calls Tryz.prog 119 [str s,.int .u8 93].toArray w λ e w'=>e= .returned (i64 (Lib.indexByte s 93))/\Ext w w':=Q8 (R6 s 93 w)
theorem wO(s:A1)(w:World)(hg:Gl w)(hb:len s<=200000000000):
    Calls Tryz.prog 303 [str s].toArray w λ e w'=>e= .returned (.tuple #[.agg (DZ s).1.cells.toArray,i64 (DZ s).2])/\Ext w w':=by
 have hl0:=AA s
 have hix:=hU s 93
 have hix0:=Lib.indexByte_ge s 93
 refine AX AT Tryz.func303 U Tryz.ntmps303 [] [] [.v (str s)] U (FZ w) A7 (λ B hB=>?_) U
 refine CI 2 U (A0 U) (by omega) Tryz.zeroValue68 U λ b2=>?_
 refine BG U (A0 U) (by omega) Tryz.call119 U U (A0 U) (λ _ w M hX=>wN s w) U ?_
 refine BG U (A0 U) (by omega) Tryz.call77 U U (A0 U) (λ _ w M hX=>Q8 (LC s [91] w)) U ?_
 refine A8 U (A0 U) (by omega) (λ hb1=>?_) (λ hb1=>?_)<;>simp only[zb]at hb1
 ·exact AE hB U U (A0 U) (by omega) U (A0 U) λ w M hX=>⟨by unfold DZ;rw[if_pos (by simpa only[or_assoc]using hb1)];rfl,hX.st.low⟩
 have hno: ¬(Lib.hasPrefix s [91]=false\/Lib.indexByte s 93<2\/8<Lib.indexByte s 93):=by
  rintro(q|q|q)
  · rw[q]at hb1;cases hb1.1.1
  · omega
  · omega
 obtain⟨z,hz⟩: ∃z,z=Lib.indexByte s 93:=⟨_,rfl⟩
 have hsub:len (Eng.sub s 1 (Lib.indexByte s 93))<=18:=by
  unfold Eng.sub len;rw[List.length_take,List.length_drop];omega
 refine B6 [] (λ u:Int×Value=>.tu [I u.1,.v u.2]) [] (λ _=>[]) (Fg:=λ _=>[]) U (A0 U) (by simp only[zb]<;>omega) U Tryz.call120 U U (A0 U) U (λ w M hS hF=>wM (Eng.sub s 1 (Lib.indexByte s 93)) hS hg hsub) (λ _=>rfl) (λ _=>rfl) λ u hu=>?_
 rcases u with⟨u1,u2⟩
 rcases hu with⟨n,hn,hu,hn0,hn1⟩|⟨hn,hu1,t,p,hu2⟩
 ·cases hu
  refine KL U (A0 U) (by omega) EU (by decide+kernel) ?_
  refine eM (.v (.bool false)) U (A0 U) (by omega) U (λ w M hX=>PV.R1 (AI (v:=.v .nilIface) (E:=[]) U (A0 U)) (.inl U) Tryz.underlying166) ?_
  refine KN U (A0 U) (by simp only[zb]<;>omega) Tryz.call245 U U (A0 U) (λ _ w M hX=>U9 u1 w (hg.low hX.st.low) hn0 hn1) U ?_
  refine KM U (A0 U) (by simp only[zb]<;>omega) ?_
  have e:DZ s=if 1000000<u1\/Lib.itoa u1≠Eng.sub s 1 (Lib.indexByte s 93)\/u1<0 then(G6,0)else(⟨true,[],u1⟩,Lib.indexByte s 93+1):=by
   unfold DZ;rw[if_neg hno,hn]
  refine A8 U (A0 U) (by simp only[zb]<;>omega) (λ hb2=>?_) (λ hb2=>?_)<;>simp only[zb]at hb2
  ·exact AE hB U U (A0 U) (by omega) U (A0 U) λ w M hX=>⟨by rw[e,if_pos (by simpa[or_assoc]using hb2)];rfl,hX.st.low⟩
  ·have hn2: ¬(1000000<u1\/Lib.itoa u1≠Eng.sub s 1 (Lib.indexByte s 93)\/u1<0):=by
    rintro(q|q|q)
    · omega
    · exact q hb2.1.2
    · omega
   exact AE hB U U (A0 U) (by simp only[zb]<;>omega) U (A0 U) λ w M hX=>⟨by rw[e,if_neg hn2];rfl,hX.st.low⟩
 ·cases hu1;cases hu2
  have e:DZ s=(G6,0):=by unfold DZ;rw[if_neg hno,hn]
  refine KL U (A0 U) (by omega) EU (by decide+kernel) ?_
  refine eM (.v (.bool true)) U (A0 U) (by omega) U (λ w M hX=>PV.R1 (AI (v:=.v (.iface t p)) (E:=[]) U (A0 U)) (.inr ⟨t,p,rfl⟩) Tryz.underlying166) ?_
  refine KN U (A0 U) (by simp only[zb]<;>omega) Tryz.call245 U U (A0 U) (λ _ w M hX=>U9 0 w (hg.low hX.st.low) (by omega) (by omega)) U ?_
  refine KM U (A0 U) (by simp only[zb]<;>omega) ?_
  refine A8 U (A0 U) (by simp only[zb]<;>omega) (λ hb2=>?_) (λ hb2=>?_)
  ·exact AE hB U U (A0 U) (by omega) U (A0 U) λ w M hX=>⟨by rw[e];rfl,hX.st.low⟩
  ·cases hb2
theorem wP(s:A1)(i:Int)(h0:0<=i)(h1:i<=len s):0<=(EC s i).2/\i+(EC s i).2<=len s/\len (EC s i).1.name<=4*len s/\((EC s i).1.part=true->0<=(EC s i).1.n/\(EC s i).1.n<=1000000):=by
 have hl:=AA s
 have hf:=DK s i h0 h1
 have h2:=hY (A3 s i)
 have hsp:len G6.name<=0:=by decide
 unfold EC
 split
 ·exact⟨h2.1,by omega,by omega,λ h=>by rw[h2.2.2.2.1]at h;cases h⟩
 ·split
  ·rename_i hd
   have hdq:0<=G7 s i/\i+G7 s i<=len s:=by
    unfold G7 at*
    split at hd
    ·rename_i hp;rw[if_pos hp];have:=TG hp.2;omega
    ·rename_i hp;rw[if_neg hp];omega
   have hf2:=DK s (i+G7 s i) (by omega) hdq.2
   have h3:=hZ (A3 s (i+G7 s i))
   split
   ·exact⟨by omega,by omega,show len G6.name<=_ by omega,λ h=>by cases h⟩
   ·exact⟨by omega,by omega,show len (DZ (A3 s (i+G7 s i))).1.name<=_ by omega,h3.2.2.2⟩
  ·exact⟨by omega,by omega,show len G6.name<=_ by omega,λ h=>by cases h⟩
theorem wQ{w0 wv:World}{M0 M:Mem}{Rs:List HO}(s:A1)(hS:St w0 M0 wv M Rs)(hg:Gl w0)(hb:len s<=200000000000):
    Calls Tryz.prog 286 [str s].toArray wv (CM w0 M0 M Rs (λ u:Value=>.tuple #[u,i64 (GW s).2.1,i64 (GW s).2.2]) (λ _=>True) (λ u=>[(1,kn u 3 (GW s).1 Sp.cells)]) λ _=>[]):=by
 have hl0:=AA s
 refine AX (Hr:=Rs) AT Tryz.func286 U Tryz.ntmps286 [] [] [.v (str s)] U hS A7 (λ B hB=>?_) U
 unfold GW at hB
 refine A8 U (A0 U) (by omega) (λ hb1=>?_) (λ hb1=>?_)<;>simp only[zb]at hb1
 ·rw[if_pos hb1]at hB
  exact AE hB U U (A0 U) (by omega) U (A0 U) λ w M' hX=>⟨.slice none 0 0,M',rfl,trivial,hX.le,hX.BX [] U,BW ⟨Sl.nil M' 3,Sp.C1,trivial⟩ A7⟩
 rw[if_neg hb1]at hB
 refine sX (λ Q a w h=>wp_label h) U (A0 U) (by omega) ?_
 generalize hR:HZ 20 s [] 0=R at hB
 refine OX 1 5 68 3 Sp.cells Sp.C1 U ?_
 refine eK (σ:=Int×Value×List Sp×Nat) 1 (λ s'=> ∃(i:Int) (u:Value) (xs:List Sp),0<=i/\i<=len s/\len xs<=20/\R=(xs,i)/\s'=⟨[(1,kn u 3 xs Sp.cells)],[(1,.ho (PS u xs))],[Z 0 (.v (str s)),Z 5 (.sl 1 u),Z 6 (I i)]⟩)
   (λ(i,u,xs,f)=>⟨[(1,kn u 3 xs Sp.cells)],[(1,.ho (PS u xs))],[Z 0 (.v (str s)),Z 5 (.sl 1 u),Z 6 (I i)]⟩)
   (λ(i,u,xs,f)=>0<=i/\i<=len s/\len xs+f=20/\HZ f s xs i=R) (λ(i,u,xs,f)=>f) (0,.slice none 0 0,[],20) U (A0 U) (by omega) U U ⟨by omega,hl0,rfl,hR⟩ ?_ ?_
 ·rintro⟨i,u,xs,f⟩ ⟨hi0,hi1,hxf,hst⟩
  have hx0:=AA xs
  refine A8 U (A0 U) (by omega) (λ hb2=>?_) (λ hb2=>?_)<;>simp only[zb]at hb2
  ·cases f with
   |zero=>exfalso;omega
   |succ f=>
   rw[HZ,if_pos hb2.1]at hst
   have hf:=DK s i hi0 hi1
   have hfb:=hY (A3 s i)
   have hsb:=wP s i hi0 hi1
   refine BG U (A0 U) (by simp only[zb]<;>omega) Tryz.call302 U U (A0 U) (λ _ w M hX=>wL (A3 s i) w (hg.low hX.st.low) (by omega)) U ?_
   refine CI 7 U (A0 U) (by omega) Tryz.zeroValue68 U λ b7=>?_
   refine HL 0 (λ s'=> ∃x:Sp,x=(EC s i).1/\(EC s i).2≠0/\s'=⟨[(1,kn u 3 xs Sp.cells)],[(7,.box b7 [.v (.bool x.part),.v (str x.name),I x.n] 68),(1,.ho (PS u xs))],[Z 0 (.v (str s)),Z 5 (.sl 1 u),Z 6 (I i),Z 7 (.bx 7 b7 0),Z 8 (I ((EC s i).2))]⟩) U (A0 U) (by simp only[zb]<;>omega) U (λ hb3=>?_) (λ hb3=>?_) ?_
   ·simp only[zb]at hb3
    refine BG U (A0 U) (by simp only[zb]<;>omega) Tryz.call77 U U (A0 U) (λ _ w M hX=>Q8 (LC s [46] w)) U ?_
    refine HL 0 (λ s'=> ∃dt:Int,dt=G7 s i/\s'=⟨[(1,kn u 3 xs Sp.cells)],[(7,.box b7 [.v (.bool (EN (A3 s i)).1.part),.v (str (EN (A3 s i)).1.name),I (EN (A3 s i)).1.n] 68),(1,.ho (PS u xs))],[Z 0 (.v (str s)),Z 5 (.sl 1 u),Z 6 (I i),Z 7 (.bx 7 b7 0),Z 8 (I ((EN (A3 s i)).2)),Z 9 (I dt)]⟩) U (A0 U) (by simp only[zb]<;>omega) U (λ hb4=>?_) (λ hb4=>?_) ?_
    ·exact BB _ U (A0 U) (by omega) U ⟨1,by simp only[zb]at hb4;unfold G7;rw[if_pos hb4],rfl⟩
    ·exact BB _ U (A0 U) (by omega) U ⟨0,(by
      simp only[zb]at hb4;unfold G7;rw[if_neg]
      rintro⟨q1,q2⟩
      rcases hb4 with h|h
      · exact h q1
      · rw[q2]at h;cases h),rfl⟩
    rintro s' ⟨dt,hdt,rfl⟩
    have hdq:0<=dt/\dt<=1/\i+dt<=len s:=by
     rw[hdt];unfold G7
     split
     · rename_i hp;have:=TG hp.2;omega
     · omega
    have hf2:=DK s (i+dt) (by omega) hdq.2.2
    have hpb:=hZ (A3 s (i+dt))
    have est:EC s i=if 0<i\/0<dt then if(DZ (A3 s (i+dt))).2=0 then(G6,0)else((DZ (A3 s (i+dt))).1,(DZ (A3 s (i+dt))).2+dt)else(G6,0):=by
     unfold EC;rw[if_neg (λ q=>q hb3),<-hdt]
    refine A8 U (A0 U) (by simp only[zb]<;>omega) (λ hb4=>?_) (λ hb4=>?_)<;>simp only[zb]at hb4
    ·rw[if_pos hb4]at est
     refine BG U (A0 U) (by simp only[zb]<;>omega) Tryz.call303 U U (A0 U) (λ _ w M hX=>wO (A3 s (i+dt)) w (hg.low hX.st.low) (by omega)) U ?_
     refine A8 U (A0 U) (by simp only[zb]<;>omega) (λ hb5=>?_) (λ hb5=>?_)<;>simp only[zb]at hb5
     ·rw[if_pos hb5]at est
      rw[est,if_pos U]at hst
      exact BB _ U (A0 U) (by omega) U ⟨i,u,xs,hi0,hi1,by omega,hst.symm,rfl⟩
     ·rw[if_neg hb5]at est
      exact BB _ U (A0 U) (by simp only[zb]<;>omega) (by rw[est];rfl) ⟨_,rfl,by rw[est];show(DZ (A3 s (i+dt))).2+dt≠0;omega,rfl⟩
    ·rw[if_neg (by omega)]at est
     refine A8 U (A0 U) (by simp only[zb]<;>omega) (λ hb5=>?_) (λ hb5=>?_)<;>simp only[zb]at hb5
     ·rw[est,if_pos U]at hst
      exact BB _ U (A0 U) (by omega) U ⟨i,u,xs,hi0,hi1,by omega,hst.symm,rfl⟩
     ·exact absurd hb3 hb5
   ·simp only[zb]at hb3
    have est:EC s i=EN (A3 s i):=by unfold EC;rw[if_pos hb3]
    exact BB _ U (A0 U) (by omega) (by rw[est];rfl) ⟨_,rfl,by rw[est];exact hb3,rfl⟩
   rintro s' ⟨x,hx,hne,rfl⟩
   rw[if_neg hne,<-hx]at hst
   refine E9 6 [x] Sp.cells 3 68 Sp.C1 U (A0 U) (by omega) U (A0 U) (λ w=>by kernel_rfl) U λ v6=>?_
   refine N9 32 U (A0 U) (by omega) U (A0 U) U Tryz.underlying70 Tryz.type68 U U Sp.cells_one (by simp only[AL,len_nil];omega) λ v'=>?_
   exact DJ (i+(EC s i).2,v',xs++[x],f) U (A0 U) (by simp only[zb]<;>omega) U ⟨by omega,by omega,by rw[AJ];show len xs+1+_=20;omega,hst⟩ (by show f<f+1;omega)
  ·refine BB _ U (A0 U) (by omega) U ⟨i,u,xs,hi0,hi1,by omega,?_,rfl⟩
   rw[<-hst]
   cases f with
   |zero=>rfl
   |succ f=>rw[HZ,if_neg (by omega)]
 rintro s' ⟨i,u,xs,hi0,hi1,hx20,rfl,rfl⟩
 have hx0:=AA xs
 refine A8 U (A0 U) (by omega) (λ hb2=>?_) (λ hb2=>?_)<;>simp only[zb]at hb2
 ·rw[if_pos (hb2.imp id λ h=>Decidable.byContradiction λ q=>by have:0<len xs:=JI q;omega)]at hB
  exact AE hB U U (A0 U) (by omega) U (A0 U) λ w M' hX=>⟨.slice none 0 0,M',rfl,trivial,hX.le,hX.BX [] U,BW ⟨Sl.nil M' 3,Sp.C1,trivial⟩ A7⟩
 ·rw[if_neg (by
                 rintro(q|q);· omega
                 · dsimp only at q;rw[q]at hb2;exact hb2.2 U)]at hB
  exact AE hB U U (A0 U) (by omega) U (A0 U) λ w M' hX=>⟨u,M',rfl,trivial,hX.le,hX.BX [] U,BW (hX.f.get (k:=1) U) A7⟩
end Go.Proofs.YtmjpjbmeamnfpaaGreatDoor
