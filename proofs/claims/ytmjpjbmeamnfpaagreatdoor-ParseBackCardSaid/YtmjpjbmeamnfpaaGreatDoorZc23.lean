/-
  Parts NumB Lx Back, put together and made short by wip/py/merge.py (mini.py).
-/
import Derived.Test.YtmjpjbmeamnfpaaGreatDoorZc22
import Derived.Test.YtmjpjbmeamnfpaaGreatDoorZc16
import Derived.Lib.SlTrimSet
import Derived.Test.YtmjpjbmeamnfpaaGreatDoorZc18
import Derived.Lib.Join
import Derived.Test.YtmjpjbmeamnfpaaGreatDoorZc0
set_option linter.unusedVariables false
set_option linter.unusedSimpArgs false
namespace Go.Eng
open Go.RowKit
def CJ(l:A1):Prop:= ∀b∈l,C7 b=true
theorem T7{s:A1}:I3 s=true↔CJ s:=by
 rw[aM]
 constructor
 ·intro h b hb
  obtain⟨j,hj,e⟩:=List.getElem_of_mem hb
  have:=h j hj
  rw[e]at this;exact this
 ·intro h j hj;exact h _ (List.getElem_mem hj)
theorem CJ.app {a b:A1}(h:CJ a)(k:CJ b):CJ (a++b):=λ x hx=>by
 rcases List.mem_append.1 hx with hx|hx
 ·exact h x hx
 ·exact k x hx
theorem kO{k:Int}: ∀b∈BF k,b=48:=λ b hb=>(List.mem_replicate.1 hb).2
theorem CJ.BF (k:Int):CJ (BF k):=λ b hb=>by rw[kO b hb];rfl
def kP(r:A1):Prop:=r=[]\/ ∃b q,r=b::q/\C7 b=false
theorem bK{s g r:A1}{i:Int}(h:A4 s i=g++r)(hg:CJ g)(hr:kP r):AM s i=i+len g:=by
 have:(g++r).takeWhile C7=g:=by
  rw[List.takeWhile_append_of_pos hg]
  rcases hr with rfl|⟨b,q,rfl,hb⟩
  ·simp
  ·rw[List.takeWhile_cons,hb];simp
 unfold AM;rw[h,this]
theorem bL{s g r:A1}{i:Int}(h0:0<=i)(h:A4 s i=g++r):Eng.sub s i (i+len g)=g:=by
 rw[<-aC s i (len g) h0 (AA _),h,T6]
theorem bM{s g r:A1}{i:Int}(h0:0<=i)(h:A4 s i=g++r):A4 s (i+len g)=r:=by
 rw[<-KH s i (len g) h0 (AA _),h,b9]
theorem WD{s g:A1}{i:Int}(h0:0<=i)(h:A4 s i=g)(hg:g≠[]):len s=i+len g:=by
 have hp:=KU.1 hg
 have:=UR s i h0
 rw[h]at this
 split at this<;>omega
theorem WE{s q:A1}{b:UInt8}{i:Int}(h0:0<=i)(h:A4 s i=b::q):i<len s/\A3 s i=(b.toNat:Int):=by
 have hl:=WD h0 h (by simp)
 rw[A7]at hl
 have hq:=AA q
 refine⟨by omega,?_⟩
 have:=NP s i 0 h0 (Int.le_refl 0)
 rw[h,Int.add_zero]at this
 rw[<-this];rfl
theorem bN{s q:A1}{b:UInt8}{i:Int}(h0:0<=i)(h:A4 s i=b::q):BU s [b] i=true/\B5 s [b] i=i+1:=by
 have:=WE h0 h
 have e:BU s [b] i=true:=QK.2 this
 exact⟨e,OK e⟩
theorem WG{s q:A1}{b c:UInt8}{i:Int}(h0:0<=i)(h:A4 s i=b::q)(hne:b≠c):BU s [c] i=false/\B5 s [c] i=i:=by
 have hb:=WE h0 h
 have e:BU s [c] i=false:=by
  cases hh:BU s [c] i with
  |false=>rfl
  |true=>exact absurd (UInt8.toNat_inj.1 (by have:=(QK.1 hh).2;omega)) hne
 exact⟨e,ML e⟩
theorem kQ{s:A1}{c:A1}{i:Int}(h:len s<=i):BU s c i=false/\B5 s c i=i:=by
 have e:BU s c i=false:=by
  cases hh:BU s c i with
  |false=>rfl
  |true=>have:=fD hh;omega
 exact⟨e,ML e⟩
def GD(neg:Bool):A1:=if neg then [45]else []
theorem kR{b:UInt8}(h:C7 b=true):b≠45/\b≠43/\b≠46/\b≠101/\b≠69:=by
 refine⟨?_,?_,?_,?_,?_⟩<;>(intro e;subst e;revert h;decide)
theorem bO{s w r:A1}{neg:Bool}(h:s=GD neg++(w++r))(hw:CJ w)(hn:w≠[])(hr:kP r)(hz: ¬(1<len w/\A3 w 0=48)):
  ∃b0,0<=b0/\A4 s b0=r/\C3 s=if BU s [46] b0 then
   if Eng.sub s (B5 s [46] b0) (AM s (B5 s [46] b0))=[]then(AO,AM s (B5 s [46] b0),1)
   else FI s neg (w++Eng.sub s (B5 s [46] b0) (AM s (B5 s [46] b0))) (-(len (Eng.sub s (B5 s [46] b0) (AM s (B5 s [46] b0))))) (AM s (B5 s [46] b0))
  else FI s neg w 0 (B5 s [46] b0):=by
 have ha:BU s [45] 0=neg/\B5 s [45] 0=len (GD neg):=by
  cases neg with
  |true=>exact bN (q:=w++r) (Int.le_refl 0) (by rw[h];rfl)
  |false=>
   cases w with
   |nil=>exact absurd U hn
   |cons b w=>exact WG (q:=w++r) (Int.le_refl 0) (by rw[h];rfl) (kR (hw b (by simp))).1
 have hs0:=AA (GD neg)
 have hf:A4 s (len (GD neg))=w++r:=by rw[h,b9]
 have hrun:=bK hf hw hr
 have hsub:=bL hs0 hf
 refine⟨len (GD neg)+len w,by have:=AA w;omega,bM hs0 hf,?_⟩
 rw[iW ha.2,hrun,hsub,if_neg hz,if_neg hn,ha.1]
theorem kS{s fg:A1}{neg:Bool}{x b:Int}(h:len s<=b):FI s neg fg x b=FT neg fg x [] 1:=by
 obtain⟨e1,e2⟩:=kQ (c:=[101,69]) h
 unfold FI;rw[e1,e2,if_neg (by simp),if_neg (by omega)]
theorem kT{s w:A1}{neg:Bool}(h:s=GD neg++w)(hw:CJ w)(hn:w≠[])(hz: ¬(1<len w/\A3 w 0=48)):C3 s=FT neg w 0 [] 1:=by
 obtain⟨b,h0,h1,h2⟩:=bO (neg:=neg) (w:=w) (r:=[]) (by simpa using h) hw hn (.inl rfl) hz
 have hb:len s<=b:=by
  have:=UR s b h0
  rw[h1,len_nil]at this
  split at this<;>omega
 obtain⟨e1,e2⟩:=kQ (c:=[46]) hb
 rw[h2,e1,e2,if_neg (by simp),kS hb]
theorem zD{s w p:A1}{neg:Bool}(h:s=GD neg++(w++46::p))(hw:CJ w)(hn:w≠[])(hz: ¬(1<len w/\A3 w 0=48))(hp:CJ p)(hpn:p≠[]):C3 s=FT neg (w++p) (-(len p)) [] 1:=by
 obtain⟨b,h0,h1,h2⟩:=bO h hw hn (.inr ⟨46,p,rfl,by decide⟩) hz
 obtain⟨e1,e2⟩:=bN h0 h1
 have hf:A4 s (b+1)=p++[]:=by rw[<-KH s b 1 h0 (by omega),h1];simp[A4]
 have hrun:=bK hf hp (.inl U)
 have hsub:=bL (by omega) hf
 have hl:=WD h0 h1 (by simp)
 rw[A7]at hl
 rw[h2,e1,e2,if_pos U,hrun,hsub,if_neg hpn,kS (by omega)]
theorem zE{s w p:A1}{neg neg2:Bool}(h:s=GD neg++(w++101::(GD neg2++p)))(hw:CJ w)(hn:w≠[])(hz: ¬(1<len w/\A3 w 0=48))(hp:CJ p)(hpn:p≠[]):C3 s=FT neg w 0 p (if neg2 then-1 else 1):=by
 obtain⟨b,h0,h1,h2⟩:=bO h hw hn (.inr ⟨101,_,rfl,by decide⟩) hz
 obtain⟨e1,e2⟩:=WG (c:=46) h0 h1 (by decide)
 have hby:=WE h0 h1
 have e3:BU s [101,69] b=true:=iU.2 ⟨hby.1,.inl hby.2⟩
 have hf:A4 s (b+1)=GD neg2++p:=by rw[<-KH s b 1 h0 (by omega),h1];rfl
 have hc:BU s [45] (b+1)=neg2/\(if neg2 then B5 s [45] (b+1)else B5 s [43] (B5 s [45] (b+1)))=b+1+len (GD neg2):=by
  cases neg2 with
  |true=>exact bN (q:=p) (by omega) hf
  |false=>
   cases p with
   |nil=>exact absurd U hpn
   |cons c p=>
    have hc:=kR (hp c (by simp))
    obtain⟨g1,g2⟩:=WG (c:=45) (i:=b+1) (by omega) hf hc.1
    obtain⟨g3,g4⟩:=WG (c:=43) (i:=b+1) (by omega) hf hc.2.1
    refine⟨g1,?_⟩
    rw[if_neg (by simp),g2,g4]
    show b+1=b+1+0
    omega
 have hg:=AA (GD neg2)
 have hf2:A4 s (b+1+len (GD neg2))=p++[]:=by rw[List.append_nil];exact bM (by omega) hf
 have hrun:=bK hf2 hp (.inl U)
 have hsub:=bL (by omega) hf2
 have hl:=WD (by omega) hf2 (by simpa using hpn)
 rw[List.append_nil]at hl
 rw[h2,e1,e2,if_neg (by simp)]
 unfold FI
 rw[e3,if_pos U,OK e3]
 unfold NN
 dsimp only
 rw[hc.1,hc.2,hrun,hsub,if_neg (by rw[not_or];exact⟨hpn,by omega⟩)]
theorem WH{s:A1}(h:A3 s 0≠48):AZ s=s:=sJ (λ x=>h x.2)
theorem zF{s:A1}(h:A3 s 0≠48)(k:Int):AZ (BF k++s)=s:=by
 have: ∀n:Nat,AZ (List.replicate n 48++s)=s:=by
  intro n
  induction n with
  |zero=>exact WH h
  |succ n ih=>rw[List.replicate_succ,List.cons_append,sP (by decide),ih]
 exact this k.toNat
theorem zG{s:A1}(hn:s≠[])(h:A3 s (len s-1)≠48)(k:Int):D8 (s++BF k)=s:=by
 have:=Lib.trimRightS_take (s++BF k) [48] s.length (by simp) (λ j b hj hb=>by
  rw[List.getElem?_append_right hj]at hb
  rw[kO b (List.mem_of_getElem? hb)];rfl) (λ b h0 hb=>by
  rw[List.getElem?_append_left (by omega)]at hb
  have e:A3 s (len s-1)=(b.toNat:Int):=by
   unfold A3 len
   rw[show((s.length:Int)-1).toNat=s.length-1 from by omega,List.getD_eq_getElem?_getD,hb];rfl
  cases hc:([48]:A1).contains b with
  |false=>rfl
  |true=>rw[UN]at hc;omega)
 unfold D8;rw[this];simp
theorem WI{fg s:A1}{neg:Bool}{e0 e k:Int}(hf:CJ fg)(hd:AZ fg=s++BF k)(hk:0<=k)(hn:s≠[])(hl:A3 s (len s-1)≠48)(he:e0+k=e)(h1:len s<=100)(h2: -1000<=e)(h3:len s+e<=1000)(hk2:k<=2000):
  EK neg fg e0=(⟨3,0,[],s,neg,e⟩,0):=by
 have hp:=KU.1 hn
 have hlz:=eZ k hk
 have hdl:len (AZ fg)=len s+k:=by rw[hd,A5,hlz]
 have ht:D8 (AZ fg)=s:=by rw[hd,zG hn hl]
 unfold EK
 rw[if_pos (T7.2 hf),ht,hdl,if_neg (by rw[hd];simp[hn])]
 rw[if_neg (by simp only[Bool.or_eq_true,decide_eq_true_eq];omega),if_neg (by simp only[Bool.or_eq_true,decide_eq_true_eq];omega)]
 rw[show e0+(len s+k-len s)=e from by omega]
theorem bP{n:Nd}(h:GK n=true):n=⟨3,0,[],n.s,n.neg,n.e⟩/\CJ n.s/\len n.s<=100/\ -1000<=n.e/\n.e<=1000/\len n.s+n.e<=1000/\((n.s=[]/\n.neg=false/\n.e=0)\/(n.s≠[]/\A3 n.s 0≠48/\A3 n.s (len n.s-1)≠48)):=by
 obtain⟨kind,many,name,s,neg,e⟩:=n
 unfold GK at h
 dsimp only at h ⊢
 split at h
 ·cases h
 rename_i hc
 simp only[Bool.or_eq_true,decide_eq_true_eq,bne_iff_ne,Bool.not_eq_true',beq_eq_false_iff_ne,not_or,ne_eq,Classical.not_not]at hc
 obtain⟨⟨⟨⟨⟨⟨⟨c1,c2⟩,c3⟩,c4⟩,c5⟩,c6⟩,c7⟩,c8⟩:=hc
 subst c1;subst c2;subst c3
 refine⟨rfl,T7.1 (by simpa using c4),by omega,by omega,by omega,by omega,?_⟩
 split at h
 ·rename_i hs
  simp only[Bool.and_eq_true,Bool.not_eq_true',beq_iff_eq]at h hs
  exact .inl ⟨hs,h.1,h.2⟩
 ·rename_i hs
  simp only[Bool.and_eq_true,bne_iff_ne,beq_iff_eq]at h hs
  exact .inr ⟨hs,h.1,h.2⟩
theorem zH: ∀n:Fin 2001,(Lib.itoa ((n.val:Int)-1000)==GD (decide ((n.val:Int)-1000<0))++Lib.decDigits ((n.val:Int)-1000).natAbs)=true/\
 (Lib.decDigits ((n.val:Int)-1000).natAbs).all C7=true/\Lib.decDigits ((n.val:Int)-1000).natAbs≠[]/\len (AZ (Lib.decDigits ((n.val:Int)-1000).natAbs))<=6/\
 BE (AZ (Lib.decDigits ((n.val:Int)-1000).natAbs))=(((n.val:Int)-1000).natAbs:Int):=by decide+kernel
theorem zI{e:Int}(h0: -1000<=e)(h1:e<=1000): ∃p,Lib.itoa e=GD (decide (e<0))++p/\CJ p/\p≠[]/\len (AZ p)<=6/\(if decide (e<0)then(-1:Int)else 1)*BE (AZ p)=e:=by
 have:=zH ⟨(e+1000).toNat,by omega⟩
 dsimp only at this
 rw[show(((e+1000).toNat:Nat):Int)-1000=e from by omega]at this
 obtain⟨g1,g2,g3,g4,g5⟩:=this
 refine⟨_,by simpa using g1,λ b hb=>List.all_eq_true.1 g2 b hb,g3,g4,?_⟩
 rw[g5]
 by_cases h:e<0
 ·rw[if_pos (by simpa using h)];omega
 ·rw[if_neg (by simpa using h)];omega
theorem kU{neg:Bool}{fg:A1}{x:Int}:FT neg fg x [] 1=((EK neg fg x).1,0,(EK neg fg x).2):=by
 unfold FT
 rw[show AZ []=[]from rfl,if_neg (by decide),show x+1*BE []=x from by show x+1*0=x;omega]
theorem zJ{n:Nd}(h:GK n=true):C3 (CP n)=(n,0,0)/\(∃g r,CP n=GD n.neg++(g::r)/\C7 g=true)/\ ∀b∈CP n,HJ b=true:=by
 obtain⟨he,hf,h1,h2,h3,h4,h5⟩:=bP h
 generalize hs:n.s=s at*
 generalize hneg:n.neg=neg at*
 generalize hee:n.e=e at*
 subst he
 have numF: ∀b,C7 b=true->HJ b=true:=λ b hb=>by
  rw[VS];left
  unfold C7 BM at hb
  simp only[Bool.and_eq_true,decide_eq_true_eq]at hb
  omega
 have numS: ∀g:Bool,∀b∈GD g,HJ b=true:=by decide
 rcases h5 with⟨e1,e2,e3⟩|⟨hn,hb,hl⟩
 ·subst e1;subst e2;subst e3
  exact⟨by decide+kernel,⟨48,[],by decide,by decide⟩,by decide⟩
 obtain⟨g,q,hgq⟩: ∃g q,s=g::q:=by cases s with
  |nil=>exact absurd U hn
  |cons g q=>exact⟨g,q,rfl⟩
 have hp:=KU.1 hn
 unfold CP
 dsimp only
 rw[if_neg (by simpa using hn),show(if neg then([45]:A1)else [])=GD neg from rfl]
 by_cases c1:(decide (0<=e)&&decide (len s+e<=20))=true
 ·rw[if_pos c1]
  simp only[Bool.and_eq_true,decide_eq_true_eq]at c1
  have hbz:A3 (s++BF e) 0≠48:=by rw[H6 (Int.le_refl 0) hp];exact hb
  refine⟨?_,⟨g,q++BF e,by rw[hgq];simp,hf g (by rw[hgq];simp)⟩,λ b hb=>?_⟩
  ·rw[kT (w:=s++BF e) (neg:=neg) (by simp) (hf.app (CJ.BF e)) (by simp[hn]) (λ x=>hbz x.2),kU,WI (s:=s) (k:=e) (e:=e) (hf.app (CJ.BF e)) (WH hbz) c1.1 hn hl (by omega) (by omega) (by omega) (by omega) (by omega)]
  ·simp only[List.mem_append]at hb
   rcases hb with(hb|hb)|hb
   ·exact numS _ b hb
   ·exact numF b (hf b hb)
   ·exact numF b (CJ.BF e b hb)
 rw[if_neg c1]
 by_cases c2:(decide (e<0)&&decide (-20<=e))=true
 ·rw[if_pos c2]
  simp only[Bool.and_eq_true,decide_eq_true_eq]at c2
  have hz:=RJ (1-e-len s)
  have hz2:0<=1-e-len s->len (BF (1-e-len s))=1-e-len s:=λ x=>eZ _ x
  have hz3:1-e-len s<=0->BF (1-e-len s)=[]:=λ x=>KD x
  have hfS:CJ (BF (1-e-len s)++s):=(CJ.BF _).app hf
  have hlS:len (BF (1-e-len s)++s)=len (BF (1-e-len s))+len s:=A5 _ _
  have hdS:AZ (BF (1-e-len s)++s)=s:=zF hb _
  have hb1:1-e-len s<=0->A3 (BF (1-e-len s)++s) 0≠48:=λ x=>by rw[hz3 x];exact hb
  generalize BF (1-e-len s)++s=S at*
  obtain⟨hsp1,hsp2⟩:=kH (s:=S) (n:=len S+e) (by omega) (by omega)
  have hlf:=DV S (len S+e) (by omega) (by omega)
  have hfw:CJ (Eng.sub S 0 (len S+e)):=λ b hb=>hfS b (by rw[hsp1];simp[hb])
  have hfp:CJ (A4 S (len S+e)):=λ b hb=>hfS b (by rw[hsp1];simp[hb])
  have hwn:Eng.sub S 0 (len S+e)≠[]:=KU.2 (by omega)
  have hpn:A4 S (len S+e)≠[]:=KU.2 (by omega)
  have hzz: ¬(1<len (Eng.sub S 0 (len S+e))/\A3 (Eng.sub S 0 (len S+e)) 0=48):=by
   rintro⟨x1,x2⟩
   by_cases hpd:0<=1-e-len s
   ·have:=hz2 hpd;omega
   ·refine hb1 (by omega) ?_
    rw[N5 (Int.le_refl 0) (Int.le_refl 0) (by omega) (by omega)]at x2
    exact x2
  obtain⟨g',q',hgq'⟩: ∃g q,Eng.sub S 0 (len S+e)=g::q:=by
   cases hh:Eng.sub S 0 (len S+e)with
   |nil=>exact absurd hh hwn
   |cons g q=>exact⟨g,q,rfl⟩
  refine⟨?_,⟨g',q'++46::A4 S (len S+e),by rw[hgq'];simp,hfw g' (by rw[hgq'];simp)⟩,λ b hb=>?_⟩
  ·rw[zD (w:=Eng.sub S 0 (len S+e)) (p:=A4 S (len S+e)) (neg:=neg) (by simp) hfw hwn hzz hfp hpn,<-hsp1,kU,
    WI (s:=s) (k:=0) (e:=e) hfS (by rw[hdS,KD (Int.le_refl 0)];simp) (Int.le_refl 0) hn hl (by omega) (by omega) (by omega) (by omega) (by omega)]
  ·simp only[List.mem_append,List.mem_cons,List.not_mem_nil,or_false]at hb
   rcases hb with((hb|hb)|hb)|hb
   ·exact numS _ b hb
   ·exact numF b (hfw b hb)
   ·subst hb;decide
   ·exact numF b (hfp b hb)
 rw[if_neg c2]
 obtain⟨p,hi,hfp,hpn,hl6,hv⟩:=zI (e:=e) (by omega) (by omega)
 have hbz:A3 s 0≠48:=hb
 refine⟨?_,⟨g,q++101::Lib.itoa e,by rw[hgq];simp,hf g (by rw[hgq];simp)⟩,λ b hb=>?_⟩
 ·rw[hi,zE (w:=s) (p:=p) (neg:=neg) (neg2:=decide (e<0)) (by simp) hf hn (λ x=>hbz x.2) hfp hpn]
  unfold FT
  rw[if_neg (by omega),hv,Int.zero_add,
   WI (s:=s) (k:=0) (e:=e) hf (by rw[WH hbz,KD (Int.le_refl 0)];simp) (Int.le_refl 0) hn hl (by omega) (by omega) (by omega) (by omega) (by omega)]
 ·rw[hi]at hb
  simp only[List.mem_append,List.mem_cons,List.not_mem_nil,or_false]at hb
  rcases hb with((hb|hb)|hb)|hb|hb
  ·exact numS _ b hb
  ·exact numF b (hf b hb)
  ·subst hb;decide
  ·exact numS _ b hb
  ·exact numF b (hfp b hb)
theorem zK{neg:Bool}{s:A1}{e:Int}(h:(EK neg s e).2=0):GK (EK neg s e).1=true:=by
 unfold EK at h ⊢
 by_cases c1:I3 s=true
 ·rw[if_pos c1]at h ⊢
  by_cases c2:(AZ s==[])=true
  ·rw[if_pos c2];decide+kernel
  rw[if_neg c2]at h ⊢
  split at h
  ·cases h
  rename_i c3
  rw[if_neg c3]
  split at h
  ·cases h
  rename_i c4
  rw[if_neg c4]
  simp only[Bool.or_eq_true,decide_eq_true_eq]at c4
  have c2': ¬AZ s=[]:=by simpa using c2
  have hp:=fB s c2'
  have htn:D8 (AZ s)≠[]:=KU.2 hp
  have hpre: ∃r,D8 (AZ s)++r=AZ s:=by
   unfold D8 Lib.trimRightS
   have:=List.dropWhile_suffix (([48]:A1).contains ·) (l:=(AZ s).reverse)
   obtain⟨r,hr⟩:=this
   refine⟨r.reverse,?_⟩
   rw[<-List.reverse_append,hr,List.reverse_reverse]
  obtain⟨r,hr⟩:=hpre
  have hF:CJ (D8 (AZ s)):=λ b hb=>(fF (T7.1 c1)) b (by rw[<-hr];simp[hb])
  have hfirst:A3 (D8 (AZ s)) 0≠48:=by
   rw[<-H6 (v:=r) (Int.le_refl 0) hp,hr]
   cases hd:AZ s with
   |nil=>exact absurd hd c2'
   |cons b l=>
    have:=Y5 hd
    intro e;rw[EI]at e;rw[UN.2 e]at this;cases this
  have hlast:A3 (D8 (AZ s)) (len (D8 (AZ s))-1)≠48:=by
   obtain⟨b,e1,e2⟩:=sK hp
   rw[<-e2]
   intro e3
   have hb:([48]:A1).contains b=true:=UN.2 e3
   have:D8 (AZ s)=((AZ s).reverse.dropWhile (([48]:A1).contains ·)).reverse:=rfl
   rw[this]at e1
   have h2:=congrArg List.reverse e1
   rw[List.reverse_reverse,List.reverse_append,List.reverse_cons,List.reverse_nil,List.nil_append,List.singleton_append]at h2
   have:=Y5 (s:=(AZ s).reverse) (b:=b) (l:=(Eng.sub (D8 (AZ s)) 0 (len (D8 (AZ s))-1)).reverse) h2
   rw[hb]at this;cases this
  unfold GK
  dsimp only
  rw[if_neg (by
   simp only[Bool.or_eq_true,decide_eq_true_eq,bne_iff_ne,Bool.not_eq_true',beq_eq_false_iff_ne,T7.2 hF]
   simp only[not_or]
   refine⟨⟨⟨⟨⟨⟨⟨by simp,by simp⟩,by simp⟩,by simp⟩,by omega⟩,by omega⟩,by omega⟩,by omega⟩),if_neg (by simpa using htn)]
  simp[hfirst,hlast]
 ·rw[if_neg c1]at h;exact absurd h (by decide)
theorem zL{neg:Bool}{s:A1}{e:Int}(h:CJ s):(EK neg s e).2=0\/(EK neg s e).2=2:=by
 unfold EK
 rw[if_pos (T7.2 h)]
 split
 ·exact .inl U
 ·split
  ·exact .inr U
  ·split
   ·exact .inr U
   ·exact .inl U
def WJ(r:Nd×Int×Int):Prop:=(r.2.2=0->GK r.1=true)/\(r.2.2=0\/r.2.2=1\/r.2.2=2)
theorem kV{neg:Bool}{fg:A1}{x:Int}{pw:A1}{side:Int}(h:CJ fg):WJ (FT neg fg x pw side):=by
 unfold FT
 split
 ·exact⟨λ e=>absurd e (by decide),.inr (.inr U)⟩
 ·refine⟨λ e=>zK e,?_⟩
  rcases zL (neg:=neg) (e:=x+side*BE (AZ pw)) h with e|e
  ·exact .inl e
  ·exact .inr (.inr e)
theorem T8(n:Nd)(p:Int):WJ (n,p,1):=⟨λ e=>absurd e (show ¬(1:Int)=0 by decide),.inr (.inl U)⟩
theorem kW{s fg:A1}{neg:Bool}{x b:Int}(h:CJ fg):WJ (FI s neg fg x b):=by
 unfold FI
 split
 ·unfold NN
  dsimp only
  repeat' split
  all_goals first|exact T8 _ _|exact kV h
 ·split
  ·exact T8 _ _
  ·exact kV h
theorem kX(s:A1):WJ (C3 s):=by
 have h0:=NM s [45] 0 (AA s)
 have hr:=KC s (B5 s [45] 0) (by omega) h0.2
 have h1:=NM s [46] (AM s (B5 s [45] 0)) hr.2
 unfold C3
 dsimp only
 have hF:CJ (Eng.sub s (B5 s [45] 0) (AM s (B5 s [45] 0))):=RM h0.1
 split
 ·exact T8 _ _
 ·split
  ·exact T8 _ _
  ·split
   ·split
    ·exact T8 _ _
    ·exact kW (hF.app (RM (by omega)))
   ·exact kW hF
end Go.Eng
namespace Go.Eng
open Go.RowKit
inductive Lx (s:A1):Int->List Tk->Prop
 |done {i:Int}:0<=i-> ¬i<len s->Lx s i []
 |step {i n:Int} {t:Tk} {l:List Tk}:0<=i->i<len s->AB (A4 s i)=(t,n,0)->Lx s (DD s (i+n)) l->Lx s i ({ t with pos:=i}::l)
inductive J6 (s:A1):Int->Int->Int->Prop
 |here {i n e:Int} {t:Tk}:0<=i->i<len s->AB (A4 s i)=(t,n,e)->e≠0->J6 s i (i+n) e
 |there {i n p e:Int} {t:Tk}:0<=i->i<len s->AB (A4 s i)=(t,n,0)->J6 s (DD s (i+n)) p e->J6 s i p e
theorem P1{s:A1}{i n e:Int}{t:Tk}(h0:0<=i)(h1:i<len s)(h:AB (A4 s i)=(t,n,e)):0<=n/\i+n<=len s/\(e=0->1<=n)/\(e=0\/e=1\/e=2\/e=4):=by
 have hl:=DV s i h0 (by omega)
 have:=j8 (s:=A4 s i) (by omega)
 rw[h]at this
 dsimp only at this
 omega
theorem kY{s:A1}: ∀(f:Nat) (i:Int) (acc:List Tk),0<=i->(len s-i).toNat<=f->
  (∃l,Lx s i l/\IV f s i acc=(acc++l++[G4 s],0,0))\/(∃p e,J6 s i p e/\IV f s i acc=([],p,e))
 |0,i,acc,h0,hf=>.inl ⟨[],.done h0 (by omega),by unfold IV;simp⟩
 |f+1,i,acc,h0,hf=>by
  by_cases h1:i<len s
  ·obtain⟨t,n,e,ht⟩: ∃t n e,AB (A4 s i)=(t,n,e):=⟨_,_,_,rfl⟩
   have hb:=P1 h0 h1 ht
   rw[PT hf h1,ht]
   dsimp only
   by_cases he:e=0
   ·subst he
    have hbl:=KF s (i+n) (by omega) (by omega)
    rw[if_neg (by simp)]
    rcases kY (s:=s) f (DD s (i+n)) (acc++[{ t with pos:=i}]) (by omega) (by omega)with⟨l,h2,h3⟩|⟨p,e,h2,h3⟩
    ·exact .inl ⟨_,.step h0 h1 ht h2,by rw[Nat.add_sub_cancel,h3];simp⟩
    ·exact .inr ⟨p,e,.there h0 h1 ht h2,by rw[Nat.add_sub_cancel,h3]⟩
   ·rw[if_pos he]
    exact .inr ⟨_,_,.here h0 h1 ht he,rfl⟩
  ·exact .inl ⟨[],.done h0 h1,by rw[YA h1];simp⟩
theorem J6.bd {s:A1}{i p e:Int}(h:J6 s i p e):i<=p/\p<=len s/\(e=1\/e=2\/e=4):=by
 induction h with
 |here h0 h1 h he=>have:=P1 h0 h1 h;omega
 | @there i n p e t h0 h1 h _ ih=>
  have hb:=P1 h0 h1 h
  have:=KF s (i+n) (by omega) hb.2.1
  omega
theorem Lx.go {s:A1}{i:Int}{l:List Tk}(h:Lx s i l): ∀(f:Nat) (acc:List Tk),(len s-i).toNat<=f->IV f s i acc=(acc++l++[G4 s],0,0):=by
 induction h with
 |done _ h1=>intro f acc _;rw[YA h1];simp
 | @step i n t l h0 h1 h _ ih=>
  intro f acc hf
  have hb:=P1 h0 h1 h
  have hbl:=KF s (i+n) (by omega) hb.2.1
  rw[PT hf h1,h]
  dsimp only
  rw[if_neg (by simp),ih _ _ (by omega)]
  simp
theorem J6.go {s:A1}{i p e:Int}(h:J6 s i p e): ∀(f:Nat) (acc:List Tk),(len s-i).toNat<=f->IV f s i acc=([],p,e):=by
 induction h with
 |here h0 h1 h he=>intro f acc hf;rw[PT hf h1,h];dsimp only;rw[if_pos he]
 | @there i n p e t h0 h1 h _ ih=>
  intro f acc hf
  have hb:=P1 h0 h1 h
  have hbl:=KF s (i+n) (by omega) hb.2.1
  rw[PT hf h1,h]
  dsimp only
  rw[if_neg (by simp),ih _ _ (by omega)]
theorem bQ(s:A1):(len s-DD s 0).toNat<=s.length:=by
 have:=KF s 0 (Int.le_refl 0) (AA s)
 unfold len at*;omega
theorem zM(s:A1):(∃l,Lx s (DD s 0) l/\CF s=(l++[G4 s],0,0))\/(∃p e,J6 s (DD s 0) p e/\CF s=([],p,e)):=by
 have:=kY (s:=s) s.length (DD s 0) [] (KF s 0 (Int.le_refl 0) (AA s)).1 (bQ s)
 simp only[List.nil_append]at this
 exact this
theorem Lx.lex {s:A1}{l:List Tk}(h:Lx s (DD s 0) l):CF s=(l++[G4 s],0,0):=by
 have:=h.go s.length [] (bQ s)
 rwa [List.nil_append]at this
theorem J6.lex {s:A1}{p e:Int}(h:J6 s (DD s 0) p e):CF s=([],p,e):=h.go s.length [] (bQ s)
theorem kZ{s:A1}(h:(CF s).2.2=0): ∃l,Lx s (DD s 0) l/\CF s=(l++[G4 s],0,0):=by
 rcases zM s with h1|⟨p,e,h1,h2⟩
 ·exact h1
 ·rw[h2]at h;have:=h1.bd;dsimp only at h;omega
theorem Lx.size {s:A1}{i:Int}{l:List Tk}(h:Lx s i l):i<=len s->len l<=len s-i:=by
 induction h with
 |done _ _=>intro x;rw[len_nil];omega
 | @step i n t l h0 h1 h _ ih=>
  intro x
  have hb:=P1 h0 h1 h
  have hbl:=KF s (i+n) (by omega) hb.2.1
  have:=ih hbl.2
  rw[A7];omega
theorem zN{s:A1}{t:Tk}{n:Int}(h1:0<len s)(h:AB s=(t,n,0)):L7 (A3 s 0)=false:=by
 cases hb:L7 (A3 s 0)with
 |false=>rfl
 |true=>
  exfalso
  cases s with
  |nil=>simp[len_nil]at h1
  |cons a l=>
   rw[EI]at hb
   have hf: ∀n:Fin 256,L7 (n.val:Int)=true->O7 (UInt8.ofNat n.val)=false/\EB (n.val:Int)=false/\ ¬(n.val:Int)=46/\ ¬(n.val:Int)=34/\ ¬((n.val:Int)=45\/BM (n.val:Int)=true):=by decide+kernel
   have hf':=hf ⟨a.toNat,a.toNat_lt⟩ hb
   simp only[UInt8.ofNat_toNat]at hf'
   obtain⟨g1,g2,g3,g4,g5⟩:=hf'
   unfold AB at h
   rw[EI,if_neg (λ x=>g3 x.1),if_neg (λ x=>g3 x.1),N9 g1,if_neg (λ x=>x U),HU (s:=a::l) g2,if_neg (λ x=>x U),if_neg g4,if_neg g5]at h
   simp at h
end Go.Eng
namespace Go.Eng
open Go.RowKit
theorem JZ{x:Int}(h0:0<=x)(h1:x<256):((UInt8.ofNat x.toNat).toNat:Int)=x:=by
 rw[show(UInt8.ofNat x.toNat).toNat=x.toNat%256 from rfl,Nat.mod_eq_of_lt (by omega)];omega
theorem zO: ∀n:Fin 128,(D9 (n.val:Int)=[UInt8.ofNat n.val]/\32<=n.val/\n.val≠34/\n.val≠92)\/
 (A3 (D9 (n.val:Int)) 0=92/\B2 (D9 (n.val:Int))=((n.val:Int),len (D9 (n.val:Int)))/\len (D9 (n.val:Int))≠0):=by decide+kernel
theorem l5{s T r:A1}: ∀(f:Nat) (p i:Int) (acc:List Int),0<=p->p<=len s->0<=i->GJ s p=true->A4 T i=FB s p++34::r->(len T-i).toNat<=f->
  DP f T i acc=(toStr acc++A4 s p,i+len (FB s p)+1,0)
 |f,p,i,acc,h0,h1,hi,hu,hT,hf=>by
  have hne:A4 T i≠[]:=by rw[hT];simp
  have hlT:=WD hi U hne
  have hpos:=KU.1 hne
  have hlt:i<len T:=by omega
  rw[KE hf hlt,PS T i hi,ON T i hi]
  by_cases hp:p<len s
  ·have hb:=L8 s p
   have hle:=rune_le s p hp
   rcases MM h0 hp with⟨h2,_⟩|⟨h2,h3,_,h5,h6,h7⟩
   ·rw[RE s p h0 hp h2]at hu;cases hu
   rw[<-MI s p h0 hp (by omega)]at hu
   rw[PQ h0 hp]at hT ⊢
   rw[h3]at hT ⊢
   rw[List.append_assoc]at hT
   have hnext:=bM hi hT
   have hlq:=AA (FB s (p+rune s p)++34::r)
   have hlT2:len T=i+(len (D9 (AR s p))+len (FB s (p+rune s p)++34::r)):=by rw[hlT,hT,A5]
   have hby: ∀j,0<=j->j<len (D9 (AR s p))->A3 T (i+j)=A3 (D9 (AR s p)) j:=λ j a b=>by
    rw[<-NP T i j hi a,hT,H6 a b]
   have hback:toStr acc++A4 s p=toStr (acc++Lib.encodeRuneZ (AR s p))++A4 s (p+rune s p):=by
    rw[VP,h5,O0 s p (p+rune s p) h0 (by omega),List.append_assoc]
   have ih:=λ(g:Nat) (hg:(len T-(i+len (D9 (AR s p)))).toNat<=g)=>l5 (s:=s) (T:=T) (r:=r) g (p+rune s p) (i+len (D9 (AR s p))) (acc++Lib.encodeRuneZ (AR s p)) (by omega) hle (by have:=AA (D9 (AR s p));omega) hu hnext hg
   rw[hback,A5,show i+(len (D9 (AR s p))+len (FB s (p+rune s p)))+1=i+len (D9 (AR s p))+len (FB s (p+rune s p))+1 from by omega]
   by_cases hc:A3 s p<128
   ·obtain⟨h8,h9⟩:=h6 hc
    have hc0:=L4 s p
    have tab:=zO ⟨(A3 s p).toNat,by omega⟩
    dsimp only at tab
    rw[show(((A3 s p).toNat:Nat):Int)=A3 s p from by omega]at tab
    rw[h9]at hby hT ih ⊢
    rcases tab with⟨q1,q2,q3,q4⟩|⟨q1,q2,q3⟩
    ·have hl1:len (D9 (A3 s p))=1:=by rw[q1];rfl
     have hTb:A3 T i=A3 s p:=by
      have:=hby 0 (Int.le_refl 0) (by omega)
      rw[Int.add_zero,q1,EI]at this
      rw[this];exact JZ hc0.1 (by omega)
     have hrl:=XN hi hlt (by omega)
     rw[hrl.1,hrl.2,hTb,if_neg (by omega),if_neg (by omega),if_neg (by omega)]
     rw[hl1]at ih ⊢
     exact ih _ (by omega)
    ·have hlp:=AA (D9 (A3 s p))
     have hTb:A3 T i=92:=by
      have:=hby 0 (Int.le_refl 0) (by omega)
      rw[Int.add_zero,q1]at this;exact this
     have hra:AR T i=92:=(ID hi hlt (by omega)).2 hTb
     have hesc:B2 (A4 T i)=(A3 s p,len (D9 (A3 s p))):=by
      rw[<-q2]
      refine kI (by rw[q2];exact q3) (by rw[q2,hT,A5];dsimp only;omega) (λ j a b=>?_)
      rw[q2]at b
      rw[hT];exact H6 a b
     rw[hra,if_neg (by omega),if_pos U,hesc,if_neg q3]
     exact ih _ (by omega)
   ·have hq:=j4 (h7 (by omega))
    have hlq2:len (D9 (AR s p))=rune s p:=by rw[hq,h5,EV h0 (by omega) hle];omega
    have agr:=WA (s:=s) (s':=T) (i:=p) (i':=i) h0 hi (by omega) hp (by omega) (λ j a b=>by
     rw[hby j a (by omega),hq,h5,N5 h0 a (by omega) hle])
    have h8:=h7 (by omega)
    have hnn:=(VQ hi hlt).2
    rw[agr.2.1,agr.2.2,h3,if_neg (by omega),if_neg (by omega),if_neg (by
     rintro(x|x)
     ·omega
     ·have:=hnn (by rw[agr.2.1,agr.2.2,h3];exact x)
      omega)]
    rw[hlq2]at ih ⊢
    exact ih _ (by omega)
  ·rw[UK hp]at hT ⊢
   have hTb:A3 T i=34:=(WE hi hT).2
   rw[if_pos ((ID hi hlt (by omega)).2 hTb),OJ s p (by omega)]
   simp[len_nil]
termination_by f p=>(len s-p).toNat
decreasing_by all_goals omega
theorem l6{s:A1}(h:E6 s=true)(r:A1):AS (A9 s++r)=(s,len (A9 s),0):=by
 have e:A9 s++r=34::(FB s 0++34::r):=by unfold A9;simp
 have hl:len (A9 s)=1+len (FB s 0)+1:=by unfold A9;rw[A5,A7];simp[len];omega
 rw[e,hl]
 unfold AS
 have hp:Lib.hasPrefix (34::(FB s 0++34::r)) [34]=true:=LW.2 ⟨by simp,rfl⟩
 rw[if_pos hp,l5 (s:=s) (r:=r) _ 0 1 [] (Int.le_refl 0) (AA s) (by omega) h U (by unfold len;simp;omega)]
 rfl
theorem l7{a b:A1}: ∀(j:Int),0<=j->GJ b j=true->GJ (a++b) (len a+j)=true
 |j,h0,h=>by
  have hl:=A5 a b
  have ha:=AA a
  by_cases hj:j<len b
  ·by_cases hr:rune b j=0
   ·rw[RE b j h0 hj hr]at h;cases h
   have hb:=L8 b j
   have hle:=rune_le b j hj
   rw[<-MI b j h0 hj (by omega)]at h
   have agr:=WA (s:=b) (s':=a++b) (i:=j) (i':=len a+j) h0 (by omega) (by omega) hj (by omega) (λ k x y=>by
    rw[show len a+j+k=len a+(j+k)from by omega,W9 (by omega)])
   rw[<-MI (a++b) (len a+j) (by omega) (by omega) (by rw[agr.1];omega),agr.1,Int.add_assoc]
   exact l7 (j+rune b j) (by omega) h
  ·exact UB _ _ (by omega)
termination_by j=>(len b-j).toNat
theorem l8{a b:A1}(hb:E6 b=true): ∀(i:Int),0<=i->i<=len a->GJ a i=true->GJ (a++b) i=true
 |i,h0,h1,h=>by
  have hl:=A5 a b
  have hbn:=AA b
  by_cases hi:i<len a
  ·by_cases hr:rune a i=0
   ·rw[RE a i h0 hi hr]at h;cases h
   have hbd:=L8 a i
   have hle:=rune_le a i hi
   rw[<-MI a i h0 hi (by omega)]at h
   have agr:=WA (s:=a) (s':=a++b) (i:=i) (i':=i) h0 h0 (by omega) hi (by omega) (λ k x y=>H6 (by omega) (by omega))
   rw[<-MI (a++b) i h0 (by omega) (by rw[agr.1];omega),agr.1]
   exact l8 hb (i+rune a i) (by omega) hle h
  ·have e:i=len a:=by omega
   subst e
   have:=l7 (a:=a) (b:=b) 0 (Int.le_refl 0) hb
   rwa [Int.add_zero]at this
termination_by i=>(len a-i).toNat
theorem WK{s:A1}(hn:0<len s)(h:rune s 0=len s):E6 s=true:=by
 unfold E6
 rw[<-MI s 0 (Int.le_refl 0) hn (by omega)]
 exact UB s (0+rune s 0) (by omega)
theorem zP(r:Int):E6 (toStr (Lib.encodeRuneZ r))=true:=by
 have b0: ∀(x:UInt8) (l:A1),A3 (x::l) 0=(x.toNat:Int):=λ _ _=>rfl
 have b1: ∀(x y:UInt8) (l:A1),A3 (x::y::l) (0+1)=(y.toNat:Int):=λ _ _ _=>rfl
 have b2: ∀(x y z:UInt8) (l:A1),A3 (x::y::z::l) (0+2)=(z.toNat:Int):=λ _ _ _ _=>rfl
 have b3: ∀(x y z u:UInt8) (l:A1),A3 (x::y::z::u::l) (0+3)=(u.toNat:Int):=λ _ _ _ _ _=>rfl
 have l1: ∀(x:UInt8),len [x]=1:=λ _=>rfl
 have l2: ∀(x y:UInt8),len [x,y]=2:=λ _ _=>rfl
 have l3: ∀(x y z:UInt8),len [x,y,z]=3:=λ _ _ _=>rfl
 have l4: ∀(x y z u:UInt8),len [x,y,z,u]=4:=λ _ _ _ _=>rfl
 unfold Lib.encodeRuneZ
 split
 ·refine WK (show(0:Int)<1 by decide) ?_
  show rune [UInt8.ofNat r.toNat] 0=1
  unfold rune
  rw[b0,JZ (by omega) (by omega)]
  dsimp only
  rw[if_pos (by omega)]
 split
 ·refine WK (show(0:Int)<2 by decide) ?_
  show rune [UInt8.ofNat (192+r/64).toNat,UInt8.ofNat (128+r%64).toNat] 0=2
  unfold rune cont
  rw[b0,b1,l2,JZ (by omega) (by omega),JZ (by omega) (by omega)]
  dsimp only
  simp only[Bool.and_eq_true,decide_eq_true_eq]
  rw[if_neg (by omega),if_pos (by omega)]
 split
 ·refine WK (show(0:Int)<3 by decide) ?_
  show rune [UInt8.ofNat (224+r/4096).toNat,UInt8.ofNat (128+r/64%64).toNat,UInt8.ofNat (128+r%64).toNat] 0=3
  unfold rune cont
  rw[b0,b1,b2,l3,JZ (by omega) (by omega),JZ (by omega) (by omega),JZ (by omega) (by omega)]
  dsimp only
  simp only[Bool.and_eq_true,Bool.or_eq_true,decide_eq_true_eq,beq_iff_eq]
  rw[if_neg (by omega),if_neg (by omega),if_pos (by omega),if_neg (by omega)]
 split
 ·refine WK (show(0:Int)<4 by decide) ?_
  show rune [UInt8.ofNat (240+r/262144).toNat,UInt8.ofNat (128+r/4096%64).toNat,UInt8.ofNat (128+r/64%64).toNat,UInt8.ofNat (128+r%64).toNat] 0=4
  unfold rune cont
  rw[b0,b1,b2,b3,l4,JZ (by omega) (by omega),JZ (by omega) (by omega),JZ (by omega) (by omega),JZ (by omega) (by omega)]
  dsimp only
  simp only[Bool.and_eq_true,Bool.or_eq_true,decide_eq_true_eq,beq_iff_eq]
  rw[if_neg (by omega),if_neg (by omega),if_neg (by omega),if_pos (by omega),if_neg (by omega)]
 ·decide+kernel
theorem l9{acc:List Int}(h:E6 (toStr acc)=true)(r:Int):E6 (toStr (acc++Lib.encodeRuneZ r))=true:=by
 rw[VP]
 exact l8 (zP r) 0 (Int.le_refl 0) (AA _) h
theorem QS:E6 []=true:=by decide+kernel
theorem bR{s:A1}: ∀(f:Nat) (i:Int) (acc:List Int),E6 (toStr acc)=true->E6 (DP f s i acc).1=true
 |0,_,_,_=>by unfold DP;exact QS
 |f+1,i,acc,h=>by
  unfold DP
  split
  ·split
   ·exact h
   ·split
    ·split
     ·exact QS
     ·exact bR f _ _ (l9 h _)
    ·split
     ·exact QS
     ·exact bR f _ _ (l9 h _)
  ·exact QS
theorem bS(s:A1):E6 (AS s).1=true:=by
 unfold AS
 split
 ·exact bR _ _ _ QS
 ·exact QS
theorem lA{s:A1}(h: ∀j:Int,0<=j->j<len s->A3 s j<128): ∀i:Int,0<=i->GJ s i=true
 |i,h0=>by
  by_cases hi:i<len s
  ·have hr:rune s i=1:=by unfold rune;dsimp only;rw[if_pos (h i h0 hi)]
   rw[<-MI s i h0 hi (by omega),hr]
   exact lA h (i+1) (by omega)
  ·exact UB _ _ hi
termination_by i=>(len s-i).toNat
theorem lB(s:A1): ∀j:Int,0<=j->j<len (AY s)->C0 (A3 (AY s) j) (j==0)=true:=λ j a b=>by
 have hb:=NQ (s:=s) (i:=0) (Int.le_refl 0) (AA s)
 rw[LC]at b
 have:=(WC (s:=s) 0 (Int.le_refl 0)).1 j a b
 unfold AY
 rw[N5 (Int.le_refl 0) a (by omega) hb.2,Int.zero_add];exact this
theorem WL{s:A1}(h:AY s≠[]):D7 (AY s)=true:=QN.2 ⟨h,lB s⟩
theorem zQ{c:Int}{f:Bool}(h:C0 c f=true):c<128:=by
 rcases Int.lt_or_le c 128 with x|x
 ·exact x
 ·rw[XO x]at h;cases h
theorem lC(s:A1):E6 (AY s)=true:=lA (λ j a b=>zQ (lB s j a b)) 0 (Int.le_refl 0)
theorem lD{s:A1}{t:Tk}{n:Int}(h:AB s=(t,n,0)):F1 t=true:=by
 have hno:(AO=AO):=rfl
 unfold AB at h
 split at h
 ·cases h;unfold F1;simp[lC]
 split at h
 ·simp only[Prod.mk.injEq]at h
  rw[<-h.1];unfold F1;simp[bS]
 split at h
 ·rename_i hm
  cases h
  rcases OP s with e|e
  ·exact absurd e hm
  ·unfold F1 XU;simp[e.1]
 split at h
 ·rename_i hw
  cases h;unfold F1;simp[WL hw]
 split at h
 ·simp only[Prod.mk.injEq]at h
  rw[<-h.1];unfold F1;simp[bS]
 split at h
 ·split at h
  ·rename_i hr
   simp only[Prod.mk.injEq]at h
   exact absurd h.2.2 hr
  ·rename_i hr
   cases h
   have:=(kX (runN s)).1 (by simpa using hr)
   unfold F1;simp[this]
 ·simp at h
theorem zR{s:A1}{t:Tk}{n e:Int}(h:AB s=(t,n,e)):e=0\/e=1\/e=2:=by
 have u1:=MN (A4 s 1)
 have u2:=MN s
 have r:=(kX (runN s)).2
 unfold AB at h
 repeat' split at h
 all_goals (simp only[Prod.mk.injEq]at h;omega)
def WM(r:A1):Prop:=r=[]\/ ∃q,r=32::q
theorem WM.stop {r:A1}(h:WM r)(v:A1):Stop v r:=by
 rcases h with rfl|⟨q,rfl⟩
 ·exact .inl U
 ·exact .inr (.inl ⟨by simp,rfl⟩)
theorem bT{s:A1}(h:D7 s=true){r:A1}(hr:WM r):AY (s++r)=s:=by
 have h6:=QN.1 h
 have e:D6 s 0=len s:=WB (Int.le_refl _) h6.2 (λ x=>absurd x (Int.lt_irrefl _)) 0 (Int.le_refl 0) (AA s)
 have e2:AY (s++[])=s:=by rw[List.append_nil];unfold AY;rw[e];exact IP s (len s) (Int.le_refl _)
 exact bF e2 (hr.stop [])
theorem zS{s:A1}(h:D7 s=true): ∃a q,s=a::q/\EB (a.toNat:Int)=true:=by
 obtain⟨h1,h2⟩:=QN.1 h
 cases s with
 |nil=>exact absurd U h1
 |cons a q=>
  have:=h2 0 (Int.le_refl 0) (KU.1 h1)
  rw[EI]at this
  unfold C0 at this
  simp only[beq_self_eq_true,Bool.not_true,Bool.false_and,Bool.or_false]at this
  exact⟨a,q,rfl,this⟩
theorem zT: ∀m∈AI,AB (m++[])=(⟨1,m,AO,0⟩,len m,0):=by decide+kernel
theorem lE(s:A1): ∃q,A9 s=34::q:=⟨_,rfl⟩
theorem zU{t:Tk}(h:F1 t=true){r:A1}(hr:WM r):AB (PU t++r)=({ t with pos:=0},len (PU t),0)/\PU t≠[]:=by
 obtain⟨kind,s,c,pos⟩:=t
 unfold F1 at h
 unfold PU
 dsimp only at h ⊢
 split at h
 ·rename_i hk
  simp only[beq_iff_eq]at hk
  simp only[Bool.and_eq_true,decide_eq_true_eq]at h
  subst hk
  obtain⟨h1,rfl⟩:=h
  unfold XU at h1
  have hm:s∈AI:=by simpa using h1
  have hn:s≠[]:=by
   have: ∀m∈AI,m≠[]:=by decide
   exact this s hm
  rw[if_neg (by decide),if_neg (by decide),if_neg (by decide)]
  exact⟨kN hn (zT s hm) (hr.stop []),hn⟩
 split at h
 ·rename_i hk
  simp only[beq_iff_eq]at hk
  simp only[Bool.and_eq_true,decide_eq_true_eq]at h
  subst hk
  obtain⟨h1,rfl⟩:=h
  obtain⟨a,q,hs,ha⟩:=zS h1
  have hw:=bT h1 hr
  have hn:s≠[]:=by rw[hs];simp
  rw[if_neg (by decide),if_neg (by decide),if_neg (by decide)]
  refine⟨?_,hn⟩
  have hb:A3 (s++r) 0=(a.toNat:Int):=by rw[hs];rfl
  have ha46: ¬(a.toNat:Int)=46:=λ e=>by rw[e]at ha;cases ha
  have hm:BX (s++r)=[]:=by rw[hs];exact N9 (bH ha)
  unfold AB
  rw[hb,if_neg (λ x=>ha46 x.1),if_neg (λ x=>ha46 x.1),hm,if_neg (λ x=>x U),hw,if_pos hn]
 split at h
 ·rename_i hk
  simp only[Bool.or_eq_true,beq_iff_eq]at hk
  simp only[Bool.and_eq_true,decide_eq_true_eq]at h
  obtain⟨h1,rfl⟩:=h
  obtain⟨q,hq⟩:=lE s
  have hu:=l6 h1 r
  rcases hk with rfl|rfl
  ·rw[if_pos U]
   by_cases hw: ¬AY s=s\/s=[]
   ·rw[if_pos hw]
    refine⟨?_,by simp⟩
    have hw0:AY (A9 s++r)=[]:=by rw[hq];exact HU U
    have hp:Lib.hasPrefix (A9 s++r) [34]=true:=by rw[hq];exact LW.2 ⟨by simp,rfl⟩
    unfold AB
    rw[List.cons_append,EI,P0,hw0,if_neg (λ x=>x.2 U),if_pos ⟨rfl,hp⟩,hu,A7]
    simp only[Prod.mk.injEq,true_and,and_true];omega
   ·rw[if_neg hw]
    simp only[not_or,Classical.not_not]at hw
    refine⟨?_,by simp⟩
    have h6:D7 s=true:=by rw[<-hw.1];exact WL (by rw[hw.1];exact hw.2)
    have hws:=bT h6 hr
    unfold AB
    rw[List.cons_append,EI,P0,hws,if_pos ⟨rfl,hw.2⟩,A7]
    simp only[Prod.mk.injEq,true_and,and_true];omega
  ·rw[if_neg (by decide),if_pos U]
   refine⟨?_,by rw[hq];simp⟩
   have hb:A3 (A9 s++r) 0=34:=by rw[hq];rfl
   have hw0:AY (A9 s++r)=[]:=HU (by rw[hb];rfl)
   have hm0:BX (A9 s++r)=[]:=by rw[hq];exact N9 U
   unfold AB
   rw[hb,if_neg (λ x=>absurd x.1 (by decide)),if_neg (λ x=>absurd x.1 (by decide)),hm0,if_neg (λ x=>x U),hw0,if_neg (λ x=>x U),if_pos U,hu]
 split at h
 ·rename_i hk
  simp only[beq_iff_eq]at hk
  simp only[Bool.and_eq_true,beq_iff_eq]at h
  subst hk
  obtain⟨rfl,h1⟩:=h
  rw[if_neg (by decide),if_neg (by decide),if_pos U]
  obtain⟨p1,⟨g,q,hg,hgf⟩,p3⟩:=zJ h1
  obtain⟨a,q',ha,hab⟩: ∃a q',CP c=a::q'/\((a.toNat:Int)=45\/BM (a.toNat:Int)=true):=by
   rw[hg]
   cases c.neg with
   |true=>exact⟨45,g::q,rfl,.inl U⟩
   |false=>exact⟨g,q,rfl,.inr hgf⟩
  have hn:CP c≠[]:=by rw[ha];simp
  refine⟨?_,hn⟩
  have hrun:runN (CP c++r)=CP c:=by
   have e:runN (CP c++[])=CP c:=by
    rw[RW,List.append_nil];exact bB p3
   exact bG e (hr.stop [])
  have hb:A3 (CP c++r) 0=(a.toNat:Int):=by rw[ha];rfl
  obtain⟨g1,g2⟩:=bI hab
  have hm:BX (CP c++r)=[]:=by rw[ha];exact N9 g1
  have hw:AY (CP c++r)=[]:=HU (by rw[hb];exact g2)
  have h46: ¬(a.toNat:Int)=46:=λ e=>by rw[e]at hab;revert hab;decide
  have h34: ¬(a.toNat:Int)=34:=λ e=>by rw[e]at hab;revert hab;decide
  unfold AB
  rw[hb,if_neg (λ x=>h46 x.1),if_neg (λ x=>h46 x.1),hm,if_neg (λ x=>x U),hw,if_neg (λ x=>x U),if_neg h34,if_pos hab,hrun,p1,if_neg (by simp)]
 ·cases h
theorem Lx.F1 {s:A1}{i:Int}{l:List Tk}(h:Lx s i l): ∀t∈l,Eng.F1 t=true:=by
 induction h with
 |done _ _=>intro t ht;cases ht
 | @step i n t l _ _ h _ ih=>
  intro t' ht
  rcases List.mem_cons.1 ht with rfl|ht
  ·have:Eng.F1 t=true:=lD h
   exact this
  ·exact ih t' ht
theorem J6.err {s:A1}{i p e:Int}(h:J6 s i p e):e=1\/e=2:=by
 induction h with
 |here _ _ h he=>have:=zR h;omega
 |there _ _ _ _ ih=>exact ih
theorem zV{t:Tk}(h:Eng.F1 t=true)(hl:len t.s<=1048576):aD t:=by
 have h0:len t.c.s<=1048576/\ -1000000<=t.c.e/\t.c.e<=1000000:=by
  unfold Eng.F1 at h
  have no:t.c=AO->len t.c.s<=1048576/\ -1000000<=t.c.e/\t.c.e<=1000000:=λ e=>by rw[e];decide
  split at h
  ·simp only[Bool.and_eq_true,decide_eq_true_eq]at h;exact no h.2
  split at h
  ·simp only[Bool.and_eq_true,decide_eq_true_eq]at h;exact no h.2
  split at h
  ·simp only[Bool.and_eq_true,decide_eq_true_eq]at h;exact no h.2
  split at h
  ·simp only[Bool.and_eq_true]at h
   obtain⟨_,_,h1,h2,h3,_⟩:=bP h.2
   omega
  ·cases h
 exact⟨hl,h0.1,λ _=>h0.2⟩
theorem zW(r:Int):len (Lib.encodeRuneZ r)<=4:=by
 unfold Lib.encodeRuneZ
 repeat' split
 all_goals (unfold len;simp)
theorem bU{s:A1}: ∀(f:Nat) (i:Int) (acc:List Int),0<=i->i<=len s->len (DP f s i acc).1<=len acc+4*(len s-i)
 |0,i,acc,h0,h1=>by unfold DP;have:=AA acc;rw[len_nil];omega
 |f+1,i,acc,h0,h1=>by
  have ha:=AA acc
  have hn:len ([]:A1)=0:=rfl
  have he:=zW
  unfold DP
  split
  ·rename_i hlt
   have hf:=DV s i h0 h1
   split
   ·have:len (toStr acc)=len acc:=by unfold toStr len;simp
    dsimp only;omega
   ·split
    ·have hb:=US (A4 s i)
     split
     ·dsimp only;omega
     ·have:=bU (s:=s) f (i+(B2 (A4 s i)).2) (acc++Lib.encodeRuneZ (B2 (A4 s i)).1) (by omega) (by omega)
      have:=he (B2 (A4 s i)).1
      rw[A5]at*
      omega
    ·split
     ·dsimp only;omega
     ·have hb:=RX h0 hlt
      rw[ON s i h0]
      have:=bU (s:=s) f (i+runeLen s i) (acc++Lib.encodeRuneZ (AR (A4 s i) 0)) (by omega) (by omega)
      have:=he (AR (A4 s i) 0)
      rw[A5]at*
      omega
  ·dsimp only;omega
theorem bV(s:A1):len (AS s).1<=4*len s:=by
 have:=AA s
 unfold AS
 split
 ·rename_i h
  have h1:(1:Int)<=len s:=YB h
  have:=bU (s:=s) s.length 1 [] (by omega) h1
  rw[len_nil]at this;omega
 ·show len ([]:A1)<=_
  rw[len_nil];omega
theorem zX{s:A1}{t:Tk}{n:Int}(h:AB s=(t,n,0)):len t.s<=4*len s+2:=by
 have h0:=AA s
 have h1:=L9 s 1
 have w1:=NR (A4 s 1)
 have w2:=NR s
 have u1:=bV (A4 s 1)
 have u2:=bV s
 have m1:len (BX s)<=2:=by
  rcases OP s with e|e
  ·rw[e];decide
  ·have: ∀m∈AI,len m<=2:=by decide
   exact this _ e.1
 have n0:len ([]:A1)=0:=rfl
 unfold AB at h
 repeat' split at h
 all_goals (simp only[Prod.mk.injEq]at h;first|(rw[<-h.1];dsimp only;omega)|(exfalso;omega))
theorem Lx.bd {s:A1}(hs:len s<=100000){i:Int}{l:List Tk}(h:Lx s i l):(∀t∈l,aD t)/\(i<=len s->len l<=len s-i):=by
 induction h with
 |done _ _=>exact⟨λ t ht=>(by cases ht),λ x=>by rw[len_nil];omega⟩
 | @step i n t l h0 h1 h _ ih=>
  have hb:=P1 h0 h1 h
  have hbl:=KF s (i+n) (by omega) hb.2.1
  have hl:=zX h
  have hf:=DV s i h0 (by omega)
  refine⟨λ t' ht=>?_,λ x=>?_⟩
  ·rcases List.mem_cons.1 ht with rfl|ht
   ·have:aD t:=zV (lD h) (by omega)
    exact this
   ·exact ih.1 t' ht
  ·have:=ih.2 hbl.2
   rw[A7];omega
end Go.Eng
