/- Lemmas for the card. -/
import Derived.Test.YtmjpjbmeamnfpaaGreatDoorZf16
set_option linter.unusedVariables false
set_option linter.unusedSimpArgs false
namespace Go.Eng
open Go.RowKit
def CH(l:A1):Prop:= ∀b∈l,C5 b=true
theorem U8{s:A1}:HA s=true↔CH s:=by
 rw[bO]
 constructor
 ·intro h b hb
  obtain⟨j,hj,e⟩:=List.getElem_of_mem hb
  have:=h j hj
  rw[e]at this;exact this
 ·intro h j hj;exact h _ (List.getElem_mem hj)
theorem CH.app {a b:A1}(h:CH a)(k:CH b):CH (a++b):=λ x hx=>by
 rcases List.mem_append.1 hx with hx|hx
 ·exact h x hx
 ·exact k x hx
theorem nZ{k:Int}: ∀b∈BB k,b=48:=λ b hb=>(List.mem_replicate.1 hb).2
theorem CH.BB (k:Int):CH (BB k):=λ b hb=>by rw[nZ b hb];rfl
def o3(r:A1):Prop:=r=[]\/ ∃b q,r=b::q/\C5 b=false
theorem cY{s g r:A1}{i:Int}(h:A3 s i=g++r)(hg:CH g)(hr:o3 r):AI s i=i+len g:=by
 have:(g++r).takeWhile C5=g:=by
  rw[List.takeWhile_append_of_pos hg]
  rcases hr with rfl|⟨b,q,rfl,hb⟩
  ·simp
  ·rw[List.takeWhile_cons,hb];simp
 unfold AI;rw[h,this]
theorem cZ{s g r:A1}{i:Int}(h0:0<=i)(h:A3 s i=g++r):Eng.sub s i (i+len g)=g:=by
 rw[<-WQ s i (len g) h0 (A4 _),h,U7]
theorem dA{s g r:A1}{i:Int}(h0:0<=i)(h:A3 s i=g++r):A3 s (i+len g)=r:=by
 rw[<-IF s i (len g) h0 (A4 _),h,U6]
theorem XH{s g:A1}{i:Int}(h0:0<=i)(h:A3 s i=g)(hg:g≠[]):len s=i+len g:=by
 have hp:=LI.1 hg
 have:=VH s i h0
 rw[h]at this
 split at this<;>omega
theorem XI{s q:A1}{b:UInt8}{i:Int}(h0:0<=i)(h:A3 s i=b::q):i<len s/\A2 s i=(b.toNat:Int):=by
 have hl:=XH h0 h (by simp)
 rw[A6]at hl
 have hq:=A4 q
 refine⟨by omega,?_⟩
 have:=OB s i 0 h0 (Int.le_refl 0)
 rw[h,Int.add_zero]at this
 rw[<-this];rfl
theorem dB{s q:A1}{b:UInt8}{i:Int}(h0:0<=i)(h:A3 s i=b::q):BK s [b] i=true/\B3 s [b] i=i+1:=by
 have:=XI h0 h
 have e:BK s [b] i=true:=RX.2 this
 exact⟨e,P8 e⟩
theorem XJ{s q:A1}{b c:UInt8}{i:Int}(h0:0<=i)(h:A3 s i=b::q)(hne:b≠c):BK s [c] i=false/\B3 s [c] i=i:=by
 have hb:=XI h0 h
 have e:BK s [c] i=false:=by
  cases hh:BK s [c] i with
  |false=>rfl
  |true=>exact absurd (UInt8.toNat_inj.1 (by have:=(RX.1 hh).2;omega)) hne
 exact⟨e,N7 e⟩
theorem o4{s:A1}{c:A1}{i:Int}(h:len s<=i):BK s c i=false/\B3 s c i=i:=by
 have e:BK s c i=false:=by
  cases hh:BK s c i with
  |false=>rfl
  |true=>have:=gP hh;omega
 exact⟨e,N7 e⟩
def GR(neg:Bool):A1:=if neg then [45]else []
theorem o5{b:UInt8}(h:C5 b=true):b≠45/\b≠43/\b≠46/\b≠101/\b≠69:=by
 refine⟨?_,?_,?_,?_,?_⟩<;>(intro e;subst e;revert h;decide)
theorem dC{s w r:A1}{neg:Bool}(h:s=GR neg++(w++r))(hw:CH w)(hn:w≠[])(hr:o3 r)(hz: ¬(1<len w/\A2 w 0=48)):
  ∃b0,0<=b0/\A3 s b0=r/\BW s=if BK s [46] b0 then
   if Eng.sub s (B3 s [46] b0) (AI s (B3 s [46] b0))=[]then(B2,AI s (B3 s [46] b0),1)
   else FN s neg (w++Eng.sub s (B3 s [46] b0) (AI s (B3 s [46] b0))) (-(len (Eng.sub s (B3 s [46] b0) (AI s (B3 s [46] b0))))) (AI s (B3 s [46] b0))
  else FN s neg w 0 (B3 s [46] b0):=by
 have ha:BK s [45] 0=neg/\B3 s [45] 0=len (GR neg):=by
  cases neg with
  |true=>exact dB (q:=w++r) (Int.le_refl 0) (by rw[h];rfl)
  |false=>
   cases w with
   |nil=>exact absurd U hn
   |cons b w=>exact XJ (q:=w++r) (Int.le_refl 0) (by rw[h];rfl) (o5 (hw b (by simp))).1
 have hs0:=A4 (GR neg)
 have hf:A3 s (len (GR neg))=w++r:=by rw[h,U6]
 have hrun:=cY hf hw hr
 have hsub:=cZ hs0 hf
 refine⟨len (GR neg)+len w,by have:=A4 w;omega,dA hs0 hf,?_⟩
 rw[kB ha.2,hrun,hsub,if_neg hz,if_neg hn,ha.1]
theorem o6{s fg:A1}{neg:Bool}{x b:Int}(h:len s<=b):FN s neg fg x b=G6 neg fg x [] 1:=by
 obtain⟨e1,e2⟩:=o4 (c:=[101,69]) h
 unfold FN;rw[e1,e2,if_neg (by simp),if_neg (by omega)]
theorem o7{s w:A1}{neg:Bool}(h:s=GR neg++w)(hw:CH w)(hn:w≠[])(hz: ¬(1<len w/\A2 w 0=48)):BW s=G6 neg w 0 [] 1:=by
 obtain⟨b,h0,h1,h2⟩:=dC (neg:=neg) (w:=w) (r:=[]) (by simpa using h) hw hn (.inl rfl) hz
 have hb:len s<=b:=by
  have:=VH s b h0
  rw[h1,len_nil]at this
  split at this<;>omega
 obtain⟨e1,e2⟩:=o4 (c:=[46]) hb
 rw[h2,e1,e2,if_neg (by simp),o6 hb]
theorem AN6{s w p:A1}{neg:Bool}(h:s=GR neg++(w++46::p))(hw:CH w)(hn:w≠[])(hz: ¬(1<len w/\A2 w 0=48))(hp:CH p)(hpn:p≠[]):BW s=G6 neg (w++p) (-(len p)) [] 1:=by
 obtain⟨b,h0,h1,h2⟩:=dC h hw hn (.inr ⟨46,p,rfl,by decide⟩) hz
 obtain⟨e1,e2⟩:=dB h0 h1
 have hf:A3 s (b+1)=p++[]:=by rw[<-IF s b 1 h0 (by omega),h1];simp[A3]
 have hrun:=cY hf hp (.inl U)
 have hsub:=cZ (by omega) hf
 have hl:=XH h0 h1 (by simp)
 rw[A6]at hl
 rw[h2,e1,e2,if_pos U,hrun,hsub,if_neg hpn,o6 (by omega)]
theorem AN7{s w p:A1}{neg neg2:Bool}(h:s=GR neg++(w++101::(GR neg2++p)))(hw:CH w)(hn:w≠[])(hz: ¬(1<len w/\A2 w 0=48))(hp:CH p)(hpn:p≠[]):BW s=G6 neg w 0 p (if neg2 then-1 else 1):=by
 obtain⟨b,h0,h1,h2⟩:=dC h hw hn (.inr ⟨101,_,rfl,by decide⟩) hz
 obtain⟨e1,e2⟩:=XJ (c:=46) h0 h1 (by decide)
 have hby:=XI h0 h1
 have e3:BK s [101,69] b=true:=k9.2 ⟨hby.1,.inl hby.2⟩
 have hf:A3 s (b+1)=GR neg2++p:=by rw[<-IF s b 1 h0 (by omega),h1];rfl
 have hc:BK s [45] (b+1)=neg2/\(if neg2 then B3 s [45] (b+1)else B3 s [43] (B3 s [45] (b+1)))=b+1+len (GR neg2):=by
  cases neg2 with
  |true=>exact dB (q:=p) (by omega) hf
  |false=>
   cases p with
   |nil=>exact absurd U hpn
   |cons c p=>
    have hc:=o5 (hp c (by simp))
    obtain⟨g1,g2⟩:=XJ (c:=45) (i:=b+1) (by omega) hf hc.1
    obtain⟨g3,g4⟩:=XJ (c:=43) (i:=b+1) (by omega) hf hc.2.1
    refine⟨g1,?_⟩
    rw[if_neg (by simp),g2,g4]
    show b+1=b+1+0
    omega
 have hg:=A4 (GR neg2)
 have hf2:A3 s (b+1+len (GR neg2))=p++[]:=by rw[List.append_nil];exact dA (by omega) hf
 have hrun:=cY hf2 hp (.inl U)
 have hsub:=cZ (by omega) hf2
 have hl:=XH (by omega) hf2 (by simpa using hpn)
 rw[List.append_nil]at hl
 rw[h2,e1,e2,if_neg (by simp)]
 unfold FN
 rw[e3,if_pos U,P8 e3]
 unfold O9
 dsimp only
 rw[hc.1,hc.2,hrun,hsub,if_neg (by rw[not_or];exact⟨hpn,by omega⟩)]
theorem XK{s:A1}(h:A2 s 0≠48):AT s=s:=vD (λ x=>h x.2)
theorem AN8{s:A1}(h:A2 s 0≠48)(k:Int):AT (BB k++s)=s:=by
 have: ∀n:Nat,AT (List.replicate n 48++s)=s:=by
  intro n
  induction n with
  |zero=>exact XK h
  |succ n ih=>rw[List.replicate_succ,List.cons_append,vJ (by decide),ih]
 exact this k.toNat
theorem AN9{s:A1}(hn:s≠[])(h:A2 s (len s-1)≠48)(k:Int):D7 (s++BB k)=s:=by
 have:=Lib.trimRightS_take (s++BB k) [48] s.length (by simp) (λ j b hj hb=>by
  rw[List.getElem?_append_right hj]at hb
  rw[nZ b (List.mem_of_getElem? hb)];rfl) (λ b h0 hb=>by
  rw[List.getElem?_append_left (by omega)]at hb
  have e:A2 s (len s-1)=(b.toNat:Int):=by
   unfold A2 len
   rw[show((s.length:Int)-1).toNat=s.length-1 from by omega,List.getD_eq_getElem?_getD,hb];rfl
  cases hc:([48]:A1).contains b with
  |false=>rfl
  |true=>rw[VC]at hc;omega)
 unfold D7;rw[this];simp
theorem XL{fg s:A1}{neg:Bool}{e0 e k:Int}(hf:CH fg)(hd:AT fg=s++BB k)(hk:0<=k)(hn:s≠[])(hl:A2 s (len s-1)≠48)(he:e0+k=e)(h1:len s<=100)(h2: -1000<=e)(h3:len s+e<=1000)(hk2:k<=2000):
  EL neg fg e0=(⟨3,0,[],s,neg,e⟩,0):=by
 have hp:=LI.1 hn
 have hlz:=gL k hk
 have hdl:len (AT fg)=len s+k:=by rw[hd,A5,hlz]
 have ht:D7 (AT fg)=s:=by rw[hd,AN9 hn hl]
 unfold EL
 rw[if_pos (U8.2 hf),ht,hdl,if_neg (by rw[hd];simp[hn])]
 rw[if_neg (by simp only[Bool.or_eq_true,decide_eq_true_eq];omega),if_neg (by simp only[Bool.or_eq_true,decide_eq_true_eq];omega)]
 rw[show e0+(len s+k-len s)=e from by omega]
theorem dD{n:Nd}(h:G5 n=true):n=⟨3,0,[],n.s,n.neg,n.e⟩/\CH n.s/\len n.s<=100/\ -1000<=n.e/\n.e<=1000/\len n.s+n.e<=1000/\((n.s=[]/\n.neg=false/\n.e=0)\/(n.s≠[]/\A2 n.s 0≠48/\A2 n.s (len n.s-1)≠48)):=by
 obtain⟨kind,many,name,s,neg,e⟩:=n
 unfold G5 at h
 dsimp only at h ⊢
 split at h
 ·cases h
 rename_i hc
 simp only[Bool.or_eq_true,decide_eq_true_eq,bne_iff_ne,Bool.not_eq_true',beq_eq_false_iff_ne,not_or,ne_eq,Classical.not_not]at hc
 obtain⟨⟨⟨⟨⟨⟨⟨c1,c2⟩,c3⟩,c4⟩,c5⟩,c6⟩,c7⟩,c8⟩:=hc
 subst c1;subst c2;subst c3
 refine⟨rfl,U8.1 (by simpa using c4),by omega,by omega,by omega,by omega,?_⟩
 split at h
 ·rename_i hs
  simp only[Bool.and_eq_true,Bool.not_eq_true',beq_iff_eq]at h hs
  exact .inl ⟨hs,h.1,h.2⟩
 ·rename_i hs
  simp only[Bool.and_eq_true,bne_iff_ne,beq_iff_eq]at h hs
  exact .inr ⟨hs,h.1,h.2⟩
theorem AO0: ∀n:Fin 2001,(Lib.itoa ((n.val:Int)-1000)==GR (decide ((n.val:Int)-1000<0))++Lib.decDigits ((n.val:Int)-1000).natAbs)=true/\
 (Lib.decDigits ((n.val:Int)-1000).natAbs).all C5=true/\Lib.decDigits ((n.val:Int)-1000).natAbs≠[]/\len (AT (Lib.decDigits ((n.val:Int)-1000).natAbs))<=6/\
 BA (AT (Lib.decDigits ((n.val:Int)-1000).natAbs))=(((n.val:Int)-1000).natAbs:Int):=by decide+kernel
theorem AO1{e:Int}(h0: -1000<=e)(h1:e<=1000): ∃p,Lib.itoa e=GR (decide (e<0))++p/\CH p/\p≠[]/\len (AT p)<=6/\(if decide (e<0)then(-1:Int)else 1)*BA (AT p)=e:=by
 have:=AO0 ⟨(e+1000).toNat,by omega⟩
 dsimp only at this
 rw[show(((e+1000).toNat:Nat):Int)-1000=e from by omega]at this
 obtain⟨g1,g2,g3,g4,g5⟩:=this
 refine⟨_,by simpa using g1,λ b hb=>List.all_eq_true.1 g2 b hb,g3,g4,?_⟩
 rw[g5]
 by_cases h:e<0
 ·rw[if_pos (by simpa using h)];omega
 ·rw[if_neg (by simpa using h)];omega
theorem o8{neg:Bool}{fg:A1}{x:Int}:G6 neg fg x [] 1=((EL neg fg x).1,0,(EL neg fg x).2):=by
 unfold G6
 rw[show AT []=[]from rfl,if_neg (by decide),show x+1*BA []=x from by show x+1*0=x;omega]
theorem AO2{n:Nd}(h:G5 n=true):BW (CP n)=(n,0,0)/\(∃g r,CP n=GR n.neg++(g::r)/\C5 g=true)/\ ∀b∈CP n,HW b=true:=by
 obtain⟨he,hf,h1,h2,h3,h4,h5⟩:=dD h
 generalize hs:n.s=s at*
 generalize hneg:n.neg=neg at*
 generalize hee:n.e=e at*
 subst he
 have numF: ∀b,C5 b=true->HW b=true:=λ b hb=>by
  rw[WR];left
  unfold C5 BG at hb
  simp only[Bool.and_eq_true,decide_eq_true_eq]at hb
  omega
 have numS: ∀g:Bool,∀b∈GR g,HW b=true:=by decide
 rcases h5 with⟨e1,e2,e3⟩|⟨hn,hb,hl⟩
 ·subst e1;subst e2;subst e3
  exact⟨by decide+kernel,⟨48,[],by decide,by decide⟩,by decide⟩
 obtain⟨g,q,hgq⟩: ∃g q,s=g::q:=by cases s with
  |nil=>exact absurd U hn
  |cons g q=>exact⟨g,q,rfl⟩
 have hp:=LI.1 hn
 unfold CP
 dsimp only
 rw[if_neg (by simpa using hn),show(if neg then([45]:A1)else [])=GR neg from rfl]
 by_cases c1:(decide (0<=e)&&decide (len s+e<=20))=true
 ·rw[if_pos c1]
  simp only[Bool.and_eq_true,decide_eq_true_eq]at c1
  have hbz:A2 (s++BB e) 0≠48:=by rw[H3 (Int.le_refl 0) hp];exact hb
  refine⟨?_,⟨g,q++BB e,by rw[hgq];simp,hf g (by rw[hgq];simp)⟩,λ b hb=>?_⟩
  ·rw[o7 (w:=s++BB e) (neg:=neg) (by simp) (hf.app (CH.BB e)) (by simp[hn]) (λ x=>hbz x.2),o8,XL (s:=s) (k:=e) (e:=e) (hf.app (CH.BB e)) (XK hbz) c1.1 hn hl (by omega) (by omega) (by omega) (by omega) (by omega)]
  ·simp only[List.mem_append]at hb
   rcases hb with(hb|hb)|hb
   ·exact numS _ b hb
   ·exact numF b (hf b hb)
   ·exact numF b (CH.BB e b hb)
 rw[if_neg c1]
 by_cases c2:(decide (e<0)&&decide (-20<=e))=true
 ·rw[if_pos c2]
  simp only[Bool.and_eq_true,decide_eq_true_eq]at c2
  have hz:=SM (1-e-len s)
  have hz2:0<=1-e-len s->len (BB (1-e-len s))=1-e-len s:=λ x=>gL _ x
  have hz3:1-e-len s<=0->BB (1-e-len s)=[]:=λ x=>KR x
  have hfS:CH (BB (1-e-len s)++s):=(CH.BB _).app hf
  have hlS:len (BB (1-e-len s)++s)=len (BB (1-e-len s))+len s:=A5 _ _
  have hdS:AT (BB (1-e-len s)++s)=s:=AN8 hb _
  have hb1:1-e-len s<=0->A2 (BB (1-e-len s)++s) 0≠48:=λ x=>by rw[hz3 x];exact hb
  generalize BB (1-e-len s)++s=S at*
  obtain⟨hsp1,hsp2⟩:=cM (s:=S) (n:=len S+e) (by omega) (by omega)
  have hlf:=CO S (len S+e) (by omega) (by omega)
  have hfw:CH (Eng.sub S 0 (len S+e)):=λ b hb=>hfS b (by rw[hsp1];simp[hb])
  have hfp:CH (A3 S (len S+e)):=λ b hb=>hfS b (by rw[hsp1];simp[hb])
  have hwn:Eng.sub S 0 (len S+e)≠[]:=LI.2 (by omega)
  have hpn:A3 S (len S+e)≠[]:=LI.2 (by omega)
  have hzz: ¬(1<len (Eng.sub S 0 (len S+e))/\A2 (Eng.sub S 0 (len S+e)) 0=48):=by
   rintro⟨x1,x2⟩
   by_cases hpd:0<=1-e-len s
   ·have:=hz2 hpd;omega
   ·refine hb1 (by omega) ?_
    rw[PQ (Int.le_refl 0) (Int.le_refl 0) (by omega) (by omega)]at x2
    exact x2
  obtain⟨g',q',hgq'⟩: ∃g q,Eng.sub S 0 (len S+e)=g::q:=by
   cases hh:Eng.sub S 0 (len S+e)with
   |nil=>exact absurd hh hwn
   |cons g q=>exact⟨g,q,rfl⟩
  refine⟨?_,⟨g',q'++46::A3 S (len S+e),by rw[hgq'];simp,hfw g' (by rw[hgq'];simp)⟩,λ b hb=>?_⟩
  ·rw[AN6 (w:=Eng.sub S 0 (len S+e)) (p:=A3 S (len S+e)) (neg:=neg) (by simp) hfw hwn hzz hfp hpn,<-hsp1,o8,
    XL (s:=s) (k:=0) (e:=e) hfS (by rw[hdS,KR (Int.le_refl 0)];simp) (Int.le_refl 0) hn hl (by omega) (by omega) (by omega) (by omega) (by omega)]
  ·simp only[List.mem_append,List.mem_cons,List.not_mem_nil,or_false]at hb
   rcases hb with((hb|hb)|hb)|hb
   ·exact numS _ b hb
   ·exact numF b (hfw b hb)
   ·subst hb;decide
   ·exact numF b (hfp b hb)
 rw[if_neg c2]
 obtain⟨p,hi,hfp,hpn,hl6,hv⟩:=AO1 (e:=e) (by omega) (by omega)
 have hbz:A2 s 0≠48:=hb
 refine⟨?_,⟨g,q++101::Lib.itoa e,by rw[hgq];simp,hf g (by rw[hgq];simp)⟩,λ b hb=>?_⟩
 ·rw[hi,AN7 (w:=s) (p:=p) (neg:=neg) (neg2:=decide (e<0)) (by simp) hf hn (λ x=>hbz x.2) hfp hpn]
  unfold G6
  rw[if_neg (by omega),hv,Int.zero_add,
   XL (s:=s) (k:=0) (e:=e) hf (by rw[XK hbz,KR (Int.le_refl 0)];simp) (Int.le_refl 0) hn hl (by omega) (by omega) (by omega) (by omega) (by omega)]
 ·rw[hi]at hb
  simp only[List.mem_append,List.mem_cons,List.not_mem_nil,or_false]at hb
  rcases hb with((hb|hb)|hb)|hb|hb
  ·exact numS _ b hb
  ·exact numF b (hf b hb)
  ·subst hb;decide
  ·exact numS _ b hb
  ·exact numF b (hfp b hb)
theorem AO3{neg:Bool}{s:A1}{e:Int}(h:(EL neg s e).2=0):G5 (EL neg s e).1=true:=by
 unfold EL at h ⊢
 by_cases c1:HA s=true
 ·rw[if_pos c1]at h ⊢
  by_cases c2:(AT s==[])=true
  ·rw[if_pos c2];decide+kernel
  rw[if_neg c2]at h ⊢
  split at h
  ·cases h
  rename_i c3
  rw[if_neg c3]
  split at h
  ·cases h
  rename_i c4
  rw[if_neg c4]
  simp only[Bool.or_eq_true,decide_eq_true_eq]at c4
  have c2': ¬AT s=[]:=by simpa using c2
  have hp:=gN s c2'
  have htn:D7 (AT s)≠[]:=LI.2 hp
  have hpre: ∃r,D7 (AT s)++r=AT s:=by
   unfold D7 Lib.trimRightS
   have:=List.dropWhile_suffix (([48]:A1).contains ·) (l:=(AT s).reverse)
   obtain⟨r,hr⟩:=this
   refine⟨r.reverse,?_⟩
   rw[<-List.reverse_append,hr,List.reverse_reverse]
  obtain⟨r,hr⟩:=hpre
  have hF:CH (D7 (AT s)):=λ b hb=>(gR (U8.1 c1)) b (by rw[<-hr];simp[hb])
  have hfirst:A2 (D7 (AT s)) 0≠48:=by
   rw[<-H3 (v:=r) (Int.le_refl 0) hp,hr]
   cases hd:AT s with
   |nil=>exact absurd hd c2'
   |cons b l=>
    have:=Z5 hd
    intro e;rw[DO]at e;rw[VC.2 e]at this;cases this
  have hlast:A2 (D7 (AT s)) (len (D7 (AT s))-1)≠48:=by
   obtain⟨b,e1,e2⟩:=vE hp
   rw[<-e2]
   intro e3
   have hb:([48]:A1).contains b=true:=VC.2 e3
   have:D7 (AT s)=((AT s).reverse.dropWhile (([48]:A1).contains ·)).reverse:=rfl
   rw[this]at e1
   have h2:=congrArg List.reverse e1
   rw[List.reverse_reverse,List.reverse_append,List.reverse_cons,List.reverse_nil,List.nil_append,List.singleton_append]at h2
   have:=Z5 (s:=(AT s).reverse) (b:=b) (l:=(Eng.sub (D7 (AT s)) 0 (len (D7 (AT s))-1)).reverse) h2
   rw[hb]at this;cases this
  unfold G5
  dsimp only
  rw[if_neg (by
   simp only[Bool.or_eq_true,decide_eq_true_eq,bne_iff_ne,Bool.not_eq_true',beq_eq_false_iff_ne,U8.2 hF]
   simp only[not_or]
   refine⟨⟨⟨⟨⟨⟨⟨by simp,by simp⟩,by simp⟩,by simp⟩,by omega⟩,by omega⟩,by omega⟩,by omega⟩),if_neg (by simpa using htn)]
  simp[hfirst,hlast]
 ·rw[if_neg c1]at h;exact absurd h (by decide)
theorem AO4{neg:Bool}{s:A1}{e:Int}(h:CH s):(EL neg s e).2=0\/(EL neg s e).2=2:=by
 unfold EL
 rw[if_pos (U8.2 h)]
 split
 ·exact .inl U
 ·split
  ·exact .inr U
  ·split
   ·exact .inr U
   ·exact .inl U
def XM(r:Nd×Int×Int):Prop:=(r.2.2=0->G5 r.1=true)/\(r.2.2=0\/r.2.2=1\/r.2.2=2)
theorem o9{neg:Bool}{fg:A1}{x:Int}{pw:A1}{side:Int}(h:CH fg):XM (G6 neg fg x pw side):=by
 unfold G6
 split
 ·exact⟨λ e=>absurd e (by decide),.inr (.inr U)⟩
 ·refine⟨λ e=>AO3 e,?_⟩
  rcases AO4 (neg:=neg) (e:=x+side*BA (AT pw)) h with e|e
  ·exact .inl e
  ·exact .inr (.inr e)
theorem U9(n:Nd)(p:Int):XM (n,p,1):=⟨λ e=>absurd e (show ¬(1:Int)=0 by decide),.inr (.inl U)⟩
theorem oA{s fg:A1}{neg:Bool}{x b:Int}(h:CH fg):XM (FN s neg fg x b):=by
 unfold FN
 split
 ·unfold O9
  dsimp only
  repeat' split
  all_goals first|exact U9 _ _|exact o9 h
 ·split
  ·exact U9 _ _
  ·exact o9 h
theorem AO5(s:A1):XM (BW s):=by
 have h0:=O8 s [45] 0 (A4 s)
 have hr:=KQ s (B3 s [45] 0) (by omega) h0.2
 have h1:=O8 s [46] (AI s (B3 s [45] 0)) hr.2
 unfold BW
 dsimp only
 have hF:CH (Eng.sub s (B3 s [45] 0) (AI s (B3 s [45] 0))):=SN h0.1
 split
 ·exact U9 _ _
 ·split
  ·exact U9 _ _
  ·split
   ·split
    ·exact U9 _ _
    ·exact oA (hF.app (SN (by omega)))
   ·exact oA hF
theorem KI{x:Int}(h0:0<=x)(h1:x<256):((UInt8.ofNat x.toNat).toNat:Int)=x:=by
 rw[show(UInt8.ofNat x.toNat).toNat=x.toNat%256 from rfl,Nat.mod_eq_of_lt (by omega)];omega
theorem AO6: ∀n:Fin 128,(D8 (n.val:Int)=[UInt8.ofNat n.val]/\32<=n.val/\n.val≠34/\n.val≠92)\/
 (A2 (D8 (n.val:Int)) 0=92/\AW (D8 (n.val:Int))=((n.val:Int),len (D8 (n.val:Int)))/\len (D8 (n.val:Int))≠0):=by decide+kernel
theorem oB{s T r:A1}: ∀(f:Nat) (p i:Int) (acc:List Int),0<=p->p<=len s->0<=i->G4 s p=true->A3 T i=FD s p++34::r->(len T-i).toNat<=f->
  DL f T i acc=(toStr acc++A3 s p,i+len (FD s p)+1,0)
 |f,p,i,acc,h0,h1,hi,hu,hT,hf=>by
  have hne:A3 T i≠[]:=by rw[hT];simp
  have hlT:=XH hi U hne
  have hpos:=LI.1 hne
  have hlt:i<len T:=by omega
  rw[KS hf hlt,QY T i hi,PA T i hi]
  by_cases hp:p<len s
  ·have hb:=LR s p
   have hle:=rune_le s p hp
   rcases LX h0 hp with⟨h2,_⟩|⟨h2,h3,_,h5,h6,h7⟩
   ·rw[SI s p h0 hp h2]at hu;cases hu
   rw[<-N3 s p h0 hp (by omega)]at hu
   rw[QW h0 hp]at hT ⊢
   rw[h3]at hT ⊢
   rw[List.append_assoc]at hT
   have hnext:=dA hi hT
   have hlq:=A4 (FD s (p+rune s p)++34::r)
   have hlT2:len T=i+(len (D8 (AO s p))+len (FD s (p+rune s p)++34::r)):=by rw[hlT,hT,A5]
   have hby: ∀j,0<=j->j<len (D8 (AO s p))->A2 T (i+j)=A2 (D8 (AO s p)) j:=λ j a b=>by
    rw[<-OB T i j hi a,hT,H3 a b]
   have hback:toStr acc++A3 s p=toStr (acc++Lib.encodeRuneZ (AO s p))++A3 s (p+rune s p):=by
    rw[WM,h5,PS s p (p+rune s p) h0 (by omega),List.append_assoc]
   have ih:=λ(g:Nat) (hg:(len T-(i+len (D8 (AO s p)))).toNat<=g)=>oB (s:=s) (T:=T) (r:=r) g (p+rune s p) (i+len (D8 (AO s p))) (acc++Lib.encodeRuneZ (AO s p)) (by omega) hle (by have:=A4 (D8 (AO s p));omega) hu hnext hg
   rw[hback,A5,show i+(len (D8 (AO s p))+len (FD s (p+rune s p)))+1=i+len (D8 (AO s p))+len (FD s (p+rune s p))+1 from by omega]
   by_cases hc:A2 s p<128
   ·obtain⟨h8,h9⟩:=h6 hc
    have hc0:=LQ s p
    have tab:=AO6 ⟨(A2 s p).toNat,by omega⟩
    dsimp only at tab
    rw[show(((A2 s p).toNat:Nat):Int)=A2 s p from by omega]at tab
    rw[h9]at hby hT ih ⊢
    rcases tab with⟨q1,q2,q3,q4⟩|⟨q1,q2,q3⟩
    ·have hl1:len (D8 (A2 s p))=1:=by rw[q1];rfl
     have hTb:A2 T i=A2 s p:=by
      have:=hby 0 (Int.le_refl 0) (by omega)
      rw[Int.add_zero,q1,DO]at this
      rw[this];exact KI hc0.1 (by omega)
     have hrl:=YQ hi hlt (by omega)
     rw[hrl.1,hrl.2,hTb,if_neg (by omega),if_neg (by omega),if_neg (by omega)]
     rw[hl1]at ih ⊢
     exact ih _ (by omega)
    ·have hlp:=A4 (D8 (A2 s p))
     have hTb:A2 T i=92:=by
      have:=hby 0 (Int.le_refl 0) (by omega)
      rw[Int.add_zero,q1]at this;exact this
     have hra:AO T i=92:=(IT hi hlt (by omega)).2 hTb
     have hesc:AW (A3 T i)=(A2 s p,len (D8 (A2 s p))):=by
      rw[<-q2]
      refine nP (by rw[q2];exact q3) (by rw[q2,hT,A5];dsimp only;omega) (λ j a b=>?_)
      rw[q2]at b
      rw[hT];exact H3 a b
     rw[hra,if_neg (by omega),if_pos U,hesc,if_neg q3]
     exact ih _ (by omega)
   ·have hq:=kI (h7 (by omega))
    have hlq2:len (D8 (AO s p))=rune s p:=by rw[hq,h5,FB h0 (by omega) hle];omega
    have agr:=XC (s:=s) (s':=T) (i:=p) (i':=i) h0 hi (by omega) hp (by omega) (λ j a b=>by
     rw[hby j a (by omega),hq,h5,PQ h0 a (by omega) hle])
    have h8:=h7 (by omega)
    have hnn:=(WN hi hlt).2
    rw[agr.2.1,agr.2.2,h3,if_neg (by omega),if_neg (by omega),if_neg (by
     rintro(x|x)
     ·omega
     ·have:=hnn (by rw[agr.2.1,agr.2.2,h3];exact x)
      omega)]
    rw[hlq2]at ih ⊢
    exact ih _ (by omega)
  ·rw[VA hp]at hT ⊢
   have hTb:A2 T i=34:=(XI hi hT).2
   rw[if_pos ((IT hi hlt (by omega)).2 hTb),O6 s p (by omega)]
   simp[len_nil]
termination_by f p=>(len s-p).toNat
decreasing_by all_goals omega
theorem dF{s:A1}(h:CR s=true)(r:A1):AH (AE s++r)=(s,len (AE s),0):=by
 have e:AE s++r=34::(FD s 0++34::r):=by unfold AE;simp
 have hl:len (AE s)=1+len (FD s 0)+1:=by unfold AE;rw[A5,A6];simp[len];omega
 rw[e,hl]
 unfold AH
 have hp:Lib.hasPrefix (34::(FD s 0++34::r)) [34]=true:=MM.2 ⟨by simp,rfl⟩
 rw[if_pos hp,oB (s:=s) (r:=r) _ 0 1 [] (Int.le_refl 0) (A4 s) (by omega) h U (by unfold len;simp;omega)]
 rfl
theorem oC{a b:A1}: ∀(j:Int),0<=j->G4 b j=true->G4 (a++b) (len a+j)=true
 |j,h0,h=>by
  have hl:=A5 a b
  have ha:=A4 a
  by_cases hj:j<len b
  ·by_cases hr:rune b j=0
   ·rw[SI b j h0 hj hr]at h;cases h
   have hb:=LR b j
   have hle:=rune_le b j hj
   rw[<-N3 b j h0 hj (by omega)]at h
   have agr:=XC (s:=b) (s':=a++b) (i:=j) (i':=len a+j) h0 (by omega) (by omega) hj (by omega) (λ k x y=>by
    rw[show len a+j+k=len a+(j+k)from by omega,U5 (by omega)])
   rw[<-N3 (a++b) (len a+j) (by omega) (by omega) (by rw[agr.1];omega),agr.1,Int.add_assoc]
   exact oC (j+rune b j) (by omega) h
  ·exact UY _ _ (by omega)
termination_by j=>(len b-j).toNat
theorem oD{a b:A1}(hb:CR b=true): ∀(i:Int),0<=i->i<=len a->G4 a i=true->G4 (a++b) i=true
 |i,h0,h1,h=>by
  have hl:=A5 a b
  have hbn:=A4 b
  by_cases hi:i<len a
  ·by_cases hr:rune a i=0
   ·rw[SI a i h0 hi hr]at h;cases h
   have hbd:=LR a i
   have hle:=rune_le a i hi
   rw[<-N3 a i h0 hi (by omega)]at h
   have agr:=XC (s:=a) (s':=a++b) (i:=i) (i':=i) h0 h0 (by omega) hi (by omega) (λ k x y=>H3 (by omega) (by omega))
   rw[<-N3 (a++b) i h0 (by omega) (by rw[agr.1];omega),agr.1]
   exact oD hb (i+rune a i) (by omega) hle h
  ·have e:i=len a:=by omega
   subst e
   have:=oC (a:=a) (b:=b) 0 (Int.le_refl 0) hb
   rwa [Int.add_zero]at this
termination_by i=>(len a-i).toNat
theorem XN{s:A1}(hn:0<len s)(h:rune s 0=len s):CR s=true:=by
 unfold CR
 rw[<-N3 s 0 (Int.le_refl 0) hn (by omega)]
 exact UY s (0+rune s 0) (by omega)
theorem AO7(r:Int):CR (toStr (Lib.encodeRuneZ r))=true:=by
 have b0: ∀(x:UInt8) (l:A1),A2 (x::l) 0=(x.toNat:Int):=λ _ _=>rfl
 have b1: ∀(x y:UInt8) (l:A1),A2 (x::y::l) (0+1)=(y.toNat:Int):=λ _ _ _=>rfl
 have b2: ∀(x y z:UInt8) (l:A1),A2 (x::y::z::l) (0+2)=(z.toNat:Int):=λ _ _ _ _=>rfl
 have b3: ∀(x y z u:UInt8) (l:A1),A2 (x::y::z::u::l) (0+3)=(u.toNat:Int):=λ _ _ _ _ _=>rfl
 have l1: ∀(x:UInt8),len [x]=1:=λ _=>rfl
 have l2: ∀(x y:UInt8),len [x,y]=2:=λ _ _=>rfl
 have l3: ∀(x y z:UInt8),len [x,y,z]=3:=λ _ _ _=>rfl
 have l4: ∀(x y z u:UInt8),len [x,y,z,u]=4:=λ _ _ _ _=>rfl
 unfold Lib.encodeRuneZ
 split
 ·refine XN (show(0:Int)<1 by decide) ?_
  show rune [UInt8.ofNat r.toNat] 0=1
  unfold rune
  rw[b0,KI (by omega) (by omega)]
  dsimp only
  rw[if_pos (by omega)]
 split
 ·refine XN (show(0:Int)<2 by decide) ?_
  show rune [UInt8.ofNat (192+r/64).toNat,UInt8.ofNat (128+r%64).toNat] 0=2
  unfold rune cont
  rw[b0,b1,l2,KI (by omega) (by omega),KI (by omega) (by omega)]
  dsimp only
  simp only[Bool.and_eq_true,decide_eq_true_eq]
  rw[if_neg (by omega),if_pos (by omega)]
 split
 ·refine XN (show(0:Int)<3 by decide) ?_
  show rune [UInt8.ofNat (224+r/4096).toNat,UInt8.ofNat (128+r/64%64).toNat,UInt8.ofNat (128+r%64).toNat] 0=3
  unfold rune cont
  rw[b0,b1,b2,l3,KI (by omega) (by omega),KI (by omega) (by omega),KI (by omega) (by omega)]
  dsimp only
  simp only[Bool.and_eq_true,Bool.or_eq_true,decide_eq_true_eq,beq_iff_eq]
  rw[if_neg (by omega),if_neg (by omega),if_pos (by omega),if_neg (by omega)]
 split
 ·refine XN (show(0:Int)<4 by decide) ?_
  show rune [UInt8.ofNat (240+r/262144).toNat,UInt8.ofNat (128+r/4096%64).toNat,UInt8.ofNat (128+r/64%64).toNat,UInt8.ofNat (128+r%64).toNat] 0=4
  unfold rune cont
  rw[b0,b1,b2,b3,l4,KI (by omega) (by omega),KI (by omega) (by omega),KI (by omega) (by omega),KI (by omega) (by omega)]
  dsimp only
  simp only[Bool.and_eq_true,Bool.or_eq_true,decide_eq_true_eq,beq_iff_eq]
  rw[if_neg (by omega),if_neg (by omega),if_neg (by omega),if_pos (by omega),if_neg (by omega)]
 ·decide+kernel
theorem oE{acc:List Int}(h:CR (toStr acc)=true)(r:Int):CR (toStr (acc++Lib.encodeRuneZ r))=true:=by
 rw[WM]
 exact oD (AO7 r) 0 (Int.le_refl 0) (A4 _) h
theorem S6:CR []=true:=by decide+kernel
theorem dG{s:A1}: ∀(f:Nat) (i:Int) (acc:List Int),CR (toStr acc)=true->CR (DL f s i acc).1=true
 |0,_,_,_=>by unfold DL;exact S6
 |f+1,i,acc,h=>by
  unfold DL
  split
  ·split
   ·exact h
   ·split
    ·split
     ·exact S6
     ·exact dG f _ _ (oE h _)
    ·split
     ·exact S6
     ·exact dG f _ _ (oE h _)
  ·exact S6
theorem dH(s:A1):CR (AH s).1=true:=by
 unfold AH
 split
 ·exact dG _ _ _ S6
 ·exact S6
theorem oF{s:A1}(h: ∀j:Int,0<=j->j<len s->A2 s j<128): ∀i:Int,0<=i->G4 s i=true
 |i,h0=>by
  by_cases hi:i<len s
  ·have hr:rune s i=1:=by unfold rune;dsimp only;rw[if_pos (h i h0 hi)]
   rw[<-N3 s i h0 hi (by omega),hr]
   exact oF h (i+1) (by omega)
  ·exact UY _ _ hi
termination_by i=>(len s-i).toNat
theorem oG(s:A1): ∀j:Int,0<=j->j<len (AS s)->BS (A2 (AS s) j) (j==0)=true:=λ j a b=>by
 have hb:=LY (s:=s) (i:=0) (Int.le_refl 0) (A4 s)
 rw[LZ]at b
 have:=(XD (s:=s) 0 (Int.le_refl 0)).1 j a b
 unfold AS
 rw[PQ (Int.le_refl 0) a (by omega) hb.2,Int.zero_add];exact this
theorem XO{s:A1}(h:AS s≠[]):CF (AS s)=true:=TR.2 ⟨h,oG s⟩
theorem AO8{c:Int}{f:Bool}(h:BS c f=true):c<128:=by
 rcases Int.lt_or_le c 128 with x|x
 ·exact x
 ·rw[YR x]at h;cases h
theorem oH(s:A1):CR (AS s)=true:=oF (λ j a b=>AO8 (oG s j a b)) 0 (Int.le_refl 0)
theorem oI{s:A1}{t:Tk}{n:Int}(h:AB s=(t,n,0)):EY t=true:=by
 have hno:(B2=B2):=rfl
 unfold AB at h
 split at h
 ·cases h;unfold EY;simp[oH]
 split at h
 ·simp only[Prod.mk.injEq]at h
  rw[<-h.1];unfold EY;simp[dH]
 split at h
 ·rename_i hm
  cases h
  rcases PC s with e|e
  ·exact absurd e hm
  ·unfold EY YU;simp[e.1]
 split at h
 ·rename_i hw
  cases h;unfold EY;simp[XO hw]
 split at h
 ·simp only[Prod.mk.injEq]at h
  rw[<-h.1];unfold EY;simp[dH]
 split at h
 ·split at h
  ·rename_i hr
   simp only[Prod.mk.injEq]at h
   exact absurd h.2.2 hr
  ·rename_i hr
   cases h
   have:=(AO5 (runN s)).1 (by simpa using hr)
   unfold EY;simp[this]
 ·simp at h
def XR(r:A1):Prop:=r=[]\/ ∃q,r=32::q
theorem XR.stop {r:A1}(h:XR r)(v:A1):Stop v r:=by
 rcases h with rfl|⟨q,rfl⟩
 ·exact .inl U
 ·exact .inr (.inl ⟨by simp,rfl⟩)
theorem dI{s:A1}(h:CF s=true){r:A1}(hr:XR r):AS (s++r)=s:=by
 have h6:=TR.1 h
 have e:CE s 0=len s:=S4 (Int.le_refl _) h6.2 (λ x=>absurd x (Int.lt_irrefl _)) 0 (Int.le_refl 0) (A4 s)
 have e2:AS (s++[])=s:=by rw[List.append_nil];unfold AS;rw[e];exact JW s (len s) (Int.le_refl _)
 exact cQ e2 (hr.stop [])
theorem AO9{s:A1}(h:CF s=true): ∃a q,s=a::q/\E9 (a.toNat:Int)=true:=by
 obtain⟨h1,h2⟩:=TR.1 h
 cases s with
 |nil=>exact absurd U h1
 |cons a q=>
  have:=h2 0 (Int.le_refl 0) (LI.1 h1)
  rw[DO]at this
  unfold BS at this
  simp only[beq_self_eq_true,Bool.not_true,Bool.false_and,Bool.or_false]at this
  exact⟨a,q,rfl,this⟩
theorem AP0: ∀m∈AL,AB (m++[])=(⟨1,m,B2,0⟩,len m,0):=by decide+kernel
theorem XT(s:A1): ∃q,AE s=34::q:=⟨_,rfl⟩
theorem AP1{t:Tk}(h:EY t=true){r:A1}(hr:XR r):AB (QZ t++r)=({ t with pos:=0},len (QZ t),0)/\QZ t≠[]:=by
 obtain⟨kind,s,c,pos⟩:=t
 unfold EY at h
 unfold QZ
 dsimp only at h ⊢
 split at h
 ·rename_i hk
  simp only[beq_iff_eq]at hk
  simp only[Bool.and_eq_true,decide_eq_true_eq]at h
  subst hk
  obtain⟨h1,rfl⟩:=h
  unfold YU at h1
  have hm:s∈AL:=by simpa using h1
  have hn:s≠[]:=by
   have: ∀m∈AL,m≠[]:=by decide
   exact this s hm
  rw[if_neg (by decide),if_neg (by decide),if_neg (by decide)]
  exact⟨cW hn (AP0 s hm) (hr.stop []),hn⟩
 split at h
 ·rename_i hk
  simp only[beq_iff_eq]at hk
  simp only[Bool.and_eq_true,decide_eq_true_eq]at h
  subst hk
  obtain⟨h1,rfl⟩:=h
  obtain⟨a,q,hs,ha⟩:=AO9 h1
  have hw:=dI h1 hr
  have hn:s≠[]:=by rw[hs];simp
  rw[if_neg (by decide),if_neg (by decide),if_neg (by decide)]
  refine⟨?_,hn⟩
  have hb:A2 (s++r) 0=(a.toNat:Int):=by rw[hs];rfl
  have ha46: ¬(a.toNat:Int)=46:=λ e=>by rw[e]at ha;cases ha
  have hm:BY (s++r)=[]:=by rw[hs];exact NP (cT ha)
  unfold AB
  rw[hb,if_neg (λ x=>ha46 x.1),if_neg (λ x=>ha46 x.1),hm,if_neg (λ x=>x U),hw,if_pos hn]
 split at h
 ·rename_i hk
  simp only[Bool.or_eq_true,beq_iff_eq]at hk
  simp only[Bool.and_eq_true,decide_eq_true_eq]at h
  obtain⟨h1,rfl⟩:=h
  obtain⟨q,hq⟩:=XT s
  have hu:=dF h1 r
  rcases hk with rfl|rfl
  ·rw[if_pos U]
   by_cases hw: ¬AS s=s\/s=[]
   ·rw[if_pos hw]
    refine⟨?_,by simp⟩
    have hw0:AS (AE s++r)=[]:=by rw[hq];exact I4 U
    have hp:Lib.hasPrefix (AE s++r) [34]=true:=by rw[hq];exact MM.2 ⟨by simp,rfl⟩
    unfold AB
    rw[List.cons_append,DO,S5,hw0,if_neg (λ x=>x.2 U),if_pos ⟨rfl,hp⟩,hu,A6]
    simp only[Prod.mk.injEq,true_and,and_true];omega
   ·rw[if_neg hw]
    simp only[not_or,Classical.not_not]at hw
    refine⟨?_,by simp⟩
    have h6:CF s=true:=by rw[<-hw.1];exact XO (by rw[hw.1];exact hw.2)
    have hws:=dI h6 hr
    unfold AB
    rw[List.cons_append,DO,S5,hws,if_pos ⟨rfl,hw.2⟩,A6]
    simp only[Prod.mk.injEq,true_and,and_true];omega
  ·rw[if_neg (by decide),if_pos U]
   refine⟨?_,by rw[hq];simp⟩
   have hb:A2 (AE s++r) 0=34:=by rw[hq];rfl
   have hw0:AS (AE s++r)=[]:=I4 (by rw[hb];rfl)
   have hm0:BY (AE s++r)=[]:=by rw[hq];exact NP U
   unfold AB
   rw[hb,if_neg (λ x=>absurd x.1 (by decide)),if_neg (λ x=>absurd x.1 (by decide)),hm0,if_neg (λ x=>x U),hw0,if_neg (λ x=>x U),if_pos U,hu]
 split at h
 ·rename_i hk
  simp only[beq_iff_eq]at hk
  simp only[Bool.and_eq_true,beq_iff_eq]at h
  subst hk
  obtain⟨rfl,h1⟩:=h
  rw[if_neg (by decide),if_neg (by decide),if_pos U]
  obtain⟨p1,⟨g,q,hg,hgf⟩,p3⟩:=AO2 h1
  obtain⟨a,q',ha,hab⟩: ∃a q',CP c=a::q'/\((a.toNat:Int)=45\/BG (a.toNat:Int)=true):=by
   rw[hg]
   cases c.neg with
   |true=>exact⟨45,g::q,rfl,.inl U⟩
   |false=>exact⟨g,q,rfl,.inr hgf⟩
  have hn:CP c≠[]:=by rw[ha];simp
  refine⟨?_,hn⟩
  have hrun:runN (CP c++r)=CP c:=by
   have e:runN (CP c++[])=CP c:=by
    rw[SS,List.append_nil];exact cN p3
   exact cS e (hr.stop [])
  have hb:A2 (CP c++r) 0=(a.toNat:Int):=by rw[ha];rfl
  obtain⟨g1,g2⟩:=cU hab
  have hm:BY (CP c++r)=[]:=by rw[ha];exact NP g1
  have hw:AS (CP c++r)=[]:=I4 (by rw[hb];exact g2)
  have h46: ¬(a.toNat:Int)=46:=λ e=>by rw[e]at hab;revert hab;decide
  have h34: ¬(a.toNat:Int)=34:=λ e=>by rw[e]at hab;revert hab;decide
  unfold AB
  rw[hb,if_neg (λ x=>h46 x.1),if_neg (λ x=>h46 x.1),hm,if_neg (λ x=>x U),hw,if_neg (λ x=>x U),if_neg h34,if_pos hab,hrun,p1,if_neg (by simp)]
 ·cases h
theorem Lx.EY {s:A1}{i:Int}{l:List Tk}(h:Lx s i l): ∀t∈l,Eng.EY t=true:=by
 induction h with
 |done _ _=>intro t ht;cases ht
 | @step i n t l _ _ h _ ih=>
  intro t' ht
  rcases List.mem_cons.1 ht with rfl|ht
  ·have:Eng.EY t=true:=oI h
   exact this
  ·exact ih t' ht
theorem AP2{t:Tk}(h:Eng.EY t=true)(hl:len t.s<=1048576):bE t:=by
 have h0:len t.c.s<=1048576/\ -1000000<=t.c.e/\t.c.e<=1000000:=by
  unfold Eng.EY at h
  have no:t.c=B2->len t.c.s<=1048576/\ -1000000<=t.c.e/\t.c.e<=1000000:=λ e=>by rw[e];decide
  split at h
  ·simp only[Bool.and_eq_true,decide_eq_true_eq]at h;exact no h.2
  split at h
  ·simp only[Bool.and_eq_true,decide_eq_true_eq]at h;exact no h.2
  split at h
  ·simp only[Bool.and_eq_true,decide_eq_true_eq]at h;exact no h.2
  split at h
  ·simp only[Bool.and_eq_true]at h
   obtain⟨_,_,h1,h2,h3,_⟩:=dD h.2
   omega
  ·cases h
 exact⟨hl,h0.1,λ _=>h0.2⟩
theorem AP3(r:Int):len (Lib.encodeRuneZ r)<=4:=by
 unfold Lib.encodeRuneZ
 repeat' split
 all_goals (unfold len;simp)
theorem dJ{s:A1}: ∀(f:Nat) (i:Int) (acc:List Int),0<=i->i<=len s->len (DL f s i acc).1<=len acc+4*(len s-i)
 |0,i,acc,h0,h1=>by unfold DL;have:=A4 acc;rw[len_nil];omega
 |f+1,i,acc,h0,h1=>by
  have ha:=A4 acc
  have hn:len ([]:A1)=0:=rfl
  have he:=AP3
  unfold DL
  split
  ·rename_i hlt
   have hf:=CO s i h0 h1
   split
   ·have:len (toStr acc)=len acc:=by unfold toStr len;simp
    dsimp only;omega
   ·split
    ·have hb:=VI (A3 s i)
     split
     ·dsimp only;omega
     ·have:=dJ (s:=s) f (i+(AW (A3 s i)).2) (acc++Lib.encodeRuneZ (AW (A3 s i)).1) (by omega) (by omega)
      have:=he (AW (A3 s i)).1
      rw[A5]at*
      omega
    ·split
     ·dsimp only;omega
     ·have hb:=SU h0 hlt
      rw[PA s i h0]
      have:=dJ (s:=s) f (i+runeLen s i) (acc++Lib.encodeRuneZ (AO (A3 s i) 0)) (by omega) (by omega)
      have:=he (AO (A3 s i) 0)
      rw[A5]at*
      omega
  ·dsimp only;omega
theorem UA(s:A1):len (AH s).1<=4*len s:=by
 have:=A4 s
 unfold AH
 split
 ·rename_i h
  have h1:(1:Int)<=len s:=VK h
  have:=dJ (s:=s) s.length 1 [] (by omega) h1
  rw[len_nil]at this;omega
 ·show len ([]:A1)<=_
  rw[len_nil];omega
theorem AP4{s:A1}{t:Tk}{n:Int}(h:AB s=(t,n,0)):len t.s<=4*len s+2:=by
 have h0:=A4 s
 have h1:=LU s 1
 have w1:=OC (A3 s 1)
 have w2:=OC s
 have u1:=UA (A3 s 1)
 have u2:=UA s
 have m1:len (BY s)<=2:=by
  rcases PC s with e|e
  ·rw[e];decide
  ·have: ∀m∈AL,len m<=2:=by decide
   exact this _ e.1
 have n0:len ([]:A1)=0:=rfl
 unfold AB at h
 repeat' split at h
 all_goals (simp only[Prod.mk.injEq]at h;first|(rw[<-h.1];dsimp only;omega)|(exfalso;omega))
theorem Lx.bd {s:A1}(hs:len s<=100000){i:Int}{l:List Tk}(h:Lx s i l):(∀t∈l,bE t)/\(i<=len s->len l<=len s-i):=by
 induction h with
 |done _ _=>exact⟨λ t ht=>(by cases ht),λ x=>by rw[len_nil];omega⟩
 | @step i n t l h0 h1 h _ ih=>
  have hb:=OT h0 h1 h
  have hbl:=LW s (i+n) (by omega) hb.2.1
  have hl:=AP4 h
  have hf:=CO s i h0 (by omega)
  refine⟨λ t' ht=>?_,λ x=>?_⟩
  ·rcases List.mem_cons.1 ht with rfl|ht
   ·have:bE t:=AP2 (oI h) (by omega)
    exact this
   ·exact ih.1 t' ht
  ·have:=ih.2 hbl.2
   rw[A6];omega
theorem AP5{t:Tk}(h:Eng.EY t=true)(hk:t.kind=5):G5 t.c=true:=by
 unfold Eng.EY at h
 simp only[hk]at h
 simp at h
 exact h.2
theorem AP6{s:A1}(hs:len s<=100000)(h:(C6 s).2.2=0):EO (C6 s).1:=by
 obtain⟨l,h1,h2⟩:=nW h
 have hb:=h1.bd hs
 have hr:=h1.EY
 have hbl:=LW s 0 (Int.le_refl 0) (A4 s)
 rw[h2]
 dsimp only
 have hll:len (l++[GJ s])=len l+1:=by rw[A5];rfl
 refine⟨λ i h0 hi hk=>?_,λ t ht hk=>?_,λ t ht hk=>?_,λ t ht=>?_,?_⟩
 ·rw[hll]at hi ⊢
  rcases Int.lt_or_eq_of_le (show i<=len l by omega)with hl|hl
  ·omega
  ·exact absurd (by rw[yH l (GJ s) hl];rfl) hk
 ·rcases List.mem_append.1 ht with ht|ht
  ·obtain⟨_,hf,_⟩:=dD (AP5 (hr t ht) hk)
   exact hf
  ·rw[List.mem_singleton.1 ht]at hk;exact absurd hk (by show ¬(6:Int)=5;decide)
 ·rcases List.mem_append.1 ht with ht|ht
  ·have:=hb.1 t ht
   exact⟨this.2.1,by have:=this.2.2 hk;omega⟩
  ·rw[List.mem_singleton.1 ht]at hk;exact absurd hk (by show ¬(6:Int)=5;decide)
 ·rcases List.mem_append.1 ht with ht|ht
  ·exact(hb.1 t ht).1
  ·rw[List.mem_singleton.1 ht];show len ([]:A1)<=_;decide
 ·have:=hb.2 hbl.2
  rw[hll];omega
end Go.Eng
set_option maxRecDepth 100000
namespace Go.Proofs.YtmjpjbmeamnfpaaGreatDoor
open Go.Proofs.Tryz
open Go.Eng
abbrev S7(bx by' bz:Nat)(x y z:Value):List HO:=[.box bx [x] 36,.box by' [y] 3,.box bz [z] 26]
theorem AP7{w0 wv:World}{M0 M:Mem}{Rs:List HO}(bx by' bz:Nat)(x y z:Value)(hS:St w0 M0 wv M (S7 bx by' bz x y z++Rs)):
   CallsD prog 39 [.pointer (some ⟨bx,0,none⟩),.pointer (some ⟨by',0,none⟩),.pointer (some ⟨bz,0,none⟩)].toArray .returning wv (λ e u' w'=>e= .returned (.tuple #[])/\u'=(GQ .returning).2/\ ∃M',St w0 M0 w' M' (S7 bx by' bz x y z++Rs)/\M.le M'):=by
 refine nL (Hr:=Rs) AP func39 U ntmps39 U U U U (λ a w=>rfl) [] [(0,.box bx [.v x] 36),(1,.box by' [.v y] 3),(2,.box bz [.v z] 26)] (.v .nilIface) [.bx 0 bx 0,.bx 1 by' 0,.bx 2 bz 0] U U hS AA (λ B hB=>?_) U
 refine CY (.tu [.ag [I 0,I 0],.v (.bool false)]) U (A0 U) U U (λ w M hX=>PV.AL7 (AN (v:=.v .nilIface) (E:=[]) U (A0 U)) underlying82 zeroValue82) ?_
 refine CU 3 U (A0 U) U zeroValue82 U λ b3=>?_
 refine A7 U (A0 U) U (λ hb1=>?_) (λ hb1=>?_)
 ·cases hb1
 ·exact nN hB U (A0 U) U λ w M' hX=>⟨M',hX.CQ [0,1,2] U,hX.le⟩
theorem oJ{w0 wv:World}{M0 M:Mem}{Rs:List HO}(ec p:Int)(bx by' bz:Nat)(x y z:Value)(hS:St w0 M0 wv M (S7 bx by' bz x y z++Rs)):
   CallsD prog 39 [.pointer (some ⟨bx,0,none⟩),.pointer (some ⟨by',0,none⟩),.pointer (some ⟨bz,0,none⟩)].toArray (.panicking [PD 82 ec p]) wv (λ e u' w'=>e= .returned (.tuple #[])/\u'=(GQ (.panicking [PD 82 ec p])).2/\ ∃M',St w0 M0 w' M' (S7 bx by' bz (.slice none 0 0) (i64 p) (i64 ec)++Rs)/\M.le M'):=by
 refine nL (Hr:=Rs) AP func39 U ntmps39 U U U U (λ a w=>rfl) [] [(0,.box bx [.v x] 36),(1,.box by' [.v y] 3),(2,.box bz [.v z] 26)] (.v (.iface 82 (.agg #[i64 ec,i64 p]))) [.bx 0 bx 0,.bx 1 by' 0,.bx 2 bz 0] U U hS AA (λ B hB=>?_) U
 refine CY (.tu [.ag [I ec,I p],.v (.bool true)]) U (A0 U) U U (λ w M hX=>PV.AL6 (v:=.agg #[i64 ec,i64 p]) (AN (v:=.v (.iface 82 (.agg #[i64 ec,i64 p]))) (E:=[]) U (A0 U)) underlying82) ?_
 refine CU 3 U (A0 U) U zeroValue82 U λ b3=>?_
 refine A7 U (A0 U) U (λ hb1=>?_) (λ hb1=>?_)
 ·refine MK [4,5,6] 4 (λ _ _ _ _ _ h=>h) U (A0 U) U EM (by decide+kernel) ?_
  refine D2 4 U (A0 U) U U U ?_
  refine CL U (A0 U) U ?_
  refine D2 5 U (A0 U) U U U ?_
  refine CL U (A0 U) U ?_
  refine D2 6 U (A0 U) U U U ?_
  refine CL U (A0 U) U ?_
  refine IP U (A0 U) U U U ?_
  exact nN hB U (A0 U) U λ w M' hX=>⟨M',hX.CQ [0,1,2] U,hX.le⟩
 ·cases hb1
abbrev AP8(w:World)(M:Mem)(r:Fl×Int×Int):Ending->World->Prop:=ND w M (λ h:AX=>.tuple #[h.v,i64 r.2.1,i64 r.2.2]) (λ _=>True) λ h=>[(0,B7 h.v r.1)]
theorem XU{rt:Tf->Bool}(hrt:NN rt)(s:A1)(w:World)(M:Mem)(hM:Sat w M)(hg:Gl w)(hb:len s<=100000):
    Calls prog 17 [str s].toArray w (AP8 w M (F1 AE rt s)):=by
 refine AM0 (Hr:=[]) AP func17 U ntmps17 [] [] [.v (str s)] U (Ak hM) AA (λ B hB=>?_) U
 refine CU 0 U (A0 U) U zeroValue36 U λ bx=>?_
 refine CU 1 U (A0 U) U zeroValue3 U λ by'=>?_
 refine CU 2 U (A0 U) U zeroValue26 U λ bz=>?_
 refine IL (λ u:Value=>.tu [.sl 3 u,I (C6 s).2.1,I (C6 s).2.2]) [3] (Fg:=λ u=>[(0,kn u 9 (C6 s).1 Tk.cells)]) (pu:=λ _=>True) U (A0 U) U U call22 U U (A0 U) (λ w M hX=>(AE1 M s w hX.st.sat (hg.low hX.st.low) (by omega)).mono λ e w' ⟨v,M',he,⟨u,hv,hsl⟩,hgr⟩=>⟨u,M',by rw[he,hv];rfl,trivial,hgr,fc 0 hsl (λ _=>rfl) AA⟩) (λ _=>rfl) λ v _=>?_
 refine A7 U (A0 U) U (λ hb1=>?_) (λ hb1=>?_)<;>simp only[zb]at hb1
 ·have e:F1 AE rt s=([],(C6 s).2.1,(C6 s).2.2):=by unfold F1;rw[if_pos hb1]
  rw[e]at hB
  refine MK [2,3,4] 4 (λ _ _ _ _ _ h=>h) U (A0 U) U EM (by decide+kernel) ?_
  refine D2 2 U (A0 U) U U U ?_
  refine CL U (A0 U) U ?_
  refine D2 3 U (A0 U) U U U ?_
  refine CL U (A0 U) U ?_
  refine D2 4 U (A0 U) U U U ?_
  refine CL U (A0 U) U ?_
  refine IP U (A0 U) U U U ?_
  exact A9 hB.ends U U (A0 U) U U (A0 U) λ w M' hX=>⟨⟨none,0,0⟩,M',rfl,trivial,(hX.CQ [] U).done,CK ⟨Sl.nil M' 11,Tm.B4,trivial⟩ AA⟩
 have hlx:(C6 s).2.2=0:=by omega
 have ok:=AP6 hb hlx
 have hl1:0<len (C6 s).1:=by
  obtain⟨l,_,h2⟩:=nW hlx
  rw[h2];dsimp only;rw[A5];have:=A4 l;show 0<_+(1:Int);omega
 have ep:F1 AE rt s=TG AE rt (C6 s).1:=by unfold F1;rw[if_neg (λ q=>q hlx)]
 rw[ep]at hB
 unfold TG at hB
 refine CY (.v (.func (.func 39) #[] #[.pointer (some ⟨bx,0,none⟩),.pointer (some ⟨by',0,none⟩),.pointer (some ⟨bz,0,none⟩)])) U (A0 U) U U (λ w M hX=>PV.makeFunc (xs:=[]) (ys:=[.tmp 2,.tmp 3,.tmp 4]) (vs:=[]) (us:=[.pointer (some ⟨bx,0,none⟩),.pointer (some ⟨by',0,none⟩),.pointer (some ⟨bz,0,none⟩)]) trivial ⟨AN (v:=.bx 0 bx 0) (E:=[]) U (A0 U),AN (v:=.bx 1 by' 0) (E:=[]) U (A0 U),AN (v:=.bx 2 bz 0) (E:=[]) U (A0 U),trivial⟩) ?_
 refine AM1 (λ _ _ _ _ h=>h) (λ _ _ _ _ _ h=>h) U (A0 U) U U (A0 U) U ?_
 refine F0 4 U (A0 U) U U U (A0 U) λ b4=>?_
 have key: ∀ {w:World} {M:Mem} {Rs:List HO} {w0:World} {M0:Mem} {r:PR Tf},C3 AE rt (4*(C6 s).1.length+4) (C6 s).1 0 0=r->Gl w0->St w0 M0 w M (FF b4 v 0 0::Rs)->Sl M 9 (C6 s).1.length v ((C6 s).1.flatMap Tk.cells)->Calls prog 40 [.pointer (some ⟨b4,0,none⟩)].toArray w (OQ w0 M0 M Rs b4 v 0 r):=λ hr hg hS hl=>by
  subst hr
  exact(cJ hrt _ _ (Nat.le_refl _)).rd ⟨hS,hl,hg,ok,by omega,hl1⟩ (by omega) (by omega) (by unfold len;omega) trivial
 cases hr:C3 AE rt (4*(C6 s).1.length+4) (C6 s).1 0 0 with
 |er ec p=>
  rw[hr]at hB
  refine GM [4] U (A0 U) U U call40 U (A0 U) U (λ w M hS hF=>key hr hg hS (hF.get (k:=3) U).sl) λ a w M hs hS hle=>EW _ (hB.nK hs ?_)
  have hS2:St _ _ w M (S7 bx by' bz (.slice none 0 0) (i64 (C6 s).2.1) (i64 (C6 s).2.2)++[]):=hS.perm (List.reverse_perm [_,_,_])
  refine cK call39 (λ h=>by cases h) rfl (oJ ec p bx by' bz _ _ _ hS2) λ w' ⟨M',hS',hle'⟩=>⟨_,XB AP (H:=[(0,.box bx [.v (.slice none 0 0)] 36),(1,.box by' [I p] 3),(2,.box bz [I ec] 26)]) (Hr:=[]) hS' hs rfl rfl (A0 rfl),?_⟩
  exact⟨⟨none,0,0⟩,M',rfl,trivial,(hS'.drop [] (List.nil_sublist _)).done,CK ⟨Sl.nil M' 11,Tm.B4,trivial⟩ AA⟩
 |ok x j=>
  have g:=(MS rt ok _).ty 0 0 x j (by omega) hl1 hr
  have hlt:=g.lt
  have hle:=g.le
  have hfew:=ok.few
  rw[hr]at hB
  dsimp only at hB
  refine BQ [4] (λ h:AX=>.sl 5 h.v) [] (λ h=>[(4,AV b4 v j 0),(5,DF h.v x.flat)]) U (A0 U) U U call40 U U (A0 U) U (λ w M hS hF=>key hr hg hS (hF.get (k:=3) U).sl) (λ _=>rfl) (λ _=>rfl) λ h5 _=>?_
  refine J7 5 U ?_
  refine CZ [4] (EB (at' (C6 s).1 j)) U (A0 U) U call41 U U (A0 U) U (λ _ w M hS hF=>EN hS (hF.get (k:=3) U).sl (by omega) hle) U ?_
  refine A7 U (A0 U) U (λ hb2=>?_) (λ hb2=>?_)<;>simp only[zb]at hb2
  ·rw[if_neg hb2]at hB
   refine CZ [4] (EB (at' (C6 s).1 j)) U (A0 U) U call41 U U (A0 U) U (λ _ w M hS hF=>EN hS (hF.get (k:=3) U).sl (by omega) hle) U ?_
   refine GM [4] U (A0 U) U U call42 U (A0 U) U (λ w M hS hF=>JF (at' (C6 s).1 j) 1 hS) λ a w M hs hS hle=>EW _ (hB.nK hs ?_)
   have hS2:St _ _ w M (S7 bx by' bz h5.v (i64 (C6 s).2.1) (i64 (C6 s).2.2)++[]):=hS.perm (List.reverse_perm [_,_,_])
   refine cK call39 (λ h=>by cases h) rfl (oJ 1 (at' (C6 s).1 j).pos bx by' bz _ _ _ hS2) λ w' ⟨M',hS',hle'⟩=>⟨_,XB AP (H:=[(0,.box bx [.v (.slice none 0 0)] 36),(1,.box by' [I (at' (C6 s).1 j).pos] 3),(2,.box bz [I 1] 26)]) (Hr:=[]) hS' hs rfl rfl (A0 rfl),?_⟩
   exact⟨⟨none,0,0⟩,M',rfl,trivial,(hS'.drop [] (List.nil_sublist _)).done,CK ⟨Sl.nil M' 11,Tm.B4,trivial⟩ AA⟩
  ·rw[if_pos (by omega)]at hB
   refine AM2 hB rfl (A0 rfl) U λ a w M hs hX=>cK call39 (λ h=>by cases h) rfl (AP7 bx by' bz _ _ _ (hX.CQ [0,1,2] rfl)) λ w' ⟨M',hS',hle'⟩=>⟨_,XB AP (H:=[(0,.box bx [.sl 5 h5.v] 36),(1,.box by' [I 0] 3),(2,.box bz [I 0] 26)]) (Hr:=[]) hS' hs rfl rfl (A0 rfl),?_⟩
   exact⟨h5,M',rfl,trivial,(hS'.drop [] (List.nil_sublist _)).done,CK ((hX.f.get (k:=5) U).mono hle') AA⟩
end Go.Proofs.YtmjpjbmeamnfpaaGreatDoor
namespace Go.Eng
open Go.RowKit
def EC(s:A1)(i:Int):A1:=((A3 s i).takeWhile C5).take 7
def HK(s:A1)(i:Int):Int×Int:=
 if EC s i=[]\/(A2 s i=48/\1<len (EC s i))\/1000000<BA (EC s i)then(-1,i)else(BA (EC s i),i+len (EC s i))
def OU:Sp:=⟨false,[],0⟩
def OV(s:A1)(i j:Int):Sp×Int:=
 if len s<=j\/A2 s j≠91 then(OU,i)
 else if(HK s (j+1)).1<0\/len s<=(HK s (j+1)).2\/A2 s (HK s (j+1)).2≠93 then(OU,i)
 else(⟨true,[],(HK s (j+1)).1⟩,(HK s (j+1)).2+1)
def D3(s:A1)(i:Int)(first:Bool):Sp×Int:=
 if i<len s/\A2 s i=46 then
  if AS (A3 s (i+1))≠[]then(⟨false,AS (A3 s (i+1)),0⟩,i+1+len (AS (A3 s (i+1))))
  else if(AH (A3 s (i+1))).2.2=0/\CF (AH (A3 s (i+1))).1=false/\J5 (AH (A3 s (i+1))).1=Eng.sub s (i+1) (i+1+(AH (A3 s (i+1))).2.1)then(⟨false,(AH (A3 s (i+1))).1,0⟩,i+1+(AH (A3 s (i+1))).2.1)
  else if first=false then(OU,i)else OV s i (i+1)
 else if first then(OU,i)else OV s i i
def FV:Nat->A1->List Sp->Int->List Sp×Int
 |0,_,p,i=>(p,i)
 |f+1,s,p,i=>if(D3 s i (p.isEmpty)).2=i then(p,i)else FV f s (p++[(D3 s i (p.isEmpty)).1]) (D3 s i (p.isEmpty)).2
def EP(s:A1)(i:Int):List Sp×Int:=if(FV 20 s [] i).1=[]/\i<len s/\A2 s i=46 then([],i+1)else FV 20 s [] i
def DI(s:A1):List Sp×Int×Int:=
 if s=[46]then((EP s 0).1,0,0)else if(EP s 0).1=[]then([],0,1)else if(EP s 0).2<len s then([],(EP s 0).2,1)else((EP s 0).1,0,0)
def XW(s:A1):Bool:=(DI s).2.2==0
def Sp.JJ (x:Sp):Prop:=(x.part=true->x.name=[]/\0<=x.n/\x.n<=1000000)/\(x.part=false->x.n=0/\CR x.name=true)
def Sp.GS (x:Sp):A1:=if x.part then [91]++Lib.itoa x.n++[93]else [46]++CG x.name
def FG(p:List Sp):A1:=(if p=[]\/(at' p 0).part=true then [46]else [])++(p.map Sp.GS).flatten
theorem oK{s:A1}:CF s=OD s:=by
 unfold OD
 by_cases h:s=[]
 ·subst h;decide+kernel
 ·by_cases hw:CF s=true
  ·rw[hw]
   have:=dI hw (r:=[]) (.inl U)
   rw[List.append_nil]at this
   rw[this];simp[h]
  ·rw[Bool.eq_false_iff.2 hw]
   symm
   rw[Bool.and_eq_false_iff];right
   rw[beq_eq_false_iff_ne]
   intro e
   exact hw (by rw[<-e];exact XO (by rw[e];exact h))
theorem AP9{x:Sp}(h:x.JJ):FE AE x=x.GS:=by
 unfold FE Sp.GS CG
 split
 ·rfl
 ·rename_i hp
  rw[<-oK]
  split
  ·rfl
  ·rw[TQ (h.2 (by simpa using hp)).2]
theorem oL{p:List Sp}(h: ∀x∈p,x.JJ):FP AE p=FG p:=by
 unfold FP FG
 congr 1
 congr 1
 exact List.map_congr_left λ x hx=>AP9 (h x hx)
theorem Q4(a:A1)(c:UInt8):BA (a++[c])=BA a*10+((c.toNat:Int)-48):=by unfold BA;rw[List.foldl_append];rfl
theorem XX{α:Type}{p:List α->Prop}(h0:p [])(hs: ∀a c,p a->p (a++[c]))(l:List α):p l:=by
 rw[<-List.reverse_reverse l]
 induction l.reverse with
 |nil=>exact h0
 |cons c a ih=>rw[List.reverse_cons];exact hs _ _ ih
theorem oM{g:A1}(h:CH g):0<=BA g:=by
 induction g using XX with
 |h0=>exact Int.le_refl _
 |hs a c ih=>
  rw[Q4]
  have:=ih λ b hb=>h b (by simp[hb])
  have hc:=h c (by simp)
  unfold C5 BG at hc
  simp only[Bool.and_eq_true,decide_eq_true_eq]at hc
  omega
theorem AQ0{g:A1}(h:CH g)(hn:g≠[])(hz: ¬(A2 g 0=48/\1<len g)):Lib.itoa (BA g)=g:=by
 induction g using XX with
 |h0=>exact absurd U hn
 |hs a c ih=>
  have hc:=h c (by simp)
  unfold C5 BG at hc
  simp only[Bool.and_eq_true,decide_eq_true_eq]at hc
  have ha:CH a:=λ b hb=>h b (by simp[hb])
  have h0:=oM ha
  rw[SR (by rw[Q4];omega),Q4]
  have hcc:toStr [48+(BA a*10+((c.toNat:Int)-48))%10]=[c]:=by
   have:48+(BA a*10+((c.toNat:Int)-48))%10=(c.toNat:Int):=by omega
   rw[this,SQ _ c.toNat U,UInt8.ofNat_toNat]
  rw[hcc]
  congr 1
  by_cases he:a=[]
  ·subst he
   have:BA []=0:=rfl
   rw[if_neg (by omega)]
  ·have hl:=G0 he
   have hz2: ¬A2 a 0=48:=λ e=>hz ⟨by rw[H3 (Int.le_refl 0) hl];exact e,by rw[A5];have:len [c]=1:=rfl;omega⟩
   have h1:=ih ha he (λ e=>hz2 e.1)
   have hpos:0<BA a:=by
    rcases Int.lt_or_eq_of_le h0 with h2|h2
    ·exact h2
    ·exfalso
     rw[<-h2]at h1
     have:Lib.itoa 0=[48]:=by decide+kernel
     rw[this]at h1
     rw[<-h1]at hz2
     exact hz2 U
   rw[if_pos (by omega),show(BA a*10+((c.toNat:Int)-48))/10=BA a by omega,h1]
theorem AQ1(s:A1)(i:Int):CH (EC s i):=λ b hb=>by
 unfold EC at hb
 have:=List.mem_of_mem_take hb
 exact List.all_eq_true.1 List.all_takeWhile b this
theorem oN(s:A1)(i:Int): ∃r,A3 s i=EC s i++r:=by
 have h1:=List.takeWhile_prefix C5 (l:=A3 s i)
 have h2:=List.take_prefix 7 ((A3 s i).takeWhile C5)
 obtain⟨r,hr⟩:=h2.trans h1
 exact⟨r,hr.symm⟩
theorem oO{s:A1}{i j:Int}{x:Sp}{zz:Int}(h0:0<=i)(hj:i<=j)(h:OV s i j=(x,zz))(hne:zz≠i):x.JJ/\x.part=true/\A3 s j=x.GS++A3 s zz/\j<zz/\zz<=len s:=by
 unfold OV at h
 split at h
 ·simp only[Prod.mk.injEq]at h;omega
 ·rename_i h1
  split at h
  ·simp only[Prod.mk.injEq]at h;omega
  ·rename_i h2
   simp only[Prod.mk.injEq]at h
   obtain⟨rfl,rfl⟩:=h
   have hf: ¬(EC s (j+1)=[]\/(A2 s (j+1)=48/\1<len (EC s (j+1)))\/1000000<BA (EC s (j+1))):=by
    intro hc
    unfold HK at h2
    rw[if_pos hc]at h2
    exact h2 (.inl (by show(-1:Int)<0;omega))
   unfold HK at h2 ⊢
   rw[if_neg hf]at h2 ⊢
   dsimp only at h2 ⊢
   have ha:=AQ1 s (j+1)
   obtain⟨r,hr⟩:=oN s (j+1)
   have hg0:EC s (j+1)≠[]:=λ e=>hf (.inl e)
   have hgl:=G0 hg0
   have hb:A2 (EC s (j+1)) 0=A2 s (j+1):=by
    have h3:A2 (A3 s (j+1)) 0=A2 s (j+1+0):=OB s (j+1) 0 (by omega) (Int.le_refl 0)
    rw[hr,H3 (Int.le_refl 0) hgl,Int.add_zero]at h3;exact h3
   have hi:=AQ0 ha hg0 (λ e=>hf (.inr (.inl ⟨by rw[<-hb];exact e.1,e.2⟩)))
   have hd:=oM ha
   have hlt:j+1+len (EC s (j+1))<len s:=by omega
   refine⟨⟨λ _=>⟨rfl,hd,by show BA _<=_;omega⟩,(λ e=>by cases e)⟩,rfl,?_,by omega,by omega⟩
   show _=[91]++Lib.itoa (BA (EC s (j+1)))++[93]++_
   rw[hi]
   obtain⟨b1,e1,e2⟩:=J3 s j (by omega) (by omega)
   obtain⟨b2,e3,e4⟩:=J3 s (j+1+len (EC s (j+1))) (by omega) hlt
   have hb1:b1=91:=UInt8.toNat_inj.1 (by have:(91:UInt8).toNat=91:=rfl;omega)
   have hb2:b2=93:=UInt8.toNat_inj.1 (by have:(93:UInt8).toNat=93:=rfl;omega)
   have hr2:r=A3 s (j+1+len (EC s (j+1))):=by
    rw[<-IF s (j+1) _ (by omega) (by omega),hr,U6]
   rw[e1,hb1,hr,hr2,e3,hb2]
   simp
theorem AQ2(s:A1):s=AS s++A3 s (len (AS s)):=by
 have hb:=OC s
 have:=cM (s:=s) (n:=len (AS s)) hb.1 hb.2
 have e:Eng.sub s 0 (len (AS s))=AS s:=by rw[LZ];rfl
 rw[e]at this;exact this.1
theorem oP{s:A1}{i:Int}{first:Bool}{x:Sp}{zz:Int}(h0:0<=i)(h:D3 s i first=(x,zz))(hne:zz≠i):
  x.JJ/\A3 s i=(if first&&x.part then [46]else [])++(x.GS++A3 s zz)/\i<zz/\zz<=len s:=by
 unfold D3 at h
 split at h
 ·rename_i h1
  obtain⟨b1,e1,e2⟩:=J3 s i h0 h1.1
  have hb1:b1=46:=UInt8.toNat_inj.1 (by have:(46:UInt8).toNat=46:=rfl;omega)
  subst hb1
  have hl:=CO s (i+1) (by omega) (by omega)
  split at h
  ·rename_i h2
   simp only[Prod.mk.injEq]at h
   obtain⟨rfl,rfl⟩:=h
   have hb:=OC (A3 s (i+1))
   refine⟨⟨(λ e=>by cases e),λ _=>⟨rfl,oH _⟩⟩,?_,by omega,by omega⟩
   show _=(if first&&false then [46]else [])++(([46]++CG (AS (A3 s (i+1))))++_)
   rw[Bool.and_false,if_neg (by decide)]
   unfold CG
   rw[if_pos (XO h2),e1,<-IF s (i+1) _ (by omega) hb.1]
   conv=>lhs;rw[AQ2 (A3 s (i+1))]
   simp
  ·split at h
   ·rename_i h3
    simp only[Prod.mk.injEq]at h
    obtain⟨rfl,rfl⟩:=h
    have hb:=N8 (A3 s (i+1))
    have h2:=hb.2.2.1 h3.1
    refine⟨⟨(λ e=>by cases e),λ _=>⟨rfl,dH _⟩⟩,?_,by omega,by omega⟩
    show _=(if first&&false then [46]else [])++(([46]++CG (AH (A3 s (i+1))).1)++_)
    rw[Bool.and_false,if_neg (by decide)]
    unfold CG
    rw[h3.2.1,if_neg (by decide),h3.2.2,e1]
    have hsp:=PS s (i+1) (i+1+(AH (A3 s (i+1))).2.1) (by omega) (by omega)
    generalize (AH (A3 s (i+1))).2.1=m at hsp ⊢
    conv=>lhs;rw[hsp]
    simp
   ·split at h
    ·simp only[Prod.mk.injEq]at h;omega
    ·rename_i hf
     have hf:first=true:=by simpa using hf
     subst hf
     obtain⟨g1,g2,g3,g4,g5⟩:=oO h0 (by omega) h hne
     refine⟨g1,?_,by omega,g5⟩
     rw[g2,e1,g3];rfl
 ·split at h
  ·simp only[Prod.mk.injEq]at h;omega
  ·rename_i hf
   obtain⟨g1,g2,g3,g4,g5⟩:=oO h0 (Int.le_refl i) h hne
   refine⟨g1,?_,g4,g5⟩
   rw[g3]
   have hf:first=false:=by simpa using hf
   rw[hf];rfl
theorem AQ3(p:List Sp)(x:Sp):FG (p++[x])=if p=[]then(if x.part then [46]else [])++x.GS else FG p++x.GS:=by
 unfold FG
 cases p with
 |nil=>simp[at']
 |cons a p=>simp[at']
theorem oQ{s:A1}: ∀(f:Nat) (p:List Sp) (i:Int) (p2:List Sp) (i2:Int),0<=i->i<=len s->FV f s p i=(p2,i2)->(∀x∈p,x.JJ)->(p≠[]->s=FG p++A3 s i)->(p=[]->i=0)->
  (∀x∈p2,x.JJ)/\p2.length<=p.length+f/\0<=i2/\i2<=len s/\(p2≠[]->s=FG p2++A3 s i2)/\(p2=[]->i2=0)
 |0,p,i,p2,i2,h0,h1,h,hp,hs,hi=>by
  rw[FV]at h
  simp only[Prod.mk.injEq]at h;obtain⟨rfl,rfl⟩:=h
  exact⟨hp,by omega,h0,h1,hs,hi⟩
 |f+1,p,i,p2,i2,h0,h1,h,hp,hs,hi=>by
  rw[FV]at h
  split at h
  ·simp only[Prod.mk.injEq]at h;obtain⟨rfl,rfl⟩:=h
   exact⟨hp,by omega,h0,h1,hs,hi⟩
  ·rename_i hne
   obtain⟨g1,g2,g3,g4⟩:=oP h0 (x:=(D3 s i p.isEmpty).1) (zz:=(D3 s i p.isEmpty).2) rfl hne
   have:=oQ f _ _ p2 i2 (by omega) g4 h (λ x hx=>by
    rcases List.mem_append.1 hx with hx|hx
    ·exact hp x hx
    ·rw[List.mem_singleton.1 hx];exact g1) (λ _=>by
     rw[AQ3]
     by_cases hpe:p=[]
     ·subst hpe
      have:=hi U
      subst this
      rw[if_pos U,List.append_assoc]
      exact g2
     ·rw[if_neg hpe,List.append_assoc]
      have he:p.isEmpty=false:=by cases p with|nil=>exact absurd rfl hpe|cons a p=>rfl
      rw[he]at g2 ⊢
      have:=hs hpe
      rw[g2]at this
      exact this) (λ e=>by simp at e)
   refine⟨this.1,?_,this.2.2⟩
   have h2:=this.2.1
   rw[List.length_append,List.length_singleton]at h2;omega
theorem AQ4{s:A1}(h:XW s=true): ∃p:List Sp,p.length<=20/\(∀x∈p,x.JJ)/\s=FG p/\(DI s).1=p:=by
 unfold XW DI at h
 unfold DI
 obtain⟨g1,g2,g3,g4,g5,g6⟩:=oQ (s:=s) 20 [] 0 (FV 20 s [] 0).1 (FV 20 s [] 0).2 (Int.le_refl 0) (A4 s) rfl (λ x hx=>by cases hx) (λ e=>absurd rfl e) (λ _=>rfl)
 have hp:(EP s 0).1=(FV 20 s [] 0).1:=by
  unfold EP
  split
  ·rename_i h1;exact h1.1.symm
  ·rfl
 split at h
 ·rename_i h1
  subst h1
  rw[if_pos U]
  exact⟨[],by decide,(λ x hx=>by cases hx),by decide,by decide+kernel⟩
 ·rename_i h1
  rw[if_neg h1]
  split at h
  ·exact absurd h (show ¬((1:Int)==0)=true by decide)
  ·rename_i h2
   rw[if_neg h2]
   split at h
   ·exact absurd h (show ¬((1:Int)==0)=true by decide)
   ·rename_i h3
    rw[if_neg h3]
    rw[hp]at h2 ⊢
    have hb:EP s 0=FV 20 s [] 0:=by
     unfold EP
     rw[if_neg (λ e=>h2 e.1)]
    rw[hb]at h3
    refine⟨_,by simpa using g2,g1,?_,rfl⟩
    have:=g5 h2
    rw[O6 _ _ (by omega),List.append_nil]at this
    exact this
end Go.Eng
namespace Go.Proofs.YtmjpjbmeamnfpaaGreatDoor
open Go.Proofs.Tryz
open Go.Eng
theorem oR(n:Int)(w:World)(h:0<=n/\n<=15):
  Calls prog 132 [(i64 n)].toArray w λ e w'=>e= .returned (str (KT n))/\w'=w:=by
 refine CW.BH func132 U ntmps132 (Nat.le_of_ble_eq_true U) λ Q hE=>?_
 refine An [0] (L':=[Y 0 (i64 n)]) ?_ U
 refine Ad (Ab (.assign .c) U (Aa (Ac (Ad ?_))))
 refine Ae U U (Ae U U (Ab (.add (.t U) .c (λ _=>by first|omega|(simp only[A6,len_nil];omega))) U (Ab (.KM .c (.t U) (.t U) underlying9 (λ _=>by first|omega|(simp only[A6,len_nil];omega))) U (Aj U U (Aa (Ac ?_))))))
 refine Ah (hE.r1 U U ?_)
 exact⟨rfl,rfl⟩
theorem AQ5(c:Int)(w:World)(h:0<=c/\c<=255):
  Calls prog 85 [(.int .u8 c)].toArray w λ e w'=>e= .returned (str (GI c))/\Ext w w':=by
 refine CW.BH func85 U ntmps85 (Nat.le_of_ble_eq_true U) λ Q hE=>?_
 have hS:St w nM w nM []:=Ak ⟨λ _ _ _ h=>by cases h⟩
 refine An [0] (L':=[Y 0 (.int .u8 c)]) ?_ U
 refine Ad (Ab (.assign .c) U (Aa (Ac (Ag ?_))))
 refine Ad (Ae U U (Aa (Ac (Am ?_))))
 refine Ad (Ab (.eql (.t U) .c) U (Aj U U (Aa (Ac ?_))))
 refine Af rfl ?_ ?_<;>intro hb1<;>try simp only[zb]at hb1
 ·refine Ad (Ab (.assign .c) U (Aa (Ac (Ah (hE.r1 U U ?_)))))
  clear hE
  refine⟨congrArg (λ x=>Ending.returned (str x)) ?_,hS.low⟩
  unfold GI;simp_all
  try (intro h;omega)
 ·refine Ad (Ab (.eql (.t U) .c) U (Aj U U (Aa (Ac ?_))))
  refine Af rfl ?_ ?_<;>intro hb2<;>try simp only[zb]at hb2
  ·refine Ad (Ab (.assign .c) U (Aa (Ac (Ah (hE.r1 U U ?_)))))
   clear hE
   refine⟨congrArg (λ x=>Ending.returned (str x)) ?_,hS.low⟩
   unfold GI;simp_all
   try (intro h;omega)
  ·refine Ad (Ab (.eql (.t U) .c) U (Aj U U (Aa (Ac ?_))))
   refine Af rfl ?_ ?_<;>intro hb3<;>try simp only[zb]at hb3
   ·refine Ad (Ab (.assign .c) U (Aa (Ac (Ah (hE.r1 U U ?_)))))
    clear hE
    refine⟨congrArg (λ x=>Ending.returned (str x)) ?_,hS.low⟩
    unfold GI;simp_all
    try (intro h;omega)
   ·refine Ad (Ab (.eql (.t U) .c) U (Aj U U (Aa (Ac ?_))))
    refine Af rfl ?_ ?_<;>intro hb4<;>try simp only[zb]at hb4
    ·refine Ad (Ab (.assign .c) U (Aa (Ac (Ah (hE.r1 U U ?_)))))
     clear hE
     refine⟨congrArg (λ x=>Ending.returned (str x)) ?_,hS.low⟩
     unfold GI;simp_all
     try (intro h;omega)
    ·refine Ad (Ab (.eql (.t U) .c) U (Aj U U (Aa (Ac ?_))))
     refine Af rfl ?_ ?_<;>intro hb5<;>try simp only[zb]at hb5
     ·refine Ad (Ab (.assign .c) U (Aa (Ac (Ah (hE.r1 U U ?_)))))
      clear hE
      refine⟨congrArg (λ x=>Ending.returned (str x)) ?_,hS.low⟩
      unfold GI;simp_all
      try (intro h;omega)
     ·refine Ad (Ab (.eql (.t U) .c) U (Aj U U (Aa (Ac ?_))))
      refine Af rfl ?_ ?_<;>intro hb6<;>try simp only[zb]at hb6
      ·refine Ad (Ab (.assign .c) U (Aa (Ac (Ah (hE.r1 U U ?_)))))
       clear hE
       refine⟨congrArg (λ x=>Ending.returned (str x)) ?_,hS.low⟩
       unfold GI;simp_all
       try (intro h;omega)
      ·refine Ad (Ab (.eql (.t U) .c) U (Aj U U (Aa (Ac ?_))))
       refine Af rfl ?_ ?_<;>intro hb7<;>try simp only[zb]at hb7
       ·refine Ad (Ab (.assign .c) U (Aa (Ac (Ah (hE.r1 U U ?_)))))
        clear hE
        refine⟨congrArg (λ x=>Ending.returned (str x)) ?_,hS.low⟩
        unfold GI;simp_all
        try (intro h;omega)
       ·refine Ai (Ac (Ag (Ad (Ae U U (Ab (.lss (.t U) .c) U (Aa (Ac ?_)))))))
        refine Af rfl ?_ ?_<;>intro hb8<;>try simp only[zb]at hb8
        ·refine Ad (Ae U U (Ab (.BD (r:=c) (.t U) underlying5 underlying3 (λ _=>by exact Eng.wrap_i64 (by omega))) U (Ab (.quo (.t U) .c (λ _=>by omega)) U ?_)))
         refine RL.DC .none call132 (.cons (.t U) .nil) (λ _=>(oR (c/16) _ (by omega))) U ?_
         refine Ab (.E8 .c (.t U) (λ _=>by first|omega|(simp only[KT,A5,A6,len_nil];have:=HB ([48,49,50,51,52,53,54,55,56,57,97,98,99,100,101,102]:A1) (c/16) (c/16+1);have:=HB ([48,49,50,51,52,53,54,55,56,57,97,98,99,100,101,102]:A1) (c%16) (c%16+1);simp only[A6,len_nil]at*;omega))) U (Ae U U (Ab (.BD (r:=c) (.t U) underlying5 underlying3 (λ _=>by exact Eng.wrap_i64 (by omega))) U (Ab (.rem (.t U) .c (λ _=>by first|omega|(simp only[KT,A5,A6,len_nil];have:=HB ([48,49,50,51,52,53,54,55,56,57,97,98,99,100,101,102]:A1) (c/16) (c/16+1);have:=HB ([48,49,50,51,52,53,54,55,56,57,97,98,99,100,101,102]:A1) (c%16) (c%16+1);simp only[A6,len_nil]at*;omega))) U ?_)))
         refine RL.DC .none call132 (.cons (.t U) .nil) (λ _=>(oR (c%16) _ (by omega))) U ?_
         refine Ab (.E8 (.t U) (.t U) (λ _=>by first|omega|(simp only[KT,A5,A6,len_nil];have:=HB ([48,49,50,51,52,53,54,55,56,57,97,98,99,100,101,102]:A1) (c/16) (c/16+1);have:=HB ([48,49,50,51,52,53,54,55,56,57,97,98,99,100,101,102]:A1) (c%16) (c%16+1);simp only[A6,len_nil]at*;omega))) U (Aj U U ?_)
         refine Aa (CW.at [Y 2 (str (([92,117,48,48]++(KT (c/16)))++(KT (c%16))))] U (Ah (hE.r1 U U ?_)))
         clear hE
         refine⟨congrArg (λ x=>Ending.returned (str x)) ?_,hS.low⟩
         unfold GI;simp_all
         try (intro h;omega)
        ·refine Ai (Ac (Ad (Ae U U ?_)))
         refine RL.buildSlice (n:=1) (sz:=1) (e:=5) (vs:=[(0,(.int .u8 c))]) (cs:=[(.int .u8 c)]) hS (.cons (.t U) .nil) U U (λ w=>by kernel_rfl) U (λ v1 w2 M3 hS4 hle5=>?_)
         replace hS4:St w nM w2 M3 [.own 5 1 v1 (([c]:List Int)).length ((([c]:List Int)).flatMap AQ)]:=hS4
         refine Ab (.N5 hS4 AR (hS4.sl (i:=0) U) (.t U) underlying110 underlying5 underlying9) U (Aj U U (Aa (Ac ?_)))
         refine Ah (hE.r1 U U ?_)
         clear hE
         refine⟨congrArg (λ x=>Ending.returned (str x)) ?_,hS4.low⟩
         unfold GI;simp_all
         try (intro h;omega)
theorem dK(s:A1)(w:World)(hb:len s<=1099511627776):
  Calls prog 53 [(str s)].toArray w λ e w'=>e= .returned (str (J5 s))/\Ext w w':=by
 refine CW.BH func53 U ntmps53 (Nat.le_of_ble_eq_true U) λ Q hE=>?_
 have:=A4 s
 have hS:St w nM w nM []:=Ak ⟨λ _ _ _ h=>by cases h⟩
 refine An [0] (L':=[Y 0 (str s)]) ?_ U
 refine Ad (Ab (.assign .c) U (Aa (Ac (Ad ?_))))
 refine Ab (.assign .c) U (Aa (Ac ?_))
 refine Ag (Ad (Ab (.assign .c) U (Aa (Ac ?_))))
 refine Am ?_
 refine CW.loop (σ:=Int×A1) (λ(k,o)=>[Y 0 (str s),Y 3 (str o),Y 4 (i64 k)]) (λ(k,o) wl=>St w nM wl nM []/\0<=k/\k<=len s/\o=34::(Eng.sub s 0 k).flatMap IE/\len o<=6*k+1) (λ(k,o)=>(len s-k).toNat) ((0,[34])) [0,3,4] U ?_ ?_
 ·refine⟨hS,?_⟩;exact⟨by omega,by omega,rfl,by decide⟩
 ·rintro⟨k,o⟩ wl ⟨hS1,hk0,hk1,hkF,hlen⟩
  have hwl:=gX (A2 s k)
  have hby:=LQ s k
  have ho:=A4 o
  refine Ag (Ad (Ae U U (Ae U U (Ab (.BR (.t U) underlying9) U (Ab (.lss (.t U) (.t U)) U (Aa (Ac ?_)))))))
  refine Af rfl ?_ ?_<;>intro hb1<;>try simp only[zb]at hb1
  ·refine Ai (Ac (Ag (Am ?_)))
   refine CW.region (Ae U U (Ae U U (Ae U U (Ab (.C2 (.t U) (.t U) underlying9 (λ _=>by omega)) U ?_))))
   refine RL.D6 hS1 .none call85 (.cons (.t U) .nil) (λ _=>(AQ5 (A2 s k) _ (by omega))) U (λ w2 hS3=>?_)
   refine Ab (.E8 (.t U) (.t U) (λ _=>by omega)) U (Aj U U ?_)
   refine Aa (CW.at [Y 0 (str s),Y 3 (str (o++(GI (A2 s k)))),Y 4 (i64 k)] U ?_)
   refine CW.region (Ae U U (Ab (.add (.t U) .c (λ _=>by omega)) U (Aj U U ?_)))
   refine Aa λ a hs=>Exists.intro ((k+1,o++GI (A2 s k))) ⟨hs.BC [0,3,4],?_,?_⟩
   ·refine⟨hS3,?_⟩
    exact⟨by omega,by omega,vC hk0 hb1 hkF,by rw[A5];omega⟩
   ·show Int.toNat _<Int.toNat _;omega
  ·refine CW.exit (CW.at [Y 3 (str o)] U ?_)
   refine Ad (Ae U U (Ab (.E8 (.t U) .c (λ _=>by first|omega|(simp only[A5,A6,len_nil];omega))) U (Aj U U (Aa (Ac (Ah (hE.r1 U U ?_)))))))
   exact⟨by unfold J5;rw[hkF,JW _ _ (by omega)],hS1.low⟩
theorem oS(n:Int)(w:World)(h:0<=n/\n<=1114111)(hs:n<55296\/57343<n):
  Calls prog 279 [(i64 n)].toArray w λ e w'=>e= .returned (str (toStr (Lib.encodeRuneZ n)))/\Ext w w':=by
 refine CW.BH func279 U ntmps279 (Nat.le_of_ble_eq_true U) λ Q hE=>?_
 have hS:St w nM w nM []:=Ak ⟨λ _ _ _ h=>by cases h⟩
 refine An [0] (L':=[Y 0 (i64 n)]) ?_ U
 refine Ad (Ab (.assign .c) U (Aa (Ac (Ag ?_))))
 refine Ad (Ae U U (Ab (.lss (.t U) .c) U (Aa (Ac ?_))))
 refine Af rfl ?_ ?_<;>intro hb1<;>try simp only[zb]at hb1
 ·refine Ad (Ae U U (Ab (.BD (r:=n) (.t U) underlying3 underlying5 (λ _=>by exact Eng.wrap_u8 (by omega))) U ?_))
  refine RL.buildSlice (n:=1) (sz:=1) (e:=5) (vs:=[(0,(.int .u8 n))]) (cs:=[(.int .u8 n)]) hS (.cons (.t U) .nil) U U (λ w=>by kernel_rfl) U (λ v1 w2 M3 hS4 hle5=>?_)
  replace hS4:St w nM w2 M3 [.own 5 1 v1 (([n]:List Int)).length ((([n]:List Int)).flatMap AQ)]:=hS4
  refine Ab (.N5 hS4 AR (hS4.sl (i:=0) U) (.t U) underlying110 underlying5 underlying9) U (Aj U U (Aa (Ac ?_)))
  refine Ah (hE.r1 U U ?_)
  refine⟨?_,hS4.low⟩
  rw[show Lib.encodeRuneZ n=_ from Lib.encodeRuneZ_one (by omega) (by omega)]
 ·refine Ai (Ac (Ag (Ad (Ae U U (Ab (.lss (.t U) .c) U (Aa (Ac ?_)))))))
  refine Af rfl ?_ ?_<;>intro hb2<;>try simp only[zb]at hb2
  ·refine Ad (Ae U U (Ab (.quo (.t U) .c (λ _=>by omega)) U (Ab (.add .c (.t U) (λ _=>by omega)) U (Ab (.BD (r:=192+(n/64)) (.t U) underlying3 underlying5 (λ _=>by exact Eng.wrap_u8 (by omega))) U (Ae U U (Ab (.rem (.t U) .c (λ _=>by omega)) U (Ab (.add .c (.t U) (λ _=>by omega)) U (Ab (.BD (r:=128+(n%64)) (.t U) underlying3 underlying5 (λ _=>by exact Eng.wrap_u8 (by omega))) U ?_))))))))
   refine RL.buildSlice (n:=2) (sz:=1) (e:=5) (vs:=[(0,(.int .u8 (192+(n/64)))),(1,(.int .u8 (128+(n%64))))]) (cs:=[(.int .u8 (192+(n/64))),(.int .u8 (128+(n%64)))]) hS (.cons (.t U) (.cons (.t U) .nil)) U U (λ w=>by kernel_rfl) U (λ v6 w7 M8 hS9 hle10=>?_)
   replace hS9:St w nM w7 M8 [.own 5 1 v6 (([192+(n/64),128+(n%64)]:List Int)).length ((([192+(n/64),128+(n%64)]:List Int)).flatMap AQ)]:=hS9
   refine Ab (.N5 hS9 AR (hS9.sl (i:=0) U) (.t U) underlying110 underlying5 underlying9) U (Aj U U (Aa (Ac ?_)))
   refine Ah (hE.r1 U U ?_)
   refine⟨?_,hS9.low⟩
   rw[show Lib.encodeRuneZ n=_ from Lib.encodeRuneZ_two (by omega) (by omega)]
  ·refine Ai (Ac (Ag (Ad (Ae U U (Ab (.lss (.t U) .c) U (Aa (Ac ?_)))))))
   refine Af rfl ?_ ?_<;>intro hb3<;>try simp only[zb]at hb3
   ·refine Ad (Ae U U (Ab (.quo (.t U) .c (λ _=>by omega)) U (Ab (.add .c (.t U) (λ _=>by omega)) U (Ab (.BD (r:=224+(n/4096)) (.t U) underlying3 underlying5 (λ _=>by exact Eng.wrap_u8 (by omega))) U (Ae U U (Ab (.quo (.t U) .c (λ _=>by omega)) U (Ab (.rem (.t U) .c (λ _=>by omega)) U (Ab (.add .c (.t U) (λ _=>by omega)) U (Ab (.BD (r:=128+((n/64)%64)) (.t U) underlying3 underlying5 (λ _=>by exact Eng.wrap_u8 (by omega))) U (Ae U U (Ab (.rem (.t U) .c (λ _=>by omega)) U (Ab (.add .c (.t U) (λ _=>by omega)) U (Ab (.BD (r:=128+(n%64)) (.t U) underlying3 underlying5 (λ _=>by exact Eng.wrap_u8 (by omega))) U ?_)))))))))))))
    refine RL.buildSlice (n:=3) (sz:=1) (e:=5) (vs:=[(0,(.int .u8 (224+(n/4096)))),(1,(.int .u8 (128+((n/64)%64)))),(2,(.int .u8 (128+(n%64))))]) (cs:=[(.int .u8 (224+(n/4096))),(.int .u8 (128+((n/64)%64))),(.int .u8 (128+(n%64)))]) hS (.cons (.t U) (.cons (.t U) (.cons (.t U) .nil))) U U (λ w=>by kernel_rfl) U (λ v11 w12 M13 hS14 hle15=>?_)
    replace hS14:St w nM w12 M13 [.own 5 1 v11 (([224+(n/4096),128+((n/64)%64),128+(n%64)]:List Int)).length ((([224+(n/4096),128+((n/64)%64),128+(n%64)]:List Int)).flatMap AQ)]:=hS14
    refine Ab (.N5 hS14 AR (hS14.sl (i:=0) U) (.t U) underlying110 underlying5 underlying9) U (Aj U U (Aa (Ac ?_)))
    refine Ah (hE.r1 U U ?_)
    refine⟨?_,hS14.low⟩
    rw[show Lib.encodeRuneZ n=_ from Lib.encodeRuneZ_three (by omega)]
   ·refine Ai (Ac (Ad (Ae U U (Ab (.quo (.t U) .c (λ _=>by omega)) U (Ab (.add .c (.t U) (λ _=>by omega)) U (Ab (.BD (r:=240+(n/262144)) (.t U) underlying3 underlying5 (λ _=>by exact Eng.wrap_u8 (by omega))) U (Ae U U (Ab (.quo (.t U) .c (λ _=>by omega)) U (Ab (.rem (.t U) .c (λ _=>by omega)) U (Ab (.add .c (.t U) (λ _=>by omega)) U (Ab (.BD (r:=128+((n/4096)%64)) (.t U) underlying3 underlying5 (λ _=>by exact Eng.wrap_u8 (by omega))) U (Ae U U (Ab (.quo (.t U) .c (λ _=>by omega)) U (Ab (.rem (.t U) .c (λ _=>by omega)) U ?_))))))))))))))
    refine Ab (.add .c (.t U) (λ _=>by omega)) U (Ab (.BD (r:=128+((n/64)%64)) (.t U) underlying3 underlying5 (λ _=>by exact Eng.wrap_u8 (by omega))) U (Ae U U (Ab (.rem (.t U) .c (λ _=>by omega)) U (Ab (.add .c (.t U) (λ _=>by omega)) U (Ab (.BD (r:=128+(n%64)) (.t U) underlying3 underlying5 (λ _=>by exact Eng.wrap_u8 (by omega))) U ?_)))))
    refine RL.buildSlice (n:=4) (sz:=1) (e:=5) (vs:=[(0,(.int .u8 (240+(n/262144)))),(1,(.int .u8 (128+((n/4096)%64)))),(2,(.int .u8 (128+((n/64)%64)))),(3,(.int .u8 (128+(n%64))))]) (cs:=[(.int .u8 (240+(n/262144))),(.int .u8 (128+((n/4096)%64))),(.int .u8 (128+((n/64)%64))),(.int .u8 (128+(n%64)))]) hS (.cons (.t U) (.cons (.t U) (.cons (.t U) (.cons (.t U) .nil)))) U U (λ w=>by kernel_rfl) U (λ v16 w17 M18 hS19 hle20=>?_)
    replace hS19:St w nM w17 M18 [.own 5 1 v16 (([240+(n/262144),128+((n/4096)%64),128+((n/64)%64),128+(n%64)]:List Int)).length ((([240+(n/262144),128+((n/4096)%64),128+((n/64)%64),128+(n%64)]:List Int)).flatMap AQ)]:=hS19
    refine Ab (.N5 hS19 AR (hS19.sl (i:=0) U) (.t U) underlying110 underlying5 underlying9) U (Aj U U (Aa (Ac ?_)))
    refine Ah (hE.r1 U U ?_)
    refine⟨?_,hS19.low⟩
    rw[show Lib.encodeRuneZ n=_ from Lib.encodeRuneZ_four (by omega) (by omega)]
end Go.Proofs.YtmjpjbmeamnfpaaGreatDoor
