/- Lemmas for the card. -/
import Derived.Test.YtnoegalemkbbbaaGreatDoorKt7
set_option linter.unusedVariables false
set_option linter.unusedSimpArgs false
set_option maxRecDepth 100000
namespace Go.Eng
open Go.RowKit
theorem IE{u v:A0}{j:Int}(h0:0<=j)(h:j<len u):A4 (u++v) j=A4 u j:=by
 unfold len at h
 unfold A4
 rw[List.getD_eq_getElem?_getD,List.getD_eq_getElem?_getD,List.getElem?_append_left Aa]
theorem Y8{u v:A0}{k:Int}(h0:0<=k):A4 (u++v) (len u+k)=A4 v k:=by
 unfold A4 len
 rw[List.getD_eq_getElem?_getD,List.getD_eq_getElem?_getD,List.getElem?_append_right Aa,show((u.length:Int)+k).toNat-u.length=k.toNat from by omega]
theorem oO{u v:A0}{k:Int}(h0:len u<=k):A4 (u++v) k=A4 v (k-len u):=by
 have:=Y8 (u:=u) (v:=v) (k:=k-len u) Aa
 rw[<-this];congr 1;omega
theorem G4(a:UInt8)(l:A0):A4 (a::l) 0=(a.toNat:Int):=rfl
theorem QD{u v:A0}:A5 (u++v) (len u)=v:=by unfold A5 len;simp
theorem AO1{u v:A0}{k:Int}(h0:0<=k)(h:k<=len u):A5 (u++v) k=A5 u k++v:=by
 unfold A5 len at*
 rw[List.drop_append_of_le_length Aa]
theorem OL{α:Type}(s:List α):A5 s 0=s:=rfl
theorem V7{u v:A0}:Eng.sub (u++v) 0 (len u)=u:=by unfold Eng.sub len;simp
theorem eT{s:A0}{n:Int}(h0:0<=n)(h1:n<=len s):s=Eng.sub s 0 n++A5 s n/\len (Eng.sub s 0 n)=n:=by
 refine⟨?_,by rw[FL Aa h0 h1];omega⟩
 have:=SL s 0 n Aa h0
 rw[OL]at this;exact this
theorem AO2{a b:A0}(hl:len a=len b)(h: ∀j:Int,0<=j->j<len a->A4 a j=A4 b j):a=b:=by
 unfold len at hl
 refine List.ext_getElem Aa λ i h1 e=>?_
 have:=h (i:Int) Aa (by unfold len;omega)
 simp only[A4,Int.toNat_natCast,List.getD_eq_getElem?_getD,List.getElem?_eq_getElem h1,List.getElem?_eq_getElem e,Option.getD_some]at this
 exact UInt8.toNat_inj.1 Aa
theorem AO3{s s':A0}{i i' k:Int}(h0:0<=i)(e:0<=i')(n:0<=k)(h1:i+k<=len s)(l:i'+k<=len s')(h: ∀j,0<=j->j<k->A4 s' (i'+j)=A4 s (i+j)):Eng.sub s' i' (i'+k)=Eng.sub s i (i+k):=by
 have q:=FL (s:=s) (i:=i) (j:=i+k) h0 Aa h1
 have w:=FL (s:=s') (i:=i') (j:=i'+k) e Aa l
 refine AO2 Aa λ j a b=>?_
 rw[QB e a Aa l,QB h0 a Aa h1]
 exact h j a Aa
theorem oP{p:UInt8->Bool}: ∀ {l:A0},(∀b∈l,p b=true)->l.takeWhile p=l
 |[],_=>rfl
 |a::l,h=>by rw[List.takeWhile_cons,if_pos (h a (by simp)),oP (λ b e=>h b (by simp[e]))]
theorem Y9{s s':A0}{i i':Int}(h0:0<=i)(b:0<=i')(h1:1<=rune s i)(hl:i<len s)(M:i'+rune s i<=len s')(h: ∀j,0<=j->j<rune s i->A4 s' (i'+j)=A4 s (i+j)):
  rune s' i'=rune s i/\AX s' i'=AX s i/\runeLen s' i'=runeLen s i:=by
 have Q:=M4 s i
 have hle:=rune_le s i hl
 have a0:A4 s' i'=A4 s i:=by have:=h 0 Aa Aa;rwa [Int.add_zero,Int.add_zero]at this
 have z:2<=rune s i->A4 s' (i'+1)=A4 s (i+1):=λ x=>h 1 Aa Aa
 have a2:3<=rune s i->A4 s' (i'+2)=A4 s (i+2):=λ x=>h 2 Aa Aa
 have a3:4<=rune s i->A4 s' (i'+3)=A4 s (i+3):=λ x=>h 3 Aa Aa
 have er:rune s' i'=rune s i:=by
  clear h
  generalize hk:rune s i=k at*
  unfold rune cont at hk ⊢
  dsimp only at hk ⊢
  rw[a0]
  simp only[Bool.and_eq_true,Bool.or_eq_true,decide_eq_true_eq,beq_iff_eq]at hk ⊢
  split at hk
  ·rw[if_pos (by assumption)];exact hk
  rename_i c0
  rw[if_neg c0]
  split at hk
  ·rename_i N
   subst hk
   have:=z Aa
   rw[if_pos Aa]
  rename_i N
  split at hk
  ·rename_i c2
   have O:k=3:=by split at hk<;>omega
   have A:=z Aa
   have e2:=a2 Aa
   rw[if_neg Aa,if_pos Aa,A]
   exact hk
  rename_i c2
  split at hk
  ·rename_i c3
   have P:k=4:=by split at hk<;>omega
   have A:=z Aa
   have e2:=a2 Aa
   have e3:=a3 Aa
   rw[if_neg Aa,if_neg Aa,if_pos Aa,A]
   exact hk
  ·omega
 refine⟨er,?_⟩
 have B:i'<len s':=by omega
 have D:=e8 (s.length-i.toNat) (s.getD i.toNat 0).toNat (s.getD (i.toNat+1) 0).toNat (s.getD (i.toNat+2) 0).toNat (s.getD (i.toNat+3) 0).toNat (by unfold len at*;omega) (UInt8.toNat_lt _) (UInt8.toNat_lt _) (UInt8.toNat_lt _) (UInt8.toNat_lt _)
 have e:=e8 (s'.length-i'.toNat) (s'.getD i'.toNat 0).toNat (s'.getD (i'.toNat+1) 0).toNat (s'.getD (i'.toNat+2) 0).toNat (s'.getD (i'.toNat+3) 0).toNat (by unfold len at*;omega) (UInt8.toNat_lt _) (UInt8.toNat_lt _) (UInt8.toNat_lt _) (UInt8.toNat_lt _)
 have r1:=e9 h0 hl
 have R:=e9 b B
 have q: ∀(t:A0) (x:Int),0<=x->AX t x=((Lib.decodeN (t.length-x.toNat) (t.getD x.toNat 0).toNat (t.getD (x.toNat+1) 0).toNat (t.getD (x.toNat+2) 0).toNat (t.getD (x.toNat+3) 0).toNat).1:Nat)/\runeLen t x=((Lib.decodeN (t.length-x.toNat) (t.getD x.toNat 0).toNat (t.getD (x.toNat+1) 0).toNat (t.getD (x.toNat+2) 0).toNat (t.getD (x.toNat+3) 0).toNat).2:Nat):=λ t x hx=>by
  unfold AX runeLen;rw[SB t x hx,XM t x hx];exact⟨rfl,rfl⟩
 obtain⟨E,F⟩:=q s i h0
 obtain⟨G,H⟩:=q s' i' b
 rw[E,F,G,H]
 have C: ∀(t:A0) (x:Int),0<=x->A4 t x=((t.getD x.toNat 0).toNat:Int):=λ t x hx=>rfl
 have l:=λ(t:A0) (x:Int) (hx:0<=x) (j:Nat)=>XL t x hx j
 rw[C s i h0,C s' i' b]at a0
 have J:A4 s (i+1)=_:=l s i h0 1
 have K:A4 s (i+2)=_:=l s i h0 2
 have L:A4 s (i+3)=_:=l s i h0 3
 have n:A4 s' (i'+1)=_:=l s' i' b 1
 have w:A4 s' (i'+2)=_:=l s' i' b 2
 have y:A4 s' (i'+3)=_:=l s' i' b 3
 rw[J,n]at z
 rw[K,w]at a2
 rw[L,y]at a3
 unfold dZ at D e
 generalize (s.getD i.toNat 0).toNat=x0 at*
 generalize (s.getD (i.toNat+1) 0).toNat=x1 at*
 generalize (s.getD (i.toNat+2) 0).toNat=x2 at*
 generalize (s.getD (i.toNat+3) 0).toNat=x3 at*
 generalize (s'.getD i'.toNat 0).toNat=y0 at*
 generalize (s'.getD (i'.toNat+1) 0).toNat=y1 at*
 generalize (s'.getD (i'.toNat+2) 0).toNat=y2 at*
 generalize (s'.getD (i'.toNat+3) 0).toNat=y3 at*
 generalize Q6 (s.length-i.toNat) x0 x1 x2 x3=k at*
 generalize Q6 (s'.length-i'.toNat) y0 y1 y2 y3=k' at*
 generalize Lib.decodeN (s.length-i.toNat) x0 x1 x2 x3=d at*
 generalize Lib.decodeN (s'.length-i'.toNat) y0 y1 y2 y3=d' at*
 obtain⟨d1,d2⟩:=d
 obtain⟨A,e2⟩:=d'
 clear E F G H q C l J K L n w y h
 dsimp only at*
 rcases D with D|D|D|D|D<;>rcases e with e|e|e|e|e<;>first|(exfalso;omega)|(constructor<;>omega)
theorem eU{s s':A0}(hl:6<=len s')(h: ∀j,0<=j->j<6->A4 s' j=A4 s j)(h0:0<=BZ s):BZ s'=BZ s:=by
 by_cases hs:len s<6\/ ¬A4 s 0=92\/ ¬A4 s (0+1)=117
 ·have:=oJ (s:=s) (i:=0) Aa Aa
  rw[OL]at this;omega
 ·have e:=Y5 (s:=s) (i:=0) Aa Aa Aa Aa
  have e2:=Y5 (s:=s') (i:=0) Aa Aa (by rw[h 0 Aa Aa];omega) (by rw[h (0+1) Aa Aa];omega)
  rw[OL]at e e2
  have e3:Eng.sub s' (0+2) (0+6)=Eng.sub s (0+2) (0+6):=AO3 (k:=4) Aa Aa Aa Aa Aa (λ j a b=>h _ Aa Aa)
  rw[e,e2,e3]
theorem oQ{s s':A0}(h0:(BW s).2≠0)(hl:(BW s).2<=len s')(h: ∀j,0<=j->j<(BW s).2->A4 s' j=A4 s j):BW s'=BW s:=by
 generalize hk:(BW s).2=k at*
 unfold BW at hk ⊢
 by_cases c1:len s<2
 ·rw[if_pos c1]at hk;exact absurd hk.symm h0
 rw[if_neg c1]at hk ⊢
 by_cases c2:L8 (A4 s 1)=true
 ·rw[if_pos c2]at hk ⊢
  have i:k=2:=hk.symm
  rw[if_neg Aa,h 1 Aa Aa,if_pos c2]
 rw[if_neg c2]at hk ⊢
 by_cases c3:BZ s<0\/(56320<=BZ s/\BZ s<57344)
 ·rw[if_pos c3]at hk;exact absurd hk.symm h0
 rw[if_neg c3]at hk ⊢
 by_cases c4:BZ s<55296\/57344<=BZ s
 ·rw[if_pos c4]at hk ⊢
  have i:k=6:=hk.symm
  have e:=eU (s:=s) (s':=s') Aa (λ j a b=>h j a Aa) Aa
  rw[if_neg Aa,h 1 Aa Aa,if_neg c2,e,if_neg c3,if_pos c4]
 rw[if_neg c4]at hk ⊢
 by_cases c5:BZ (A5 s 6)<56320\/57344<=BZ (A5 s 6)
 ·rw[if_pos c5]at hk;exact absurd hk.symm h0
 rw[if_neg c5]at hk ⊢
 have i:k=12:=hk.symm
 have e:=eU (s:=s) (s':=s') Aa (λ j a b=>h j a Aa) Aa
 have e2:=eU (s:=A5 s 6) (s':=A5 s' 6) (by rw[ED s' 6 Aa Aa];omega) (λ j a b=>by rw[OG _ _ _ Aa a,OG _ _ _ Aa a];exact h _ Aa Aa) Aa
 rw[if_neg Aa,h 1 Aa Aa,if_neg c2,e,if_neg c3,if_neg c4,e2,if_neg c5]
theorem eV{s s':A0}{n:Int}(l:n<=len s')(q: ∀j,0<=j->j<n->A4 s' j=A4 s j): ∀(f w:Nat) (i:Int) (acc:List Int) (x:A0),0<=i->i<=len s->DS f s i acc=(x,n,0)->(len s'-i).toNat<=w->DS w s' i acc=(x,n,0)
 |0,_,_,_,_,_,_,h,_=>by unfold DS at h;simp at h
 |f+1,w,i,acc,x,h0,hi,h,E=>by
  have z:=XX (f:=f+1) (s:=s) (i:=i) (acc:=acc) h0 hi
  rw[h]at z
  dsimp only at z
  have A:i<n:=z.2.2.1 U
  have hl:i<len s:=by omega
  have y:i<len s':=by omega
  rw[SA E y]
  unfold DS at h
  rw[if_pos hl]at h
  have B:A4 s' i=A4 s i:=q i h0 A
  rw[SC s i h0,Q7 s i h0]at h
  rw[SC s' i h0,Q7 s' i h0]
  have low: ∀c:Int,c<128->(AX s' i=c↔AX s i=c):=λ c C=>by rw[JM h0 hl C,JM h0 y C,B]
  by_cases c1:AX s i=34
  ·rw[if_pos c1]at h;rw[if_pos ((low 34 Aa).2 c1)];exact h
  rw[if_neg c1]at h
  rw[if_neg (λ e=>c1 ((low 34 Aa).1 e))]
  by_cases c2:AX s i=92
  ·rw[if_pos c2]at h;rw[if_pos ((low 92 Aa).2 c2)]
   by_cases c3:(BW (A5 s i)).2=0
   ·rw[if_pos c3]at h;simp at h
   rw[if_neg c3]at h
   have F:=ED s i h0 hi
   have D:=ED s' i h0 Aa
   have he:=XW (A5 s i)
   have k:=XX (f:=f) (s:=s) (i:=i+(BW (A5 s i)).2) (acc:=acc++Lib.encodeRuneZ (BW (A5 s i)).1) Aa Aa
   rw[h]at k
   dsimp only at k
   have:=k.2.2.1 U
   have e:BW (A5 s' i)=BW (A5 s i):=oQ c3 Aa (λ j a b=>by rw[OG _ _ _ h0 a,OG _ _ _ h0 a];exact q _ Aa Aa)
   rw[e,if_neg c3]
   exact eV l q f (w-1) _ _ x Aa Aa h Aa
  ·rw[if_neg c2]at h
   rw[if_neg (λ e=>c2 ((low 92 Aa).1 e))]
   by_cases c3:AX s i<32\/(AX s i=65533/\runeLen s i=1)
   ·rw[if_pos c3]at h;simp at h
   rw[if_neg c3]at h
   have J:=eB h0 hl
   have K:rune s i≠0:=λ e=>c3 (.inr ((Y4 h0 hl).1 e))
   have G:=M4 s i
   have H:runeLen s i=rune s i:=by rcases MJ h0 hl with d|d<;>omega
   have k:=XX (f:=f) (s:=s) (i:=i+runeLen s i) (acc:=acc++Lib.encodeRuneZ (AX s i)) Aa Aa
   rw[h]at k
   dsimp only at k
   have:=k.2.2.1 U
   obtain⟨_,e2,e3⟩:=Y9 (s:=s) (s':=s') (i:=i) (i':=i) h0 h0 Aa hl Aa (λ j a b=>q _ Aa Aa)
   rw[e2,e3,if_neg c3]
   exact eV l q f (w-1) _ _ x Aa Aa h Aa
theorem oR{u v v':A0}{x:A0}(h:B1 (u++v)=(x,len u,0)):B1 (u++v')=(x,len u,0):=by
 have i:=OH (u++v)
 rw[h]at i
 dsimp only at i
 have s:2<=len u:=i.2.2.1 U
 have l: ∀j,0<=j->j<len u->A4 (u++v') j=A4 (u++v) j:=λ j a b=>by rw[IE a b,IE a b]
 have y:=AN u v
 have q:=AN u v'
 have p1:=A6 v
 have p2:=A6 v'
 have k: ∀w:A0,¬u++w=[]:=λ w e=>by have:=congrArg len e;rw[AN,len_nil]at this;have:=A6 w;omega
 unfold B1 at h ⊢
 by_cases c:Lib.hasPrefix (u++v) [34]=true
 ·rw[if_pos c]at h
  rw[if_pos (MP.2 ⟨k v',by rw[l 0 Aa Aa];exact(MP.1 c).2⟩)]
  exact eV (n:=len u) Aa l _ _ 1 [] x Aa Aa h (by unfold len;omega)
 ·rw[if_neg c]at h;simp at h
def KR(c:Int):Bool:=O4 c||c==40||c==41||c==44||c==58||c==91||c==93||c==125
def Stop(v v':A0):Prop:=v'=[]\/(v'≠[]/\KR (A4 v' 0)=true)\/(v≠[]/\v'≠[]/\A4 v' 0=A4 v 0)
theorem LF{α:Type}{l:List α}:l≠[]↔0<len l:=⟨λ h=>GM h,λ h e=>by rw[e,len_nil]at h;omega⟩
theorem QE{s:A0}{n:Int}(l:n<=len s)(b: ∀j:Int,0<=j->j<n->CJ (A4 s j) (j==0)=true)(k:n<len s->CJ (A4 s n) (n==0)=false)(i:Int)(h0:0<=i)(hi:i<=n):CX s i=n:=by
 by_cases h:i<n
 ·rw[<-TR h0 Aa (b i h0 h)]
  exact QE l b k (i+1) Aa Aa
 ·have e:i=n:=by omega
  subst e
  by_cases hl:i<len s
  ·exact TU h0 hl (k hl)
  ·exact TV hl
termination_by (n-i).toNat
theorem YA{s:A0}: ∀(i:Int),0<=i->(∀j:Int,i<=j->j<CX s i->CJ (A4 s j) (j==0)=true)/\(i<=len s->CX s i<len s->CJ (A4 s (CX s i)) (CX s i==0)=false):=by
 intro i h0
 by_cases hlt:i<len s
 ·cases hw:CJ (A4 s i) (i==0)with
  |true=>
   have:=YA (s:=s) (i+1) Aa
   rw[TR h0 hlt hw]at this
   refine⟨λ j a b=>?_,λ a b=>this.2 Aa b⟩
   by_cases e:j=i
   ·subst e;exact hw
   ·exact this.1 j Aa b
  |false=>rw[TU h0 hlt hw];exact⟨λ j a b=>by omega,λ _ _=>hw⟩
 ·rw[TV hlt];exact⟨λ j a b=>by omega,λ a b=>by omega⟩
termination_by i=>(len s-i).toNat
theorem oS{c:Int}{f:Bool}(h:KR c=true):CJ c f=false:=by
 unfold KR O4 at h
 unfold CJ F7 C1
 simp only[Bool.or_eq_true,beq_iff_eq]at h
 rw[<-Bool.not_eq_true]
 simp only[Bool.or_eq_true,Bool.and_eq_true,decide_eq_true_eq,beq_iff_eq]
 omega
theorem eW{u v v':A0}(h:B8 (u++v)=u)(l:Stop v v'):B8 (u++v')=u:=by
 have hl:CX (u++v) 0=len u:=by rw[<-ML,h]
 have ho:=YA (s:=u++v) 0 Aa
 rw[hl]at ho
 have z:=AN u v
 have y:=AN u v'
 have p1:=A6 u
 have p2:=A6 v'
 have A:=MK (s:=u++v) (i:=0) Aa (A6 _)
 have e:CX (u++v') 0=len u:=by
  refine QE Aa (λ j a b=>?_) (λ a=>?_) 0 Aa Aa
  ·rw[IE a b,<-IE (v:=v) a b];exact ho.1 j a b
  ·have e0: ∀w:A0,A4 (u++w) (len u)=A4 w 0:=λ w=>by have:=Y8 (u:=u) (v:=w) (k:=0) Aa;rwa [Int.add_zero]at this
   rw[e0]
   rcases l with l|⟨_,l⟩|⟨n,_,q⟩
   ·subst l;rw[len_nil]at y;omega
   ·exact oS l
   ·rw[q,<-e0 v];exact ho.2 Aa (by have:=LF.1 n;omega)
 unfold B8;rw[e,V7]
theorem LG{s:A0}(h:F7 (A4 s 0)=false):B8 s=[]:=by
 have e:CX s 0=0:=by
  by_cases hl:0<len s
  ·exact TU Aa hl (by unfold CJ;rw[h];rfl)
  ·exact TV hl
 unfold B8;rw[e];rfl
theorem AO4{s:A0}(h0:0<len s)(h:F7 (A4 s 0)=true):B8 s≠[]:=by
 have e:=TR (s:=s) (i:=0) Aa h0 (by unfold CJ;rw[h];rfl)
 have b:=MK (s:=s) (i:=0+1) Aa Aa
 rw[LF,ML];omega
theorem oT{p:UInt8->Bool}{v v':A0}(e:v'=[]\/(∃b r,v'=b::r/\p b=false)): ∀ {u:A0},(u++v).takeWhile p=u->(u++v').takeWhile p=u
 |[],_=>by
  rcases e with rfl|⟨b,r,rfl,i⟩
  ·rfl
  ·simp[List.takeWhile_cons,i]
 |a::u,h=>by
  rw[List.cons_append,List.takeWhile_cons]at h ⊢
  split at h
  ·rename_i j
   rw[if_pos j,oT e (List.cons.inj h).2]
  ·cases h
theorem AO5{b:UInt8}(h:KR (b.toNat:Int)=true):IW b=false:=by
 cases hn:IW b with
 |false=>rfl
 |true=>
  rw[eR]at hn
  unfold KR O4 at h
  simp only[Bool.or_eq_true,beq_iff_eq]at h
  omega
theorem AO6{p:UInt8->Bool}(hp: ∀b:UInt8,KR (b.toNat:Int)=true->p b=false){v v':A0}(e:Stop v v')(h:v=[]\/ ∃b r,v=b::r/\p b=false):v'=[]\/ ∃b r,v'=b::r/\p b=false:=by
 cases v' with
 |nil=>exact .inl U
 |cons b r=>
  refine .inr ⟨b,r,rfl,?_⟩
  rcases e with e|⟨_,e⟩|⟨i,_,j⟩
  ·cases e
  ·exact hp b e
  ·rcases h with h|⟨c,q,h,k⟩
   ·exact absurd h i
   ·subst h
    have:b=c:=UInt8.toNat_inj.1 (by rw[G4,G4]at j;omega)
    rw[this];exact k
theorem oU{p:UInt8->Bool}{v:A0}: ∀ {u:A0},(u++v).takeWhile p=u->v=[]\/ ∃b r,v=b::r/\p b=false
 |[],h=>by
  cases v with
  |nil=>exact .inl U
  |cons b r=>
   refine .inr ⟨b,r,rfl,?_⟩
   rw[List.nil_append,List.takeWhile_cons]at h
   split at h
   ·cases h
   ·rename_i e;simpa using e
 |a::u,h=>by
  rw[List.cons_append,List.takeWhile_cons]at h
  split at h
  ·exact oU (List.cons.inj h).2
  ·cases h
theorem oV{u v v':A0}(h:runN (u++v)=u)(e:Stop v v'):runN (u++v')=u:=by
 rw[XO]at h ⊢
 exact oT (AO6 (λ b=>AO5) e (oU h)) h
def QF(b:UInt8):Bool:=([61,33,60,62,46,124,44,58,40,41,91,93,123,125,63]:A0).contains b
theorem QH{a:UInt8}{s:A0}(h:QF a=false):EU (a::s)=[]:=by
 have i: ∀m∈GG,Lib.hasPrefix (a::s) m=false:=by
  intro m hm
  cases hp:Lib.hasPrefix (a::s) m with
  |false=>rfl
  |true=>
   exfalso
   have j: ∀m∈GG,m≠[]/\QF (m.headD 0)=true:=by decide+kernel
   obtain⟨k,e⟩:=j m hm
   cases m with
   |nil=>exact k U
   |cons b r=>
   have e:QF b=true:=e
   have:=List.isPrefixOf_iff_prefix.1 hp
   rw[List.cons_prefix_cons]at this
   rw[<-this.1,e]at h;cases h
 unfold EU
 rw[List.find?_eq_none.2 (λ m hm=>by rw[i m hm];simp)]
 rfl
theorem AO7{u v v':A0}(hu:u≠[])(h:EU (u++v)=u)(i:Stop v v'):EU (u++v')=u:=by
  have hm:u∈GG:=by
                             rcases SD (u++v)with e|e
                             · exact absurd (h.symm.trans e) hu
                             · rw[h]at e;exact e.1
  have two: ∀m∈GG,(∃a,m=[a,61])\/ ∃a,m=[a]:=by
    have s: ∀m∈GG,m=[m.headD 0,61]\/m=[m.headD 0]:=by decide+kernel
    intro m hm
    rcases s m hm with e|e
    · exact .inl ⟨_,e⟩
    · exact .inr ⟨_,e⟩
  have one: ∀m∈GG,∀w:A0,w=[]\/A4 w 0≠61\/(∃a,m=[a,61])\/(m≠[60]/\m≠[62])->EU (m++w)=m:=by
    intro m hm w hw
    simp only[GG,List.mem_cons,List.not_mem_nil,or_false]at hm
    cases w with
    |nil=>rcases hm with rfl|rfl|rfl|rfl|rfl|rfl|rfl|rfl|rfl|rfl|rfl|rfl|rfl|rfl|rfl|rfl|rfl<;>rfl
    |cons b r=>
      have j:b=61\/ ¬(61:UInt8)=b:=by by_cases e:b=61;exact .inl e;exact .inr (λ x=>e x.symm)
      have k:A4 (b::r) 0≠61-> ¬(61:UInt8)=b:=λ x e=>x (by rw[<-e];rfl)
      rcases hm with rfl|rfl|rfl|rfl|rfl|rfl|rfl|rfl|rfl|rfl|rfl|rfl|rfl|rfl|rfl|rfl|rfl<;>
        first
          |rfl
          |(
             have l: ¬(61:UInt8)=b:=by
               rcases hw with hw|hw|⟨a,hw⟩|hw
               · cases hw
               · exact k hw
               · simp at hw
               · simp at hw
             simp[EU,GG,List.find?,Lib.hasPrefix,List.isPrefixOf,(beq_eq_false_iff_ne.2 l)])
          |(
             rcases j with rfl|l
             · rfl
             · simp[EU,GG,List.find?,Lib.hasPrefix,List.isPrefixOf,(beq_eq_false_iff_ne.2 l)])
  refine one u hm v' ?_
  rcases two u hm with e|⟨a,e⟩
  ·exact .inr (.inr (.inl e))
  ·rcases i with i|⟨_,i⟩|⟨n,_,q⟩
   ·exact .inl i
   ·refine .inr (.inl λ x=>?_);rw[x]at i;exact absurd i Ab
   ·by_cases e2:u≠[60]/\u≠[62]
    ·exact .inr (.inr (.inr e2))
    ·refine .inr (.inl λ x=>?_)
     rw[q]at x
     cases v with
     |nil=>exact n U
     |cons b r=>
          have j:b=61:=UInt8.toNat_inj.1 (by rw[G4]at x;exact Int.ofNat_inj.1 x)
          subst j
          have:u=[60]\/u=[62]:=by
            by_cases e3:u=[60]
            · exact .inl e3
            · exact .inr (Classical.byContradiction λ e4=>e2 ⟨e3,e4⟩)
          rcases this with rfl|rfl
          · exact absurd h (show ¬([60,61]:A0)=[60] by decide)
          · exact absurd h (show ¬([62,61]:A0)=[62] by decide)
theorem eX{a:UInt8}(h:F7 (a.toNat:Int)=true):QF a=false:=by
 have: ∀n:Fin 256,F7 (n.val:Int)=true->QF (UInt8.ofNat n.val)=false:=by decide+kernel
 have:=this ⟨a.toNat,a.toNat_lt⟩ h
 simpa using this
theorem oW{a:UInt8}(h:(a.toNat:Int)=45\/C1 (a.toNat:Int)=true):QF a=false/\F7 (a.toNat:Int)=false:=by
 have: ∀n:Fin 256,((n.val:Int)=45\/C1 (n.val:Int)=true)->QF (UInt8.ofNat n.val)=false/\F7 (n.val:Int)=false:=by decide+kernel
 have:=this ⟨a.toNat,a.toNat_lt⟩ h
 simpa using this
theorem eY{c:Int}(h:KR c=true):F7 c=false/\c≠34:=by
 unfold KR O4 at h
 simp only[Bool.or_eq_true,beq_iff_eq]at h
 unfold F7
 rw[<-Bool.not_eq_true]
 simp only[Bool.or_eq_true,Bool.and_eq_true,decide_eq_true_eq,beq_iff_eq]
 omega
theorem V8(a:UInt8)(l:A0):A5 (a::l) 1=l:=rfl
theorem eZ{u v v':A0}{t:Tk}(hu:u≠[])(h:C0 (u++v)=(t,len u,0))(i:Stop v v'):C0 (u++v')=(t,len u,0):=by
 cases u with
 |nil=>exact absurd U hu
 |cons a u=>
 have hp:=A6 u
 rw[AH]at h ⊢
 rw[List.cons_append]at h ⊢
 have j: ∀ {l m:A0},m≠[]->EU l=m-> ∃r,m++r=l:=λ{l m} hm e=>by
  rcases SD l with e2|e2
  ·exact absurd (e.symm.trans e2) hm
  ·rw[e]at e2;exact List.isPrefixOf_iff_prefix.1 e2.2
 have cut: ∀ {l x:A0},x++[]++(A5 l (len x))=l->True:=λ _=>trivial
 unfold C0 at h ⊢
 rw[G4,V8]at h ⊢
 by_cases c1:(a.toNat:Int)=46/\B8 (u++v)≠[]
 ·rw[if_pos c1]at h
  simp only[Prod.mk.injEq]at h
  obtain⟨h1,q,_⟩:=h
  have hl:len (B8 (u++v))=len u:=by omega
  have hw:B8 (u++v)=u:=by
   have:B8 (u++v)=Eng.sub (u++v) 0 (CX (u++v) 0):=rfl
   rw[this,<-ML,hl,V7]
  have w:=eW hw i
  rw[hw]at c1 h1
  rw[w,if_pos c1,h1,Int.add_comm]
 rw[if_neg c1]at h
 by_cases c2:(a.toNat:Int)=46/\Lib.hasPrefix (u++v) [34]=true
 ·rw[if_pos c2]at h
  simp only[Prod.mk.injEq]at h
  obtain⟨h1,q,K⟩:=h
  have L:B1 (u++v)=((B1 (u++v)).1,len u,0):=by
   rw[show(B1 (u++v))=((B1 (u++v)).1,(B1 (u++v)).2.1,(B1 (u++v)).2.2)from rfl,K,show(B1 (u++v)).2.1=len u from by omega]
  have y:=oR (v':=v') L
  have O:=OH (u++v)
  rw[K,show(B1 (u++v)).2.1=len u from by omega]at O
  have P:=O.2.2.1 U
  have k:=(MP.1 c2.2).2
  rw[IE Aa Aa]at k
  have z:A4 (u++v') 0=34:=by rw[IE Aa Aa];exact k
  have B:B8 (u++v')=[]:=LG (by rw[z];rfl)
  rw[if_neg (λ x=>x.2 B),if_pos ⟨c2.1,MP.2 ⟨λ e=>by have:=congrArg len e;rw[AN,len_nil]at this;have:=A6 v';omega,z⟩⟩,y,<-h1]
  simp only[Prod.mk.injEq,true_and,and_true]
  omega
 rw[if_neg c2]at h
 by_cases c3:EU (a::(u++v))≠[]
 ·rw[if_pos c3]at h
  simp only[Prod.mk.injEq]at h
  obtain⟨h1,q,_⟩:=h
  obtain⟨r,A⟩:=j c3 rfl
  have hm:EU ((a::u)++v)=a::u:=by
   rw[List.cons_append]
   have hl:(EU (a::(u++v))).length=(a::u).length:=by rw[List.length_cons];unfold len at q;omega
   rw[<-List.cons_append]at A
   exact(List.append_inj A hl).1
  have G:=AO7 (by simp) hm i
  rw[List.cons_append]at hm G
  have Q: ¬((a.toNat:Int)=46/\B8 (u++v')≠[]):=by
   rintro⟨H,hw⟩
   have C:u=[]:=by
    have D:a::u∈GG:=by
     rcases SD (a::(u++v))with e|e
     ·exact absurd e c3
     ·rw[hm]at e;exact e.1
    have: ∀m∈GG,A4 m 0=46->A5 m 1=[]:=by decide+kernel
    exact this _ D H
   subst C
   rw[List.nil_append]at hw c1
   have M:B8 v=[]:=Classical.byContradiction λ e=>c1 ⟨H,e⟩
   apply hw
   rcases i with i|⟨_,i⟩|⟨E,_,F⟩
   ·rw[i];exact LG U
   ·exact LG (eY i).1
   ·refine LG ?_
    rw[F]
    cases hh:F7 (A4 v 0)with
    |false=>rfl
    |true=>exact absurd M (AO4 (LF.1 E) hh)
  have R: ¬((a.toNat:Int)=46/\Lib.hasPrefix (u++v') [34]=true):=by
   rintro⟨H,hw⟩
   have C:u=[]:=by
    have D:a::u∈GG:=by
     rcases SD (a::(u++v))with e|e
     ·exact absurd e c3
     ·rw[hm]at e;exact e.1
    have: ∀m∈GG,A4 m 0=46->A5 m 1=[]:=by decide+kernel
    exact this _ D H
   subst C
   rw[List.nil_append]at hw c2
   have k:=MP.1 hw
   rcases i with i|⟨_,i⟩|⟨E,_,F⟩
   ·exact k.1 i
   ·exact(eY i).2 k.2
   ·exact c2 ⟨H,MP.2 ⟨E,by rw[<-F];exact k.2⟩⟩
  rw[if_neg Q,if_neg R,G,if_pos (by simp),<-h1,hm,AH]
 rw[if_neg c3]at h
 have S:EU (a::(u++v))=[]:=Classical.byContradiction c3
 by_cases c4:B8 (a::(u++v))≠[]
 ·rw[if_pos c4]at h
  simp only[Prod.mk.injEq]at h
  obtain⟨h1,q,_⟩:=h
  have hw:B8 ((a::u)++v)=a::u:=by
   have:B8 ((a::u)++v)=Eng.sub ((a::u)++v) 0 (CX ((a::u)++v) 0):=rfl
   rw[this,<-ML,List.cons_append,q,<-AH a,<-List.cons_append,V7]
  have w:=eW hw i
  rw[List.cons_append]at hw w
  have n:F7 (a.toNat:Int)=true:=by
   cases hh:F7 (a.toNat:Int)with
   |true=>rfl
   |false=>exact absurd (LG (s:=a::(u++v)) hh) c4
  have b: ¬(a.toNat:Int)=46:=λ e=>by rw[e]at n;cases n
  rw[if_neg (λ x=>b x.1),if_neg (λ x=>b x.1),QH (eX n),if_neg (λ x=>x U),w,if_pos (by simp),<-h1,hw,AH]
 rw[if_neg c4]at h
 have T:B8 (a::(u++v))=[]:=Classical.byContradiction c4
 by_cases c5:(a.toNat:Int)=34
 ·rw[if_pos c5]at h
  simp only[Prod.mk.injEq]at h
  obtain⟨h1,q,K⟩:=h
  have V:a=34:=UInt8.toNat_inj.1 (by show a.toNat=34;omega)
  subst V
  have L:B1 ((34::u)++v)=((B1 (34::(u++v))).1,len ((34:UInt8)::u),0):=by
   rw[List.cons_append,show(B1 (34::(u++v)))=((B1 (34::(u++v))).1,(B1 (34::(u++v))).2.1,(B1 (34::(u++v))).2.2)from rfl,K,q,AH]
  have y:=oR (v':=v') L
  rw[List.cons_append]at y
  have B:B8 (34::(u++v'))=[]:=LG U
  have N:EU (34::(u++v'))=[]:=QH U
  rw[if_neg (λ x=>absurd x.1 Ab),if_neg (λ x=>absurd x.1 Ab),N,if_neg (λ x=>x U),B,if_neg (λ x=>x U),if_pos c5,y,<-h1,AH]
 rw[if_neg c5]at h
 by_cases c6:(a.toNat:Int)=45\/C1 (a.toNat:Int)=true
 ·rw[if_pos c6]at h
  by_cases c7:(GI (runN (a::(u++v)))).2.2≠0
  ·rw[if_pos c7]at h
   simp only[Prod.mk.injEq]at h
   exact absurd h.2.2 c7
  ·rw[if_neg c7]at h
   simp only[Prod.mk.injEq]at h
   obtain⟨h1,q,_⟩:=h
   have A:runN ((a::u)++v)=a::u:=by
    have j:=List.takeWhile_prefix IW (l:=(a::u)++v)
    rw[<-XO]at j
    obtain⟨r,A⟩:=j
    have hl:(runN ((a::u)++v)).length=(a::u).length:=by rw[List.length_cons,List.cons_append];unfold len at q;omega
    exact(List.append_inj A hl).1
   have J:=oV A i
   rw[List.cons_append]at A J
   obtain⟨g1,g2⟩:=oW c6
   have b: ¬(a.toNat:Int)=46:=λ e=>by rw[e]at c6;revert c6;decide
   rw[A]at c7 h1
   rw[if_neg (λ x=>b x.1),if_neg (λ x=>b x.1),QH g1,if_neg (λ x=>x U),LG (s:=a::(u++v')) g2,if_neg (λ x=>x U),if_neg c5,if_pos c6,J,if_neg c7,<-h1,AH]
 ·rw[if_neg c6]at h
  simp only[Prod.mk.injEq]at h
  exact absurd h.2.2 Ab
def D8(x:Nat):Bool:=C1 (x:Int)
theorem YB(x:Nat):D8 x=true↔48<=x/\x<=57:=by unfold D8 C1;simp;omega
theorem AO8(x:Nat):D8 x=false↔ ¬(48<=x/\x<=57):=by rw[<-YB];simp
theorem oX{s:A0}{i:Nat}(h:i<s.length)(b:D8 (s[i]).toNat=true):Utf8.decode ⟨⟨s⟩⟩ i=((s[i]).toNat,1):=by
 have:=decode_ascii ⟨⟨s⟩⟩ i h (by have:=(YB _).1 b;show(s[i]).toNat<128;omega)
 exact this
theorem AO9{s:A0}{i:Nat}(h:i<s.length)(b:D8 (s[i]).toNat=false):D8 (Utf8.decode ⟨⟨s⟩⟩ i).1=false:=by
 rcases Nat.lt_or_ge (s[i]).toNat 128 with hl|hl
 ·have:=decode_ascii ⟨⟨s⟩⟩ i h hl
  rw[this];exact b
 ·have:=decode_high ⟨⟨s⟩⟩ i h hl
  rw[AO8];omega
theorem oY(s:A0): ∀(f pos:Nat),s.length<=pos+f->(∀(j:Nat) (h:j<s.length),pos<=j->D8 (s[j]).toNat=true)->Lib.idxFuncFrom D8 false ⟨⟨s⟩⟩ f pos= -1
 |0,_,_,_=>rfl
 |f+1,pos,hl,b=>by
  unfold Lib.idxFuncFrom
  by_cases h:pos<s.length
  ·rw[if_pos (show pos<(ByteArray.mk ⟨s⟩).size from h),oX h (b pos h (Nat.le_refl _)),if_neg (by rw[b pos h (Nat.le_refl _)];simp)]
   exact oY s f (pos+1) Aa (λ j e hp=>b j e Aa)
  ·rw[if_neg (show ¬pos<(ByteArray.mk ⟨s⟩).size from h)]
theorem oZ(s:A0): ∀(f pos:Nat),s.length<=pos+f->(∃(j:Nat) (h:j<s.length),pos<=j/\D8 (s[j]).toNat=false)-> ∃(i:Nat) (h:i<s.length),Lib.idxFuncFrom D8 false ⟨⟨s⟩⟩ f pos=(i:Int)/\D8 (s[i]).toNat=false
 |0,pos,hl,⟨j,k,hp,_⟩=>by omega
 |f+1,pos,hl,⟨j,k,hp,b⟩=>by
  unfold Lib.idxFuncFrom
  have h:pos<s.length:=by omega
  rw[if_pos (show pos<(ByteArray.mk ⟨s⟩).size from h)]
  cases hf:D8 (s[pos]).toNat with
  |true=>
   rw[oX h hf,if_neg (by rw[hf];simp)]
   have l:pos≠j:=by intro e;subst e;rw[hf]at b;cases b
   exact oZ s f (pos+1) Aa ⟨j,k,Aa,b⟩
  |false=>
   rw[if_pos (AO9 h hf)]
   exact⟨pos,h,rfl,hf⟩
theorem p9(t:A0)(h0: ∃h:0<t.length,D8 (t[0]).toNat=false): ∀(f i:Nat),0<i->i<=t.length->i<=f->0<=Lib.lastIdxFuncFrom D8 false ⟨⟨t⟩⟩ f i
 |0,i,hi,_,y=>by omega
 |f+1,i,hi,hl,y=>by
  obtain⟨z,w⟩:=h0
  unfold Lib.lastIdxFuncFrom
  rw[if_pos hi]
  show 0<=if D8 (Lib.decodeLastL (t.take i)).1=false then _ else _
  split
  ·omega
  ·rename_i hp
   have j:D8 (Lib.decodeLastL (t.take i)).1=true:=by simpa using hp
   have k:=(YB _).1 j
   have hlen:(t.take i).length=i:=by rw[List.length_take];omega
   have hw:Lib.decodeLastL (t.take i)=((t[i-1]'Aa).toNat,1):=by
    have s: ¬t.take i=[]:=by intro e;rw[e]at hlen;simp at hlen;omega
    have hg:(t.take i).getD ((t.take i).length-1) 0=t[i-1]'Aa:=by
     rw[hlen,List.getD_eq_getElem?_getD,List.getElem?_take,if_pos Aa]
     simp[show i-1<t.length from by omega]
    unfold Lib.decodeLastL at k ⊢
    rw[if_neg s,hg]at k ⊢
    by_cases hc:(t[i-1]'Aa).toNat<128
    ·rw[if_pos hc]
    ·exfalso
     rw[if_neg hc]at k
     dsimp only at k
     split at k
     ·rename_i l
      have A:Lib.lastStart (t.take i)<(t.take i).length:=by
       rcases Nat.lt_or_ge (Lib.lastStart (t.take i)) (t.take i).length with h|h
       ·exact h
       ·exfalso
        have e0:(t.take i).drop (Lib.lastStart (t.take i))=[]:=by rw[List.drop_eq_nil_iff];exact h
        rw[e0]at k
        have:(Lib.decodeL []).1=0:=by decide
        omega
      have hd:Utf8.decode ⟨⟨(t.take i).drop (Lib.lastStart (t.take i))⟩⟩ 0=Lib.decodeL ((t.take i).drop (Lib.lastStart (t.take i))):=rfl
      have n:0<((t.take i).drop (Lib.lastStart (t.take i))).length:=by rw[List.length_drop];omega
      have b:(((t.take i).drop (Lib.lastStart (t.take i)))[0]).toNat<128:=by
       rcases Nat.lt_or_ge (((t.take i).drop (Lib.lastStart (t.take i)))[0]).toNat 128 with h|h
       ·exact h
       ·have:=decode_high ⟨⟨(t.take i).drop (Lib.lastStart (t.take i))⟩⟩ 0 n h
        rw[hd]at this;omega
      have q:=decode_ascii ⟨⟨(t.take i).drop (Lib.lastStart (t.take i))⟩⟩ 0 n b
      rw[hd]at q
      rw[q]at l
      have B:Lib.lastStart (t.take i)=i-1:=by rw[hlen]at l;simp only at l;omega
      apply hc
      have e2:((t.take i).drop (Lib.lastStart (t.take i)))[0]=t[i-1]'Aa:=by
       rw[List.getElem_drop,List.getElem_take];first|done|congr 1|(congr 1;omega)
      rw[<-e2];exact b
     ·have:Utf8.runeError=65533:=rfl
      simp only[this]at k;omega
   rw[hw]
   by_cases hi1:i=1
   ·exfalso
    subst hi1
    rw[hw]at j
    have:D8 (t[0]).toNat=true:=j
    rw[w]at this;cases this
   ·exact p9 t ⟨z,w⟩ f (i-1) Aa Aa Aa
theorem YC{s:A0}:JB s=true↔ ∀(j:Nat) (h:j<s.length),D8 (s[j]).toNat=true:=by
 have key: ∀(k:Nat) (i:Int),0<=i->(len s-i).toNat<=k->(L4 s i=true↔ ∀(j:Nat) (h:j<s.length),i<=(j:Int)->D8 (s[j]).toNat=true):=by
  intro k
  induction k with
  |zero=>
   intro i h0 n
   rw[bJ s i Aa]
   exact⟨λ _ j h b=>by unfold len at n;omega,λ _=>rfl⟩
  |succ k q=>
   intro i h0 n
   by_cases hlt:i<len s
   ·obtain⟨w,he⟩:=zR h0 hlt
    by_cases hf:C1 (A4 s i)=true
    ·rw[<-kQ s i h0 hlt hf,q (i+1) Aa Aa]
     constructor
     ·intro h j b l
      by_cases e:(j:Int)=i
      ·have y:j=i.toNat:=by omega
       subst y
       unfold D8;rw[<-he];exact hf
      ·exact h j b Aa
     ·intro h j b l;exact h j b Aa
    ·rw[kR s i h0 hlt hf]
     constructor
     ·intro h;cases h
     ·intro h
      have:=h i.toNat w Aa
      unfold D8 at this
      rw[<-he]at this
      exact absurd this hf
   ·rw[bJ s i hlt]
    exact⟨λ _ j h b=>by unfold len at hlt;omega,λ _=>rfl⟩
 have:=key (len s-0).toNat 0 (Int.le_refl 0) (Nat.le_refl _)
 unfold JB
 rw[this]
 exact⟨λ h j b=>h j b Aa,λ h j b _=>h j b⟩
theorem YD(l:A0)(i j:Nat):(ByteArray.mk ⟨l⟩).extract i j=ByteArray.mk ⟨(l.drop i).take (j-i)⟩:=by
 have:=ByteArray.extract_mk l i j
 rw[this]
theorem AP0(s:A0):((Lib.trimF D8 ⟨⟨s⟩⟩).data.toList==[])=JB s:=by
 rw[Bool.eq_iff_iff,beq_iff_eq]
 have w:(ByteArray.mk ⟨s⟩).size=s.length:=rfl
 by_cases ha: ∀(j:Nat) (h:j<s.length),D8 (s[j]).toNat=true
 ·refine⟨λ _=>YC.2 ha,λ _=>?_⟩
  have hi:Lib.idxFunc D8 false ⟨⟨s⟩⟩= -1:=oY s s.length 0 Aa (λ j h _=>ha j h)
  unfold Lib.trimF Lib.trimLeftF
  rw[if_pos hi]
  unfold Lib.trimRightF
  rw[YD []];simp
 ·have hex: ∃(j:Nat) (h:j<s.length),0<=j/\D8 (s[j]).toNat=false:=by
   apply Classical.byContradiction
   intro A
   apply ha
   intro j h
   cases hf:D8 (s[j]).toNat with
   |true=>rfl
   |false=>exact absurd ⟨j,h,Nat.zero_le _,hf⟩ A
  obtain⟨i,hi,he,B⟩:=oZ s s.length 0 Aa hex
  refine⟨λ h=>?_,λ h=>absurd (YC.1 h) ha⟩
  exfalso
  have y:Lib.idxFunc D8 false ⟨⟨s⟩⟩=(i:Int):=he
  have C:Lib.trimLeftF D8 ⟨⟨s⟩⟩=⟨⟨s.drop i⟩⟩:=by
   unfold Lib.trimLeftF
   rw[y,if_neg Aa,w,Int.toNat_natCast,YD,List.take_of_length_le (by rw[List.length_drop];omega)]
  unfold Lib.trimF at h
  rw[C]at h
  have b:0<(s.drop i).length:=by rw[List.length_drop];omega
  have h0: ∃h:0<(s.drop i).length,D8 ((s.drop i)[0]).toNat=false:=⟨b,by rw[List.getElem_drop];exact B⟩
  have k:0<=Lib.lastIdxFunc D8 false ⟨⟨s.drop i⟩⟩:=p9 (s.drop i) h0 (s.drop i).length (s.drop i).length b (Nat.le_refl _) (Nat.le_refl _)
  have z:1<=Lib.rightEndF D8 ⟨⟨s.drop i⟩⟩:=by
   unfold Lib.rightEndF
   rw[if_pos k]
   by_cases hz:(Lib.lastIdxFunc D8 false ⟨⟨s.drop i⟩⟩).toNat=0
   ·rw[hz]
    have e:(ByteArray.mk ⟨s.drop i⟩).extract 0 (ByteArray.mk ⟨s.drop i⟩).size=⟨⟨s.drop i⟩⟩:=by
     rw[YD]
     have:List.take ((s.drop i).length-0) (List.drop 0 (s.drop i))=s.drop i:=by rw[List.drop_zero,Nat.sub_zero,List.take_length]
     exact congrArg (λ l=>(⟨⟨l⟩⟩:ByteArray)) this
    rw[e]
    unfold Lib.decodeGoB
    have n:(ByteArray.mk ⟨s.drop i⟩).size=(s.drop i).length:=rfl
    rw[if_neg (by rw[n];omega)]
    have:=Lib.decode_width_pos ⟨⟨s.drop i⟩⟩ 0 (by rw[n];exact b)
    omega
   ·omega
  unfold Lib.trimRightF at h
  rw[YD]at h
  have q:(List.take (Lib.rightEndF D8 ⟨⟨s.drop i⟩⟩-0) (List.drop 0 (s.drop i)))=[]:=h
  rw[List.drop_zero,Nat.sub_zero,List.take_eq_nil_iff]at q
  rcases q with q|q
  ·omega
  ·rw[q]at b;simp at b
def CH(l:A0):Prop:= ∀b∈l,CP b=true
theorem V9{s:A0}:JB s=true↔CH s:=by
 rw[YC]
 constructor
 ·intro h b k
  obtain⟨j,i,e⟩:=List.getElem_of_mem k
  have:=h j i
  rw[e]at this;exact this
 ·intro h j i;exact h _ (List.getElem_mem i)
theorem CH.app {a b:A0}(h:CH a)(k:CH b):CH (a++b):=λ x hx=>by
 rcases List.mem_append.1 hx with hx|hx
 ·exact h x hx
 ·exact k x hx
theorem pA{k:Int}: ∀b∈B7 k,b=48:=λ b e=>(List.mem_replicate.1 e).2
theorem CH.B7 (k:Int):CH (B7 k):=λ b e=>by rw[pA b e];rfl
def pB(r:A0):Prop:=r=[]\/ ∃b q,r=b::q/\CP b=false
theorem fA{s g r:A0}{i:Int}(h:A5 s i=g++r)(hg:CH g)(e:pB r):AV s i=i+len g:=by
 have:(g++r).takeWhile CP=g:=by
  rw[List.takeWhile_append_of_pos hg]
  rcases e with rfl|⟨b,q,rfl,j⟩
  ·simp
  ·rw[List.takeWhile_cons,j];simp
 unfold AV;rw[h,this]
theorem fB{s g r:A0}{i:Int}(h0:0<=i)(h:A5 s i=g++r):Eng.sub s i (i+len g)=g:=by
 rw[<-Y7 s i (len g) h0 (A6 _),h,V7]
theorem fC{s g r:A0}{i:Int}(h0:0<=i)(h:A5 s i=g++r):A5 s (i+len g)=r:=by
 rw[<-KO s i (len g) h0 (A6 _),h,QD]
theorem YE{s g:A0}{i:Int}(h0:0<=i)(h:A5 s i=g)(hg:g≠[]):len s=i+len g:=by
 have hp:=LF.1 hg
 have:=XU s i h0
 rw[h]at this
 split at this<;>omega
theorem YF{s q:A0}{b:UInt8}{i:Int}(h0:0<=i)(h:A5 s i=b::q):i<len s/\A4 s i=(b.toNat:Int):=by
 have hl:=YE h0 h (by simp)
 rw[AH]at hl
 have e:=A6 q
 refine⟨Aa,?_⟩
 have:=OG s i 0 h0 (Int.le_refl 0)
 rw[h,Int.add_zero]at this
 rw[<-this];rfl
theorem fD{s q:A0}{b:UInt8}{i:Int}(h0:0<=i)(h:A5 s i=b::q):D6 s [b] i=true/\BJ s [b] i=i+1:=by
 have:=YF h0 h
 have e:D6 s [b] i=true:=SI.2 this
 exact⟨e,S8 e⟩
theorem YG{s q:A0}{b c:UInt8}{i:Int}(h0:0<=i)(h:A5 s i=b::q)(j:b≠c):D6 s [c] i=false/\BJ s [c] i=i:=by
 have k:=YF h0 h
 have e:D6 s [c] i=false:=by
  cases hh:D6 s [c] i with
  |false=>rfl
  |true=>exact absurd (UInt8.toNat_inj.1 (by have:=(SI.1 hh).2;omega)) j
 exact⟨e,S9 e⟩
theorem pC{s:A0}{c:A0}{i:Int}(h:len s<=i):D6 s c i=false/\BJ s c i=i:=by
 have e:D6 s c i=false:=by
  cases hh:D6 s c i with
  |false=>rfl
  |true=>have:=nG hh;omega
 exact⟨e,S9 e⟩
def H7(neg:Bool):A0:=if neg then [45]else []
theorem pD{b:UInt8}(h:CP b=true):b≠45/\b≠43/\b≠46/\b≠101/\b≠69:=by
 refine⟨?_,?_,?_,?_,?_⟩<;>(intro e;subst e;revert h;decide)
theorem fE{s w r:A0}{neg:Bool}(h:s=H7 neg++(w++r))(hw:CH w)(n:w≠[])(z:pB r)(A: ¬(1<len w/\A4 w 0=48)):
  ∃e,0<=e/\A5 s e=r/\GI s=if D6 s [46] e then
   if Eng.sub s (BJ s [46] e) (AV s (BJ s [46] e))=[]then(B6,AV s (BJ s [46] e),1)
   else IV s neg (w++Eng.sub s (BJ s [46] e) (AV s (BJ s [46] e))) (-(len (Eng.sub s (BJ s [46] e) (AV s (BJ s [46] e))))) (AV s (BJ s [46] e))
  else IV s neg w 0 (BJ s [46] e):=by
 have y:D6 s [45] 0=neg/\BJ s [45] 0=len (H7 neg):=by
  cases neg with
  |true=>exact fD (q:=w++r) (Int.le_refl 0) (by rw[h];rfl)
  |false=>
   cases w with
   |nil=>exact absurd U n
   |cons b w=>exact YG (q:=w++r) (Int.le_refl 0) (by rw[h];rfl) (pD (hw b (by simp))).1
 have i:=A6 (H7 neg)
 have l:A5 s (len (H7 neg))=w++r:=by rw[h,QD]
 have j:=fA l hw z
 have k:=fB i l
 refine⟨len (H7 neg)+len w,by have:=A6 w;omega,fC i l,?_⟩
 rw[oD y.2,j,k,if_neg A,if_neg n,y.1]
theorem pE{s e:A0}{neg:Bool}{x b:Int}(h:len s<=b):IV s neg e x b=JI neg e x [] 1:=by
 obtain⟨i,e2⟩:=pC (c:=[101,69]) h
 unfold IV;rw[i,e2,if_neg (by simp),if_neg Aa]
theorem AP1{s w:A0}{neg:Bool}(h:s=H7 neg++w)(hw:CH w)(i:w≠[])(j: ¬(1<len w/\A4 w 0=48)):GI s=JI neg w 0 [] 1:=by
 obtain⟨b,h0,h1,k⟩:=fE (neg:=neg) (w:=w) (r:=[]) (by simpa using h) hw i (.inl rfl) j
 have e:len s<=b:=by
  have:=XU s b h0
  rw[h1,len_nil]at this
  split at this<;>omega
 obtain⟨l,e2⟩:=pC (c:=[46]) e
 rw[k,l,e2,if_neg (by simp),pE e]
theorem AP2{s w p:A0}{neg:Bool}(h:s=H7 neg++(w++46::p))(hw:CH w)(l:w≠[])(n: ¬(1<len w/\A4 w 0=48))(hp:CH p)(j:p≠[]):GI s=JI neg (w++p) (-(len p)) [] 1:=by
 obtain⟨b,h0,h1,q⟩:=fE h hw l (.inr ⟨46,p,rfl,Ab⟩) n
 obtain⟨y,e2⟩:=fD h0 h1
 have k:A5 s (b+1)=p++[]:=by rw[<-KO s b 1 h0 Aa,h1];simp[A5]
 have e:=fA k hp (.inl U)
 have i:=fB Aa k
 have hl:=YE h0 h1 (by simp)
 rw[AH]at hl
 rw[q,y,e2,if_pos U,e,i,if_neg j,pE Aa]
theorem AP3{s w p:A0}{neg neg2:Bool}(h:s=H7 neg++(w++101::(H7 neg2++p)))(hw:CH w)(A:w≠[])(B: ¬(1<len w/\A4 w 0=48))(hp:CH p)(e:p≠[]):GI s=JI neg w 0 p (if neg2 then-1 else 1):=by
 obtain⟨b,h0,h1,C⟩:=fE h hw A (.inr ⟨101,_,rfl,Ab⟩) B
 obtain⟨D,e2⟩:=YG (c:=46) h0 h1 Ab
 have k:=YF h0 h1
 have e3:D6 s [101,69] b=true:=oB.2 ⟨k.1,.inl k.2⟩
 have z:A5 s (b+1)=H7 neg2++p:=by rw[<-KO s b 1 h0 Aa,h1];rfl
 have l:D6 s [45] (b+1)=neg2/\(if neg2 then BJ s [45] (b+1)else BJ s [43] (BJ s [45] (b+1)))=b+1+len (H7 neg2):=by
  cases neg2 with
  |true=>exact fD (q:=p) Aa z
  |false=>
   cases p with
   |nil=>exact absurd U e
   |cons c p=>
    have l:=pD (hp c (by simp))
    obtain⟨g1,g2⟩:=YG (c:=45) (i:=b+1) Aa z l.1
    obtain⟨g3,g4⟩:=YG (c:=43) (i:=b+1) Aa z l.2.1
    refine⟨g1,?_⟩
    rw[if_neg (by simp),g2,g4]
    show b+1=b+1+0
    omega
 have hg:=A6 (H7 neg2)
 have j:A5 s (b+1+len (H7 neg2))=p++[]:=by rw[List.append_nil];exact fC Aa z
 have n:=fA j hp (.inl U)
 have y:=fB Aa j
 have hl:=YE Aa j (by simpa using e)
 rw[List.append_nil]at hl
 rw[C,D,e2,if_neg (by simp)]
 unfold IV
 rw[e3,if_pos U,S8 e3]
 unfold XJ
 dsimp only
 rw[l.1,l.2,n,y,if_neg (by rw[not_or];exact⟨e,Aa⟩)]
theorem fF{s:A0}(h:A4 s 0≠48):AS s=s:=nQ (λ x=>h x.2)
theorem AP4{s:A0}(h:A4 s 0≠48)(k:Int):AS (B7 k++s)=s:=by
 have: ∀n:Nat,AS (List.replicate n 48++s)=s:=by
  intro n
  induction n with
  |zero=>exact fF h
  |succ n b=>rw[List.replicate_succ,List.cons_append,AK3 Ab,b]
 exact this k.toNat
theorem AP5{s:A0}(n:s≠[])(h:A4 s (len s-1)≠48)(k:Int):BC (s++B7 k)=s:=by
 have:=Lib.trimRightS_take (s++B7 k) [48] s.length (by simp) (λ j b l i=>by
  rw[List.getElem?_append_right l]at i
  rw[pA b (List.mem_of_getElem? i)];rfl) (λ b h0 i=>by
  rw[List.getElem?_append_left Aa]at i
  have e:A4 s (len s-1)=(b.toNat:Int):=by
   unfold A4 len
   rw[show((s.length:Int)-1).toNat=s.length-1 from by omega,List.getD_eq_getElem?_getD,i];rfl
  cases hc:([48]:A0).contains b with
  |false=>rfl
  |true=>rw[Q5]at hc;omega)
 unfold BC;rw[this];simp
theorem fG{b s:A0}{neg:Bool}{e0 e k:Int}(l:CH b)(hd:AS b=s++B7 k)(n:0<=k)(h:s≠[])(hl:A4 s (len s-1)≠48)(he:e0+k=e)(h1:len s<=100)(y: -1000<=e)(z:len s+e<=1000)(q:k<=2000):
  CL neg b e0=(⟨3,0,[],s,neg,e⟩,0):=by
 have hp:=LF.1 h
 have i:=OD k n
 have j:len (AS b)=len s+k:=by rw[hd,AN,i]
 have w:BC (AS b)=s:=by rw[hd,AP5 h hl]
 unfold CL
 rw[if_pos (V9.2 l),w,j,if_neg (by rw[hd];simp[h])]
 rw[if_neg (by simp only[Bool.or_eq_true,decide_eq_true_eq];omega),if_neg (by simp only[Bool.or_eq_true,decide_eq_true_eq];omega)]
 rw[show e0+(len s+k-len s)=e from by omega]
theorem pF{n:Nd}(h:JC n=true):n=⟨3,0,[],n.s,n.neg,n.e⟩/\CH n.s/\len n.s<=100/\ -1000<=n.e/\n.e<=1000/\len n.s+n.e<=1000/\((n.s=[]/\n.neg=false/\n.e=0)\/(n.s≠[]/\A4 n.s 0≠48/\A4 n.s (len n.s-1)≠48)):=by
 obtain⟨kind,many,name,s,neg,e⟩:=n
 unfold JC at h
 dsimp only at h ⊢
 split at h
 ·cases h
 rename_i i
 simp only[Bool.or_eq_true,decide_eq_true_eq,bne_iff_ne,Bool.not_eq_true',beq_eq_false_iff_ne,not_or,ne_eq,Classical.not_not]at i
 obtain⟨⟨⟨⟨⟨⟨⟨j,c2⟩,c3⟩,c4⟩,c5⟩,k⟩,l⟩,q⟩:=i
 subst j;subst c2;subst c3
 refine⟨rfl,V9.1 (by simpa using c4),Aa,Aa,Aa,Aa,?_⟩
 split at h
 ·rename_i b
  simp only[Bool.and_eq_true,Bool.not_eq_true',beq_iff_eq]at h b
  exact .inl ⟨b,h.1,h.2⟩
 ·rename_i b
  simp only[Bool.and_eq_true,bne_iff_ne,beq_iff_eq]at h b
  exact .inr ⟨b,h.1,h.2⟩
theorem AP6: ∀n:Fin 2001,(Lib.itoa ((n.val:Int)-1000)==H7 (decide ((n.val:Int)-1000<0))++Lib.decDigits ((n.val:Int)-1000).natAbs)=true/\
 (Lib.decDigits ((n.val:Int)-1000).natAbs).all CP=true/\Lib.decDigits ((n.val:Int)-1000).natAbs≠[]/\len (AS (Lib.decDigits ((n.val:Int)-1000).natAbs))<=6/\
 CK (AS (Lib.decDigits ((n.val:Int)-1000).natAbs))=(((n.val:Int)-1000).natAbs:Int):=by decide+kernel
theorem AP7{e:Int}(h0: -1000<=e)(h1:e<=1000): ∃p,Lib.itoa e=H7 (decide (e<0))++p/\CH p/\p≠[]/\len (AS p)<=6/\(if decide (e<0)then(-1:Int)else 1)*CK (AS p)=e:=by
 have:=AP6 ⟨(e+1000).toNat,Aa⟩
 dsimp only at this
 rw[show(((e+1000).toNat:Nat):Int)-1000=e from by omega]at this
 obtain⟨g1,g2,g3,g4,g5⟩:=this
 refine⟨_,by simpa using g1,λ b i=>List.all_eq_true.1 g2 b i,g3,g4,?_⟩
 rw[g5]
 by_cases h:e<0
 ·rw[if_pos (by simpa using h)];omega
 ·rw[if_neg (by simpa using h)];omega
theorem pG{neg:Bool}{b:A0}{x:Int}:JI neg b x [] 1=((CL neg b x).1,0,(CL neg b x).2):=by
 unfold JI
 rw[show AS []=[]from rfl,if_neg Ab,show x+1*CK []=x from by show x+1*0=x;omega]
theorem AP8{n:Nd}(h:JC n=true):GI (IC n)=(n,0,0)/\(∃g r,IC n=H7 n.neg++(g::r)/\CP g=true)/\ ∀b∈IC n,IW b=true:=by
 obtain⟨he,B,h1,h2,h3,h4,T⟩:=pF h
 generalize hs:n.s=s at*
 generalize hneg:n.neg=neg at*
 generalize hee:n.e=e at*
 subst he
 have j: ∀b,CP b=true->IW b=true:=λ b i=>by
  rw[eR];left
  unfold CP C1 at i
  simp only[Bool.and_eq_true,decide_eq_true_eq]at i
  omega
 have l: ∀g:Bool,∀b∈H7 g,IW b=true:=by decide
 rcases T with⟨V,e2,e3⟩|⟨D,i,hl⟩
 ·subst V;subst e2;subst e3
  exact⟨Ac,⟨48,[],Ab,Ab⟩,Ab⟩
 obtain⟨g,q,C⟩: ∃g q,s=g::q:=by cases s with
  |nil=>exact absurd U D
  |cons g q=>exact⟨g,q,rfl⟩
 have hp:=LF.1 D
 unfold IC
 dsimp only
 rw[if_neg (by simpa using D),show(if neg then([45]:A0)else [])=H7 neg from rfl]
 by_cases c1:(decide (0<=e)&&decide (len s+e<=20))=true
 ·rw[if_pos c1]
  simp only[Bool.and_eq_true,decide_eq_true_eq]at c1
  have y:A4 (s++B7 e) 0≠48:=by rw[IE (Int.le_refl 0) hp];exact i
  refine⟨?_,⟨g,q++B7 e,by rw[C];simp,B g (by rw[C];simp)⟩,λ b i=>?_⟩
  ·rw[AP1 (w:=s++B7 e) (neg:=neg) (by simp) (B.app (CH.B7 e)) (by simp[D]) (λ x=>y x.2),pG,fG (s:=s) (k:=e) (e:=e) (B.app (CH.B7 e)) (fF y) c1.1 D hl Aa Aa Aa Aa Aa]
  ·simp only[List.mem_append]at i
   rcases i with(i|i)|i
   ·exact l _ b i
   ·exact j b (B b i)
   ·exact j b (CH.B7 e b i)
 rw[if_neg c1]
 by_cases c2:(decide (e<0)&&decide (-20<=e))=true
 ·rw[if_pos c2]
  simp only[Bool.and_eq_true,decide_eq_true_eq]at c2
  have hz:=nD (1-e-len s)
  have K:0<=1-e-len s->len (B7 (1-e-len s))=1-e-len s:=λ x=>OD _ x
  have L:1-e-len s<=0->B7 (1-e-len s)=[]:=λ x=>XI x
  have F:CH (B7 (1-e-len s)++s):=(CH.B7 _).app B
  have W:len (B7 (1-e-len s)++s)=len (B7 (1-e-len s))+len s:=AN _ _
  have M:AS (B7 (1-e-len s)++s)=s:=AP4 i _
  have N:1-e-len s<=0->A4 (B7 (1-e-len s)++s) 0≠48:=λ x=>by rw[L x];exact i
  generalize B7 (1-e-len s)++s=S at*
  obtain⟨z,P⟩:=eT (s:=S) (n:=len S+e) Aa Aa
  have X:=ED S (len S+e) Aa Aa
  have G:CH (Eng.sub S 0 (len S+e)):=λ b i=>F b (by rw[z];simp[i])
  have A:CH (A5 S (len S+e)):=λ b i=>F b (by rw[z];simp[i])
  have J:Eng.sub S 0 (len S+e)≠[]:=LF.2 Aa
  have H:A5 S (len S+e)≠[]:=LF.2 Aa
  have O: ¬(1<len (Eng.sub S 0 (len S+e))/\A4 (Eng.sub S 0 (len S+e)) 0=48):=by
   rintro⟨x1,Q⟩
   by_cases hpd:0<=1-e-len s
   ·have:=K hpd;omega
   ·refine N Aa ?_
    rw[QB (Int.le_refl 0) (Int.le_refl 0) Aa Aa]at Q
    exact Q
  obtain⟨R,q',E⟩: ∃g q,Eng.sub S 0 (len S+e)=g::q:=by
   cases hh:Eng.sub S 0 (len S+e)with
   |nil=>exact absurd hh J
   |cons g q=>exact⟨g,q,rfl⟩
  refine⟨?_,⟨R,q'++46::A5 S (len S+e),by rw[E];simp,G R (by rw[E];simp)⟩,λ b i=>?_⟩
  ·rw[AP2 (w:=Eng.sub S 0 (len S+e)) (p:=A5 S (len S+e)) (neg:=neg) (by simp) G J O A H,<-z,pG,
    fG (s:=s) (k:=0) (e:=e) F (by rw[M,XI (Int.le_refl 0)];simp) (Int.le_refl 0) D hl Aa Aa Aa Aa Aa]
  ·simp only[List.mem_append,List.mem_cons,List.not_mem_nil,or_false]at i
   rcases i with((i|i)|i)|i
   ·exact l _ b i
   ·exact j b (G b i)
   ·subst i;decide
   ·exact j b (A b i)
 rw[if_neg c2]
 obtain⟨p,hi,A,H,hl6,hv⟩:=AP7 (e:=e) Aa Aa
 have y:A4 s 0≠48:=i
 refine⟨?_,⟨g,q++101::Lib.itoa e,by rw[C];simp,B g (by rw[C];simp)⟩,λ b i=>?_⟩
 ·rw[hi,AP3 (w:=s) (p:=p) (neg:=neg) (neg2:=decide (e<0)) (by simp) B D (λ x=>y x.2) A H]
  unfold JI
  rw[if_neg Aa,hv,Int.zero_add,
   fG (s:=s) (k:=0) (e:=e) B (by rw[fF y,XI (Int.le_refl 0)];simp) (Int.le_refl 0) D hl Aa Aa Aa Aa Aa]
 ·rw[hi]at i
  simp only[List.mem_append,List.mem_cons,List.not_mem_nil,or_false]at i
  rcases i with((i|i)|i)|i|i
  ·exact l _ b i
  ·exact j b (B b i)
  ·subst i;decide
  ·exact l _ b i
  ·exact j b (A b i)
theorem AP9{neg:Bool}{s:A0}{e:Int}(h:(CL neg s e).2=0):JC (CL neg s e).1=true:=by
 unfold CL at h ⊢
 by_cases c1:JB s=true
 ·rw[if_pos c1]at h ⊢
  by_cases c2:(AS s==[])=true
  ·rw[if_pos c2];decide+kernel
  rw[if_neg c2]at h ⊢
  split at h
  ·cases h
  rename_i c3
  rw[if_neg c3]
  split at h
  ·cases h
  rename_i c4
  rw[if_neg c4]
  simp only[Bool.or_eq_true,decide_eq_true_eq]at c4
  have k: ¬AS s=[]:=by simpa using c2
  have hp:=dP s k
  have w:BC (AS s)≠[]:=LF.2 hp
  have n: ∃r,BC (AS s)++r=AS s:=by
   unfold BC Lib.trimRightS
   have:=List.dropWhile_suffix (([48]:A0).contains ·) (l:=(AS s).reverse)
   obtain⟨r,q⟩:=this
   refine⟨r.reverse,?_⟩
   rw[<-List.reverse_append,q,List.reverse_reverse]
  obtain⟨r,q⟩:=n
  have hF:CH (BC (AS s)):=λ b y=>(AI0 (V9.1 c1)) b (by rw[<-q];simp[y])
  have i:A4 (BC (AS s)) 0≠48:=by
   rw[<-IE (v:=r) (Int.le_refl 0) hp,q]
   cases hd:AS s with
   |nil=>exact absurd hd k
   |cons b l=>
    have:=dO hd
    intro e;rw[G4]at e;rw[Q5.2 e]at this;cases this
  have j:A4 (BC (AS s)) (len (BC (AS s))-1)≠48:=by
   obtain⟨b,z,e2⟩:=dW hp
   rw[<-e2]
   intro e3
   have y:([48]:A0).contains b=true:=Q5.2 e3
   have:BC (AS s)=((AS s).reverse.dropWhile (([48]:A0).contains ·)).reverse:=rfl
   rw[this]at z
   have A:=congrArg List.reverse z
   rw[List.reverse_reverse,List.reverse_append,List.reverse_cons,List.reverse_nil,List.nil_append,List.singleton_append]at A
   have:=dO (s:=(AS s).reverse) (b:=b) (l:=(Eng.sub (BC (AS s)) 0 (len (BC (AS s))-1)).reverse) A
   rw[y]at this;cases this
  unfold JC
  dsimp only
  rw[if_neg (by
   simp only[Bool.or_eq_true,decide_eq_true_eq,bne_iff_ne,Bool.not_eq_true',beq_eq_false_iff_ne,V9.2 hF]
   simp only[not_or]
   refine⟨⟨⟨⟨⟨⟨⟨by simp,by simp⟩,by simp⟩,by simp⟩,Aa⟩,Aa⟩,Aa⟩,Aa⟩),if_neg (by simpa using w)]
  simp[i,j]
 ·rw[if_neg c1]at h;exact absurd h Ab
theorem AQ0{neg:Bool}{s:A0}{e:Int}(h:CH s):(CL neg s e).2=0\/(CL neg s e).2=2:=by
 unfold CL
 rw[if_pos (V9.2 h)]
 split
 ·exact .inl U
 ·split
  ·exact .inr U
  ·split
   ·exact .inr U
   ·exact .inl U
def YH(r:Nd×Int×Int):Prop:=(r.2.2=0->JC r.1=true)/\(r.2.2=0\/r.2.2=1\/r.2.2=2)
theorem pH{neg:Bool}{b:A0}{x:Int}{i:A0}{side:Int}(h:CH b):YH (JI neg b x i side):=by
 unfold JI
 split
 ·exact⟨λ e=>absurd e Ab,.inr (.inr U)⟩
 ·refine⟨λ e=>AP9 e,?_⟩
  rcases AQ0 (neg:=neg) (e:=x+side*CK (AS i)) h with e|e
  ·exact .inl e
  ·exact .inr (.inr e)
theorem VA(n:Nd)(p:Int):YH (n,p,1):=⟨λ e=>absurd e (show ¬(1:Int)=0 by decide),.inr (.inl U)⟩
theorem pI{s e:A0}{neg:Bool}{x b:Int}(h:CH e):YH (IV s neg e x b):=by
 unfold IV
 split
 ·unfold XJ
  dsimp only
  repeat' split
  all_goals first|exact VA _ _|exact pH h
 ·split
  ·exact VA _ _
  ·exact pH h
theorem AQ1(s:A0):YH (GI s):=by
 have h0:=dQ s [45] 0 (A6 s)
 have b:=Q3 s (BJ s [45] 0) Aa h0.2
 have h1:=dQ s [46] (AV s (BJ s [45] 0)) b.2
 unfold GI
 dsimp only
 have hF:CH (Eng.sub s (BJ s [45] 0) (AV s (BJ s [45] 0))):=XK h0.1
 split
 ·exact VA _ _
 ·split
  ·exact VA _ _
  ·split
   ·split
    ·exact VA _ _
    ·exact pI (hF.app (XK Aa))
   ·exact pI hF
inductive Lx (s:A0):Int->List Tk->Prop
 |done {i:Int}:0<=i-> ¬i<len s->Lx s i []
 |step {i n:Int} {t:Tk} {l:List Tk}:0<=i->i<len s->C0 (A5 s i)=(t,n,0)->Lx s (E6 s (i+n)) l->Lx s i ({ t with pos:=i}::l)
theorem YI{s:A0}{i n e:Int}{t:Tk}(h0:0<=i)(h1:i<len s)(h:C0 (A5 s i)=(t,n,e)):0<=n/\i+n<=len s/\(e=0->1<=n)/\(e=0\/e=1\/e=2\/e=4):=by
 have hl:=ED s i h0 Aa
 have:=AO0 (s:=A5 s i) Aa
 rw[h]at this
 dsimp only at this
 omega
theorem Lx.go {s:A0}{i:Int}{l:List Tk}(h:Lx s i l): ∀(f:Nat) (acc:List Tk),(len s-i).toNat<=f->Q8 f s i acc=(acc++l++[XR s],0,0):=by
 induction h with
 |done _ h1=>intro f acc _;rw[AK5 h1];simp
 | @step i n t l h0 h1 h _ ih=>
  intro f acc b
  have e:=YI h0 h1 h
  have j:=nO s (i+n) Aa e.2.1
  rw[AK4 b h1,h]
  dsimp only
  rw[if_neg (by simp),ih _ _ Aa]
  simp
theorem Lx.size {s:A0}{i:Int}{l:List Tk}(h:Lx s i l):i<=len s->len l<=len s-i:=by
 induction h with
 |done _ _=>intro x;rw[len_nil];omega
 | @step i n t l h0 h1 h _ ih=>
  intro x
  have e:=YI h0 h1 h
  have b:=nO s (i+n) Aa e.2.1
  have:=ih b.2
  rw[AH];omega
theorem fH{s:A0}{i:Int}(h0:0<=i):E6 s i=i+E6 (A5 s i) 0:=by
 unfold E6;rw[OL];omega
theorem AQ2:E6 [] 0=0:=rfl
theorem pJ{b:UInt8}{r:A0}(h:O4 (b.toNat:Int)=true):E6 (b::r) 0=1+E6 r 0:=by
 unfold E6
 rw[OL,OL,List.takeWhile_cons,show MI b=true from h]
 simp[len];omega
theorem pK{b:UInt8}{r:A0}(h:O4 (b.toNat:Int)=false):E6 (b::r) 0=0:=by
 unfold E6
 rw[OL,List.takeWhile_cons,show MI b=false from h]
 simp[len]
theorem AQ3{s:A0}{i n:Int}{t:Tk}(h0:0<=i)(h1:i<len s)(h:C0 (A5 s i)=(t,n,0)):
  ∃u v,A5 s i=u++v/\len u=n/\u≠[]/\v=A5 s (i+n)/\u=Eng.sub s i (i+n)/\C0 (u++v)=(t,len u,0):=by
 have j:=YI h0 h1 h
 have hl:=ED s i h0 Aa
 have b:=eT (s:=A5 s i) (n:=n) Aa Aa
 rw[KO s i n h0 Aa,Y7 s i n h0 Aa]at b
 exact⟨_,_,b.1,b.2,λ e=>by rw[e,len_nil]at b;omega,rfl,rfl,by rw[<-b.1,b.2];exact h⟩
def LH(r:Int):Int:=if r=43 then 0 else if r=45 then 1 else if r=95 then 2 else-1
theorem YJ(r:Int):LH r<0↔ ¬(r=43\/r=45\/r=95):=by unfold LH;(repeat' split)<;>omega
theorem AQ4: ∀n:Fin 256,Lib.indexByte [43,45,95] (UInt8.ofNat n.val)=LH (n.val:Int):=by decide+kernel
theorem ixb{r:Int}(h0:0<=r)(h1:r<256):Lib.indexByte [43,45,95] r.toNat.toUInt8=LH r:=by
 have:=AQ4 ⟨r.toNat,Aa⟩
 have e:((r.toNat:Nat):Int)=r:=by omega
 simp only[e]at this
 exact this
theorem AQ6{l:A0}{c:Int}(hl: ∀b∈l,b.toNat<128)(h0:128<=c)(h1:c<=255):Lib.indexByte l c.toNat.toUInt8<0:=by
 rcases Int.lt_or_le (Lib.indexByte l c.toNat.toUInt8) 0 with h|h
 ·exact h
 ·exfalso
  induction l with
  |nil=>exact eJ _ h
  |cons a l j=>
   rcases(eK a _ l).1 h with i|i
   ·have:=hl a (by simp)
    subst i
    have e:(c.toNat.toUInt8).toNat=c.toNat:=by simp;omega
    omega
   ·exact j (λ b k=>hl b (by simp[k])) i
theorem AQ7(k:Int): ∀b∈A5 ([43,45,95]:A0) k,b.toNat<128:=by
 intro b e
 have:=List.mem_of_mem_drop e
 simp at this
 rcases this with rfl|rfl|rfl<;>decide
theorem pL(k:Int):A4 ([43,45,95]:A0) k<128:=by
 unfold A4
 rcases Nat.lt_or_ge k.toNat 3 with h|h
 ·have:k.toNat=0\/k.toNat=1\/k.toNat=2:=by omega
  rcases this with b|b|b<;>rw[b]<;>decide
 ·have:([43,45,95]:A0).getD k.toNat 0=0:=by simp[List.getD_eq_getElem?_getD,List.getElem?_eq_none (show([43,45,95]:A0).length<=k.toNat from h)]
  rw[this];decide
def SM(l:A0)(p:Int):Prop:= ∀j:Int,0<=j->j<p->LH (A4 l j)<0
theorem SM.step {l:A0}{p:Int}(h:SM l p)(h0:0<=p)(h1:p<len l)(q:LH (AX l p)<0):SM l (p+runeLen l p):=by
 intro j e s
 rcases Int.lt_or_le j p with n|n
 ·exact h j e n
 ·rcases MJ h0 h1 with⟨_,_,w,y⟩|⟨w,y,_,z,A,B⟩
  ·have:j=p:=by omega
   subst this;rw[YJ];omega
  ·rcases Int.lt_or_le (A4 l p) 128 with i|i
   ·obtain⟨F,C⟩:=A i
    have:j=p:=by omega
    subst this;rw[<-C];exact q
   ·have hle:=rune_le l p h1
    have hm:=oK (B i)
    rw[z]at hm
    have k:j.toNat<l.length:=by unfold len at hle;omega
    have b:l[j.toNat]∈Eng.sub l p (p+rune l p):=by
     unfold Eng.sub
     rw[List.mem_take_iff_getElem]
     refine⟨j.toNat-p.toNat,by rw[List.length_drop];omega,?_⟩
     rw[List.getElem_drop];congr 1;omega
    have D:=hm _ b
    have E:A4 l j=(l[j.toNat].toNat:Int):=by simp[A4,k]
    rw[YJ];omega
theorem SM.AQ8 {l:A0}{p:Int}(h:SM l p)(hp:len l<=p):l.any (λ b=>([43,45,95]:A0).contains b)=false:=by
 rw[List.any_eq_false]
 intro b k i
 obtain⟨j,n,rfl⟩:=List.getElem_of_mem k
 have:=h (j:Int) Aa (by unfold len at hp;omega)
 rw[YJ]at this
 have e:A4 l (j:Int)=(l[j].toNat:Int):=by simp[A4,n]
 apply this
 simp only[List.contains_cons,List.contains_nil,Bool.or_false,Bool.or_eq_true,beq_iff_eq]at i
 rw[e]
 rcases i with h|h|h<;>rw[h]<;>decide
theorem AQ9{l:A0}{p:Int}(h0:0<=p)(h1:p<len l)(k: ¬LH (AX l p)<0):l.any (λ b=>([43,45,95]:A0).contains b)=true:=by
 rw[YJ]at k
 have q:AX l p=43\/AX l p=45\/AX l p=95:=by omega
 have j:A4 l p=43\/A4 l p=45\/A4 l p=95:=by
  rcases q with h|h|h
  ·exact .inl ((JM h0 h1 Ab).1 h)
  ·exact .inr (.inl ((JM h0 h1 Ab).1 h))
  ·exact .inr (.inr ((JM h0 h1 Ab).1 h))
 have hp:p.toNat<l.length:=by unfold len at h1;omega
 have e:A4 l p=(l[p.toNat].toNat:Int):=by simp[A4,hp]
 rw[List.any_eq_true]
 refine⟨l[p.toNat],List.getElem_mem hp,?_⟩
 simp only[List.contains_cons,List.contains_nil,Bool.or_false,Bool.or_eq_true,beq_iff_eq]
 rw[e]at j
 have i: ∀(b:UInt8) (n:Nat),(b.toNat:Int)=n->n<256->b=UInt8.ofNat n:=λ b n h s=>by rw[<-UInt8.toNat_inj];simp[Nat.mod_eq_of_lt s];omega
 rcases j with h|h|h
 ·exact .inl (i _ 43 h Aa)
 ·exact .inr (.inl (i _ 45 h Aa))
 ·exact .inr (.inr (i _ 95 h Aa))
theorem AR0(s:A0)(p:Int):AX s p<55296\/57343<AX s p:=by
 have h:(Utf8.decode ⟨⟨s⟩⟩ p.toNat).1<55296\/(57343<(Utf8.decode ⟨⟨s⟩⟩ p.toNat).1/\(Utf8.decode ⟨⟨s⟩⟩ p.toNat).1<=1114111):=by
  rw[Lib.decode_at];exact Lib.decodeN_valid _ _ _ _ _ (UInt8.toNat_lt _)
 unfold AX;omega
end Go.Eng
