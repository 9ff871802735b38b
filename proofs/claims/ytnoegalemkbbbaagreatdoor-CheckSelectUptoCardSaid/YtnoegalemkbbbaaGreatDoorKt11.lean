/- Lemmas for the card. -/
import Derived.Test.YtnoegalemkbbbaaGreatDoorKt10
set_option linter.unusedVariables false
set_option linter.unusedSimpArgs false
set_option maxRecDepth 100000
namespace Go.Eng
structure SP (l:List Tk):Prop where
 last: ∀i,0<=i->i<len l->(at' l i).kind≠6->i+1<len l
 JB: ∀t∈l,t.kind=5-> ∀b∈t.c.s,CP b=true
 num: ∀t∈l,t.kind=5->len t.c.s<=1048576/\t.c.e<=1000000000
 bd: ∀t∈l,len t.s<=1048576
 few:len l<=1048576
theorem gF{α β:Type}{r:PR α}{k:α->Int->PR β}{y:β}{m:Int}(h:r.bind k= .ok y m): ∃x j,r= .ok x j/\k x j= .ok y m:=by
 cases r with
 |er c p=>cases h
 |ok x j=>exact⟨x,j,rfl,h⟩
theorem gG{α:Type}{l:List Tk}{i e:Int}{x:α}{j:Int}(h:K1 l i e= .ok x j):False:=by cases h
section
variable {l:List Tk} (hl:SP l) {i:Int} (h0:0<=i) (h1:i<len l)
include hl h0 h1
theorem AY8{m:A0}(h:CM l i m=true):i+1<len l:=hl.last i h0 h1 λ e=>by
 unfold CM at h;rw[e]at h;simp at h
theorem AY9{k:Int}(h:(at' l i).kind=k)(b:k≠6):i+1<len l:=hl.last i h0 h1 λ e=>b (by rw[<-h,e])
theorem BM7{m:A0}{u:Unit}{j:Int}(h:H4 l i m= .ok u j):j=i+1/\j<len l/\CM l i m=true:=by
 unfold H4 at h
 split at h
 ·rename_i hm;cases h;exact⟨rfl,AY8 hl h0 h1 hm,hm⟩
 ·exact(gG h).elim
theorem BM8{x:Int}{j:Int}(h:NI l i= .ok x j):j=i+1/\j<len l/\x<=1000000/\(at' l i).kind=5:=by
 unfold NI at h
 split at h
 ·exact(gG h).elim
 ·rename_i k
  split at h
  ·exact(gG h).elim
  ·cases h
   have b:(at' l i).kind=5:=Decidable.byContradiction λ e=>k (.inl e)
   exact⟨rfl,AY9 hl h0 h1 b Ab,Aa,b⟩
structure rB (l:List Tk) (i:Int) (x:Tf) (j:Int):Prop where
 lt:i<j
 le:j<len l
 pipe:V3 x
 name:x.t.name=[]
 size:len x.flat<=4*(j-i)
omit hl h0 h1 in
theorem Tf.gH (t:Tm):len (Tf.mk t []).flat=1:=by rw[Tf.o3];rfl
omit hl h0 h1 in
theorem rB.leaf {t:Tm}{j:Int}(ho:t.op≠4)(b:t.name=[])(e:i<j)(h:j<len l):rB l i (.mk t []) j:=⟨e,h,.no ho,b,by rw[Tf.gH];omega⟩
end
section
variable {l:List Tk} (hl:SP l) (q:A0->A0)
end
end Go.Eng
set_option maxRecDepth 100000
namespace Go.Proofs.YtnoegalemkbbbaaGreatDoor
open Go.Proofs.Tryz
open Go.Eng
theorem AZ0(c:Int)(w:World):Calls prog 222 [.int .u8 c].toArray w λ e w'=>e= .returned (.bool (F7 c))/\Ext w w':=AE A8 func222 U ntmps222 [] [] [.v (.int .u8 c)] U (BB w) A3 (λ B b=>A2 b U U U λ w M h=>⟨rfl,h.st.low⟩) U
theorem AZ1(c:Int)(w:World):Calls prog 223 [.int .u8 c].toArray w λ e w'=>e= .returned (.bool (C1 c))/\Ext w w':=AE A8 func223 U ntmps223 [] [] [.v (.int .u8 c)] U (BB w) A3 (λ B b=>A2 b U U U λ w M h=>⟨rfl,h.st.low⟩) U
theorem rC(s:A0)(w:World)(z:len s<=1099511627776):Calls prog 193 [str s].toArray w λ e w'=>e= .returned (i64 (CX s 0))/\Ext w w':=by
 have h:=A6 s
 refine AE A8 func193 U ntmps193 [] [] [.v (str s)] U (BB w) A3 (λ B y=>AT (σ:=Int) (λ n=>⟨[],[],[Z 0 (.v (str s)),Z 3 (I n)]⟩) (λ n=>0<=n/\n<=len s/\CX s n=CX s 0) (λ n=>(len s-n).toNat) 0 U U ⟨Aa,h,rfl⟩ ?_) U
 rintro n ⟨h0,h1,hw⟩
 refine AB U call222 U U (λ _ w M i=>AZ0 (A4 s n) w) U <|AB U call223 U U (λ _ w M i=>AZ1 (A4 s n) w) U ?_
 refine A1 U (λ b=>?_) (λ b=>?_)<;>simp only[zb]at b
 ·have j:CJ (A4 s n) (n==0)=true:=by unfold CJ;simp only[zb];exact b.2.imp id λ q=>⟨Aa,q.2⟩
  exact AR (n+1) U U ⟨Aa,Aa,by rw[TR h0 b.1 j,hw]⟩ Ag
 ·have e:CX s n=n:=by
   by_cases hlt:n<len s
   ·refine TU h0 hlt ?_
    have k:=b.resolve_left Aa
    unfold CJ
    simp only[zb]
    refine⟨k.1,?_⟩
    rcases k.2 with l|l
    ·exact .inl Aa
    ·exact .inr l
   ·exact TV hlt
  exact A2 y U U U λ w M i=>⟨by rw[<-hw,e];rfl,i.st.low⟩
theorem AZ2(s:A0):Q9 s=(s != []&&CX s 0==len s):=by
 unfold Q9
 congr 1
 have h:=MK (s:=s) (i:=0) Aa (A6 s)
 rw[Bool.eq_iff_iff,beq_iff_eq,beq_iff_eq]
 constructor
 ·intro e;rw[<-ML,e]
 ·intro e
  unfold B8
  rw[e]
  unfold Eng.sub len;simp
theorem AZ3(s:A0)(w:World)(h:len s<=1099511627776):Calls prog 195 [str s].toArray w λ e w'=>e= .returned (.bool (Q9 s))/\Ext w w':=AE A8 func195 U ntmps195 [] [] [.v (str s)] U (BB w) A3 (λ B i=>AB U call193 U U (λ _ w M b=>rC s w h) U <|A2 i U U U λ w M b=>⟨by rw[AZ2];rfl,b.st.low⟩) U
theorem Sp.AO (x:Sp):x.cells.length=3:=rfl
open Go.Eng Go.RowKit
theorem rD(n:Int)(w:World)(h:0<=n/\n<=15):Calls prog 261 [i64 n].toArray w λ e w'=>e= .returned (str (NF n))/\Ext w w':=AE A8 func261 U ntmps261 [] [] [I n] U (BB w) A3 (λ B b=>A2 b U U U (λ w M i=>⟨rfl,i.st.low⟩) (hO:=by and_intros<;>first|omega|(show _<=(16:Int);omega)|trivial)) U
theorem rE(n:Int):0<=len (NF n)/\len (NF n)<=1:=by unfold NF Eng.sub len;simp;omega
theorem AZ4(x:Int)(w:World)(h:0<=x/\x<=255):Calls prog 237 [.int .u8 x].toArray w λ e w'=>e= .returned (str (NG x))/\Ext w w':=by
 have k:=rE (x/16)
 have l:=rE (x%16)
 have b:=NG.eq_1 x
 refine AE A8 func237 U ntmps237 [] [] [.v (.int .u8 x)] U (BB w) A3 (λ B j=>?_) U
 refine A1 U (λ h1=>?_) (λ h1=>?_)<;>simp only[zb]at h1
 ·rw[if_pos h1]at b
  exact A2 j U U U (λ w M i=>⟨by rw[b];rfl,i.st.low⟩)
 rw[if_neg h1]at b
 refine A1 U (λ h1=>?_) (λ h1=>?_)<;>simp only[zb]at h1
 ·rw[if_pos h1]at b
  exact A2 j U U U (λ w M i=>⟨by rw[b];rfl,i.st.low⟩)
 rw[if_neg h1]at b
 refine A1 U (λ h1=>?_) (λ h1=>?_)<;>simp only[zb]at h1
 ·rw[if_pos h1]at b
  exact A2 j U U U (λ w M i=>⟨by rw[b];rfl,i.st.low⟩)
 rw[if_neg h1]at b
 refine A1 U (λ h1=>?_) (λ h1=>?_)<;>simp only[zb]at h1
 ·rw[if_pos h1]at b
  exact A2 j U U U (λ w M i=>⟨by rw[b];rfl,i.st.low⟩)
 rw[if_neg h1]at b
 refine A1 U (λ h1=>?_) (λ h1=>?_)<;>simp only[zb]at h1
 ·rw[if_pos h1]at b
  exact A2 j U U U (λ w M i=>⟨by rw[b];rfl,i.st.low⟩)
 rw[if_neg h1]at b
 refine A1 U (λ h1=>?_) (λ h1=>?_)<;>simp only[zb]at h1
 ·rw[if_pos h1]at b
  exact A2 j U U U (λ w M i=>⟨by rw[b];rfl,i.st.low⟩)
 rw[if_neg h1]at b
 refine A1 U (λ h1=>?_) (λ h1=>?_)<;>simp only[zb]at h1
 ·rw[if_pos h1]at b
  exact A2 j U U U (λ w M i=>⟨by rw[b];rfl,i.st.low⟩)
 rw[if_neg h1]at b
 refine A1 U (λ h1=>?_) (λ h1=>?_)<;>simp only[zb]at h1
 ·rw[if_pos h1]at b
  refine AB U call261 U U (λ _ w M i=>rD (x/16) w Aa) U <|AB U call261 U U (λ _ w M i=>rD (x%16) w Aa) U ?_ (hO:=by simp only[AH,len_nil];and_intros<;>first|omega|trivial)
  exact A2 j U U U (λ w M i=>⟨by rw[b];rfl,i.st.low⟩) (hO:=by simp only[AN,AH,len_nil];and_intros<;>first|omega|trivial)
 rw[if_neg h1]at b
 exact B9 3 [x] BU 1 5 G8 U U Ah U (λ v3=>AU (.v (str (toStr [x]))) U U (λ w M i=>PV.TZ i.st HJ (i.sl 3 U) (AF (v:=.sl 3 v3) (E:=[]) U) underlying216 underlying5 underlying9) <|A2 j U U U (λ w M i=>⟨by rw[b];rfl,i.st.low⟩))
theorem AZ5(s:A0)(w:World)(A:len s<=1099511627776):Calls prog 203 [str s].toArray w λ e w'=>e= .returned (str (NH s))/\Ext w w':=by
 have l:=A6 s
 refine AE A8 func203 U ntmps203 [] [] [.v (str s)] U (BB w) A3 (λ B n=>AT (σ:=Int×A0) (λ(k,o)=>⟨[],[],[Z 0 (.v (str s)),Z 3 (.v (str o)),Z 4 (I k)]⟩) (λ(k,o)=>0<=k/\k<=len s/\o=34::(Eng.sub s 0 k).flatMap L9/\len o<=6*k+1) (λ(k,_)=>(len s-k).toNat) (0,[34]) U U ⟨Aa,Aa,rfl,Ab⟩ ?_) U
 rintro⟨k,o⟩ ⟨i,q,b,hlen⟩
 have y:=AJ8 (A4 s k)
 have z:=LZ s k
 have ho:=A6 o
 refine A1 U (λ h=>?_) (λ h=>?_)<;>simp only[zb]at h
 ·exact AB U call237 U U (λ _ w M j=>AZ4 _ w Aa) U <|AR (k+1,o++NG (A4 s k)) U U ⟨Aa,Aa,AJ9 i h b,by rw[AN];omega⟩ Ag
 exact A2 n U U U (λ w M j=>⟨by unfold NH;rw[show k=len s by omega,O5 _ _ (Int.le_refl _)]at b;rw[<-b];rfl,j.st.low⟩) (hO:=by simp only[AH,len_nil];and_intros<;>first|omega|trivial)
theorem rF(n:Int)(w:World)(h:0<=n/\n<=1114111)(j:n<55296\/57343<n):Calls prog 284 [i64 n].toArray w λ e w'=>e= .returned (str (toStr (Lib.encodeRuneZ n)))/\Ext w w':=by
 refine AE A8 func284 U ntmps284 [] [] [I n] U (BB w) A3 (λ B i=>?_) U
 refine A1 U (λ h1=>?_) (λ h1=>?_)<;>simp only[zb]at h1
 ·rw[Lib.encodeRuneZ_one Aa Aa]at i
  exact B9 3 [n] BU 1 5 G8 U U Ah U (λ v3=>AU (.v (str (toStr [n]))) U U (λ w M b=>PV.TZ b.st HJ (b.sl 3 U) (AF (v:=.sl 3 v3) (E:=[]) U) underlying216 underlying5 underlying9) <|A2 i U U U (λ w M b=>⟨rfl,b.st.low⟩))
 refine A1 U (λ h1=>?_) (λ h1=>?_)<;>simp only[zb]at h1
 ·rw[Lib.encodeRuneZ_two Aa Aa]at i
  exact B9 3 [192+n/64,128+n%64] BU 1 5 G8 U U Ah U (λ v3=>AU (.v (str (toStr [192+n/64,128+n%64]))) U U (λ w M b=>PV.TZ b.st HJ (b.sl 3 U) (AF (v:=.sl 3 v3) (E:=[]) U) underlying216 underlying5 underlying9) <|A2 i U U U (λ w M b=>⟨rfl,b.st.low⟩))
 refine A1 U (λ h1=>?_) (λ h1=>?_)<;>simp only[zb]at h1
 ·rw[Lib.encodeRuneZ_three Aa]at i
  exact B9 3 [224+n/4096,128+n/64%64,128+n%64] BU 1 5 G8 U U Ah U (λ v3=>AU (.v (str (toStr [224+n/4096,128+n/64%64,128+n%64]))) U U (λ w M b=>PV.TZ b.st HJ (b.sl 3 U) (AF (v:=.sl 3 v3) (E:=[]) U) underlying216 underlying5 underlying9) <|A2 i U U U (λ w M b=>⟨rfl,b.st.low⟩))
 rw[Lib.encodeRuneZ_four Aa Aa]at i
 exact B9 3 [240+n/262144,128+n/4096%64,128+n/64%64,128+n%64] BU 1 5 G8 U U Ah U (λ v3=>AU (.v (str (toStr [240+n/262144,128+n/4096%64,128+n/64%64,128+n%64]))) U U (λ w M b=>PV.TZ b.st HJ (b.sl 3 U) (AF (v:=.sl 3 v3) (E:=[]) U) underlying216 underlying5 underlying9) <|A2 i U U U (λ w M b=>⟨rfl,b.st.low⟩))
theorem rG(s:A0)(i:Int)(w:World)(h0:0<=i)(h1:i<=len s)(S:len s<=1099511627776):Calls prog 283 [str s,i64 i].toArray w λ e w'=>e= .returned (i64 (BZ (A5 s i)))/\Ext w w':=by
 have N:=A6 s
 refine AE A8 func283 U ntmps283 [] [] [.v (str s),I i] U (BB w) A3 (λ B G=>?_) U
 refine A1 U (λ K=>?_) (λ K=>?_)<;>simp only[zb]at K
 ·exact A2 G U U U (λ w M C=>⟨by rw[oJ h0 Aa];rfl,C.st.low⟩)
 have b:i+6<=len s/\A4 s i=92/\A4 s (i+1)=117:=by omega
 have D:=(SJ (s:=s) (i:=i+2) (j:=i+2) Aa (Int.le_refl _) Aa).2 U
 refine AT (σ:=Int×Int) (λ(n,k)=>⟨[],[],[Z 0 (.v (str s)),Z 1 (I i),Z 5 (I n),Z 6 (I k)]⟩) (λ(n,k)=>i+2<=k/\k<=i+6/\EK (Eng.sub s (i+2) k)=true/\n=FD (Eng.sub s (i+2) k)) (λ(_,k)=>(i+6-k).toNat) (0,i+2) U U ⟨Aa,Aa,by rw[D];rfl,by rw[D];rfl⟩ ?_
 rintro⟨n,k⟩ ⟨h,O,l,H⟩
 refine A1 U (λ E=>?_) (λ E=>?_)<;>simp only[zb]at E
 ·have P:=LZ s k
  have Q:=FL (s:=s) (i:=i+2) (j:=k) Aa h Aa
  have J:=AN2 l Aa
  rw[<-H]at J
  have hx:=GJ.eq_1 (A4 s k)
  refine CZ 2 (λ st=> ∃y,(y=n*16+GJ (A4 s k)/\0<=GJ (A4 s k))/\st=⟨[],[],[Z 0 (.v (str s)),Z 1 (I i),Z 5 (I y),Z 6 (I k)]⟩) U U (λ q=>?_) (λ q=>?_) ?_<;>try simp only[zb]at q
  ·rw[if_pos q]at hx
   exact AQ _ U U ⟨_,Aa,rfl⟩
  ·rw[if_neg Aa]at hx
   refine A1 U (λ z=>?_) (λ z=>?_)<;>simp only[zb]at z
   ·rw[if_pos z]at hx
    exact AQ _ U U ⟨_,Aa,rfl⟩
   rw[if_neg Aa]at hx
   refine A1 U (λ A=>?_) (λ A=>?_)<;>simp only[zb]at A
   ·rw[if_pos A]at hx
    exact AQ _ U U ⟨_,Aa,rfl⟩
   rw[if_neg Aa]at hx
   exact A2 G U U U (λ w M C=>⟨by rw[Y5 h0 b.1 b.2.1 b.2.2,oI (s:=s) (i:=i+2) (k:=k) (j:=i+6) Aa h Aa b.1 Aa];rfl,C.st.low⟩)
  rintro _ ⟨y,L,rfl⟩
  have F:=oH (s:=s) (i:=i+2) (k:=k) Aa h Aa l L.2
  exact AR (y,k+1) U U ⟨Aa,Aa,F.1,by rw[F.2,L.1,H]⟩ Ag
 have R:k=i+6:=by omega
 subst R
 exact A2 G U U U (λ w M C=>⟨by rw[Y5 h0 b.1 b.2.1 b.2.2,if_pos l,<-H];rfl,C.st.low⟩)
theorem AZ6(s:A0)(i:Int)(w:World)(h0:0<=i)(h1:i<len s)(F:len s<=1099511627776):Calls prog 260 [str s,i64 i].toArray w λ e w'=>e= .returned (.tuple #[str (QC (BW (A5 s i))).1,i64 (QC (BW (A5 s i))).2])/\Ext w w':=by
 have J:=A6 s
 have hl:=ED s i h0 Aa
 have n:=OG s i 1 h0 Aa
 have hu:=OE (A5 s i)
 have K:=OE (A5 s (i+6))
 have C:=KO s i 6 h0 Aa
 have O:len K2=8:=rfl
 have L:len eP=8:=rfl
 have he:=BW.eq_1 (A5 s i)
 rw[C]at he
 refine AE A8 func260 U ntmps260 [] [] [.v (str s),I i] U (BB w) A3 (λ B z=>?_) U
 refine A1 U (λ D=>?_) (λ D=>?_)<;>simp only[zb]at D
 ·rw[if_pos Aa]at he
  exact A2 z U U U (λ w M l=>⟨by rw[he];rfl,l.st.low⟩)
 rw[if_neg Aa]at he
 refine AT (σ:=Int) (λ k=>⟨[],[],[Z 0 (.v (str s)),Z 1 (I i),Z 6 (.v (str K2)),Z 7 (.v (str eP)),Z 8 (I k)]⟩) (λ k=>0<=k/\k<=8/\SK (A4 s (i+1)) k) (λ k=>(8-k).toNat) 0 U U ⟨Aa,Aa,λ j D P=>by omega⟩ ?_
 rintro k ⟨E,N,G⟩
 refine A1 U (λ A=>?_) (λ A=>?_)<;>simp only[zb]at A
 ·refine EJ [] 1 (λ _ _ _ _ _ h=>h) U Ai U <|BV U U U ?_
  refine A1 U (λ b=>?_) (λ b=>?_)<;>simp only[zb]at b
  ·have H:=AN0 (c:=A4 s (i+1)) E Aa b
   exact A2 z U U U (λ w M l=>⟨by rw[AN1 Aa (by rw[n];exact H.1),n,H.2];rfl,l.st.low⟩)
  ·exact AR (k+1) U U ⟨Aa,Aa,G.step b⟩ Aa
 rw[if_neg (by rw[n,G.eO Aa];simp)]at he
 refine AB U call283 U U (λ _ w M l=>rG s i w h0 Aa F) U ?_
 refine A1 U (λ b=>?_) (λ b=>?_)<;>simp only[zb]at b
 ·rw[if_pos b]at he
  exact A2 z U U U (λ w M l=>⟨by rw[he];rfl,l.st.low⟩)
 rw[if_neg Aa]at he
 refine A1 U (λ q=>?_) (λ q=>?_)<;>simp only[zb]at q
 ·rw[if_pos q]at he
  exact AB U call284 U U (λ _ w M l=>rF _ w Aa Aa) U <|A2 z U U U (λ w M l=>⟨by rw[he];rfl,l.st.low⟩)
 rw[if_neg Aa]at he
 refine AB U call283 U U (λ _ w M l=>rG s (i+6) w Aa Aa F) U ?_
 refine A1 U (λ y=>?_) (λ y=>?_)<;>simp only[zb]at y
 ·rw[if_pos y]at he
  exact A2 z U U U (λ w M l=>⟨by rw[he];rfl,l.st.low⟩)
 rw[if_neg Aa]at he
 exact AB U call284 U U (λ _ w M l=>rF _ w Aa Aa) U <|A2 z U U U (λ w M l=>⟨by rw[he,Int.mul_comm];rfl,l.st.low⟩)
theorem AZ7(s:A0)(i:Int)(w:World)(h0:0<=i)(h1:i<len s)(l:len s<=1099511627776):Calls prog 236 [str s,i64 i].toArray w λ e w'=>e= .returned (.tuple #[str (HT s i).1,i64 (HT s i).2])/\Ext w w':=by
 have n:=A6 s
 have y:=M4 s i
 have q:=rune_le s i h1
 have h:=HT.eq_1 s i
 refine AE A8 func236 U ntmps236 [] [] [.v (str s),I i] U (BB w) A3 (λ B k=>?_) U
 refine A1 U (λ j=>?_) (λ j=>?_)<;>simp only[zb]at j
 ·rw[if_pos j]at h
  exact AB U call260 U U (λ _ w M b=>AZ6 s i w h0 h1 l) U <|A2 k U U U (λ w M b=>⟨by rw[h];rfl,b.st.low⟩)
 rw[if_neg j]at h
 exact AB U call159 U U (λ _ w M b=>mU s i w h0 h1 Aa) U <|A2 k U U U (λ w M b=>⟨by rw[h];rfl,b.st.low⟩)
theorem AZ8(s:A0)(w:World)(F:len s<=1099511627776):Calls prog 202 [str s].toArray w λ e w'=>e= .returned (.tuple #[str (B1 s).1,i64 (B1 s).2.1,i64 (B1 s).2.2])/\Ext w w':=by
 have G:=A6 s
 have q:= @GM _ s
 refine AE A8 func202 U ntmps202 [] [] [.v (str s)] U (BB w) A3 (λ B y=>?_) U
 refine A1 rfl (λ j=>?_) (λ j=>?_) (hO:=by and_intros<;>first|omega|trivial|(rcases Decidable.em (s=[])with A|A;exact .inl (by rw[A];rfl);exact .inr ⟨Aa,q A⟩))<;>simp only[zb]at j
 ·exact A2 y rfl rfl rfl (λ w M l=>⟨by unfold B1;rw[if_neg (by rw[MP];rintro⟨h1,H⟩;rcases j with h|h;exact h1 h;exact h H)];rfl,l.st.low⟩)
 have J:=q j.1
 refine AT (σ:=Nat×Int×A0) (λ(f,i,o)=>⟨[],[],[Z 0 (.v (str s)),Z 5 (.v (str o)),Z 6 (I i)]⟩) (λ(f,i,o)=>1<=i/\i<=len s/\MO f s i o/\(len s-i).toNat<=f/\len o<=4*i) (λ(_,i,_)=>(len s-i).toNat) (s.length,1,[]) U U ⟨Int.le_refl _,Aa,⟨[],rfl,by unfold B1;rw[if_pos (MP.2 ⟨j.1,by simpa using j.2⟩)]⟩,by unfold len;omega,Ab⟩ ?_
 rintro⟨f,i,o⟩ ⟨h0,h1,z,C,hlen⟩
 have K:=A6 o
 refine A1 U (λ b=>?_) (λ b=>?_)<;>simp only[zb]at b
 ·have L:=AM9 (s:=s) (i:=i) Aa b
  have E:=A6 (HT s i).1
  refine A1 U (λ k=>?_) (λ k=>?_)<;>simp only[zb]at k
  ·exact A2 y U U U (λ w M l=>⟨by rw[z.quote C Aa b k];rfl,l.st.low⟩)
  refine AB U call236 U U (λ _ w M l=>AZ7 s i w Aa b F) U ?_
  refine A1 U (λ n=>?_) (λ n=>?_)<;>simp only[zb]at n
  ·exact A2 y U U U (λ w M l=>⟨by rw[z.bad C Aa b k n];rfl,l.st.low⟩)
  have D:=z.step C Aa b k Aa
  exact AR (f-1,i+(HT s i).2,o++(HT s i).1) U U ⟨Aa,Aa,D,Aa,by rw[AN];omega⟩ Ag
 exact A2 y U U U (λ w M l=>⟨by rw[z.eO b];rfl,l.st.low⟩)
theorem AZ9(neg:Bool)(s:A0)(x:Int)(w:World)(Q:len s<=1099511627776):Calls prog 186 [.bool neg,str s,i64 x].toArray w λ e w'=>e= .returned (.tuple #[EH (CL neg s x).1,i64 (CL neg s x).2])/\Ext w w':=by
 have F:=A6 s
 have hm:=CL.eq_1 neg s x
 refine AE A8 func186 U ntmps186 [] [] [.v (.bool neg),.v (str s),I x] U (BB w) A3 (λ B C=>AZ 6 U zeroValue46 U λ b=>AB U call174 U U (λ _ w M l=>mW s w Aa) U ?_) U
 refine A1 U (λ h1=>?_) (λ h1=>?_)<;>simp only[zb]at h1
 ·rw[if_neg (by rw[h1];simp)]at hm
  exact A2 C U U U (λ w M l=>⟨by rw[hm];rfl,l.st.low⟩)
 rw[if_pos h1]at hm
 refine AT (σ:=A0) (λ t=>⟨[],[(6,.box b [I 0,I 0,.v (str []),.v (str []),.v (.bool false),I 0] 46)],[Z 0 (.v (.bool neg)),Z 1 (.v (str t)),Z 2 (I x),Z 6 (.bx 6 b 0),Z 7 (I 0)]⟩) (λ t=>AS t=AS s/\len t<=len s) (λ t=>t.length) s U U ⟨rfl,Aa⟩ ?_
 rintro t ⟨hF,hl⟩
 have G:=LZ t 0
 have H:=A6 t
 have J:=nE t 1
 refine A1 U (λ n=>?_) (λ n=>?_)<;>simp only[zb]at n
 ·exact AR (A5 t 1) U U ⟨by rw[AK0 n,hF],Aa⟩ (by show List.length _<List.length _;have:=ED t 1 Aa Aa;unfold len at*;omega)
 have K:t=AS s:=by rw[<-hF,nQ Aa]
 subst K
 refine A1 U (λ h=>?_) (λ h=>?_)
 ·rw[if_pos h]at hm
  exact A2 C U U U (λ w M l=>⟨by rw[hm];rfl,l.st.low⟩)
 rw[if_neg (ne_true_of_eq_false h)]at hm
 refine A1 U (λ q=>?_) (λ q=>?_)<;>rw[q]at hm
 ·exact A2 C U U U (λ w M l=>⟨by rw[hm];rfl,l.st.low⟩)
 simp only[zb]at q
 have L:=dP s (by simpa using h)
 refine AT (σ:=A0×Int) (λ(u,y)=>⟨[],[(6,.box b [I 0,I 0,.v (str []),.v (str []),.v (.bool false),I 0] 46)],[Z 0 (.v (.bool neg)),Z 1 (.v (str u)),Z 2 (I y),Z 6 (.bx 6 b 0),Z 7 (I 0)]⟩) (λ(u,y)=>BC u=BC (AS s)/\len u<=len (AS s)/\y+len u=x+len (AS s)) (λ(u,_)=>u.length) (AS s,x) U U ⟨rfl,Aa,rfl⟩ ?_
 rintro⟨u,y⟩ ⟨hu,N,R⟩
 have O:=LZ u (len u-1)
 have D:=nF u
 rw[hu]at D
 refine A1 U (λ k=>?_) (λ k=>?_)<;>simp only[zb]at k
 ·have P:=FL (s:=u) (i:=0) (j:=len u-1) Aa Aa Aa
  exact AR (Eng.sub u 0 (len u-1),y+1) U U ⟨by rw[AK1 Aa k,hu],Aa,Aa⟩ (by show List.length _<List.length _;unfold len at*;omega)
 have z:u=BC (AS s):=by rw[<-hu,AK2 Aa k]
 have E:y=x+(len (AS s)-len (BC (AS s))):=by rw[<-z];omega
 rw[<-E,<-z]at hm
 refine A1 U (λ A=>?_) (λ A=>?_)<;>rw[A]at hm<;>exact A2 C U U U (λ w M l=>⟨by rw[hm];rfl,l.st.low⟩)
theorem VC{P:Program}{f:FuncId}{args:Array Value}{w:World}{u:Value}(h:Calls P f args w λ e w'=>e= .returned u/\w'=w):Calls P f args w λ e w'=>e= .returned u/\Ext w w':=h.mono λ e w' ⟨h1,b⟩=>⟨h1,by rw[b];exact .refl _⟩
theorem rH{p:UInt8->Bool}: ∀ {a r:A0},(∀b∈a,p b=true)->(a++r).takeWhile p=a++r.takeWhile p
 |[],r,_=>rfl
 |x::a,r,h=>by rw[List.cons_append,List.takeWhile_cons,if_pos (h x List.mem_cons_self),rH (λ b e=>h b (List.mem_cons_of_mem _ e))];rfl
theorem Aa0{s:A0}{j i:Int}(h0:0<=j)(h1:j<=i)(h:i<=len s)(n:i-j<=7)(k:CH (Eng.sub s j i))(e:i-j=7\/len s<=i\/C1 (A4 s i)=false):EL s j=Eng.sub s j i:=by
 have hl:=FL (s:=s) h0 h1 h
 unfold EL
 rw[SL s j i h0 h1,rH k]
 rcases e with e|e|e
 ·rw[List.take_append_of_le_length (by unfold len at hl;omega),List.take_of_length_le (by unfold len at hl;omega)]
 ·rw[Q2 s i e,List.takeWhile_nil,List.append_nil,List.take_of_length_le (by unfold len at hl;omega)]
 ·by_cases hlt:i<len s
  ·obtain⟨b,l,e2⟩:=KL s i Aa hlt
   rw[l,List.takeWhile_cons,if_neg (by unfold CP;rw[<-e2,e];decide),List.append_nil,List.take_of_length_le (by unfold len at hl;omega)]
  ·rw[Q2 s i Aa,List.takeWhile_nil,List.append_nil,List.take_of_length_le (by unfold len at hl;omega)]
theorem rI{t:A0}(h:CH t)(hl:len t<=6):0<=CK t/\CK t<1000000:=by
 have:=AM6 h hl (len t)
 rwa [O5 t _ (Int.le_refl _)]at this
theorem Aa1{t:A0}(h:CH t)(hl:len t<=7):0<=CK t/\CK t<10000000:=by
 induction t using fO with
 |h0=>decide
 |hs a c _=>
  rw[AN,show len [c]=1 from rfl]at hl
  have:=rI (t:=a) (λ b i=>h b (by simp[i])) Aa
  have e:=h c (by simp)
  unfold CP C1 at e
  simp only[zb]at e
  rw[QI];omega
theorem Aa2(s:A0)(j:Int)(w:World)(h0:0<=j)(h1:j<=len s)(F:len s<=1099511627776):
  Calls prog 204 [str s,i64 j].toArray w λ e w'=>e= .returned (.tuple #[i64 (H8 s j).1,i64 (H8 s j).2])/\Ext w w':=by
 refine AE A8 func204 U ntmps204 [] [] [.v (str s),I j] U (BB w) A3 (λ B G=>AT (σ:=Int) (λ i=>⟨[],[],[Z 0 (.v (str s)),Z 1 (I i),Z 6 (I (CK (Eng.sub s j i))),Z 7 (I j)]⟩) (λ i=>j<=i/\i<=len s/\i-j<=7/\CH (Eng.sub s j i)) (λ i=>(len s-i).toNat) j rfl (by rw[show Eng.sub s j j=[]from(SJ h0 (Int.le_refl _) h1).2 rfl];rfl) ⟨Int.le_refl _,h1,Aa,by rw[show Eng.sub s j j=[]from(SJ h0 (Int.le_refl _) h1).2 rfl];intro b F;cases F⟩ ?_) U
 rintro i ⟨h,l,z,k⟩
 have A:=FL (s:=s) h0 h l
 refine A1 U (λ n=>?_) (λ n=>?_)<;>simp only[zb]at n
 ·have K:=rI k Aa
  obtain⟨b,H,e2⟩:=oG (s:=s) h0 h (by omega:i<len s)
  refine AR (i+1) U ?_ ⟨Aa,Aa,Aa,?_⟩ Ag
  ·rw[H,QI,e2];rfl
  ·rw[H];exact k.app λ x hx=>by rw[List.mem_singleton.1 hx];unfold CP C1;rw[e2];simp only[zb];omega
 ·have C:i-j=7\/len s<=i\/C1 (A4 s i)=false:=by
   by_cases J:i-j=7
   ·exact .inl J
   ·by_cases hl:len s<=i
    ·exact .inr (.inl hl)
    ·refine .inr (.inr ?_)
     rw[<-Bool.not_eq_true]
     unfold C1
     simp only[zb]
     omega
  have hg:=Aa0 h0 h l z k C
  have J:=Aa1 k Aa
  have q:(EL s j=[])↔i=j:=by rw[hg];exact SJ h0 h l
  refine A1 U (λ y=>?_) (λ y=>?_)<;>simp only[zb]at y
  ·have D:EL s j=[]\/(A4 s j=48/\1<len (EL s j))\/1000000<CK (EL s j):=by
    rw[q,hg];omega
   refine A2 G U U U λ w M E=>⟨?_,E.st.low⟩
   unfold H8;rw[if_pos D];rfl
  ·have D: ¬(EL s j=[]\/(A4 s j=48/\1<len (EL s j))\/1000000<CK (EL s j)):=by
    rw[q,hg];omega
   refine A2 G U U U λ w M E=>⟨?_,E.st.low⟩
   unfold H8;rw[if_neg D,hg,A,show j+(i-j)=i by omega];rfl
theorem Aa3{t:A0}{p:Int}(h0:0<=p)(h1:p<len t):FZ (Eng.sub t 0 (p+1))=decide (p+1<=len (B8 t)):=by
 have hl:=FL (s:=t) (i:=0) (j:=p+1) (Int.le_refl 0) Aa Aa
 have q: ∀j:Int,0<=j->j<p+1->A4 (Eng.sub t 0 (p+1)) j=A4 t j:=λ j a b=>by
  have:=QB (s:=t) (i:=0) (j:=p+1) (k:=j) (Int.le_refl 0) a Aa Aa
  rwa [Int.zero_add]at this
 have ho:=YA (s:=t) 0 (Int.le_refl 0)
 have l:=MK (s:=t) (i:=0) (Int.le_refl 0) (A6 t)
 rw[Bool.eq_iff_iff,decide_eq_true_eq,ML,V6]
 constructor
 ·rintro⟨_,h⟩
  rcases Int.lt_or_le (CX t 0) (p+1)with n|n
  ·have w:=ho.2 (A6 t) Aa
   rw[<-q _ l.1 n,h _ l.1 Aa]at w;cases w
  ·exact n
 ·intro n
  refine⟨λ e=>by rw[e,len_nil]at hl;omega,λ j a b=>?_⟩
  rw[q j a Aa]
  exact ho.1 j a Aa
abbrev xSp(x:Sp):XV:=.ag [.v (.bool x.part),.v (str x.name),I x.n]
abbrev rJ(x:Sp):Value:=.agg #[.bool x.part,str x.name,i64 x.n]
theorem Aa5(s:A0)(i:Int)(first:Bool)(w:World)(h0:0<=i)(h1:i<=len s)(hb:len s<=1048576):
  Calls prog 173 [str s,i64 i,.bool first].toArray w λ e w'=>e= .returned (.tuple #[rJ (D9 s i first).1,i64 (D9 s i first).2])/\Ext w w':=by
 refine AE A8 func173 U ntmps173 [] [] [.v (str s),I i,.v (.bool first)] U (BB w) A3 (λ B E=>AZ 1 U zeroValue105 U λ N=>CZ 0 (λ s'=> ∃j,i<=j/\j<=len s/\D9 s i first=MQ s i j/\s'=⟨[],[(1,.box N [.v (.bool false),.v (str []),I 0] 105)],[Z 0 (.v (str s)),Z 1 (I j),Z 6 (.bx 1 N 0),Z 8 (I i)]⟩) U U (λ y=>?_) (λ y=>?_) ?_) U
 ·simp only[zb]at y
  have A:A4 s i=46:=by omega
  have S:=ED s (i+1) Aa Aa
  have T:=UW (A5 s (i+1))
  refine AT (σ:=Int) (λ k=>⟨[],[(1,.box N [.v (.bool false),.v (str []),I 0] 105)],[Z 0 (.v (str s)),Z 1 (I (i+1)),Z 2 (.v (.bool first)),Z 6 (.bx 1 N 0),Z 8 (I i),Z 9 (I k)]⟩) (λ k=>i+1<=k/\k<=i+1+len (B8 (A5 s (i+1)))) (λ k=>(len s-k).toNat) (i+1) U U ⟨Aa,Aa⟩ ?_
  rintro k ⟨V,W⟩
  have D:k<len s->FZ (Eng.sub s (i+1) (k+1))=decide (k+1<=i+1+len (B8 (A5 s (i+1)))):=λ Q=>by
   have O:=Aa3 (t:=A5 s (i+1)) (p:=k-(i+1)) Aa Aa
   rw[Y7 s (i+1) _ Aa Aa,show i+1+(k-(i+1)+1)=k+1 by omega]at O
   rw[O];congr 1;rw[eq_iff_iff];omega
  refine AB U call201 U U (λ _ w M l=>mV (Eng.sub s (i+1) (k+1)) w (by unfold Eng.sub len at*;rw[List.length_take];omega)) U ?_
  refine A1 U (λ n=>?_) (λ n=>?_)<;>simp only[zb]at n
  ·have:=D Aa
   rw[n.2]at this
   have:=of_decide_eq_true this.symm
   exact AR (k+1) U U ⟨Aa,Aa⟩ Ag
  have C:k=i+1+len (B8 (A5 s (i+1))):=by
   rcases n with n|n
   ·omega
   ·by_cases Q:k<len s
    ·rw[D Q]at n
     have:=of_decide_eq_false n;omega
    ·omega
  refine A1 U (λ G=>?_) (λ G=>?_)<;>simp only[zb]at G
  ·have P:B8 (A5 s (i+1))≠[]:=λ e=>by rw[e,len_nil]at C;omega
   have H:Eng.sub s (i+1) k=B8 (A5 s (i+1)):=by
    have O:=Y7 s (i+1) (len (B8 (A5 s (i+1)))) Aa Aa
    rw[C,<-O,ML];rfl
   have b:D9 s i first=(⟨false,B8 (A5 s (i+1)),0⟩,i+1+len (B8 (A5 s (i+1)))):=by unfold D9;rw[if_pos ⟨y.1,A⟩,if_pos P]
   refine A2 E U U U λ w M l=>⟨?_,l.st.low⟩
   rw[b,C]
   show Ending.returned (.tuple #[.agg #[.bool false,str (Eng.sub s (i+1) (i+1+len (B8 (A5 s (i+1))))),i64 0],_])=_
   rw[<-C,H];rfl
  have he:B8 (A5 s (i+1))=[]:=Classical.byContradiction λ e=>by have:=GM e;omega
  have X:=OH (A5 s (i+1))
  have hul:=fN (A5 s (i+1))
  refine AB U call202 U U (λ _ w M l=>AZ8 (A5 s (i+1)) w Aa) U <|DQ U BI Ac <|EZ U call201 U U (λ _ w M l=>mV (B1 (A5 s (i+1))).1 w Aa) U <|EZ U call203 U U (λ _ w M l=>AZ5 (B1 (A5 s (i+1))).1 w Aa) U <|DR U ?_
  refine A1 U (λ z=>?_) (λ z=>?_)<;>simp only[zb]at z
  ·have b:D9 s i first=(⟨false,(B1 (A5 s (i+1))).1,0⟩,i+1+(B1 (A5 s (i+1))).2.1):=by
    unfold D9;rw[if_pos ⟨y.1,A⟩,if_neg (by rw[he];simp),if_pos ⟨z.1.1,z.1.2,z.2⟩]
   refine A2 E U U U λ w M l=>⟨?_,l.st.low⟩
   rw[b];rfl
  have J: ¬((B1 (A5 s (i+1))).2.2=0/\FZ (B1 (A5 s (i+1))).1=false/\NH (B1 (A5 s (i+1))).1=Eng.sub s (i+1) (i+1+(B1 (A5 s (i+1))).2.1)):=by
   rintro⟨q1,q2,q3⟩
   rcases z with(h|h)|h
   ·exact h q1
   ·rw[q2]at h;cases h
   ·exact h q3
  refine A1 U (λ q=>?_) (λ q=>?_)<;>simp only[zb]at q
  ·have b:D9 s i first=(OM,i):=by
    unfold D9;rw[if_pos ⟨y.1,A⟩,if_neg (by rw[he];simp),if_neg J,if_pos q]
   refine A2 E U U U λ w M l=>⟨?_,l.st.low⟩
   rw[b];rfl
  refine AQ _ U U ⟨i+1,Aa,Aa,?_,rfl⟩
  unfold D9;rw[if_pos ⟨y.1,A⟩,if_neg (by rw[he];simp),if_neg J,if_neg (by rw[q];decide)]
 ·simp only[zb]at y
  have R: ¬(i<len s/\A4 s i=46):=by omega
  refine A1 U (λ q=>?_) (λ q=>?_)
  ·have b:D9 s i first=(OM,i):=by unfold D9;rw[if_neg R,if_pos q]
   refine A2 E U U U λ w M l=>⟨?_,l.st.low⟩
   rw[b];rfl
  refine AQ _ U U ⟨i,Int.le_refl _,h1,?_,rfl⟩
  unfold D9;rw[if_neg R,if_neg (by rw[q];decide)]
 ·rintro _ ⟨j,hj0,hj1,F,rfl⟩
  refine A1 U (λ K=>?_) (λ K=>?_)<;>simp only[zb]at K
  ·have b:D9 s i first=(OM,i):=by rw[F];unfold MQ;rw[if_pos Aa]
   refine A2 E U U U λ w M l=>⟨?_,l.st.low⟩
   rw[b];rfl
  refine AB U call204 U U (λ _ w M l=>Aa2 s (j+1) w Aa Aa Aa) U ?_
  have hfb:j+1<=(H8 s (j+1)).2/\(H8 s (j+1)).2<=len s:=by
   unfold H8
   obtain⟨r,hr⟩:=pU s (j+1)
   have hl:=ED s (j+1) Aa Aa
   rw[hr,AN]at hl
   have:=A6 r
   have:=A6 (EL s (j+1))
   split<;>dsimp only<;>omega
  refine A1 U (λ L=>?_) (λ L=>?_)<;>simp only[zb]at L
  ·have b:D9 s i first=(OM,i):=by rw[F];unfold MQ;rw[if_neg Aa,if_pos Aa]
   refine A2 E U U U λ w M l=>⟨?_,l.st.low⟩
   rw[b];rfl
  ·have b:D9 s i first=(⟨true,[],(H8 s (j+1)).1⟩,(H8 s (j+1)).2+1):=by rw[F];unfold MQ;rw[if_neg Aa,if_neg Aa]
   refine A2 E U U U λ w M l=>⟨?_,l.st.low⟩
   rw[b];rfl
theorem Aa6{s:A0}{i:Int}{first:Bool}(h0:0<=i)(h1:i<=len s):i<=(D9 s i first).2/\(D9 s i first).2<=len s:=by
 by_cases h:(D9 s i first).2=i
 ·rw[h];omega
 ·have:=pW h0 (x:=(D9 s i first).1) (zz:=(D9 s i first).2) U h
  omega
theorem SQ{α:Type}{l:List α}(h:len l=0):l=[]:=by
 cases l with
 |nil=>rfl
 |cons a l=>rw[AH]at h;have:=A6 l;omega
theorem VD{α:Type}(p:List α):p.isEmpty=(len p==0):=by
 cases p with
 |nil=>rfl
 |cons a p=>symm;show _=false;rw[beq_eq_false_iff_ne,AH];have:=A6 p;omega
theorem Sp.cells_one (x:Sp): ∀u∈x.cells,u.oneCell'=true:=by intro u hu;simp[Sp.cells]at hu;rcases hu with rfl|rfl|rfl<;>rfl
theorem Aa7{D:World}{M:Mem}(s:A0)(hS:Sat D M)(H:len s<=1048576):
  Calls prog 138 [str s,i64 0].toArray D (ET D M (λ v:Value=>.tuple #[v,i64 (EM s 0).2]) (λ _=>True) (λ v=>[(0,kn v 3 (EM s 0).1 Sp.cells)])):=by
 have E:=A6 s
 refine AE A8 func138 U ntmps138 [] [] [.v (str s),I 0] U (Aj hS) A3 (λ B C=>B9 1 [] Sp.cells 3 105 Sp.AO U U Ah U λ v=>AT (σ:=Int×Value×List Sp) (λ(i,v,p)=>⟨[(1,kn v 3 p Sp.cells)],[(1,.ho (.own 105 3 v p.length (p.flatMap Sp.cells)))],[Z 0 (.v (str s)),Z 1 (I i),Z 6 (.sl 1 v),Z 7 (I 0)]⟩) (λ(i,v,p)=>0<=i/\i<=len s/\len p<=20/\FN (20-p.length) s p i=FN 20 s [] 0) (λ(i,v,p)=>20-p.length) (0,v,[]) U U ⟨Aa,E,by show(0:Int)<=20;omega,rfl⟩ ?_) U
 rintro⟨i,v,p⟩ ⟨y,z,F,n⟩
 have J:(p.length:Int)=len p:=rfl
 have K:=A6 p
 refine A1 U (λ A=>?_) (λ A=>?_)<;>simp only[zb]at A
 ·have L:=Aa6 (first:=len p==0) y z
  obtain⟨f,G⟩: ∃f,20-p.length=f+1:=⟨19-p.length,Aa⟩
  refine AB U call173 U U (λ _ w M j=>Aa5 s i (len p==0) w y z H) U <|AZ 2 U zeroValue105 U λ P=>?_
  refine A1 U (λ l=>?_) (λ l=>?_)<;>simp only[zb]at l
  ·have e:FN 20 s [] 0=(p,i):=by rw[<-n,G,FN,VD,if_pos l]
   refine A1 U (λ h=>?_) (λ h=>?_)<;>simp only[zb]at h
   ·have k:p=[]:=SQ Aa
    have b:EM s 0=([],0+1):=by unfold EM;rw[e,if_pos ⟨k,Aa,Aa⟩]
    subst k
    exact A2 C U U U λ w M j=>⟨v,M,by rw[b];rfl,trivial,j.st.done,by rw[b];exact fc 0 (j.sl 1 U) Sp.AO A3⟩
   ·have b:EM s 0=(p,i):=by
     unfold EM;rw[e,if_neg]
     rintro⟨q,N,O⟩
     have q:p=[]:=q
     rw[q,len_nil]at h;omega
    exact A2 C U U U λ w M j=>⟨v,M,by rw[b];rfl,trivial,j.st.done,by rw[b];exact fc 0 (j.sl 1 U) Sp.AO A3⟩
  ·refine B9 3 [(D9 s i (len p==0)).1] Sp.cells 3 105 Sp.AO U U Ah U λ v2=>EC 32 U U U underlying61 type105 U U Sp.cells_one (by simp only[AH,len_nil];omega) λ v'=>AR ((D9 s i (len p==0)).2,v',p++[(D9 s i (len p==0)).1]) U U ⟨Aa,Aa,by rw[AN];show len p+1<=20;omega,?_⟩ (by show 20-(p++[_]).length<20-p.length;rw[List.length_append,List.length_singleton];omega)
   rw[<-n,G,FN,VD,if_neg l,List.length_append,List.length_singleton,show 20-(p.length+1)=f by omega]
 ·have e:FN 20 s [] 0=(p,i):=by rw[<-n,show 20-p.length=0 by omega,FN]
  refine A1 U (λ h=>?_) (λ h=>?_)<;>simp only[zb]at h
  ·have k:p=[]:=SQ Aa
   have b:EM s 0=([],0+1):=by unfold EM;rw[e,if_pos ⟨k,Aa,Aa⟩]
   subst k
   exact A2 C U U U λ w M j=>⟨v,M,by rw[b];rfl,trivial,j.st.done,by rw[b];exact fc 0 (j.sl 1 U) Sp.AO A3⟩
  ·have b:EM s 0=(p,i):=by
    unfold EM;rw[e,if_neg]
    rintro⟨q,N,O⟩
    have q:p=[]:=q
    rw[q,len_nil]at h;omega
   exact A2 C U U U λ w M j=>⟨v,M,by rw[b];rfl,trivial,j.st.done,by rw[b];exact fc 0 (j.sl 1 U) Sp.AO A3⟩
theorem gI{q:World}{M:Mem}(s:A0)(hS:Sat q M)(y:len s<=1048576):
  Calls prog 82 [str s].toArray q (ET q M (λ v:Value=>.tuple #[v,i64 (CQ s).2.1,i64 (CQ s).2.2]) (λ _=>True) (λ v=>[(0,kn v 3 (CQ s).1 Sp.cells)])):=by
 refine AE A8 func82 U ntmps82 [] [] [.v (str s)] U (Aj hS) A3 (λ B n=>B3 (λ v:Value=>.tu [.sl 1 v,I (EM s 0).2]) [1] U U call138 U (λ w M i=>Aa7 s i.st.sat y) λ v _=>?_) U
 refine A1 U (λ h=>?_) (λ h=>?_)<;>simp only[zb]at h
 ·have b:CQ s=((EM s 0).1,0,0):=by unfold CQ;rw[if_pos h]
  exact A2 n U U U λ w M i=>⟨v,M,by rw[b];rfl,trivial,i.st.done,by rw[b];exact fc 0 (i.sl 1 U) Sp.AO A3⟩
 refine A1 U (λ j=>?_) (λ j=>?_)<;>simp only[zb]at j
 ·have b:CQ s=([],0,1):=by unfold CQ;rw[if_neg h,if_pos (SQ j)]
  refine A2 n U U U λ w M i=>⟨.slice none 0 0,M,by rw[b];rfl,trivial,i.st.done,by rw[b];exact fc 0 (l:=([]:List Sp)) (Sl.nil ..) Sp.AO A3⟩
 refine A1 U (λ k=>?_) (λ k=>?_)<;>simp only[zb]at k
 ·have b:CQ s=([],(EM s 0).2,1):=by unfold CQ;rw[if_neg h,if_neg (λ e=>j (by rw[e];rfl)),if_pos k]
  refine A2 n U U U λ w M i=>⟨.slice none 0 0,M,by rw[b];rfl,trivial,i.st.done,by rw[b];exact fc 0 (l:=([]:List Sp)) (Sl.nil ..) Sp.AO A3⟩
 ·have b:CQ s=((EM s 0).1,0,0):=by unfold CQ;rw[if_neg h,if_neg (λ e=>j (by rw[e];rfl)),if_neg Aa]
  exact A2 n U U U λ w M i=>⟨v,M,by rw[b];rfl,trivial,i.st.done,by rw[b];exact fc 0 (i.sl 1 U) Sp.AO A3⟩
theorem rK(s:A0)(w:World)(h:len s<=1048576):Calls prog 188 [str s].toArray w λ e w'=>e= .returned (.bool (KT s))/\Ext w w':=AE A8 func188 U ntmps188 [] [] [.v (str s)] U (BB w) A3 (λ B i=>B3 (λ v:Value=>.tu [.sl 1 v,I (CQ s).2.1,I (CQ s).2.2]) [1] U U call82 U (λ w M b=>gI s b.st.sat h) λ v _=>A2 i U U U λ w M b=>⟨rfl,b.st.low⟩) U
abbrev CU(c:Nd):XV:=.ag [I c.kind,I c.many,.v (str c.name),.v (str c.s),.v (.bool c.neg),I c.e]
theorem rL(c:Nd)(w:World)(E:len c.s<=1099511627776):Calls prog 87 [EH c].toArray w λ e w'=>e= .returned (.bool (DT c))/\Ext w w':=by
 refine AE A8 func87 U ntmps87 [] [] [CU c] U (BB w) A3 (λ B l=>BO 1 U U U λ q=>CZ 0 (λ s=> ∃b:Bool,(b=true↔(c.kind=0\/c.kind=1\/c.kind=2))/\s=⟨[],[(1,.box q [I c.kind,I c.many,.v (str []),.v (str c.s),.v (.bool c.neg),I c.e] 46)],[Z 1 (.bx 1 q 0),Z 5 (I c.kind),Z 6 (.v (.bool b))]⟩) U U (λ h1=>?_) (λ h1=>?_) ?_) U
 ·exact AQ _ U U ⟨_,by simp only[zb]at h1 ⊢;omega,rfl⟩
 ·exact A1 U (λ z=>AQ _ U U ⟨_,by simp only[zb]at z ⊢;omega,rfl⟩) (λ z=>AQ _ U U ⟨_,by simp only[zb]at h1 z ⊢;omega,rfl⟩)
 rintro _ ⟨b,j,rfl⟩
 refine A1 U (λ A=>?_) (λ A=>?_)
 ·refine AU (.v (.bool (decide (KU c=⟨c.kind,0,[],[],false,0⟩)))) U U (λ w M h=>PV.bin (AF (v:=CU (KU c)) U) (AF (v:=CU ⟨c.kind,0,[],[],false,0⟩) U) (λ _ w _=>S7 _ _ _ _ w)) <|A2 l U U U λ w M h=>⟨?_,h.st.low⟩
  unfold DT;rw[if_pos (j.1 A)];rfl
 have y:=λ e=>(by rw[A]at j;simp at j;omega: ¬(c.kind=0\/c.kind=1\/c.kind=2)) e
 refine A1 U (λ k=>?_) (λ k=>?_)<;>simp only[zb]at k
 ·refine AB U call140 U U (λ _ w M h=>AF9 (KU c) w (by show len c.s<=_;omega)) U <|A2 l U U U λ w M h=>⟨?_,h.st.low⟩
  unfold DT;rw[if_neg y,if_pos k];rfl
 refine A1 U (λ n=>?_) (λ n=>?_)<;>simp only[zb]at n
 ·refine AB U call125 U U (λ _ w M h=>UQ c.s w Aa) U <|AU (.v (.bool (decide (KU c=⟨c.kind,0,[],c.s,false,0⟩)))) U U (λ w M h=>PV.bin (AF (v:=CU (KU c)) U) (AF (v:=CU ⟨c.kind,0,[],c.s,false,0⟩) U) (λ _ w _=>S7 _ _ _ _ w)) <|A2 l U U U λ w M h=>⟨?_,h.st.low⟩
  unfold DT;rw[if_neg y,if_neg k,if_pos n];rfl
 refine CZ 0 (λ s=> ∃b:Bool,(b=true↔(c.kind=5\/c.kind=6))/\s=⟨[],[(1,.box q [I c.kind,I c.many,.v (str []),.v (str c.s),.v (.bool c.neg),I c.e] 46)],[Z 1 (.bx 1 q 0),Z 33 (.v (.bool b))]⟩) U U (λ h1=>?_) (λ h1=>?_) ?_
 ·exact AQ _ U U ⟨_,by simp only[zb]at h1 ⊢;omega,rfl⟩
 ·exact AQ _ U U ⟨_,by simp only[zb]at h1 ⊢;omega,rfl⟩
 rintro _ ⟨F,i,rfl⟩
 refine A1 U (λ C=>?_) (λ C=>?_)
 ·refine AU (.v (.bool (decide (KU c=⟨c.kind,c.many,[],[],false,0⟩)))) U U (λ w M h=>PV.bin (AF (v:=CU (KU c)) U) (AF (v:=CU ⟨c.kind,c.many,[],[],false,0⟩) U) (λ _ w _=>S7 _ _ _ _ w)) <|A2 l U U U λ w M h=>⟨?_,h.st.low⟩
  unfold DT;rw[if_neg y,if_neg k,if_neg n,if_pos (i.1 C)];rfl
 ·have D: ¬(c.kind=5\/c.kind=6):=λ e=>by have:=i.2 e;rw[C]at this;cases this
  refine A2 l U U U λ w M h=>⟨?_,h.st.low⟩
  unfold DT;rw[if_neg y,if_neg k,if_neg n,if_neg D];rfl
theorem Aa8(c:Nd)(v:Value)(M:Mem)(w:World)(k:Sat w M)(l:Sl M 6 [c].length v ([c].flatMap Nd.cells)):
    Calls prog 86 [v,i64 0].toArray w λ e w'=>e= .returned (i64 (if c.many=0 then 1 else-1))/\Ext w w':=by
 have hl:len [c]=1:=rfl
 refine AE (Hr:=[]) A8 func86 U ntmps86 [(0,kn v 6 [c] Nd.cells)] [] [.sl 0 v,I 0] U (Aj k) (fc 0 l Nd.AO A3) (λ B h=>AT (σ:=Int×Int) (λ(o,i)=>⟨[(0,kn v 6 [c] Nd.cells)],[],[Z 0 (.sl 0 v),Z 1 (I i),Z 5 (I o)]⟩) (λ(o,i)=>(o=1/\i=0)\/(o=c.many/\i=1/\0<=c.many/\c.many<=1)) (λ(o,i)=>(1-i).toNat) (1,0) U U (.inl ⟨rfl,rfl⟩) ?_) U
 rintro⟨o,i⟩ n
 refine A1 U (λ h1=>?_) (λ h1=>?_)<;>simp only[zb]at h1
 ·have q:i=0->(at' [c] i).many=c.many:=λ e=>by subst e;rfl
  refine A1 U (λ j=>?_) (λ j=>?_)<;>simp only[zb]at j
  ·refine A2 h U U U λ w M b=>⟨?_,b.st.low⟩
   rw[if_neg (by have:=q;omega)];rfl
  ·have hi:i=0:=by omega
   subst hi
   have s:(at' [c] 0).many=c.many:=rfl
   exact AR (c.many,1) U (by dsimp only;rw[show c.many=o-1+(at' [c] 0).many by omega];rfl) (.inr ⟨rfl,rfl,Aa,Aa⟩) Ag
 ·have hm:c.many=0/\i=1:=by omega
  refine A2 h U U U λ w M b=>⟨?_,b.st.low⟩
  rw[if_pos hm.1,hm.2];rfl
theorem Aa9(c:Nd)(v:Value)(M:Mem)(w:World)(b:Sat w M)(h:Sl M 6 [c].length v ([c].flatMap Nd.cells))(h0:c.many=0):
   Calls prog 88 [v,i64 0].toArray w λ e w'=>e= .returned (.bool true)/\Ext w w':=by
 have hl:len [c]=1:=rfl
 have hm:(at' [c] 0).many=0:=h0
 refine AE (Hr:=[]) A8 func88 U ntmps88 [(0,kn v 6 [c] Nd.cells)] [] [.sl 0 v,I 0] U (Aj b) (fc 0 h Nd.AO A3) (λ B i=>AT (σ:=Unit) (λ _=>⟨[(0,kn v 6 [c] Nd.cells)],[],[Z 0 (.sl 0 v),Z 1 (I 0),Z 5 (I 1),Z 6 (I 0)]⟩) (λ _=>True) (λ _=>0) () U U trivial ?_) U
 rintro⟨⟩ _
 refine A1 U (λ h1=>?_) (λ h1=>?_)<;>simp only[zb]at h1
 ·omega
 ·exact A2 i U U U λ w M j=>⟨rfl,j.st.low⟩
theorem rM(c:Nd)(v:Value)(M:Mem)(w:World)(q:Sat w M)(y:Sl M 6 [c].length v ([c].flatMap Nd.cells))(z:len c.s<=1099511627776):
    Calls prog 37 [v].toArray w λ e w'=>e= .returned (.bool (decide (c.name=[])&&decide (c.many=0)&&DT c))/\Ext w w':=by
 have hl:len [c]=1:=rfl
 have D:(at' [c] 0).name=c.name:=rfl
 refine AE (Hr:=[]) A8 func37 U ntmps37 [(0,kn v 6 [c] Nd.cells)] [] [.sl 0 v] U (Aj q) (fc 0 y Nd.AO A3) (λ B h=>AB U call86 U U (λ _ w M b=>Aa8 c v M w b.st.sat (b.sl 0 U)) U ?_) U
 refine A1 U (λ h1=>?_) (λ h1=>?_)<;>simp only[zb]at h1
 ·refine A2 h U U U λ w M b=>⟨?_,b.st.low⟩
  have:(decide (c.name=[])&&decide (c.many=0)&&DT c)=false:=by
   rcases h1 with(h1|h1)|h1
   ·omega
   ·have h1: ¬c.name=[]:=h1
    rw[decide_eq_false h1];rfl
   ·by_cases hm:c.many=0
    ·rw[if_pos hm]at h1;omega
    ·rw[decide_eq_false hm,Bool.and_false];rfl
  rw[this];rfl
 have hm:c.many=0:=Classical.byContradiction λ e=>by rw[if_neg e]at h1;omega
 have j:c.name=[]:=h1.1.2
 refine AT (σ:=Int) (λ i=>⟨[(0,kn v 6 [c] Nd.cells)],[],[Z 0 (.sl 0 v),Z 3 (I i)]⟩) (λ i=>0<=i/\i<=1/\(i=1->DT c=true)) (λ i=>(1-i).toNat) 0 rfl rfl ⟨Aa,Aa,λ e=>by cases e⟩ ?_
 rintro i ⟨A,C,k⟩
 refine A1 U (λ n=>?_) (λ n=>?_)<;>simp only[zb]at n
 ·have hi:i=0:=by omega
  subst hi
  refine AB U call87 U U (λ _ w M b=>rL c w z) U <|AB U call88 U U (λ _ w M b=>Aa9 c v M w b.st.sat (b.sl 0 U) hm) U <|A1 U (λ l=>?_) (λ l=>?_)
  ·have hp:DT c=false:=by simpa using l
   refine A2 h U U U λ w M b=>⟨?_,b.st.low⟩
   rw[hp,Bool.and_false];rfl
  ·have hp:DT c=true:=by simpa using l
   exact AR 1 U U ⟨Aa,Aa,λ _=>hp⟩ Ag
 ·have hp:=k Aa
  refine A2 h U U U λ w M b=>⟨?_,b.st.low⟩
  rw[hp,decide_eq_true hm,decide_eq_true j];rfl
theorem YW(f:Vl)(v:Value)(i:Int)(M:Mem)(w:World)(n:Sat w M)(s:Sl M 6 f.length v (f.flatMap Nd.cells))(E:len f<=1048576)(h0:0<=i)(h1:i<=1048576):
    Calls prog 86 [v,i64 i].toArray w λ e w'=>e= .returned (i64 (IY f i))/\Ext w w':=by
 have y:=A6 f
 refine AE (Hr:=[]) A8 func86 U ntmps86 [(0,kn v 6 f Nd.cells)] [] [.sl 0 v,I i] U (Aj n) (fc 0 s Nd.AO A3) (λ B h=>AT (σ:=Nat×Int×Int) (λ(g,o,j)=>⟨[(0,kn v 6 f Nd.cells)],[],[Z 0 (.sl 0 v),Z 1 (I j),Z 5 (I o)]⟩) (λ(g,o,j)=>K3 g f o j=IY f i/\len f+2<=g+j/\i<=j/\(o=1/\j=i\/j<=len f)/\o<=1+(j-i)*1048576/\0<=o) (λ(g,o,j)=>(len f-j).toNat) (f.length+2,1,i) U U ⟨rfl,by unfold len;omega,Aa,.inl ⟨rfl,rfl⟩,Aa,Aa⟩ ?_) U
 rintro⟨g,o,j⟩ ⟨hg,z,F,A,ho,C⟩
 refine A1 U (λ k=>?_) (λ k=>?_)<;>simp only[zb]at k
 ·refine A1 U (λ l=>?_) (λ l=>?_)<;>simp only[zb]at l
  ·have D:IY f i= -1:=by
    rw[<-hg]
    cases g with
    |zero=>rfl
    |succ g=>rw[K3,if_neg Aa,if_pos Aa]
   refine A2 h U U U λ w M b=>⟨?_,b.st.low⟩
   rw[D];rfl
  ·obtain⟨g,rfl⟩: ∃q,g=q+1:=⟨g-1,Aa⟩
   rw[K3,if_neg Aa,if_neg Aa]at hg
   exact AR (g,o-1+(at' f j).many,j+1) U U ⟨hg,Aa,Aa,.inr Aa,Aa,Aa⟩ Ag
 ·obtain⟨g,rfl⟩: ∃q,g=q+1:=⟨g-1,Aa⟩
  rw[qD Aa]at hg
  refine A2 h U U U λ w M b=>⟨?_,b.st.low⟩
  rw[<-hg];rfl
theorem Ab0(f:Vl)(v:Value)(z:Int)(t:Tr)(M:Mem)(w:World)(Q:Sat w M)(R:Sl M 6 f.length v (f.flatMap Nd.cells))(S:len f<=1048576)(H: ∀n∈f,len n.name<=1048576)(N:EN f z t)(hw:t.wf):
    Calls prog 88 [v,i64 z].toArray w λ e w'=>e= .returned (.bool (LM f z))/\Ext w w':=by
 have hx:=N.node
 obtain⟨⟨us,C,J,K⟩,T,V⟩:=AT2 N hw
 refine AE (Hr:=[]) A8 func88 U ntmps88 [(0,kn v 6 f Nd.cells)] [] [.sl 0 v,I z] U (Aj Q) (fc 0 R Nd.AO A3) (λ B L=>AT (σ:=List Tr×Int×Int) (λ(q,i,k)=>⟨[(0,kn v 6 f Nd.cells)],[],[Z 0 (.sl 0 v),Z 1 (I z),Z 5 (I i),Z 6 (I k)]⟩) (λ(q,i,k)=>0<=k/\DU f i q/\EW q/\len q=(at' f z).many-k/\QK q.length f z k i=LM f z) (λ(q,i,k)=>q.length) (us,z+1,0) U U ⟨Aa,K,J,C,by unfold LM;congr 1;unfold len at C;omega⟩ ?_) U
 rintro⟨q,i,k⟩ ⟨W,D,E,l,s⟩
 have hle:=D.le
 have X:=A6 q
 refine A1 U (λ O=>?_) (λ O=>?_)<;>simp only[zb]at O
 ·cases q with
  |nil=>rw[len_nil]at l;omega
  |cons y q=>
   have P:=D.first.node
   have F:=fR D.first E.1
   have hys:=y.size_pos
   have hnl:=H _ (at_mem P.1 P.2.1)
   have hq1:=A6 q
   rw[AH]at l
   rw[C3]at hle
   have hto:=λ h=>AT3 D.rest (us:=q) h
   rw[List.length_cons,QK,F]at s
   refine AB U call125 U U (λ _ w M j=>UQ (at' f i).name w Aa) U ?_
   refine A1 U (λ G=>?_) (λ G=>?_)<;>simp only[zb]at G
   ·refine A2 L U U U λ w M j=>⟨?_,j.st.low⟩
    rw[<-s,if_pos G];rfl
   rw[if_neg (λ e=>by rcases e with⟨a,b⟩|a;exact G.1.elim (λ c=>c a) b;rw[G.2]at a;cases a)]at s
   refine AB U call86 U U (λ _ w M j=>YW f v i M w j.st.sat (j.sl 0 U) S Aa Aa) U ?_
   rw[F]
   refine DQ U BI Ac (DR U ?_)
   refine A1 U (λ A=>?_) (λ A=>?_)<;>simp only[zb]at A
   ·refine A2 L U U U λ w M j=>⟨?_,j.st.low⟩
    rw[<-s,if_pos ⟨A.1.1,A.1.2,A.2⟩];rfl
   ·rw[if_neg (λ e=>by rcases A with(a|a)|a;exact a e.1;omega;rw[e.2.2]at a;cases a)]at s
    exact AR (q,i+y.size,k+1) U U ⟨Aa,D.rest,E.2,Aa,s⟩ (by show q.length<(y::q).length;simp)
 ·have:q=[]:=by
   cases q with
   |nil=>rfl
   |cons y q=>rw[AH]at l;have:=A6 q;omega
  subst this
  refine A2 L U U U λ w M j=>⟨?_,j.st.low⟩
  rw[<-s];rfl
theorem Ab1(f:Vl)(v:Value)(M:Mem)(w:World)(G:Sat w M)(H:Sl M 6 f.length v (f.flatMap Nd.cells))(F:len f<=1048576)(k: ∀n∈f,len n.name<=1048576/\len n.s<=1048576):
    Calls prog 37 [v].toArray w λ e w'=>e= .returned (.bool (OO f))/\Ext w w':=by
 have J:=A6 f
 refine AE (Hr:=[]) A8 func37 U ntmps37 [(0,kn v 6 f Nd.cells)] [] [.sl 0 v] U (Aj G) (fc 0 H Nd.AO A3) (λ B A=>AB U call86 U U (λ _ w M j=>YW f v 0 M w j.st.sat (j.sl 0 U) F Aa Aa) U ?_) U
 refine A1 U (λ h1=>?_) (λ h1=>?_)<;>simp only[zb]at h1
 ·refine A2 A U U U λ w M j=>⟨?_,j.st.low⟩
  unfold OO
  rw[if_pos (by rcases h1 with(h1|h1)|h1;exact .inl (qG.1 h1);exact .inr (.inl h1);exact .inr (.inr h1))];rfl
 obtain⟨t,hw,C⟩:=qF h1.2 (λ e=>h1.1.1 (by rw[e];rfl))
 have D:OO f=QL (f.length+1) f 0:=by
  unfold OO
  exact if_neg λ e=>by rcases e with e|e|e;exact h1.1.1 (qG.2 e);exact e h1.1.2;exact e h1.2
 refine AT (σ:=Int×Nat) (λ(i,g)=>⟨[(0,kn v 6 f Nd.cells)],[],[Z 0 (.sl 0 v),Z 3 (I i)]⟩) (λ(i,g)=>0<=i/\i<=len f/\i+g=len f+1/\QL g f i=OO f) (λ(i,g)=>(len f-i).toNat) (0,f.length+1) U U ⟨Aa,Aa,by unfold len;omega,D.symm⟩ ?_
 rintro⟨i,g⟩ ⟨l,K,L,b⟩
 obtain⟨g,rfl⟩: ∃q,g=q+1:=⟨g-1,Aa⟩
 rw[QL]at b
 refine A1 U (λ y=>?_) (λ y=>?_)<;>simp only[zb]at y
 ·rw[if_neg Aa]at b
  have N:=k _ (at_mem l y)
  obtain⟨u,hu,E⟩: ∃u,EN f i u/\u.wf:=by rw[C]at y ⊢;exact Tr.YR hw l y
  refine AB U call87 U U (λ _ w M j=>rL (at' f i) w Aa) U <|AB U call88 U U (λ _ w M j=>Ab0 f v i u M w j.st.sat (j.sl 0 U) F (λ n h=>(k n h).1) hu E) U ?_
  refine A1 U (λ z=>?_) (λ z=>?_)<;>simp only[zb]at z
  ·refine A2 A U U U λ w M j=>⟨?_,j.st.low⟩
   rw[<-b,if_pos z];rfl
  ·rw[if_neg (λ e=>by rcases e with e|e;rw[z.1]at e;cases e;rw[z.2]at e;cases e)]at b
   exact AR (i+1,g) U U ⟨Aa,Aa,Aa,b⟩ Ag
 ·rw[if_pos Aa]at b
  refine A2 A U U U λ w M j=>⟨?_,j.st.low⟩
  rw[<-b];rfl
def OT(m:Int)(f:Vl):Bool:=decide (len f<=m)&&f.all (λ n=>decide (len n.s<=200)&&decide (len n.name<=200))&&OO f
theorem Ab2(f:Vl)(v:Value)(m:Int)(M:Mem)(w:World)(A:Sat w M)(C:Sl M 6 f.length v (f.flatMap Nd.cells))(D:0<=m)(hm:m<=1048576):
    Calls prog 15 [v,i64 m].toArray w λ e w'=>e= .returned (.bool (OT m f))/\Ext w w':=by
 have E:=A6 f
 refine AE (Hr:=[]) A8 func15 U ntmps15 [(0,kn v 6 f Nd.cells)] [] [.sl 0 v,I m] U (Aj A) (fc 0 C Nd.AO A3) (λ B q=>?_) U
 refine A1 U (λ h1=>?_) (λ h1=>?_)<;>simp only[zb]at h1
 ·refine A2 q U U U λ w M j=>⟨?_,j.st.low⟩
  unfold OT;rw[decide_eq_false Aa];rfl
 refine AT (σ:=Int) (λ i=>⟨[(0,kn v 6 f Nd.cells)],[],[Z 0 (.sl 0 v),Z 1 (I m),Z 5 (I i)]⟩) (λ i=>0<=i/\i<=len f/\ ∀x∈Eng.sub f 0 i,len x.s<=200/\len x.name<=200) (λ i=>(len f-i).toNat) 0 rfl rfl ⟨Aa,Aa,λ x hx=>by cases hx⟩ ?_
 intro i ⟨k,F,b⟩
 refine A1 U (λ l=>?_) (λ l=>?_)<;>simp only[zb]at l
 ·refine A1 U (λ z=>?_) (λ z=>?_)<;>simp only[zb]at z
  ·refine A2 q U U U λ w M j=>⟨?_,j.st.low⟩
   have:(f.all λ n=>decide (len n.s<=200)&&decide (len n.name<=200))=false:=by
    refine Bool.eq_false_iff.2 λ e=>?_
    have:=List.all_eq_true.1 e _ (at_mem k l)
    simp only[Bool.and_eq_true,decide_eq_true_eq]at this
    omega
   unfold OT;rw[this,Bool.and_false];rfl
  ·refine AR (i+1) U U ⟨Aa,Aa,λ x hx=>?_⟩ Ag
   rw[HQ k l]at hx
   rcases List.mem_append.1 hx with h|h
   ·exact b x h
   ·rw[List.mem_singleton.1 h];omega
 ·have y:i=len f:=by omega
  subst y
  rw[ID Aa]at b
  refine AB U call37 U U (λ _ w M j=>Ab1 f v M w j.st.sat (j.sl 0 U) Aa (λ n h=>by have:=b n h;omega)) U <|A2 q U U U λ w M j=>⟨?_,j.st.low⟩
  have:(f.all λ n=>decide (len n.s<=200)&&decide (len n.name<=200))=true:=List.all_eq_true.2 λ x hx=>by
   have:=b x hx
   simp only[Bool.and_eq_true,decide_eq_true_eq];exact this
  unfold OT;rw[decide_eq_true Aa,this];rfl
end Go.Proofs.YtnoegalemkbbbaaGreatDoor
namespace Go.Eng
open Go.RowKit
def Ab3:A0:=[110,117,109]
def Ab4:A0:=[115,116,114]
def SR:List A0:=[V1,UZ,UY,Ab3,Ab4]
def QO(l:List Tk)(m i:Int):PR Int:=
 if(at' l i).kind=2/\(at' l i).s∈SR/\(m.toNat/2^ (SR.idxOf (at' l i).s))%2=0 then .ok (m+(2^ (SR.idxOf (at' l i).s):Nat)) (i+1)else K1 l i 1
def YX:Nat->List Tk->Int->Int->PR Int
 |0,l,_,i=>K1 l i 1
 |f+1,l,m,i=>if CM l i [124]then(QO l m (i+1)).bind λ n j=>YX f l n j else .ok m i
def YY(l:List Tk)(i:Int):PR Tf:=
 if(at' l i).kind=1/\(at' l i).s∈XZ then(eC l (i+1)).bind λ c k=>.ok (.mk ⟨9,0,[],[],(XZ.idxOf (at' l i).s:Nat),c⟩ []) k else K1 l i 1
def rN:Nat->List Tk->List Tf->Int->PR (List Tf)
 |0,l,_,i=>K1 l i 1
 |f+1,l,xs,i=>if CM l i [44]then(YY l (i+1)).bind λ x j=>rN f l (xs++[x]) j else .ok xs i
def rO(m:Int)(xs:List Tf):Tf:=.mk { BK 1 with n:=m} xs
def BM9(l:List Tk)(d i:Int):PR Tf:=(QO l 0 i).bind λ m0 i0=>(YX l.length l m0 i0).bind λ m j=>
 if CM l j [40]then(LB l d j [40]).bind λ _ k=>(YY l k).bind λ x n=>(rN l.length l [x] n).bind λ xs o=>(H4 l o [41]).bind λ _ p=>.ok (rO m xs) p
 else .ok (rO m []) j
def rP(x:Tf):List Tf->List Tf
 |[]=>[x]
 |y::l=>if x.t.name<=y.t.name then x::y::l else y::rP x l
def rQ:List Tf->List Tf
 |[]=>[]
 |x::l=>rP x (rQ l)
end Go.Eng
namespace Go.Proofs.YtnoegalemkbbbaaGreatDoor
open Go.Proofs.Tryz
open Go.Eng
end Go.Proofs.YtnoegalemkbbbaaGreatDoor
namespace Go.Eng
open Go.RowKit
theorem YZ{P:Program}{N:Nat}{w0 w:World}{M0 M:Mem}{Hr:List HO}{T:TT}(hT:DP P T){f:FuncId}{fn:Func}{x:Code}{R:Ending->World->Prop}(i:P.funcs[f]? =some fn)(j:fn.body=some x)(k:fn.ntmps=N)(b:DC x=true)(ho: ∀w,¬R .outgrown w)
  (F:List (Nat×Kn)) (H:List (Nat×HX)) (vs:List XV) (hl:Nat.ble vs.length N=true) (hS:St w0 M0 w M (HD H++Hr)) (hF:BH M F)
  (h: ∀B,Ends P fn R B->XG ⟨P,N,w0,M0,M,Hr,T,hT,.S2 P none 1⟩ B [] (.code x) ⟨F,H,N8 0 vs⟩) {av:List Value} (l:vs.map XV.d=av):Calls P f av.toArray w R:=by
 subst l
 refine(callsIn_wide (n:=1)).1 (callsIn_of_wp_marks i j trivial ?_ U)
 rw[k]
 have e:=AW.enter (vs.map XV.d) N (by rw[List.length_map];exact Nat.le_of_ble_eq_true hl)
 have hE:NA P fn R (bodyPostM Fence.wide 1 P fn R):=⟨λ _ _ _ h=>h⟩
 have:=h _ hE.ends _ w ⟨by rw[<-RW]at e;exact e,M,hS,hF,Mem.le.refl _⟩
 exact this (λ⟨a,w,q⟩=>ho w q) b
theorem rR{P:Program}{w:World}{L:Env}{W:Bool}{l:Nat}{x:Operand}{xs:List Operand}{vs:List Value}(i:AD L W x (.func (.yield l) #[] #[]))(hx:EG L W xs vs){a:Act}{N:Nat}(b:AW a N L)(h:W=true){d:Option Tmp}{tys:Array TypeId}{ty:TypeId}{ps:String}{af:Array Edge}{gd:Option (Nat×Bool)}:
  (execOp a.eval ⟨d,.call ⟨.value x,xs.toArray,tys⟩,ty,ps,af,gd⟩).run P w=(Instr.yield l vs.toArray).run P w:=by
 have e:xs.toArray.map a.eval=vs.toArray:=by rw[List.map_toArray,EG.map b h xs vs hx]
 simp only[execOp,resolve,e,i a N b h,Deferred.ofValue,invoke,Sem.run_bind,Sem.run_pure,Result.andThen_ok]
 simp
theorem Ab5{P:Program}{N:Nat}{w0:World}{M0 M1:Mem}{Hr:List HO}{T:TT}{hT:DP P T}{B:Exit->Act->World->Prop}{k k':List Fr}{m:Md}{s s':XS}{O:Prop}{E:List Ck}{all:Array Oper}{rest:List Oper}{d:Nat}{ty:TypeId}{ps:String}{af:Array Edge}
  {γ:Type} (j:γ->List (Nat×HX)) (ids:List Nat) {pu:γ->Prop} {Fg:γ->List (Nat×Kn)} {Hg:γ->List HO} {l:Nat} {n:Operand} {E1 E2:List Ck} {xs:List Operand} {tys:Array TypeId} {vs:List XV} {A R:List (Nat×HX)} (C:List Nat)
  (h:run T N k m s=⟨k',.ops all (⟨some d,.call ⟨.value n,⟨xs⟩,tys⟩,ty,ps,af,none⟩::rest),s',O,E⟩) (D:B5 s'.L .t n=some (.v (.func (.yield l) #[] #[]),E1)) (hd:Nat.blt d N=true) (hx:JZ s'.L .t xs=some (vs,E2))
  (G:FK ids s'.H=some (A,R)) (J: ∀w M,St w0 M0 w M (HD A++(HD R++Hr))->BH M s'.F->M1.le M->X3 P l (vs.map XV.d).toArray w (BY w0 M0 M (HD R++Hr) (λ _:γ=>.bool true) pu Fg Hg))
  (K: ∀g,pu g->XG ⟨P,N,w0,M0,M1,Hr,T,hT,.S2 P none 1⟩ B k' (.ops all rest) ⟨PX C (Fg g)++s'.F,j g++R,(d,.t,.v (.bool true))::s'.L⟩) (hE:A9 E:=by exact Ad) (hO:O:=by exact Af) (hE1:A9 E1:=by exact Ad) (hE2:A9 E2:=by exact Ad) (hH: ∀g,HD (j g)=Hg g:=by intros;rfl):XG ⟨P,N,w0,M0,M1,Hr,T,hT,.S2 P none 1⟩ B k m s:=by
 refine C5 h hE hO λ a w ⟨z,M,b⟩ hl i=>?_
 rw[List.all_cons,Bool.and_eq_true]at i
 have q:St w0 M0 w M (HD A++(HD R++Hr)):=b.st.perm (by rw[<-List.append_assoc];exact(PY G).append_right _)
 obtain⟨fn,tmps,assign,body,Q,S⟩:=J w M q b.f b.le
 unfold wpListIn
 rw[if_pos (show Region.wanted ⟨some d,.call ⟨.value n,⟨xs⟩,tys⟩,ty,ps,af,none⟩ (yielded all a.tmps)=true from rfl)]
 refine⟨λ _ _=>trivial,?_⟩
 have key:=rR (P:=P) (w:=w) (AF D (hE:=hE1)) (MB hx hE2) z U (d:=some d) (tys:=tys) (ty:=ty) (ps:=ps) (af:=af) (gd:=none)
 rw[show(FR none).round=none from rfl,show ∀(o:Oper),Oper.semAt none a.eval o=execOp a.eval o from λ _=>rfl]
 have V:(⟨xs⟩:Array Operand)=xs.toArray:=rfl
 rw[V,key,Q]
 refine⟨(λ h=>by cases h),RoundIn.mono (R:=BY w0 M0 M (HD R++Hr) (λ _:γ=>.bool true) pu Fg Hg) S λ e w' he=>?_⟩
 obtain⟨g,M',rfl,hp,hle,hS,hF⟩:=he
 have y:=S0 z hd (.v (.bool true))
 have e2:HD (j g++R)++Hr=Hg g++(HD R++Hr):=by rw[<-hH];unfold HD;rw[List.map_append,List.append_assoc]
 exact K g hp _ w' ⟨y,M',by rw[e2];exact hS,(UH hF).app (b.f.mono hle),b.le.trans hle⟩ hl i.2
end Go.Eng
namespace Go.Proofs.YtnoegalemkbbbaaGreatDoor
open Go.Proofs.Tryz
open Go.Eng
abbrev IF(F:List (Nat×Kn)):Kn:=⟨.slice none 0 0,1,([]:List A0),CO,λ M=>BH M F,λ _ _ hm h=>h.mono hm⟩
theorem Ab6{w0 w:World}{M0 M:Mem}{s z:HO}{Rs:List HO}{b:Nat}{v:Value}{t:Tf}(hl:(A7 v t.flat).ok M)(hb:len t.flat<=1099511627776):
    mK prog 165 [.pointer (some ⟨b,0,none⟩)] t.ps.length w0 M0 (s::z:: .box b [v] 23::Rs)
      (λ k (y:AJ)=>[.v (str (at' t.ps k).t.name),.sl 5 y.v]) (λ _ _=>True) (λ k y=>[(5,A7 y.v ((at' t.ps k).named []).flat)]) w M:=by
 intro σ I' Hy T l g0 ⟨D,E,hx⟩ hS hF hI hy
 have V:St w0 M0 w M (.box b [v] 23::D g0::E g0::(s::z::Rs)):=by
  rw[hx]at hS
  exact hS.perm (List.perm_middle (l₁:=[D g0,E g0,s,z])).symm
 have hmny:=t.Y1
 have hpos:=t.D7
 have hps:=KP t.ps
 have hpl:len t.flat=1+len (AM t.ps):=by rw[Tf.FM,AH];omega
 have hln:len t.ps=(t.ps.length:Int):=rfl
 refine YZ (Hr:=s::z::Rs) A8 func165 rfl ntmps165 rfl (λ w h=>by obtain⟨g,M',h,_⟩:=h;cases h) [(0,A7 v t.flat),(9,IF (T g0))] [(0,.box b [.sl 0 v] 23),(1,.ho (D g0)),(2,.ho (E g0))] [.v (.func (.yield l) #[] #[]),.bx 0 b 0] rfl V (AA hl (AA ⟨Sl.nil M 1,FY,hF⟩ A3)) (λ B hB=>AT (σ:=Int×Nat×σ) (λ(i,k,g)=>⟨[(0,A7 v t.flat),(9,IF (T g))],[(0,.box b [.sl 0 v] 23),(1,.ho (D g)),(2,.ho (E g))],[Z 0 (.v (.func (.yield l) #[] #[])),Z 1 (.bx 0 b 0),Z 3 (I i),Z 10 (I (at' t.flat 0).many),Z 11 (I k)]⟩) (λ(i,k,g)=>DD t.flat i (t.ps.drop k) []/\k<=t.ps.length/\I' k g) (λ(i,k,g)=>t.ps.length-k) (1,0,g0) U U ⟨DD.root t,Nat.zero_le _,hI⟩ ?_) rfl
 rintro⟨i,k,g⟩ ⟨hi,hk,J⟩
 refine A1 U (λ K=>?_) (λ K=>?_)<;>simp only[zb]at K
 ·have F:k<t.ps.length:=by omega
  have A:=hi.next F
  have hi2:=A.step.1
  have hi0:=hi.1
  have W:=A.step.2.1
  refine AT (σ:=Int×Int×List Tf) (λ(j,H,st)=>⟨[(0,A7 v t.flat),(9,IF (T g))],[(0,.box b [.sl 0 v] 23),(1,.ho (D g)),(2,.ho (E g))],[Z 0 (.v (.func (.yield l) #[] #[])),Z 1 (.bx 0 b 0),Z 3 (I i),Z 10 (I (at' t.flat 0).many),Z 11 (I k),Z 4 (I j),Z 5 (I H)]⟩) (λ(j,H,st)=>DD t.flat j st (AM (t.ps.drop (k+1)))/\H=len st/\i<=j/\j<=len t.flat/\(j=i->st=[at' t.ps (k:Int)])) (λ(j,H,st)=>(len t.flat-j).toNat) (i,1,[at' t.ps (k:Int)]) U U ⟨A,rfl,Aa,Aa,λ _=>rfl⟩ ?_
  rintro⟨j,H,st⟩ ⟨n,G,hit,L,X⟩
  refine A1 U (λ N=>?_) (λ N=>?_)<;>simp only[zb]at N
  ·cases st with
   |nil=>rw[len_nil]at G;omega
   |cons u st=>
    obtain⟨q1,q2,q3⟩:=n.step
    have q4:=q3.LC Aa
    have q5:=KP (u.ps++st)
    have q6:=A6 (AM (t.ps.drop (k+1)))
    have q7:(at' t.flat j).many=len u.ps:=by rw[q2]
    rw[AN]at q5
    rw[AH]at G
    have q8:=A6 u.ps
    have q9:=A6 st
    have q0:=n.1
    exact AR (j+1,H+((at' t.flat j).many-1),u.ps++st) U U ⟨q3,by rw[AN];omega,Aa,Aa,λ h=>by omega⟩ Ag
  have hse:st=[]:=by
   have:=A6 st
   cases st with
   |nil=>rfl
   |cons u st=>have:=A6 st;rw[AH]at G;omega
  subst hse
  have hlt:i<j:=by
   rcases Int.lt_or_eq_of_le hit with h|h
   · exact h
   · cases X h.symm
  have q:=A.part n hit L
  have hpp:=Tf.D7 (at' t.ps (k:Int))
  have hpl2:len (at' t.ps (k:Int)).flat<=len t.flat:=by rw[<-q,FL Aa hit L];omega
  refine HP (gd:=none) 4 i j U U U ⟨.i64,_,rfl,AG U⟩ ⟨.i64,_,rfl,AG U⟩ underlying23 sizeOf48 Aa U λ v4=>?_
  rw[q]
  refine AY [] (λ u:AJ=>.sl 5 u.v) [] (λ u=>[(5,YU u.v (at' t.ps (k:Int)).flat)]) U U call166 U U (λ w M hS hF=>AU6 v4 _ hS (hF.get (k:=4) U) (Tf.SH _) Aa) λ O _=>?_
  obtain⟨v5,P⟩: ∃v5,v5=O.v:=⟨_,rfl⟩
  rw[<-P]
  clear P O
  refine L6 { at' (at' t.ps (k:Int)).flat 0 with name:=[]} rfl U U sizeOf9 U U U Aa λ x5 Q=>?_
  rw[show((0:Int).toNat)=0 from rfl,Tf.eE]at Q
  subst Q
  refine H0 5 U ?_
  have hnm:(at' t.flat i).name=(at' t.ps (k:Int)).t.name:=by rw[W]
  refine Ab5 (λ C=>[(1,.ho (D C)),(2,.ho (E C))]) [1,2] (γ:=σ) (pu:=I' (k+1)) (Fg:=λ C=>[(9,IF (T C))]) (Hg:=Hy) [9] U U U U U (λ w' M' hS' R hle=>?_) (hH:=λ C=>by rw[hx];rfl) λ C hg'=>?_
  ·have O:=R.get (k:=5) U
   have h6:Sl M' 11 ((at' t.ps (k:Int)).named []).flat.length v5 (((at' t.ps (k:Int)).named []).flat.flatMap Tm.cells):=O.sl
   obtain⟨a,c,hv⟩:=h6.shape
   have hp:(Hy g++(s::z:: .box b [v] 23::Rs)).Perm (D g::E g:: .box b [v] 23::s::z::Rs):=by
    rw[hx]
    exact((List.perm_middle (l₁:=[s,z])).cons _).cons _
   replace hv:v5=AJ.v ⟨a,((at' t.ps (k:Int)).named []).flat.length,c⟩:=hv
   subst hv
   obtain⟨fn,tt',asg,bd,e1,e2⟩:=hy k g ⟨a,_,c⟩ w' M' F J trivial (hS'.perm hp) hle (AA O A3) (R.get (k:=9) rfl).more
   dsimp only at e1
   rw[<-hnm]at e1
   refine⟨fn,tt',asg,bd,e1,e2.mono λ e w2 h=>?_⟩
   obtain⟨C,M2,r1,r2,r3,r4,r5⟩:=h
   refine⟨C,M2,r1,r2,r3,?_,AA ⟨Sl.nil M2 1,FY,r5⟩ A3⟩
   refine r4.perm (List.Perm.append_left _ ?_)
   exact(List.perm_middle (l₁:=[s,z])).symm
  ·refine A1 U (λ S=>?_) (λ S=>?_)
   ·cases S
   ·refine AR (j,k+1,C) U U ⟨⟨n.1,?_⟩,F,hg'⟩ (by show t.ps.length-(k+1)<t.ps.length-k;omega)
    rw[n.2];simp[AM]
 ·have hk3:k=t.ps.length:=by omega
  refine WW hB U U λ w' M' hX=>⟨g,M',rfl,by rw[<-hk3];exact J,hX.le,hX.st.perm ?_,(hX.f.get (k:=9) U).more⟩
  rw[hx]
  exact List.perm_middle (l₁:=[D g,E g,s,z])
theorem Ab7{w0 i:World}{M0 M:Mem}{Rs:List HO}{v:Value}{t:Tf}(hS:St w0 M0 i M Rs)(hl:(A7 v t.flat).ok M):
  Calls prog 133 [v].toArray i (BY w0 M0 M Rs (λ b:Nat=>.func (.func 165) #[] #[.pointer (some ⟨b,0,none⟩)]) (λ _=>True) (λ _=>[]) λ b=>[.box b [v] 23]):=AE (Hr:=Rs) A8 func133 U ntmps133 [(0,A7 v t.flat)] [] [.sl 0 v] U hS (AA hl A3) (λ B j=>BO 1 U U U λ b=>AU (.v (.func (.func 165) #[] #[.pointer (some ⟨b,0,none⟩)])) U U (λ w M e=>PV.makeFunc (xs:=[]) (ys:=[.tmp 1]) (vs:=[]) (us:=[.pointer (some ⟨b,0,none⟩)]) trivial ⟨AF (v:=.bx 1 b 0) (E:=[]) U,trivial⟩) <|A2 j rfl rfl rfl λ w' M' e=>⟨b,M',rfl,trivial,e.le,e.st,λ x h=>by cases h⟩) U
abbrev VE(v:Value)(hs:List AJ):HO:=.own 23 1 v hs.length (hs.flatMap CA)
abbrev D3(t:Tf):List Fl:=t.ps.map λ x=>(x.named []).flat
theorem gJ{t:Tf}{k:Nat}(b:k<t.ps.length):(D3 t).take (k+1)=(D3 t).take k++[((at' t.ps (k:Int)).named []).flat]:=by
 obtain⟨h1,e⟩:=DB t.ps (i:=(k:Int)) Aa (by unfold len;omega)
 rw[e,List.take_add_one]
 simp[D3,b]
theorem Ab8{α:Type}{a b c:α}{l:List α}:l.Sublist (a::b::c::l):=List.sublist_append_right [a,b,c] l
theorem rS{α:Type}{a b c d:α}{l:List α}:l.Sublist (a::b::c::d::l):=List.sublist_append_right [a,b,c,d] l
theorem VF{w0 C:World}{M0 M:Mem}{Rs:List HO}{v:Value}{t:Tf}(hS:St w0 M0 C M Rs)(hl:(A7 v t.flat).ok M)(F:len t.flat<=1099511627776):
    Calls prog 77 [v].toArray C (BY w0 M0 M Rs (λ g:Value×List AJ=>g.1) (λ g=>len g.2=len t.ps) (λ g=>[(0,CS g.1 g.2 (D3 t))]) λ _=>[]):=by
 have G:=KP t.ps
 have H:len t.flat=1+len (AM t.ps):=by rw[Tf.FM,AH];omega
 have J:len t.ps=(t.ps.length:Int):=rfl
 refine UK (Hr:=Rs) A8 func77 U ntmps77 [(0,A7 v t.flat)] [] [.sl 0 v] U hS (AA hl A3) (λ B K=>AZ 1 U zeroValue55 U λ q=>AY [] (λ b:Nat=>.v (.func (.func 165) #[] #[.pointer (some ⟨b,0,none⟩)])) [] (λ b=>[(2,.box b [.sl 0 v] 23)]) U U call133 U U (λ w M hS hF=>Ab7 hS (hF.get (k:=0) U)) λ N _=>X8 [2] U U <|XB 6 23 1 CA DJ <|ES 9 (CS (.slice none 0 0) [] []) (λ w M j=>⟨Sl.nil M 1,DJ,trivial⟩) <|mS ⟨_,[(6,.ho (VE (.slice none 0 0) [])),(1,.box q [.sl 6 (.slice none 0 0)] 55)],_⟩ U U U ?_) U
 refine AF4 (σ:=Value×List AJ×List Fl) (τ:=AJ) (λ g=>⟨[(0,A7 v t.flat),(6,kn g.1 1 g.2.1 CA),(9,CS g.1 g.2.1 g.2.2)],[(1,.box q [.sl 6 g.1] 55),(6,.ho (VE g.1 g.2.1))],[Z 3 (.bx 1 q 0)]⟩) (λ k g=>g.2.2=(D3 t).take k/\g.2.1.length=k) (.slice none 0 0,[],[]) (λ k g y=>⟨[(5,A7 y.v ((at' t.ps (k:Int)).named []).flat),(0,A7 v t.flat),(6,kn g.1 1 g.2.1 CA),(9,CS g.1 g.2.1 g.2.2)],[(1,.box q [.sl 6 g.1] 55),(6,.ho (VE g.1 g.2.1))],[Z 5 (.sl 5 y.v),Z 3 (.bx 1 q 0)]⟩)
   (λ _ _ _ _ h=>h) U U call165 U ⟨rfl,rfl⟩ (λ _=>rfl) ⟨_,_,λ _=>rfl⟩ (λ w M l D r w' j=>Ab6 (j.f.get (k:=0) U) F) (λ _ _=>rfl)
   (λ k g y l D r M E A hp=>?_) U (λ k g y l D r M E A hp=>?_) U (λ D g a w A=>?_)
 ·exact AQ _ U U U
 ·obtain⟨z,n,xs⟩:=g
  obtain⟨e,i⟩:=A
  exact B9 7 [y] CA 1 23 DJ U U Ah U λ O=>EC 24 U U U underlying55 type23 U U QM (by simp only[AH,len_nil];unfold len at*;dsimp only at i;omega) λ v'=>ES 9 (CS v' (n++[y]) (xs++[((at' t.ps (k:Int)).named []).flat])) (λ w M j=>⟨j.sl 6 U,DJ,CB.snoc (j.sl 5 U) (j.f.get (k:=9) U).more⟩) <|AQ _ U U ⟨(v',n++[y],xs++[((at' t.ps (k:Int)).named []).flat]),rfl,by dsimp only at e ⊢;rw[e,gJ E],by dsimp only at i ⊢;rw[List.length_append,i];rfl⟩
 ·obtain⟨z,n,xs⟩:=g
  obtain⟨e,i⟩:=A
  dsimp only at e
  rw[List.take_of_length_le (by simp[D3])]at e
  subst e
  refine X5 8 (λ _ _ _ _ h=>h) U (s:=⟨[(0,A7 v t.flat),(6,kn z 1 n CA),(9,CS z n (D3 t))],[(1,.box q [.sl 6 z] 55),(6,.ho (VE z n))],[Z 3 (.bx 1 q 0)]⟩) ?_ a w
  refine A2 (K.E4 U D) U U U λ w M j=>?_
  obtain⟨h1,L⟩:=j.shut
  exact⟨by simp,h1,(z,n),M,rfl,by show(n.length:Int)=_;rw[i];rfl,j.le,L.drop _ Ab8,AA (j.f.get (k:=9) U) A3⟩
theorem A7.shape {M:Mem}{v:Value}{x:Fl}(h:(A7 v x).ok M): ∃s:AJ,v=s.v:=by
 obtain⟨a,c,b⟩:=h.sl.shape
 exact⟨⟨a,_,c⟩,b⟩
abbrev MT(hs:List AJ)(xs:List Fl):Kn:=⟨.slice none 0 0,1,([]:List A0),CO,λ M=>CB M 11 Tm.cells hs xs,λ _ _ hm h=>CB.mono hm h⟩
abbrev Z0(v:Value)(xs:List Sp):HO:=.own 105 3 v xs.length (xs.flatMap Sp.cells)
end Go.Proofs.YtnoegalemkbbbaaGreatDoor
