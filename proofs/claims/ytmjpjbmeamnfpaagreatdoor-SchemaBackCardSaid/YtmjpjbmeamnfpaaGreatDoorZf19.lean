/- Lemmas for the card. -/
import Derived.Test.YtmjpjbmeamnfpaaGreatDoorZf18
set_option linter.unusedVariables false
set_option linter.unusedSimpArgs false
namespace Go.Proofs
open Go.Shelf
def Tryz.AS0:Go.Shelf.Ren:=⟨λ |160=>323|232=>211|231=>72|227=>73|234=>212|233=>74|236=>213|235=>75|228=>105|271=>248|151=>107|197=>106|120=>275|152=>146|260=>145|137=>119|119=>192|224=>193|225=>194|217=>155|266=>204|n=>n,λ |9=>9|4=>4|3=>3|5=>5|117=>127|116=>126|0=>0|124=>130|21=>21|105=>157|46=>192|119=>203|139=>233|138=>232|n=>n,λ |3=>1|4=>2|n=>n⟩
theorem Tryz.AS1:Go.Proofs.Lays.n160 prog Tryz.AS0:= {
 mixed:=by kernel_rfl
 f119:=func192.trans (congrArg some (by kernel_rfl))
 f120:=func275.trans (congrArg some (by kernel_rfl))
 f137:=func119.trans (congrArg some (by kernel_rfl))
 f151:=func107.trans (congrArg some (by kernel_rfl))
 f152:=func146.trans (congrArg some (by kernel_rfl))
 f160:=func323.trans (congrArg some (by kernel_rfl))
 f197:=func106.trans (congrArg some (by kernel_rfl))
 f217:=func155.trans (congrArg some (by kernel_rfl))
 f224:=func193.trans (congrArg some (by kernel_rfl))
 f225:=func194.trans (congrArg some (by kernel_rfl))
 f227:=func73.trans (congrArg some (by kernel_rfl))
 f228:=func105.trans (congrArg some (by kernel_rfl))
 f231:=func72.trans (congrArg some (by kernel_rfl))
 f232:=func211.trans (congrArg some (by kernel_rfl))
 f233:=func74.trans (congrArg some (by kernel_rfl))
 f234:=func212.trans (congrArg some (by kernel_rfl))
 f235:=func75.trans (congrArg some (by kernel_rfl))
 f236:=func213.trans (congrArg some (by kernel_rfl))
 f260:=func145.trans (congrArg some (by kernel_rfl))
 f266:=func204.trans (congrArg some (by kernel_rfl))
 f271:=func248.trans (congrArg some (by kernel_rfl))
 t0:=underlying0
 a0:=isAgg0
 z0:=sizeOf0
 v0:=zeroValue0
 t3:=underlying3
 a3:=isAgg3
 z3:=sizeOf3
 v3:=zeroValue3
 t4:=underlying4
 a4:=isAgg4
 z4:=sizeOf4
 v4:=zeroValue4
 t5:=underlying5
 a5:=isAgg5
 z5:=sizeOf5
 v5:=zeroValue5
 t9:=underlying9
 a9:=isAgg9
 z9:=sizeOf9
 v9:=zeroValue9
 t21:=underlying21
 a21:=isAgg21
 z21:=sizeOf21
 v21:=zeroValue21
 t46:=underlying192
 a46:=isAgg192
 z46:=sizeOf192
 v46:=zeroValue192
 t105:=underlying157
 a105:=isAgg157
 z105:=sizeOf157
 v105:=zeroValue157
 t116:=underlying126
 a116:=isAgg126
 z116:=sizeOf126
 t117:=underlying127
 a117:=isAgg127
 z117:=sizeOf127
 v117:=zeroValue127
 t119:=underlying203
 a119:=isAgg203
 z119:=sizeOf203
 t124:=underlying130
 a124:=isAgg130
 z124:=sizeOf130
 v124:=zeroValue130
 t138:=underlying232
 a138:=isAgg232
 z138:=sizeOf232
 v138:=zeroValue232
 t139:=underlying233
 a139:=isAgg233
 z139:=sizeOf233
 v139:=zeroValue233
 g3:=by kernel_rfl
 g4:=by kernel_rfl}
open Go.RowKit in
theorem Tryz.strings_Trim_one (s:ByteArray)(c:UInt8)(hc:c.toNat<128)(w:World)(hs:s.size<=9223372036854775807):
 Calls prog 323 #[.string s,.string ⟨#[c]⟩] w λ e w'=>e= .returned (.string ⟨(Lib.trimB s.data.toList c).toArray⟩)/\(w'=w\/w'=w.drew):=Any.strings_Trim_one Tryz.AS1 s c hc w hs
end Go.Proofs
set_option maxRecDepth 100000
namespace Go.Proofs.YtmjpjbmeamnfpaaGreatDoor
open Go.Proofs.Tryz
open Go.Eng
theorem AS2{t:A1}{p:Int}(h0:0<=p)(h1:p<len t):CF (Eng.sub t 0 (p+1))=decide (p+1<=len (AS t)):=by
 have hl:=FB (s:=t) (i:=0) (j:=p+1) (Int.le_refl 0) (by omega) (by omega)
 have hb: ∀j:Int,0<=j->j<p+1->A2 (Eng.sub t 0 (p+1)) j=A2 t j:=λ j a b=>by
  have:=PQ (s:=t) (i:=0) (j:=p+1) (k:=j) (Int.le_refl 0) a (by omega) (by omega)
  rwa [Int.zero_add]at this
 have ho:=XD (s:=t) 0 (Int.le_refl 0)
 have hbd:=LY (s:=t) (i:=0) (Int.le_refl 0) (A4 t)
 rw[Bool.eq_iff_iff,decide_eq_true_eq,LZ,TR]
 constructor
 ·rintro⟨_,h⟩
  rcases Int.lt_or_le (CE t 0) (p+1)with hc|hc
  ·have h2:=ho.2 (A4 t) (by omega)
   rw[<-hb _ hbd.1 hc,h _ hbd.1 (by omega)]at h2;cases h2
  ·exact hc
 ·intro hc
  refine⟨λ e=>by rw[e,len_nil]at hl;omega,λ j a b=>?_⟩
  rw[hb j a (by omega)]
  exact ho.1 j a (by omega)
abbrev spV(x:Sp):Value:=.agg #[.bool x.part,str x.name,i64 x.n]
theorem AS4(s:A1)(i:Int)(first:Bool)(w:World)(h0:0<=i)(h1:i<=len s)(hb:len s<=1048576):
  Calls prog 134 [str s,i64 i,.bool first].toArray w λ e w'=>e= .returned (.tuple #[spV (D3 s i first).1,i64 (D3 s i first).2])/\Ext w w':=by
 refine AU AP func134 U ntmps134 [] [] [.v (str s),I i,.v (.bool first)] U (G7 w) AA (λ B hB=>?_) U
 refine CU 1 U (A0 U) U zeroValue68 U λ bb=>?_
 refine ES 0 (λ s'=> ∃j,i<=j/\j<=len s/\D3 s i first=OV s i j/\s'=⟨[],[(1,.box bb [.v (.bool false),.v (str []),I 0] 68)],[Z 0 (.v (str s)),Z 1 (I j),Z 6 (.bx 1 bb 0),Z 8 (I i)]⟩) U (A0 U) (by simp only[zb]<;>omega) U (λ hb1=>?_) (λ hb1=>?_) ?_
 ·simp only[zb]at hb1
  have h46:A2 s i=46:=by omega
  have hfl:=CO s (i+1) (by omega) (by omega)
  have hwb:=OC (A3 s (i+1))
  refine CD (σ:=Int) (λ k=>⟨[],[(1,.box bb [.v (.bool false),.v (str []),I 0] 68)],[Z 0 (.v (str s)),Z 1 (I (i+1)),Z 2 (.v (.bool first)),Z 6 (.bx 1 bb 0),Z 8 (I i),Z 9 (I k)]⟩) (λ k=>i+1<=k/\k<=i+1+len (AS (A3 s (i+1)))) (λ k=>(len s-k).toNat) (i+1) U (A0 U) (by omega) U ⟨by omega,by omega⟩ ?_
  rintro k ⟨hk0,hk1⟩
  have hpre:k<len s->CF (Eng.sub s (i+1) (k+1))=decide (k+1<=i+1+len (AS (A3 s (i+1)))):=λ hk=>by
   have h2:=AS2 (t:=A3 s (i+1)) (p:=k-(i+1)) (by omega) (by omega)
   rw[WQ s (i+1) _ (by omega) (by omega),show i+1+(k-(i+1)+1)=k+1 by omega]at h2
   rw[h2];congr 1;rw[eq_iff_iff];omega
  refine AY U (A0 U) (by simp only[zb]<;>omega) call52 U U (A0 U) (λ _ w M hX=>NQ (Z0 (Eng.sub s (i+1) (k+1)) w (by unfold Eng.sub len at*;rw[List.length_take];omega))) U ?_
  refine A7 U (A0 U) (by simp only[zb]<;>omega) (λ hb2=>?_) (λ hb2=>?_)<;>simp only[zb]at hb2
  ·have:=hpre (by omega)
   rw[hb2.2]at this
   have:=of_decide_eq_true this.symm
   exact C7 (k+1) U (A0 U) (by omega) U ⟨by omega,by omega⟩ (by show Int.toNat _<Int.toNat _;omega)
  have hke:k=i+1+len (AS (A3 s (i+1))):=by
   rcases hb2 with hb2|hb2
   ·omega
   ·by_cases hk:k<len s
    ·rw[hpre hk]at hb2
     have:=of_decide_eq_false hb2;omega
    ·omega
  refine A7 U (A0 U) U (λ hb3=>?_) (λ hb3=>?_)<;>simp only[zb]at hb3
  ·have hne:AS (A3 s (i+1))≠[]:=λ e=>by rw[e,len_nil]at hke;omega
   have hsub:Eng.sub s (i+1) k=AS (A3 s (i+1)):=by
    have h2:=WQ s (i+1) (len (AS (A3 s (i+1)))) (by omega) (by omega)
    rw[hke,<-h2,LZ];rfl
   have hres:D3 s i first=(⟨false,AS (A3 s (i+1)),0⟩,i+1+len (AS (A3 s (i+1)))):=by unfold D3;rw[if_pos ⟨hb1.1,h46⟩,if_pos hne]
   refine A9 hB U U (A0 U) (by omega) U (A0 U) λ w M hX=>⟨?_,hX.st.low⟩
   rw[hres,hke]
   show Ending.returned (.tuple #[.agg #[.bool false,str (Eng.sub s (i+1) (i+1+len (AS (A3 s (i+1))))),i64 0],_])=_
   rw[<-hke,hsub];rfl
  have he:AS (A3 s (i+1))=[]:=Classical.byContradiction λ e=>by have:=G0 e;omega
  have hub:=N8 (A3 s (i+1))
  have hul:=UA (A3 s (i+1))
  refine AY U (A0 U) (by omega) call172 U U (A0 U) (λ _ w M hX=>AR0 (A3 s (i+1)) w (by omega)) U ?_
  refine J8 U (A0 U) U EM (by decide+kernel) ?_
  refine K7 U (A0 U) (by simp only[zb]<;>omega) call52 U U (A0 U) (λ _ w M hX=>NQ (Z0 (AH (A3 s (i+1))).1 w (by omega))) U ?_
  refine K7 U (A0 U) (by simp only[zb]<;>omega) call53 U U (A0 U) (λ _ w M hX=>dK (AH (A3 s (i+1))).1 w (by omega)) U ?_
  refine JA U (A0 U) (by simp only[zb]<;>omega) ?_
  refine A7 U (A0 U) U (λ hb4=>?_) (λ hb4=>?_)<;>simp only[zb]at hb4
  ·have hres:D3 s i first=(⟨false,(AH (A3 s (i+1))).1,0⟩,i+1+(AH (A3 s (i+1))).2.1):=by
    unfold D3;rw[if_pos ⟨hb1.1,h46⟩,if_neg (by rw[he];simp),if_pos ⟨hb4.1.1,hb4.1.2,hb4.2⟩]
   refine A9 hB U U (A0 U) (by omega) U (A0 U) λ w M hX=>⟨?_,hX.st.low⟩
   rw[hres];rfl
  have hn4: ¬((AH (A3 s (i+1))).2.2=0/\CF (AH (A3 s (i+1))).1=false/\J5 (AH (A3 s (i+1))).1=Eng.sub s (i+1) (i+1+(AH (A3 s (i+1))).2.1)):=by
   rintro⟨q1,q2,q3⟩
   rcases hb4 with(h|h)|h
   ·exact h q1
   ·rw[q2]at h;cases h
   ·exact h q3
  refine A7 U (A0 U) U (λ hb5=>?_) (λ hb5=>?_)<;>simp only[zb]at hb5
  ·have hres:D3 s i first=(OU,i):=by
    unfold D3;rw[if_pos ⟨hb1.1,h46⟩,if_neg (by rw[he];simp),if_neg hn4,if_pos hb5]
   refine A9 hB U U (A0 U) U U (A0 U) λ w M hX=>⟨?_,hX.st.low⟩
   rw[hres];rfl
  refine B5 _ U (A0 U) U U ⟨i+1,by omega,by omega,?_,rfl⟩
  unfold D3;rw[if_pos ⟨hb1.1,h46⟩,if_neg (by rw[he];simp),if_neg hn4,if_neg (by rw[hb5];decide)]
 ·simp only[zb]at hb1
  have hn: ¬(i<len s/\A2 s i=46):=by omega
  refine A7 U (A0 U) U (λ hb5=>?_) (λ hb5=>?_)
  ·have hres:D3 s i first=(OU,i):=by unfold D3;rw[if_neg hn,if_pos hb5]
   refine A9 hB U U (A0 U) U U (A0 U) λ w M hX=>⟨?_,hX.st.low⟩
   rw[hres];rfl
  refine B5 _ U (A0 U) U U ⟨i,Int.le_refl _,h1,?_,rfl⟩
  unfold D3;rw[if_neg hn,if_neg (by rw[hb5];decide)]
 ·rintro _ ⟨j,hj0,hj1,hst,rfl⟩
  refine A7 U (A0 U) (by simp only[zb]<;>omega) (λ hb6=>?_) (λ hb6=>?_)<;>simp only[zb]at hb6
  ·have hres:D3 s i first=(OU,i):=by rw[hst];unfold OV;rw[if_pos (by omega)]
   refine A9 hB U U (A0 U) U U (A0 U) λ w M hX=>⟨?_,hX.st.low⟩
   rw[hres];rfl
  refine AY U (A0 U) (by omega) call173 U U (A0 U) (λ _ w M hX=>AR3 s (j+1) w (by omega) (by omega) (by omega)) U ?_
  have hfb:j+1<=(HK s (j+1)).2/\(HK s (j+1)).2<=len s:=by
   unfold HK
   obtain⟨r,hr⟩:=oN s (j+1)
   have hl:=CO s (j+1) (by omega) (by omega)
   rw[hr,A5]at hl
   have:=A4 r
   have:=A4 (EC s (j+1))
   split<;>dsimp only<;>omega
  refine A7 U (A0 U) (by simp only[zb]<;>omega) (λ hb7=>?_) (λ hb7=>?_)<;>simp only[zb]at hb7
  ·have hres:D3 s i first=(OU,i):=by rw[hst];unfold OV;rw[if_neg (by omega),if_pos (by omega)]
   refine A9 hB U U (A0 U) U U (A0 U) λ w M hX=>⟨?_,hX.st.low⟩
   rw[hres];rfl
  ·have hres:D3 s i first=(⟨true,[],(HK s (j+1)).1⟩,(HK s (j+1)).2+1):=by rw[hst];unfold OV;rw[if_neg (by omega),if_neg (by omega)]
   refine A9 hB U U (A0 U) (by omega) U (A0 U) λ w M hX=>⟨?_,hX.st.low⟩
   rw[hres];rfl
theorem AS5{s:A1}{i:Int}{first:Bool}(h0:0<=i)(h1:i<=len s):i<=(D3 s i first).2/\(D3 s i first).2<=len s:=by
 by_cases h:(D3 s i first).2=i
 ·rw[h];omega
 ·have:=oP h0 (x:=(D3 s i first).1) (zz:=(D3 s i first).2) U h
  omega
theorem dL{α:Type}{l:List α}(h:len l=0):l=[]:=by
 cases l with
 |nil=>rfl
 |cons a l=>rw[A6]at h;have:=A4 l;omega
theorem p9{α:Type}(p:List α):p.isEmpty=(len p==0):=by
 cases p with
 |nil=>rfl
 |cons a p=>symm;show _=false;rw[beq_eq_false_iff_ne,A6];have:=A4 p;omega
theorem AS6{wv:World}{M:Mem}(s:A1)(hS:Sat wv M)(hb:len s<=1048576):
  Calls prog 89 [str s,i64 0].toArray wv (ND wv M (λ v:Value=>.tuple #[v,i64 (EP s 0).2]) (λ _=>True) (λ v=>[(0,kn v 3 (EP s 0).1 Sp.cells)])):=by
 have hl0:=A4 s
 refine AU AP func89 U ntmps89 [] [] [.v (str s),I 0] U (Ak hS) AA (λ B hB=>?_) U
 refine DS 1 [] Sp.cells 3 68 Sp.B4 U (A0 U) U U (A0 U) (λ w=>by kernel_rfl) U λ v=>?_
 refine CD (σ:=Int×Value×List Sp) (λ(i,v,p)=>⟨[(1,kn v 3 p Sp.cells)],[(1,.ho (.own 68 3 v p.length (p.flatMap Sp.cells)))],[Z 0 (.v (str s)),Z 1 (I i),Z 6 (.sl 1 v),Z 7 (I 0)]⟩) (λ(i,v,p)=>0<=i/\i<=len s/\len p<=20/\FV (20-p.length) s p i=FV 20 s [] 0) (λ(i,v,p)=>20-p.length) (0,v,[]) U (A0 U) U U ⟨by omega,hl0,by show(0:Int)<=20;omega,rfl⟩ ?_
 rintro⟨i,v,p⟩ ⟨hi0,hi1,hp20,hbg⟩
 have hpl:(p.length:Int)=len p:=rfl
 have hp0:=A4 p
 refine A7 U (A0 U) U (λ hb1=>?_) (λ hb1=>?_)<;>simp only[zb]at hb1
 ·have hsb:=AS5 (first:=len p==0) hi0 hi1
  obtain⟨f,hf⟩: ∃f,20-p.length=f+1:=⟨19-p.length,by omega⟩
  refine AY U (A0 U) U call134 U U (A0 U) (λ _ w M hX=>AS4 s i (len p==0) w hi0 hi1 hb) U ?_
  refine CU 2 U (A0 U) U zeroValue68 U λ bb=>?_
  refine A7 U (A0 U) U (λ hb3=>?_) (λ hb3=>?_)<;>simp only[zb]at hb3
  ·have hfin:FV 20 s [] 0=(p,i):=by rw[<-hbg,hf,FV,p9,if_pos hb3]
   refine A7 U (A0 U) (by simp only[zb]<;>omega) (λ hb2=>?_) (λ hb2=>?_)<;>simp only[zb]at hb2
   ·have hpe:p=[]:=dL (by omega)
    have hres:EP s 0=([],0+1):=by unfold EP;rw[hfin,if_pos ⟨hpe,by omega,by omega⟩]
    subst hpe
    exact A9 hB U U (A0 U) (by omega) U (A0 U) λ w M hX=>⟨v,M,by rw[hres];rfl,trivial,hX.st.done,by rw[hres];exact fc 0 (hX.sl 1 U) Sp.B4 AA⟩
   ·have hres:EP s 0=(p,i):=by
     unfold EP;rw[hfin,if_neg]
     rintro⟨q1,q2,q3⟩
     have q1:p=[]:=q1
     rw[q1,len_nil]at hb2;omega
    exact A9 hB U U (A0 U) U U (A0 U) λ w M hX=>⟨v,M,by rw[hres];rfl,trivial,hX.st.done,by rw[hres];exact fc 0 (hX.sl 1 U) Sp.B4 AA⟩
  ·refine DS 3 [(D3 s i (len p==0)).1] Sp.cells 3 68 Sp.B4 U (A0 U) U U (A0 U) (λ w=>by kernel_rfl) U λ v2=>?_
   refine ME 32 U (A0 U) U U (A0 U) U underlying70 type68 U U Sp.cells_one (by simp only[A6,len_nil];omega) λ v'=>?_
   refine C7 ((D3 s i (len p==0)).2,v',p++[(D3 s i (len p==0)).1]) U (A0 U) U U ⟨by omega,by omega,by rw[A5];show len p+1<=20;omega,?_⟩ (by show 20-(p++[_]).length<20-p.length;rw[List.length_append,List.length_singleton];omega)
   rw[<-hbg,hf,FV,p9,if_neg hb3,List.length_append,List.length_singleton,show 20-(p.length+1)=f by omega]
 ·have hfin:FV 20 s [] 0=(p,i):=by rw[<-hbg,show 20-p.length=0 by omega,FV]
  refine A7 U (A0 U) (by simp only[zb]<;>omega) (λ hb2=>?_) (λ hb2=>?_)<;>simp only[zb]at hb2
  ·have hpe:p=[]:=dL (by omega)
   have hres:EP s 0=([],0+1):=by unfold EP;rw[hfin,if_pos ⟨hpe,by omega,by omega⟩]
   subst hpe
   exact A9 hB U U (A0 U) (by omega) U (A0 U) λ w M hX=>⟨v,M,by rw[hres];rfl,trivial,hX.st.done,by rw[hres];exact fc 0 (hX.sl 1 U) Sp.B4 AA⟩
  ·have hres:EP s 0=(p,i):=by
    unfold EP;rw[hfin,if_neg]
    rintro⟨q1,q2,q3⟩
    have q1:p=[]:=q1
    rw[q1,len_nil]at hb2;omega
   exact A9 hB U U (A0 U) U U (A0 U) λ w M hX=>⟨v,M,by rw[hres];rfl,trivial,hX.st.done,by rw[hres];exact fc 0 (hX.sl 1 U) Sp.B4 AA⟩
theorem AS7{wv:World}{M:Mem}(s:A1)(hS:Sat wv M)(hb:len s<=1048576):
  Calls prog 60 [str s].toArray wv (ND wv M (λ v:Value=>.tuple #[v,i64 (DI s).2.1,i64 (DI s).2.2]) (λ _=>True) (λ v=>[(0,kn v 3 (DI s).1 Sp.cells)])):=by
 refine AU AP func60 U ntmps60 [] [] [.v (str s)] U (Ak hS) AA (λ B hB=>?_) U
 refine IL (λ v:Value=>.tu [.sl 1 v,I (EP s 0).2]) [1] U (A0 U) U U call89 U U (A0 U) (λ w M hX=>AS6 s hX.st.sat hb) (λ _=>rfl) λ v _=>?_
 refine A7 U (A0 U) U (λ hb1=>?_) (λ hb1=>?_)<;>simp only[zb]at hb1
 ·have hres:DI s=((EP s 0).1,0,0):=by unfold DI;rw[if_pos hb1]
  exact A9 hB U U (A0 U) U U (A0 U) λ w M hX=>⟨v,M,by rw[hres];rfl,trivial,hX.st.done,by rw[hres];exact fc 0 (hX.sl 1 U) Sp.B4 AA⟩
 refine A7 U (A0 U) U (λ hb2=>?_) (λ hb2=>?_)<;>simp only[zb]at hb2
 ·have hres:DI s=([],0,1):=by unfold DI;rw[if_neg hb1,if_pos (dL hb2)]
  refine A9 hB U U (A0 U) U U (A0 U) λ w M hX=>⟨.slice none 0 0,M,by rw[hres];rfl,trivial,hX.st.done,by rw[hres];exact fc 0 (l:=([]:List Sp)) (Sl.nil ..) Sp.B4 AA⟩
 refine A7 U (A0 U) U (λ hb3=>?_) (λ hb3=>?_)<;>simp only[zb]at hb3
 ·have hres:DI s=([],(EP s 0).2,1):=by unfold DI;rw[if_neg hb1,if_neg (λ e=>hb2 (by rw[e];rfl)),if_pos hb3]
  refine A9 hB U U (A0 U) U U (A0 U) λ w M hX=>⟨.slice none 0 0,M,by rw[hres];rfl,trivial,hX.st.done,by rw[hres];exact fc 0 (l:=([]:List Sp)) (Sl.nil ..) Sp.B4 AA⟩
 ·have hres:DI s=((EP s 0).1,0,0):=by unfold DI;rw[if_neg hb1,if_neg (λ e=>hb2 (by rw[e];rfl)),if_neg (by omega)]
  exact A9 hB U U (A0 U) U U (A0 U) λ w M hX=>⟨v,M,by rw[hres];rfl,trivial,hX.st.done,by rw[hres];exact fc 0 (hX.sl 1 U) Sp.B4 AA⟩
end Go.Proofs.YtmjpjbmeamnfpaaGreatDoor
namespace Go.Eng
open Go.RowKit
mutual
def Tf.size:Tf->Nat
 | .mk _ ps=>1+B1 ps
def B1:List Tf->Nat
 |[]=>0
 |x::l=>x.size+B1 l
end
mutual
theorem Tf.DQ:(x:Tf)->x.flat.length=x.size
 | .mk n ps=>by rw[Tf.flat,Tf.size,List.length_cons,UB ps];omega
theorem UB:(l:List Tf)->(AM l).length=B1 l
 |[]=>rfl
 |t::ts=>by rw[AM,B1,List.length_append,Tf.DQ t,UB ts]
end
theorem NR(a b:List Tf):B1 (a++b)=B1 a+B1 b:=by
 induction a with
 |nil=>simp[B1]
 |cons x a ih=>rw[List.cons_append,B1,B1,ih];omega
theorem Tf.size_pos (t:Tf):1<=t.size:=by cases t;rw[Tf.size];omega
theorem Tf.size_eq (t:Tf):t.size=1+B1 t.ps:=by cases t;rfl
theorem OW(l:List Tf):len l<=B1 l:=by
 induction l with
 |nil=>exact Int.le_refl _
 |cons t l ih=>rw[A6,B1];have:=t.size_pos;omega
def Tf.node (x:Tf):Tm:= { x.t with many:=len x.ps}
theorem Tf.NS (x:Tf):x.flat=x.node::AM x.ps:=by cases x;rfl
def C4(v:Fl)(i:Int)(l:List Tf):Prop:=0<=i/\ ∃pre post,v=pre++(AM l++post)/\len pre=i
theorem C4.le {v:Fl}{i:Int}{l:List Tf}(h:C4 v i l):i+B1 l<=len v:=by
 obtain⟨h0,pre,post,rfl,rfl⟩:=h
 unfold len;simp only[List.length_append,UB];omega
theorem C4.kids {v:Fl}{i:Int}{n:Tm}{ps ts:List Tf}(h:C4 v i (.mk n ps::ts)):C4 v (i+1) (ps++ts):=by
 obtain⟨h0,pre,post,rfl,rfl⟩:=h
 exact⟨by omega,pre++[{ n with many:=len ps}],post,by rw[AM,Tf.flat,JG];simp,by unfold len;simp⟩
theorem C4.XZ {v:Fl}{i:Int}{x:Tf}{ts:List Tf}(h:C4 v i (x::ts)):C4 v (i+1) (x.ps++ts):=by cases x;exact h.kids
theorem C4.skip {v:Fl}{i:Int}{a b:List Tf}(h:C4 v i (a++b)):C4 v (i+B1 a) b:=by
 obtain⟨h0,pre,post,rfl,rfl⟩:=h
 exact⟨by omega,pre++AM a,post,by rw[JG];simp,by unfold len;rw[List.length_append,UB];omega⟩
theorem C4.rest {v:Fl}{i:Int}{x:Tf}{b:List Tf}(h:C4 v i (x::b)):C4 v (i+x.size) b:=by
 have:=C4.skip (a:=[x]) h
 rw[B1,B1,Nat.add_zero]at this;exact this
theorem C4.head {v:Fl}{i:Int}{x:Tf}{b:List Tf}(h:C4 v i (x::b)):C4 v i [x]:=by
 obtain⟨h0,pre,post,rfl,rfl⟩:=h
 exact⟨h0,pre,AM b++post,by simp[AM],rfl⟩
theorem C4.node {v:Fl}{i:Int}{x:Tf}{b:List Tf}(h:C4 v i (x::b)):0<=i/\i<len v/\at' v i=x.node:=by
 have hl:=h.le
 have hz:=x.size_pos
 obtain⟨h0,pre,post,rfl,rfl⟩:=h
 rw[B1]at hl
 refine⟨h0,by omega,?_⟩
 unfold at' len
 rw[Int.toNat_natCast,List.getD_eq_getElem?_getD,List.getElem?_append_right (Nat.le_refl _),Nat.sub_self,AM,Tf.NS];rfl
theorem C4.top (x:Tf):C4 x.flat 0 [x]:=⟨Int.le_refl _,[],[],by simp[AM],rfl⟩
theorem Tf.MU (x:Tf):at' x.flat 0=x.node:=(C4.top x).node.2.2
theorem Tf.pA (x:Tf):C4 x.flat 1 x.ps:=by
 have:=(C4.top x).XZ
 rw[List.append_nil]at this;exact this
theorem AS8{v:Fl}{i:Int}{x:Tf}{b:List Tf}(h:C4 v i (x::b)):Eng.sub v i (i+x.size)=x.flat:=by
 obtain⟨h0,pre,post,rfl,rfl⟩:=h
 unfold Eng.sub len
 have:(Int.toNat ((pre.length:Int)+x.size))-(Int.toNat (pre.length:Int))=x.flat.length:=by rw[Tf.DQ];omega
 simp only[Int.toNat_natCast]at*
 rw[AM,List.drop_left,this,List.append_assoc,List.take_left]
def IU:Nat->Fl->Int->Int->Int
 |0,_,_,_=> -1
 |f+1,v,op,i=>if op<=0 then i else if len v<=i\/(at' v i).many<0\/len v<(at' v i).many then-1 else IU f v (op-1+(at' v i).many) (i+1)
def JK(v:Fl)(i:Int):Int:=IU (v.length+2) v 1 i
theorem pB{f:Nat}{v:Fl}{op i:Int}(h:op<=0):IU (f+1) v op i=i:=by rw[IU,if_pos h]
theorem AS9{v:Fl}: ∀(n:Nat) (ts:List Tf) (f:Nat) (op i:Int),B1 ts=n->C4 v i ts->0<=op->IU (f+n) v (op+len ts) i=IU f v op (i+n):=by
 intro n
 induction n with
 |zero=>
  intro ts f op i hn hs ho
  cases ts with
  |nil=>simp[len]
  |cons t ts=>rw[B1]at hn;have:=t.size_pos;omega
 |succ n ih=>
  intro ts f op i hn hs ho
  cases ts with
  |nil=>rw[B1]at hn;omega
  |cons t ts=>
   obtain⟨n0,ps⟩:=t
   have h1:=hs.node
   have hle:=hs.le
   have hps:=OW ps
   have hp0:=A4 ps
   have hk:=hs.kids
   rw[B1,Tf.size]at hn hle
   rw[show f+(n+1)=(f+n)+1 by omega,IU,if_neg (by rw[A6];have:=A4 ts;omega),h1.2.2]
   show(if len v<=i\/len ps<0\/len v<len ps then(-1:Int)else IU (f+n) v (op+len (Tf.mk n0 ps::ts)-1+len ps) (i+1))=_
   rw[if_neg (by omega)]
   have:=ih (ps++ts) f op (i+1) (by rw[NR];omega) hk ho
   rw[A5]at this
   rw[A6,show op+(len ts+1)-1+len ps=op+(len ps+len ts) by omega,this]
   congr 1;omega
theorem Y0{v:Fl}{i:Int}{t:Tf}{b:List Tf}(h:C4 v i (t::b)):JK v i=i+t.size:=by
 have hs:=h.head
 have hle:=hs.le
 have:=h.1
 have hsz:B1 [t]=t.size:=by simp[B1]
 obtain⟨f,hf⟩: ∃f,v.length+2=(f+1)+t.size:=⟨v.length+1-t.size,by unfold len at hle;omega⟩
 unfold JK
 rw[hf]
 have:=AS9 t.size [t] (f+1) 0 i hsz hs (by omega)
 rw[show(0:Int)+len [t]=1 from rfl]at this
 rw[this,pB (by omega)]
mutual
def Tf.zm:Tf->Prop
 | .mk t ps=>t.many=0/\JL ps
def JL:List Tf->Prop
 |[]=>True
 |x::l=>x.zm/\JL l
end
theorem AT0{a b:List Tf}:JL (a++b)↔JL a/\JL b:=by
 induction a with
 |nil=>simp[JL]
 |cons x a ih=>rw[List.cons_append,JL,JL,ih,and_assoc]
theorem AT1{l:List Tf}:JL l↔ ∀x∈l,x.zm:=by
 induction l with
 |nil=>simp[JL]
 |cons x l ih=>rw[JL,ih];simp
theorem pC{v:Fl}: ∀(f:Nat) (op i j:Int),IU f v op i=j->j≠ -1->0<=i->i<=len v->0<=op-> ∃ts,len ts=op/\JL ts/\C4 v i ts/\j=i+B1 ts
 |0,op,i,j,h,hj,_,_,_=>by rw[IU]at h;omega
 |f+1,op,i,j,h,hj,h0,h1,ho=>by
  rw[IU]at h
  split at h
  ·refine⟨[],by rw[len_nil];omega,trivial,⟨h0,v.take i.toNat,v.drop i.toNat,by simp[AM],by unfold len at*;rw[List.length_take];omega⟩,by simp[B1];omega⟩
  ·split at h
   ·omega
   ·rename_i hb
    have hlt:i<len v:=by omega
    obtain⟨ts,e1,e2,e3,e4⟩:=pC f _ _ j h hj (by omega) (by omega) (by omega)
    have hmn:(at' v i).many.toNat<=ts.length:=by unfold len at e1;omega
    have hml:len (ts.take (at' v i).many.toNat)=(at' v i).many:=by unfold len;rw[List.length_take];omega
    refine⟨.mk { at' v i with many:=0} (ts.take (at' v i).many.toNat)::ts.drop (at' v i).many.toNat,?_,?_,?_,?_⟩
    ·rw[A6];unfold len at*;rw[List.length_drop];omega
    ·have:=List.take_append_drop (at' v i).many.toNat ts
     rw[<-this,AT0]at e2
     rw[JL,Tf.zm]
     exact⟨⟨rfl,e2.1⟩,e2.2⟩
    ·obtain⟨_,pre,post,hv,hp⟩:=e3
     refine⟨h0,v.take i.toNat,post,?_,by unfold len at*;rw[List.length_take];omega⟩
     rw[AM,Tf.flat,hml,List.cons_append,<-JG,List.take_append_drop]
     have hpre:pre=v.take (i.toNat+1):=by
      have:pre=v.take pre.length:=by rw[hv];simp
      rw[this];congr 1;unfold len at hp;omega
     have hi:i.toNat<v.length:=by unfold len at hlt;omega
     have h4:v.take (i.toNat+1)=v.take i.toNat++[at' v i]:=by
      rw[List.take_add_one,List.getElem?_eq_getElem hi];simp[at',List.getD_eq_getElem?_getD,hi]
     rw[hpre,h4]at hv
     calc v=(v.take i.toNat++[at' v i])++(AM ts++post):=hv
      _=_:=by simp
    ·rw[e4,B1,Tf.size]
     have:=NR (ts.take (at' v i).many.toNat) (ts.drop (at' v i).many.toNat)
     rw[List.take_append_drop]at this
     omega
theorem AT2{v:Fl}(h:JK v 0=len v)(hne:v≠[]): ∃x:Tf,x.zm/\v=x.flat:=by
 have hl:=A4 v
 obtain⟨ts,e1,e2,e3,e4⟩:=pC _ _ _ _ h (by omega) (Int.le_refl _) hl (by omega)
 cases ts with
 |nil=>rw[len_nil]at e1;omega
 |cons t ts=>
  cases ts with
  |cons u us=>rw[A6,A6]at e1;have:=A4 us;omega
  |nil=>
   refine⟨t,e2.1,?_⟩
   obtain⟨_,pre,post,hv,hp⟩:=e3
   have h1:pre=[]:=List.eq_nil_of_length_eq_zero (by unfold len at hp;omega)
   have h2:post=[]:=by
    refine List.eq_nil_of_length_eq_zero ?_
    have:=congrArg List.length hv
    simp only[List.length_append,UB]at this
    unfold len at e4;omega
   rw[hv,h1,h2];simp[AM]
theorem Tf.AT3 (n:A1)(x:Tf):(x.named n).flat.length=x.flat.length:=by cases x;rfl
theorem Tf.AT4 (n:A1)(x:Tf):(x.named n).ps=x.ps:=by cases x;rfl
theorem Tf.AT5 (n:A1)(x:Tf):(x.named n).size=x.size:=by cases x;rfl
theorem Q5{u:Tf}: ∀ {l:List Tf},u∈l->u.size<=B1 l
 |t::l,h=>by
  rw[B1]
  rcases List.mem_cons.1 h with rfl|h
  ·omega
  ·have:=Q5 h;omega
theorem AT6(l:List Tf)(n:Nat):B1 (l.take n)<=B1 l:=by
 have:=NR (l.take n) (l.drop n);rw[List.take_append_drop]at this;omega
def pD(t:Tm):Bool:=decide (16<=t.op)&&decide (t.op<=19)
def OX(t:Tm):Tm:=⟨t.op,t.many,t.name,[],0,B2⟩
def IV(n:Nd):Nd:= { n with name:=[]}
def H5(n:Nd):Bool:=
 if n.kind=0\/n.kind=1\/n.kind=2 then decide (IV n=⟨n.kind,0,[],[],false,0⟩)
 else if n.kind=3 then G5 (IV n)
 else if n.kind=4 then CR n.s&&decide (IV n=⟨n.kind,0,[],n.s,false,0⟩)
 else if n.kind=5\/n.kind=6 then decide (0<=n.many)&&decide (IV n=⟨n.kind,n.many,[],[],false,0⟩)
 else false
def GV(c:Nd):Bool:=decide (c.kind<5)&&(decide (c.name=[])&&decide (c.many=0)&&H5 c)
def AT7(t:Tm):Bool:=
 if t.op=0\/t.op=10\/t.op=11\/t.op=14 then decide (t=OX t)&&decide (t.many=0)
 else if t.op=1 then decide (t= { OX t with s:=t.s})&&decide (t.many=0)&&CR t.s
 else if t.op=2\/t.op=3 then decide (t= { OX t with n:=t.n})&&decide (t.many=0)&&decide (0<=t.n)&&decide (t.n<=1000000)
 else if t.op=4\/t.op=17\/t.op=18 then decide (t=OX t)&&decide (t.many=2)
 else if t.op=5\/t.op=6\/t.op=7\/t.op=19 then decide (t=OX t)&&decide (t.many=1)
 else if t.op=8\/t.op=9 then decide (t=OX t)&&decide (0<=t.many)
 else if t.op=12\/t.op=13\/t.op=15 then decide (t= { OX t with s:=t.s})&&decide (t.many=0)&&XW t.s
 else if t.op=16 then decide (t= { OX t with s:=t.s,n:=t.n,c:=t.c})&&decide (t.many=0)&&XW t.s&&decide (0<=t.n)&&decide (t.n<=5)&&GV t.c
 else false
def AT8(t:Tm)(dn:List Tf)(x:Tf):Bool:=
 if(pD x.t != (pD t||t.op==7))||(t.op==4&&dn.isEmpty&&x.t.op==4)then false
 else if(t.op≠8/\x.t.name≠[])\/(t.op=8/\(CR x.t.name=false\/x.t.name∈dn.map (·.t.name)))then false
 else true
def pE(t:Tm):List Tf->List Tf->Bool
 |_,[]=>true
 |dn,x::r=>AT8 t dn x&&pE t (dn++[x]) r
mutual
def Tf.pF:Tf->Bool
 | .mk t ps=>AT7 { t with many:=len ps}&&pE t [] ps&&pG ps
def pG:List Tf->Bool
 |[]=>true
 |x::l=>x.pF&&pG l
end
structure Tf.JJ (x:Tf):Prop where
 zm:x.zm
 ok:x.pF=true
def I7(c:Nd):A1:=if c.kind=0 then K2 else if c.kind=1 then K1 else if c.kind=2 then K0 else if c.kind=3 then CP c else J5 c.s
end Go.Eng
namespace Go.Proofs.YtmjpjbmeamnfpaaGreatDoor
open Go.Proofs.Tryz
open Go.Eng
abbrev GW(c:Nd):XV:=.ag [I c.kind,I c.many,.v (str c.name),.v (str c.s),.v (.bool c.neg),I c.e]
theorem AT9(c:Nd)(w:World)(hb:len c.s<=1099511627776):Calls prog 143 [H9 c].toArray w λ e w'=>e= .returned (.bool (H5 c))/\Ext w w':=by
 refine AU AP func143 U ntmps143 [] [] [GW c] U (G7 w) AA (λ B hB=>?_) U
 refine F0 1 U (A0 U) U U U (A0 U) λ bb=>?_
 refine ES 0 (λ s=> ∃b:Bool,(b=true↔(c.kind=0\/c.kind=1\/c.kind=2))/\s=⟨[],[(1,.box bb [I c.kind,I c.many,.v (str []),.v (str c.s),.v (.bool c.neg),I c.e] 46)],[Z 1 (.bx 1 bb 0),Z 5 (I c.kind),Z 6 (.v (.bool b))]⟩) U (A0 U) U U (λ h1=>?_) (λ h1=>?_) ?_
 ·exact B5 _ U (A0 U) U U ⟨_,by simp only[zb]at h1 ⊢;omega,rfl⟩
 ·refine A7 U (A0 U) U (λ h2=>?_) (λ h2=>?_)
  ·exact B5 _ U (A0 U) U U ⟨_,by simp only[zb]at h2 ⊢;omega,rfl⟩
  ·exact B5 _ U (A0 U) U U ⟨_,by simp only[zb]at h1 h2 ⊢;omega,rfl⟩
 rintro _ ⟨b,hbk,rfl⟩
 refine A7 U (A0 U) U (λ h3=>?_) (λ h3=>?_)
 ·refine CY (.v (.bool (decide (IV c=⟨c.kind,0,[],[],false,0⟩)))) U (A0 U) U U (λ w M hX=>PV.bin (AN (v:=GW (IV c)) U (A0 U)) (AN (v:=GW ⟨c.kind,0,[],[],false,0⟩) U (A0 U)) (λ _ w _=>QU _ _ _ _ w)) ?_
  refine A9 hB U U (A0 U) U U (A0 U) λ w M hX=>⟨?_,hX.st.low⟩
  unfold H5;rw[if_pos (hbk.1 h3)];rfl
 have hk:=λ e=>(by rw[h3]at hbk;simp at hbk;omega: ¬(c.kind=0\/c.kind=1\/c.kind=2)) e
 refine A7 U (A0 U) U (λ h4=>?_) (λ h4=>?_)<;>simp only[zb]at h4
 ·refine AY U (A0 U) U call191 U U (A0 U) (λ _ w M hX=>tY (IV c) w (by show len c.s<=_;omega)) U ?_
  refine A9 hB U U (A0 U) U U (A0 U) λ w M hX=>⟨?_,hX.st.low⟩
  unfold H5;rw[if_neg hk,if_pos h4];rfl
 refine A7 U (A0 U) U (λ h5=>?_) (λ h5=>?_)<;>simp only[zb]at h5
 ·refine AY U (A0 U) U call59 U U (A0 U) (λ _ w M hX=>NQ (fZ c.s w (by omega))) U ?_
  refine CY (.v (.bool (decide (IV c=⟨c.kind,0,[],c.s,false,0⟩)))) U (A0 U) U U (λ w M hX=>PV.bin (AN (v:=GW (IV c)) U (A0 U)) (AN (v:=GW ⟨c.kind,0,[],c.s,false,0⟩) U (A0 U)) (λ _ w _=>QU _ _ _ _ w)) ?_
  refine A9 hB U U (A0 U) U U (A0 U) λ w M hX=>⟨?_,hX.st.low⟩
  unfold H5;rw[if_neg hk,if_neg h4,if_pos h5];rfl
 refine ES 0 (λ s=> ∃b:Bool,(b=true↔(c.kind=5\/c.kind=6))/\s=⟨[],[(1,.box bb [I c.kind,I c.many,.v (str []),.v (str c.s),.v (.bool c.neg),I c.e] 46)],[Z 1 (.bx 1 bb 0),Z 33 (.v (.bool b))]⟩) U (A0 U) U U (λ h1=>?_) (λ h1=>?_) ?_
 ·exact B5 _ U (A0 U) U U ⟨_,by simp only[zb]at h1 ⊢;omega,rfl⟩
 ·exact B5 _ U (A0 U) U U ⟨_,by simp only[zb]at h1 ⊢;omega,rfl⟩
 rintro _ ⟨b2,hbk2,rfl⟩
 refine A7 U (A0 U) U (λ h6=>?_) (λ h6=>?_)
 ·refine CY (.v (.bool (decide (IV c=⟨c.kind,c.many,[],[],false,0⟩)))) U (A0 U) U U (λ w M hX=>PV.bin (AN (v:=GW (IV c)) U (A0 U)) (AN (v:=GW ⟨c.kind,c.many,[],[],false,0⟩) U (A0 U)) (λ _ w _=>QU _ _ _ _ w)) ?_
  refine A9 hB U U (A0 U) U U (A0 U) λ w M hX=>⟨?_,hX.st.low⟩
  unfold H5;rw[if_neg hk,if_neg h4,if_neg h5,if_pos (hbk2.1 h6)];rfl
 ·have hk2: ¬(c.kind=5\/c.kind=6):=λ e=>by have:=hbk2.2 e;rw[h6]at this;cases this
  refine A9 hB U U (A0 U) U U (A0 U) λ w M hX=>⟨?_,hX.st.low⟩
  unfold H5;rw[if_neg hk,if_neg h4,if_neg h5,if_neg hk2];rfl
theorem AU0(c:Nd)(v:Value)(M:Mem)(w:World)(hM:Sat w M)(hv:Sl M 6 [c].length v ([c].flatMap Nd.cells)):
    Calls prog 142 [v,i64 0].toArray w λ e w'=>e= .returned (i64 (if c.many=0 then 1 else-1))/\Ext w w':=by
 have hl:len [c]=1:=rfl
 refine AU (Hr:=[]) AP func142 U ntmps142 [(0,kn v 6 [c] Nd.cells)] [] [.sl 0 v,I 0] U (Ak hM) (fc 0 hv Nd.B4 AA) (λ B hB=>?_) U
 refine CD (σ:=Int×Int) (λ(o,i)=>⟨[(0,kn v 6 [c] Nd.cells)],[],[Z 0 (.sl 0 v),Z 1 (I i),Z 5 (I o)]⟩) (λ(o,i)=>(o=1/\i=0)\/(o=c.many/\i=1/\0<=c.many/\c.many<=1)) (λ(o,i)=>(1-i).toNat) (1,0) U (A0 U) U U (.inl ⟨rfl,rfl⟩) ?_
 rintro⟨o,i⟩ hoi
 refine A7 U (A0 U) U (λ h1=>?_) (λ h1=>?_)<;>simp only[zb]at h1
 ·have hc:i=0->(at' [c] i).many=c.many:=λ e=>by subst e;rfl
  refine A7 U (A0 U) (by simp only[zb]<;>omega) (λ h2=>?_) (λ h2=>?_)<;>simp only[zb]at h2
  ·refine A9 hB U U (A0 U) U U (A0 U) λ w M hX=>⟨?_,hX.st.low⟩
   rw[if_neg (by have:=hc;omega)];rfl
  ·have hi:i=0:=by omega
   subst hi
   have hcc:(at' [c] 0).many=c.many:=rfl
   exact C7 (c.many,1) U (A0 U) (by omega) (by dsimp only;rw[show c.many=o-1+(at' [c] 0).many by omega];rfl) (.inr ⟨rfl,rfl,by omega,by omega⟩) (by show Int.toNat _<Int.toNat _;omega)
 ·have hm:c.many=0/\i=1:=by omega
  refine A9 hB U U (A0 U) U U (A0 U) λ w M hX=>⟨?_,hX.st.low⟩
  rw[if_pos hm.1,hm.2];rfl
theorem AU1(c:Nd)(v:Value)(M:Mem)(w:World)(hM:Sat w M)(hv:Sl M 6 [c].length v ([c].flatMap Nd.cells))(h0:c.many=0):
   Calls prog 144 [v,i64 0].toArray w λ e w'=>e= .returned (.bool true)/\Ext w w':=by
 have hl:len [c]=1:=rfl
 have hm:(at' [c] 0).many=0:=h0
 refine AU (Hr:=[]) AP func144 U ntmps144 [(0,kn v 6 [c] Nd.cells)] [] [.sl 0 v,I 0] U (Ak hM) (fc 0 hv Nd.B4 AA) (λ B hB=>?_) U
 refine CD (σ:=Unit) (λ _=>⟨[(0,kn v 6 [c] Nd.cells)],[],[Z 0 (.sl 0 v),Z 1 (I 0),Z 5 (I 1),Z 6 (I 0)]⟩) (λ _=>True) (λ _=>0) () U (A0 U) (by omega) U trivial ?_
 rintro⟨⟩ _
 refine A7 U (A0 U) (by omega) (λ h1=>?_) (λ h1=>?_)<;>simp only[zb]at h1
 ·omega
 ·exact A9 hB U U (A0 U) U U (A0 U) λ w M hX=>⟨rfl,hX.st.low⟩
theorem AU2(c:Nd)(v:Value)(M:Mem)(w:World)(hM:Sat w M)(hv:Sl M 6 [c].length v ([c].flatMap Nd.cells))(hb:len c.s<=1099511627776):
    Calls prog 103 [v].toArray w λ e w'=>e= .returned (.bool (decide (c.name=[])&&decide (c.many=0)&&H5 c))/\Ext w w':=by
 have hl:len [c]=1:=rfl
 have hn:(at' [c] 0).name=c.name:=rfl
 refine AU (Hr:=[]) AP func103 U ntmps103 [(0,kn v 6 [c] Nd.cells)] [] [.sl 0 v] U (Ak hM) (fc 0 hv Nd.B4 AA) (λ B hB=>?_) U
 refine AY U (A0 U) (by simp only[zb]<;>omega) call142 U U (A0 U) (λ _ w M hX=>AU0 c v M w hX.st.sat (hX.sl 0 U)) U ?_
 refine A7 U (A0 U) (by simp only[zb]<;>omega) (λ h1=>?_) (λ h1=>?_)<;>simp only[zb]at h1
 ·refine A9 hB U U (A0 U) U U (A0 U) λ w M hX=>⟨?_,hX.st.low⟩
  have:(decide (c.name=[])&&decide (c.many=0)&&H5 c)=false:=by
   rcases h1 with(h1|h1)|h1
   ·omega
   ·have h1: ¬c.name=[]:=h1
    rw[decide_eq_false h1];rfl
   ·by_cases hm:c.many=0
    ·rw[if_pos hm]at h1;omega
    ·rw[decide_eq_false hm,Bool.and_false];rfl
  rw[this];rfl
 have hm:c.many=0:=Classical.byContradiction λ e=>by rw[if_neg e]at h1;omega
 have hnm:c.name=[]:=h1.1.2
 refine CD (σ:=Int) (λ i=>⟨[(0,kn v 6 [c] Nd.cells)],[],[Z 0 (.sl 0 v),Z 3 (I i)]⟩) (λ i=>0<=i/\i<=1/\(i=1->H5 c=true)) (λ i=>(1-i).toNat) 0 rfl (A0 rfl) U rfl ⟨by omega,by omega,λ e=>by cases e⟩ ?_
 rintro i ⟨hi0,hi1,hip⟩
 refine A7 U (A0 U) U (λ h2=>?_) (λ h2=>?_)<;>simp only[zb]at h2
 ·have hi:i=0:=by omega
  subst hi
  refine AY U (A0 U) (by omega) call143 U U (A0 U) (λ _ w M hX=>AT9 c w hb) U ?_
  refine AY U (A0 U) U call144 U U (A0 U) (λ _ w M hX=>AU1 c v M w hX.st.sat (hX.sl 0 U) hm) U ?_
  refine A7 U (A0 U) U (λ h3=>?_) (λ h3=>?_)
  ·have hp:H5 c=false:=by simpa using h3
   refine A9 hB U U (A0 U) U U (A0 U) λ w M hX=>⟨?_,hX.st.low⟩
   rw[hp,Bool.and_false];rfl
  ·have hp:H5 c=true:=by simpa using h3
   exact C7 1 U (A0 U) (by omega) U ⟨by omega,by omega,λ _=>hp⟩ (by show Int.toNat _<Int.toNat _;omega)
 ·have hp:=hip (by omega)
  refine A9 hB U U (A0 U) U U (A0 U) λ w M hX=>⟨?_,hX.st.low⟩
  rw[hp,decide_eq_true hm,decide_eq_true hnm];rfl
end Go.Proofs.YtmjpjbmeamnfpaaGreatDoor
namespace Go.Eng
def Q6(n:Nd):Bool:=
 if n.kind≠3\/n.many≠0\/n.name≠[]\/100<len n.s\/n.e< -1000\/1000<n.e\/1000<len n.s+n.e\/HA n.s=false then false
 else if n.s=[]then !n.neg&&decide (n.e=0)else Lib.trimB n.s 48==n.s
def MV(n:Nd):Bool:=
 if n.kind=0\/n.kind=1\/n.kind=2 then decide ((⟨n.kind,n.many,[],n.s,n.neg,n.e⟩:Nd)=⟨n.kind,0,[],[],false,0⟩)
 else if n.kind=3 then Q6 ⟨n.kind,n.many,[],n.s,n.neg,n.e⟩
 else if n.kind=4 then Lib.validD n.s&&decide ((⟨n.kind,n.many,[],n.s,n.neg,n.e⟩:Nd)=⟨n.kind,0,[],n.s,false,0⟩)
 else if n.kind=5\/n.kind=6 then decide (0<=n.many)&&decide ((⟨n.kind,n.many,[],n.s,n.neg,n.e⟩:Nd)=⟨n.kind,n.many,[],[],false,0⟩)
 else false
def MW(n:Nd):Bool:=MV n&&decide (n.name=[])&&decide (n.many<=0)
def UC(n:Int)(c:Nd):Bool:=decide (0<=n)&&decide (n<=5)&&(decide (c.kind<5)&&MW c)
structure CM where
 kind:Int
 left:Int
 first:Bool
 last:A1
deriving Inhabited
def CM.cells (x:CM):List Value:=[i64 x.kind,i64 x.left,.bool x.first,str x.last]
theorem CM.B4 (x:CM):x.cells.length=4:=rfl
theorem CM.cells_one (x:CM): ∀u∈x.cells,u.oneCell'=true:=by intro u hu;simp[CM.cells]at hu;rcases hu with rfl|rfl|rfl|rfl<;>rfl
end Go.Eng
namespace Go.Proofs.YtmjpjbmeamnfpaaGreatDoor
open Go.Proofs.Tryz
open Go.Eng
theorem pH(s:A1)(w:World)(hg:Gl w)(hb:len s<=9223372036854775807):Calls prog 257 [str s].toArray w λ e w'=>e= .returned (.bool (Lib.validD s))/\Ext w w':=
 Tryz.utf8_ValidString ⟨⟨s⟩⟩ w (by unfold len at hb;show s.length<=_;omega) hg.u8
theorem AU3(s:A1)(w:World)(hb:len s<=9223372036854775807):Calls prog 323 [str s,str [48]].toArray w λ e w'=>e= .returned (str (Lib.trimB s 48))/\Ext w w':=
 (Tryz.strings_Trim_one ⟨⟨s⟩⟩ 48 (by decide) w (by unfold len at hb;show s.length<=_;omega)).mono λ e w' ⟨he,hw⟩=>⟨he,by rcases hw with rfl|rfl;exact Ext.refl _;exact Ext.drew _⟩
theorem AU4(c:Nd)(w:World)(hg:Gl w)(hb:len c.s<=1099511627776):
   Calls prog 321 [H9 c].toArray w λ e w'=>e= .returned (.bool (Q6 c))/\Ext w w':=by
 have hl0:=A4 c.s
 refine AU AP func321 U ntmps321 [] [] [GW c] U (G7 w) AA (λ B hB=>?_) U
 refine F0 1 U (A0 U) U U U (A0 U) λ b1=>?_
 refine AY U (A0 U) U call160 U U (A0 U) (λ _ w M hX=>NQ (l7 (len c.s) c.e w (by omega))) U ?_
 refine AY U (A0 U) U call158 U U (A0 U) (λ _ w M hX=>l6 c.s w (hg.low hX.st.low) (by omega)) U ?_
 refine A7 U (A0 U) U (λ hb1=>?_) (λ hb1=>?_)
 ·exact A9 hB U U (A0 U) U U (A0 U) λ w M hX=>⟨by unfold Q6;rw[if_pos (by simpa[or_assoc]using hb1)];rfl,hX.st.low⟩
 have hno: ¬(c.kind≠3\/c.many≠0\/c.name≠[]\/100<len c.s\/c.e< -1000\/1000<c.e\/1000<len c.s+c.e\/HA c.s=false):=by
  intro h;have:=hb1;rw[<-Bool.not_eq_true]at this;exact this (by simpa[or_assoc]using h)
 refine A7 U (A0 U) U (λ hb2=>?_) (λ hb2=>?_)<;>simp only[zb]at hb2
 ·exact A9 hB U U (A0 U) U U (A0 U) λ w M hX=>⟨by unfold Q6;rw[if_neg hno,if_pos hb2];rfl,hX.st.low⟩
 refine J8 U (A0 U) U EM (by decide+kernel) ?_
 refine K7 U (A0 U) U call323 U U (A0 U) (λ _ w M hX=>AU3 c.s w (by omega)) U ?_
 refine JA U (A0 U) U ?_
 exact A9 hB U U (A0 U) U U (A0 U) λ w M hX=>⟨by unfold Q6;rw[if_neg hno,if_neg hb2];rfl,hX.st.low⟩
theorem AU5(c:Nd)(w:World)(hg:Gl w)(hb:len c.s<=1099511627776):
    Calls prog 316 [H9 c].toArray w λ e w'=>e= .returned (.bool (MV c))/\Ext w w':=by
 refine AU AP func316 U ntmps316 [] [] [GW c] U (G7 w) AA (λ B hB=>?_) U
 refine F0 1 U (A0 U) U U U (A0 U) λ bb=>?_
 refine ES 0 (λ s=> ∃b:Bool,(b=true↔(c.kind=0\/c.kind=1\/c.kind=2))/\s=⟨[],[(1,.box bb [I c.kind,I c.many,.v (str []),.v (str c.s),.v (.bool c.neg),I c.e] 46)],[Z 1 (.bx 1 bb 0),Z 5 (I c.kind),Z 6 (.v (.bool b))]⟩) U (A0 U) U U (λ h1=>?_) (λ h1=>?_) ?_
 ·exact B5 _ U (A0 U) U U ⟨_,by simp only[zb]at h1 ⊢;omega,rfl⟩
 ·refine A7 U (A0 U) U (λ h2=>?_) (λ h2=>?_)
  ·exact B5 _ U (A0 U) U U ⟨_,by simp only[zb]at h2 ⊢;omega,rfl⟩
  ·exact B5 _ U (A0 U) U U ⟨_,by simp only[zb]at h1 h2 ⊢;omega,rfl⟩
 rintro _ ⟨b,hbk,rfl⟩
 refine A7 U (A0 U) U (λ h3=>?_) (λ h3=>?_)
 ·refine CY (.v (.bool (decide ((⟨c.kind,c.many,[],c.s,c.neg,c.e⟩:Nd)=⟨c.kind,0,[],[],false,0⟩)))) U (A0 U) U U (λ w M hX=>PV.bin (AN (v:=GW ⟨c.kind,c.many,[],c.s,c.neg,c.e⟩) U (A0 U)) (AN (v:=GW ⟨c.kind,0,[],[],false,0⟩) U (A0 U)) (λ _ w _=>QU _ _ _ _ w)) ?_
  refine A9 hB U U (A0 U) U U (A0 U) λ w M hX=>⟨?_,hX.st.low⟩
  unfold MV;rw[if_pos (hbk.1 h3)];rfl
 have hk:=λ e=>(by rw[h3]at hbk;simp at hbk;omega: ¬(c.kind=0\/c.kind=1\/c.kind=2)) e
 refine A7 U (A0 U) U (λ h4=>?_) (λ h4=>?_)<;>simp only[zb]at h4
 ·refine AY U (A0 U) U call321 U U (A0 U) (λ _ w M hX=>AU4 ⟨c.kind,c.many,[],c.s,c.neg,c.e⟩ w (hg.low hX.st.low) hb) U ?_
  refine A9 hB U U (A0 U) U U (A0 U) λ w M hX=>⟨?_,hX.st.low⟩
  unfold MV;rw[if_neg hk,if_pos h4];rfl
 refine A7 U (A0 U) U (λ h5=>?_) (λ h5=>?_)<;>simp only[zb]at h5
 ·refine AY U (A0 U) U call257 U U (A0 U) (λ _ w M hX=>pH c.s w (hg.low hX.st.low) (by omega)) U ?_
  refine CY (.v (.bool (decide ((⟨c.kind,c.many,[],c.s,c.neg,c.e⟩:Nd)=⟨c.kind,0,[],c.s,false,0⟩)))) U (A0 U) U U (λ w M hX=>PV.bin (AN (v:=GW ⟨c.kind,c.many,[],c.s,c.neg,c.e⟩) U (A0 U)) (AN (v:=GW ⟨c.kind,0,[],c.s,false,0⟩) U (A0 U)) (λ _ w _=>QU _ _ _ _ w)) ?_
  refine A9 hB U U (A0 U) U U (A0 U) λ w M hX=>⟨?_,hX.st.low⟩
  unfold MV;rw[if_neg hk,if_neg h4,if_pos h5];rfl
 refine ES 0 (λ s=> ∃b:Bool,(b=true↔(c.kind=5\/c.kind=6))/\s=⟨[],[(1,.box bb [I c.kind,I c.many,.v (str []),.v (str c.s),.v (.bool c.neg),I c.e] 46)],[Z 1 (.bx 1 bb 0),Z 33 (.v (.bool b))]⟩) U (A0 U) U U (λ h1=>?_) (λ h1=>?_) ?_
 ·exact B5 _ U (A0 U) U U ⟨_,by simp only[zb]at h1 ⊢;omega,rfl⟩
 ·exact B5 _ U (A0 U) U U ⟨_,by simp only[zb]at h1 ⊢;omega,rfl⟩
 rintro _ ⟨b2,hbk2,rfl⟩
 refine A7 U (A0 U) U (λ h6=>?_) (λ h6=>?_)
 ·refine CY (.v (.bool (decide ((⟨c.kind,c.many,[],c.s,c.neg,c.e⟩:Nd)=⟨c.kind,c.many,[],[],false,0⟩)))) U (A0 U) U U (λ w M hX=>PV.bin (AN (v:=GW ⟨c.kind,c.many,[],c.s,c.neg,c.e⟩) U (A0 U)) (AN (v:=GW ⟨c.kind,c.many,[],[],false,0⟩) U (A0 U)) (λ _ w _=>QU _ _ _ _ w)) ?_
  refine A9 hB U U (A0 U) U U (A0 U) λ w M hX=>⟨?_,hX.st.low⟩
  unfold MV;rw[if_neg hk,if_neg h4,if_neg h5,if_pos (hbk2.1 h6)];rfl
 ·have hk2: ¬(c.kind=5\/c.kind=6):=λ e=>by have:=hbk2.2 e;rw[h6]at this;cases this
  refine A9 hB U U (A0 U) U U (A0 U) λ w M hX=>⟨?_,hX.st.low⟩
  unfold MV;rw[if_neg hk,if_neg h4,if_neg h5,if_neg hk2];rfl
theorem AU6(x:CM)(w:World):Calls prog 318 [.agg x.cells.toArray].toArray w λ e w'=>e= .returned (.bool (decide (0<x.left)))/\Ext w w':=by
 refine AU AP func318 U ntmps318 [] [] [.ag [I x.kind,I x.left,.v (.bool x.first),.v (str x.last)]] U (G7 w) AA (λ B hB=>?_) U
 refine F0 1 U (A0 U) U U U (A0 U) λ bb=>?_
 exact A9 hB U U (A0 U) U U (A0 U) λ w M hX=>⟨rfl,hX.st.low⟩
theorem AU7(v:Value)(l:List CM)(w:World)(M:Mem)(hM:Sat w M)(hl:Sl M 4 l.length v (l.flatMap CM.cells))(hb:len l<=1099511627776):
    Calls prog 322 [v,.func (.func 318) #[] #[]].toArray w λ e w'=>(∃k:Int,e= .returned (i64 k)/\(0<=k↔l.any (λ x=>decide (0<x.left))=true))/\Ext w w':=by
 have hl0:=A4 l
 refine AU (Hr:=[]) AP func322 U ntmps322 [(0,kn v 4 l CM.cells)] [] [.sl 0 v,.v (.func (.func 318) #[] #[])] U (Ak hM) (fc 0 hl CM.B4 AA) (λ B hB=>?_) U
 refine CD (σ:=Int) (λ k=>⟨[(0,kn v 4 l CM.cells)],[],[Z 0 (.sl 0 v),Z 1 (.v (.func (.func 318) #[] #[])),Z 7 (I (len l)),Z 8 (I k)]⟩) (λ k=>0<=k/\k<=len l/\ ∀x∈Eng.sub l 0 k,¬0<x.left) (λ k=>(len l-k).toNat) 0 rfl (A0 rfl) U rfl ⟨by omega,by omega,λ x hx=>by cases hx⟩ ?_
 intro k ⟨h0,h1,hno⟩
 refine A7 U (A0 U) U (λ hb1=>?_) (λ hb1=>?_)<;>simp only[zb]at hb1
 ·refine BQ [] (λ _:Unit=>.v (.bool (decide (0<(at' l k).left)))) [] (λ _=>[]) (Fg:=λ _=>[]) (pu:=λ _=>True) U (A0 U) (by omega) U call318 U U (A0 U) U (λ w M hS hF=>(AU6 (at' l k) w).mono λ e w' ⟨he,hx⟩=>⟨(),M,he,trivial,Mem.le.refl _,hS.ext hx,AA⟩) (λ _=>rfl) (λ _=>rfl) λ _ _=>?_
  refine A7 U (A0 U) U (λ hb2=>?_) (λ hb2=>?_)<;>simp only[zb]at hb2
  ·exact A9 hB U U (A0 U) U U (A0 U) λ w M hX=>⟨⟨k,rfl,λ _=>List.any_eq_true.2 ⟨at' l k,at_mem h0 hb1,by simpa using hb2⟩,λ _=>h0⟩,hX.st.low⟩
  ·exact C7 (k+1) U (A0 U) (by omega) U ⟨by omega,by omega,λ x hx=>by
    rw[NJ h0 hb1]at hx
    rcases List.mem_append.1 hx with hx|hx
    ·exact hno x hx
    ·rw[List.mem_singleton.1 hx];omega⟩ (by omega)
 ·rw[L7 (by omega)]at hno
  exact A9 hB U U (A0 U) U U (A0 U) λ w M hX=>⟨⟨-1,rfl,λ h=>by omega,λ h=>by
   obtain⟨x,hx,h2⟩:=List.any_eq_true.1 h
   exact absurd (by simpa using h2) (hno x hx)⟩,hX.st.low⟩
end Go.Proofs.YtmjpjbmeamnfpaaGreatDoor
namespace Go.Eng
theorem pI: ∀(f:Nat) (s:A1) (p:List Sp) (i:Int),len (HL f s p i).1<=len p+f
 |0,s,p,i=>by show len p<=_;omega
 |f+1,s,p,i=>by
  unfold HL
  split
  ·split
   ·show len p<=_;omega
   ·have:=pI f s (p++[(F7 s i).1]) (i+(F7 s i).2)
    rw[A5,A6,len_nil]at this
    push_cast;omega
  ·show len p<=_;omega
theorem pJ(s:A1):len (H4 s).1<=20:=by
 unfold H4
 split
 ·show(0:Int)<=_;omega
 ·split
  ·show(0:Int)<=_;omega
  ·have:=pI 20 s [] 0
   rw[len_nil]at this
   show len (HL 20 s [] 0).1<=20;omega
end Go.Eng
namespace Go.Proofs.YtmjpjbmeamnfpaaGreatDoor
open Go.Proofs.Tryz
open Go.Eng
theorem AU8(x:Sp)(w:World):Calls prog 288 [.agg x.cells.toArray].toArray w λ e w'=>e= .returned (.bool x.part)/\Ext w w':=by
 refine AU AP func288 U ntmps288 [] [] [.ag [.v (.bool x.part),.v (str x.name),I x.n]] U (G7 w) AA (λ B hB=>?_) U
 refine F0 1 U (A0 U) U U U (A0 U) λ bb=>?_
 exact A9 hB U U (A0 U) U U (A0 U) λ w M hX=>⟨rfl,hX.st.low⟩
theorem AU9(v:Value)(l:List Sp)(w:World)(M:Mem)(hM:Sat w M)(hl:Sl M 3 l.length v (l.flatMap Sp.cells))(hb:len l<=1099511627776):
    Calls prog 304 [v,.func (.func 288) #[] #[]].toArray w λ e w'=>(∃k:Int,e= .returned (i64 k)/\(0<=k↔l.any (λ x=>x.part)=true))/\Ext w w':=by
 have hl0:=A4 l
 refine AU (Hr:=[]) AP func304 U ntmps304 [(0,kn v 3 l Sp.cells)] [] [.sl 0 v,.v (.func (.func 288) #[] #[])] U (Ak hM) (fc 0 hl Sp.B4 AA) (λ B hB=>?_) U
 refine CD (σ:=Int) (λ k=>⟨[(0,kn v 3 l Sp.cells)],[],[Z 0 (.sl 0 v),Z 1 (.v (.func (.func 288) #[] #[])),Z 7 (I (len l)),Z 8 (I k)]⟩) (λ k=>0<=k/\k<=len l/\ ∀x∈Eng.sub l 0 k,x.part≠true) (λ k=>(len l-k).toNat) 0 rfl (A0 rfl) U rfl ⟨by omega,by omega,λ x hx=>by cases hx⟩ ?_
 intro k ⟨h0,h1,hno⟩
 refine A7 U (A0 U) U (λ hb1=>?_) (λ hb1=>?_)<;>simp only[zb]at hb1
 ·refine BQ [] (λ _:Unit=>.v (.bool (at' l k).part)) [] (λ _=>[]) (Fg:=λ _=>[]) (pu:=λ _=>True) U (A0 U) (by omega) U call288 U U (A0 U) U (λ w M hS hF=>(AU8 (at' l k) w).mono λ e w' ⟨he,hx⟩=>⟨(),M,he,trivial,Mem.le.refl _,hS.ext hx,AA⟩) (λ _=>rfl) (λ _=>rfl) λ _ _=>?_
  refine A7 U (A0 U) U (λ hb2=>?_) (λ hb2=>?_)
  ·exact A9 hB U U (A0 U) U U (A0 U) λ w M hX=>⟨⟨k,rfl,λ _=>List.any_eq_true.2 ⟨at' l k,at_mem h0 hb1,hb2⟩,λ _=>h0⟩,hX.st.low⟩
  ·exact C7 (k+1) U (A0 U) (by omega) U ⟨by omega,by omega,λ x hx=>by
    rw[NJ h0 hb1]at hx
    rcases List.mem_append.1 hx with hx|hx
    ·exact hno x hx
    ·rw[List.mem_singleton.1 hx,hb2];decide⟩ (by omega)
 ·rw[L7 (by omega)]at hno
  exact A9 hB U U (A0 U) U U (A0 U) λ w M hX=>⟨⟨-1,rfl,λ h=>by omega,λ h=>by
   obtain⟨x,hx,h2⟩:=List.any_eq_true.1 h
   exact absurd h2 (hno x hx)⟩,hX.st.low⟩
theorem AV0(v:Value)(l:List Sp)(w:World)(M:Mem)(hM:Sat w M)(hl:Sl M 3 l.length v (l.flatMap Sp.cells))(hb:len l<=1099511627776):
  Calls prog 287 [v,.func (.func 288) #[] #[]].toArray w λ e w'=>e= .returned (.bool (l.any λ x=>x.part))/\Ext w w':=by
 refine AU (Hr:=[]) AP func287 U ntmps287 [(0,kn v 3 l Sp.cells)] [] [.sl 0 v,.v (.func (.func 288) #[] #[])] U (Ak hM) (fc 0 hl Sp.B4 AA) (λ B hB=>?_) U
 refine BQ [] (λ k:Int=>I k) [] (λ _=>[]) (Fg:=λ _=>[]) (pu:=λ k=>0<=k↔l.any (λ x=>x.part)=true) U (A0 U) U U call304 U U (A0 U) U (λ w M hS hF=>(AU9 v l w M hS.sat (hF.get (k:=0) U).sl hb).mono λ e w' ⟨⟨k,he,hk⟩,hx⟩=>⟨k,M,he,hk,Mem.le.refl _,hS.ext hx,AA⟩) (λ _=>rfl) (λ _=>rfl) λ k hk=>?_
 refine A9 hB U U (A0 U) U U (A0 U) λ w M hX=>⟨?_,hX.st.low⟩
 suffices h:decide (0<=k)=l.any (λ x=>x.part) by rw[<-h];rfl
 cases h:l.any (λ x=>x.part)with
 |true=>simpa using hk.2 h
 |false=>rw[h]at hk;simpa using hk
theorem pK{w0 wv:World}{M0 M:Mem}{Rs:List HO}(s:A1)(hS:St w0 M0 wv M Rs)(hg:Gl w0)(hb:len s<=200000000000):
  Calls prog 258 [str s].toArray wv (DT w0 M0 M Rs (λ u:Value=>.tuple #[u,.bool (GU s).2]) (λ _=>True) (λ u=>[(1,kn u 3 (GU s).1 Sp.cells)]) λ _=>[]):=by
 refine AU (Hr:=Rs) AP func258 U ntmps258 [] [] [.v (str s)] U hS AA (λ B hB=>?_) U
 refine BQ [] (λ u:Value=>.tu [.sl 1 u,I (H4 s).2.1,I (H4 s).2.2]) [1] (λ _=>[]) (Fg:=λ u=>[(1,kn u 3 (H4 s).1 Sp.cells)]) U (A0 U) U U call286 U U (A0 U) U (λ w M hS hF=>AR9 s hS hg hb) (λ _=>rfl) (λ _=>rfl) λ u _=>?_
 refine AY U (A0 U) U call287 U U (A0 U) (λ _ w M hX=>AV0 u (H4 s).1 w M hX.st.sat (hX.sl 1 U) (by have:=pJ s;omega)) U ?_
 refine A9 hB U U (A0 U) U U (A0 U) λ w M' hX=>⟨u,M',rfl,trivial,hX.le,hX.CQ [] U,CK (hX.f.get (k:=1) U) AA⟩
theorem AV1(v:Value)(l:List CM)(w:World)(M:Mem)(hM:Sat w M)(hl:Sl M 4 l.length v (l.flatMap CM.cells))(hb:len l<=1099511627776):
  Calls prog 317 [v,.func (.func 318) #[] #[]].toArray w λ e w'=>e= .returned (.bool (l.any λ x=>decide (0<x.left)))/\Ext w w':=by
 refine AU (Hr:=[]) AP func317 U ntmps317 [(0,kn v 4 l CM.cells)] [] [.sl 0 v,.v (.func (.func 318) #[] #[])] U (Ak hM) (fc 0 hl CM.B4 AA) (λ B hB=>?_) U
 refine BQ [] (λ k:Int=>I k) [] (λ _=>[]) (Fg:=λ _=>[]) (pu:=λ k=>0<=k↔l.any (λ x=>decide (0<x.left))=true) U (A0 U) U U call322 U U (A0 U) U (λ w M hS hF=>(AU7 v l w M hS.sat (hF.get (k:=0) U).sl hb).mono λ e w' ⟨⟨k,he,hk⟩,hx⟩=>⟨k,M,he,hk,Mem.le.refl _,hS.ext hx,AA⟩) (λ _=>rfl) (λ _=>rfl) λ k hk=>?_
 refine A9 hB U U (A0 U) U U (A0 U) λ w M hX=>⟨?_,hX.st.low⟩
 suffices h:decide (0<=k)=l.any (λ x=>decide (0<x.left)) by rw[<-h];rfl
 cases h:l.any (λ x=>decide (0<x.left))with
 |true=>simpa using hk.2 h
 |false=>rw[h]at hk;simpa using hk
abbrev pL(u:Value)(l:List CM):HX:=.pv 333 (kn u 4 l CM.cells) CM.B4
theorem AV2(v:Value)(c:Nd)(w:World)(M:Mem)(hM:Sat w M)(hg:Gl w)(hl:(kn v 6 [c] Nd.cells).ok M)(hb:len c.s<=1048576):
    Calls prog 311 [v].toArray w λ e w'=>e= .returned (.bool (MW c))/\Ext w w':=by
 refine AU (Hr:=[]) AP func311 U ntmps311 [(0,kn v 6 [c] Nd.cells)] [] [.sl 0 v] U (Ak hM) (CK hl AA) (λ B hB=>?_) U
 have hl1:len [c]=1:=rfl
 have hl2:len [(⟨5,1,false,[]⟩:CM)]=1:=rfl
 refine PK 3 [(⟨5,1,false,[]⟩:CM)] CM.cells 4 333 CM.B4 U (A0 U) U U (A0 U) (λ w=>by kernel_rfl) U λ u=>?_
 refine CD (σ:=Int×Value×List CM) (λ(k,u,l)=>⟨[(0,kn v 6 [c] Nd.cells)],[(3,pL u l)],[Z 0 (.sl 0 v),Z 3 (.sl 3 u),Z 10 (.sl 0 v),Z 11 (I 1),Z 12 (I k)]⟩) (λ(k,u,l)=>(k=0/\l=[⟨5,1,false,[]⟩])\/(k=1/\l=[⟨5,0,false,[]⟩,⟨c.kind,c.many,true,[]⟩]/\MV c=true/\c.name=[])) (λ(k,u,l)=>(1-k).toNat) (0,u,[⟨5,1,false,[]⟩]) U (A0 U) U U (.inl ⟨rfl,rfl⟩) ?_
 rintro⟨k,u,l⟩ (⟨rfl,rfl⟩|⟨rfl,rfl,hpl,hnm⟩)
 ·refine A7 U (A0 U) U (λ hb1=>?_) (λ hb1=>?_)
  ·refine CU 5 U (A0 U) (by omega) zeroValue46 U λ b5=>?_
   refine CD (σ:=Unit) (λ _=>⟨[(0,kn v 6 [c] Nd.cells)],[(5,.box b5 [I c.kind,I c.many,.v (str c.name),.v (str c.s),.v (.bool c.neg),I c.e] 46),(3,pL u [⟨5,1,false,[]⟩])],[Z 0 (.sl 0 v),Z 3 (.sl 3 u),Z 10 (.sl 0 v),Z 11 (I 1),Z 12 (I 0),Z 5 (.bx 5 b5 0)]⟩) (λ _=>True) (λ _=>0) () U (A0 U) U U trivial ?_
   intro _ _
   refine A7 U (A0 U) (by omega) (λ hb2=>?_) (λ hb2=>?_)
   ·cases hb2
   refine AY U (A0 U) U call316 U U (A0 U) (λ _ w M hX=>AU5 c w (hg.low hX.st.low) (by omega)) U ?_
   refine A7 U (A0 U) U (λ hb3=>?_) (λ hb3=>?_)<;>simp only[zb]at hb3
   ·refine A9 hB U U (A0 U) U U (A0 U) λ w M hX=>⟨?_,hX.st.low⟩
    have e:MW c=false:=by
     unfold MW
     rcases hb3 with(h|h)|h
     ·cases h
     ·rw[h];rfl
     ·rw[show decide (c.many<=0)=false by simp;omega,Bool.and_false]
    rw[e];rfl
   have hpl:=hb3.1.2
   have hm1:=hb3.2
   refine A7 U (A0 U) (by omega) (λ hb4=>?_) (λ hb4=>?_)<;>simp only[zb]at hb4
   ·refine A9 hB U U (A0 U) U U (A0 U) λ w M hX=>⟨?_,hX.st.low⟩
    have e:MW c=false:=by unfold MW;rw[show decide (c.name=[])=false by simpa using hb4.2,Bool.and_false,Bool.false_and]
    rw[e];rfl
   have hnm:c.name=[]:=hb4.resolve_left (by show ¬(5:Int)=6;decide)
   refine J8 U (A0 U) U EM (by decide+kernel) ?_
   refine K7 U (A0 U) U call257 U U (A0 U) (λ hW w M hX=>(absurd hW (by decide):Calls prog 257 [str c.name].toArray w λ e w'=>e= .returned (.bool true)/\Ext w w')) U ?_
   refine JA U (A0 U) (by omega) ?_
   refine A7 U (A0 U) U (λ hb5=>?_) (λ hb5=>?_)
   ·cases hb5
   have hl3:(at' [(⟨5,1,false,[]⟩:CM)] (len [(⟨5,1,false,[]⟩:CM)]-1)).left=1:=rfl
   refine RG (⟨5,0,false,[]⟩:CM) U (A0 U) (by omega) U (A0 U) U sizeOf3 U U U (by omega) λ x5 hx5=>?_
   replace hx5:x5=[⟨5,0,false,[]⟩]:=hx5
   subst hx5
   have hl4:len [(⟨5,0,false,[]⟩:CM)]=1:=rfl
   refine MK [6,9] 3 (λ _ _ _ _ _ h=>h) U (A0 U) U EM (by decide+kernel) ?_
   refine D2 6 U (A0 U) U U U ?_
   refine RG (⟨5,0,false,[]⟩:CM) U (A0 U) U U (A0 U) U sizeOf4 U U U (by omega) λ x5 hx5=>?_
   replace hx5:x5=[⟨5,0,false,[]⟩]:=hx5
   subst hx5
   refine CL U (A0 U) U ?_
   refine D2 9 U (A0 U) U U U ?_
   refine RG (⟨5,0,false,c.name⟩:CM) U (A0 U) U U (A0 U) U sizeOf9 U U U (by omega) λ x5 hx5=>?_
   replace hx5:x5=[⟨5,0,false,c.name⟩]:=hx5
   subst hx5
   rw[hnm]
   refine CL U (A0 U) U ?_
   refine IP U (A0 U) U U U ?_
   refine DS 6 [(⟨c.kind,c.many,true,[]⟩:CM)] CM.cells 4 333 CM.B4 U (A0 U) U U (A0 U) (λ w=>by kernel_rfl) U λ v6=>?_
   refine NC 40 U (A0 U) U U (A0 U) U underlying334 type333 U U CM.cells_one (by simp only[A6,len_nil];omega) λ v'=>?_
   exact C7 (1,v',[⟨5,0,false,[]⟩,⟨c.kind,c.many,true,[]⟩]) U (A0 U) (by omega) U (.inr ⟨rfl,rfl,hpl,rfl⟩) (by show Int.toNat _<Int.toNat _;omega)
  ·cases hb1
 ·refine A7 U (A0 U) U (λ hb1=>?_) (λ hb1=>?_)
  ·cases hb1
  ·have hl5:len [(⟨5,0,false,[]⟩:CM),⟨c.kind,c.many,true,[]⟩]=2:=rfl
   refine J7 3 U ?_
   refine AY U (A0 U) U call317 U U (A0 U) (λ _ w M hX=>AV1 u [⟨5,0,false,[]⟩,⟨c.kind,c.many,true,[]⟩] w M hX.st.sat (hX.sl 3 U) (by omega)) U ?_
   refine A9 hB U U (A0 U) U U (A0 U) λ w M hX=>⟨?_,hX.st.low⟩
   have e:MW c=(decide (0<len [c])&& !([(⟨5,0,false,[]⟩:CM),⟨c.kind,c.many,true,[]⟩].any λ x=>decide (0<x.left))):=by
    unfold MW
    rw[hpl,hnm,hl1]
    simp
    cases h:decide (c.many<=0)<;>simp at h ⊢ <;>omega
   rw[e];rfl
theorem AV3(c:Nd)(w:World)(M:Mem)(hM:Sat w M)(hg:Gl w)(hb:len c.s<=1048576):
   Calls prog 301 [H9 c].toArray w λ e w'=>e= .returned (.bool (decide (c.kind<5)&&MW c))/\Ext w w':=by
 refine AU (Hr:=[]) AP func301 U ntmps301 [] [] [GW c] U (Ak hM) AA (λ B hB=>?_) U
 refine F0 1 U (A0 U) U U U (A0 U) λ bb=>?_
 refine L3 (.v (.slice none 0 0)) U (A0 U) U U (λ hb1=>?_) (λ hb1=>?_)
 ·refine DS 2 [c] Nd.cells 6 46 Nd.B4 U (A0 U) U U (OK hb1 U) (λ w=>by kernel_rfl) U λ v2=>?_
  refine AY U (A0 U) U call311 U U (A0 U) (λ _ w M hX=>AV2 v2 c w M hX.st.sat (hg.low hX.st.low) (hX.f.get (k:=2) U) hb) U ?_
  exact A9 hB U U (A0 U) U U (A0 U) λ w M hX=>⟨rfl,hX.st.low⟩
 ·refine L3 (.v (.bool false)) U (A0 U) U U (λ h=>absurd (hb1.symm.trans h) (by decide)) (λ _=>?_)
  exact A9 hB U U (A0 U) U U (A0 U) λ w M hX=>⟨by rw[hb1];rfl,hX.st.low⟩
theorem AV4(n:Int)(c:Nd)(w:World)(M:Mem)(hM:Sat w M)(hg:Gl w)(hb:len c.s<=1048576):
  Calls prog 284 [.agg (i64 n::c.cells).toArray].toArray w λ e w'=>e= .returned (.bool (UC n c))/\Ext w w':=by
 refine AU (Hr:=[]) AP func284 U ntmps284 [] [] [.ag [I n,I c.kind,I c.many,.v (str c.name),.v (str c.s),.v (.bool c.neg),I c.e]] U (Ak hM) AA (λ B hB=>?_) U
 refine F0 1 U (A0 U) U U U (A0 U) λ bb=>?_
 refine AY U (A0 U) U call301 U U (A0 U) (λ _ w M hX=>AV3 c w M hX.st.sat (hg.low hX.st.low) hb) U ?_
 refine A9 hB U U (A0 U) U U (A0 U) λ w M hX=>⟨?_,hX.st.low⟩
 unfold UC
 rfl
end Go.Proofs.YtmjpjbmeamnfpaaGreatDoor
