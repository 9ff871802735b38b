/- Lemmas for the card. -/
import Derived.Shelf.Unicode.ValidAny
import Derived.Test.YtnoegalemkbbbaaGreatDoorKs11
set_option linter.unusedVariables false
set_option linter.unusedSimpArgs false
set_option maxRecDepth 100000
namespace Go.Proofs
open Go.Shelf
def Tryz.AU5:Go.Shelf.Ren:=⟨λ |190=>151|125=>181|258=>180|128=>219|129=>220|302=>210|303=>211|304=>212|305=>213|306=>214|307=>215|308=>216|309=>217|310=>218|333=>242|329=>243|330=>244|334=>245|335=>246|336=>247|344=>271|n=>n,λ |31=>103|9=>9|3=>3|46=>209|0=>0|51=>237|53=>239|4=>4|183=>231|182=>230|131=>169|5=>5|218=>263|222=>267|228=>281|229=>226|n=>n,λ |n=>n⟩
theorem Tryz.pN:Go.Proofs.Lays.n190 prog Tryz.AU5:= {
 mixed:=by kernel_rfl
 f125:=func181.trans (congrArg some Ai)
 f128:=func219.trans (congrArg some Ai)
 f129:=func220.trans (congrArg some Ai)
 f190:=func151.trans (congrArg some Ai)
 f258:=func180.trans (congrArg some Ai)
 f302:=func210.trans (congrArg some Ai)
 f303:=func211.trans (congrArg some Ai)
 f304:=func212.trans (congrArg some Ai)
 f305:=func213.trans (congrArg some Ai)
 f306:=func214.trans (congrArg some Ai)
 f307:=func215.trans (congrArg some Ai)
 f308:=func216.trans (congrArg some Ai)
 f309:=func217.trans (congrArg some Ai)
 f310:=func218.trans (congrArg some Ai)
 f329:=func243.trans (congrArg some Ai)
 f330:=func244.trans (congrArg some Ai)
 f333:=func242.trans (congrArg some Ai)
 f334:=func245.trans (congrArg some Ai)
 f335:=func246.trans (congrArg some Ai)
 f336:=func247.trans (congrArg some Ai)
 f344:=func271.trans (congrArg some Ai)
 t0:=underlying0
 a0:=isAgg0
 z0:=sizeOf0
 v0:=zeroValue0
 t3:=underlying3
 a3:=isAgg3
 z3:=sizeOf3
 v3:=zeroValue3
 t4:=underlying4
 a4:=isAgg4
 z4:=sizeOf4
 v4:=zeroValue4
 t5:=underlying5
 a5:=isAgg5
 z5:=sizeOf5
 v5:=zeroValue5
 t9:=underlying9
 a9:=isAgg9
 z9:=sizeOf9
 v9:=zeroValue9
 t31:=underlying103
 a31:=isAgg103
 z31:=sizeOf103
 v31:=zeroValue103
 t46:=underlying209
 a46:=isAgg209
 z46:=sizeOf209
 v46:=zeroValue209
 t51:=underlying237
 a51:=isAgg237
 z51:=sizeOf237
 v51:=zeroValue237
 t53:=underlying239
 a53:=isAgg239
 z53:=sizeOf239
 v53:=zeroValue239
 t131:=underlying169
 a131:=isAgg169
 z131:=sizeOf169
 v131:=zeroValue169
 t182:=underlying230
 a182:=isAgg230
 z182:=sizeOf230
 v182:=zeroValue230
 t183:=underlying231
 a183:=isAgg231
 z183:=sizeOf231
 v183:=zeroValue231
 t218:=underlying263
 a218:=isAgg263
 z218:=sizeOf263
 v218:=zeroValue263
 t222:=underlying267
 a222:=isAgg267
 z222:=sizeOf267
 v222:=zeroValue267
 t228:=underlying281
 a228:=isAgg281
 z228:=sizeOf281
 v228:=zeroValue281
 t229:=underlying226
 a229:=isAgg226
 z229:=sizeOf226
 v229:=zeroValue226}
open Go.Sort Go.RowKit in
theorem Tryz.slices_Sort_string (E6 off cap:Nat)(b:List (List UInt8))(w:World)(hH:Holds encStr w E6 off b.toArray)(h:E6<w.heap.size)(i:b.length<4611686018427387904):
 Calls prog 151 #[.slice (some ⟨E6,off,none⟩) b.length cap] w λ e w'=>
  e= .returned (.tuple #[])/\ ∃n os,w'=grow (putRow encStr (Sort.ahead w n) E6 off (b.mergeSort λ x y=>decide (x<=y)).toArray) os:=Any.slices_Sort_string Tryz.pN E6 off cap b w hH h i
open Go.RowKit Go.Sort in
theorem Tryz.slices_Sort_string_none (p:Option Addr)(cap:Nat)(w:World):
 Calls prog 151 #[.slice p 0 cap] w λ e w'=>e= .returned (.tuple #[])/\w'=w:=Any.slices_Sort_string_none Tryz.pN p cap w
def Tryz.AU6:Go.Shelf.Ren:=⟨λ |196=>263|259=>286|n=>n,λ |9=>9|4=>4|3=>3|5=>5|12=>12|119=>283|0=>0|46=>209|139=>286|138=>285|53=>239|n=>n,λ |3=>0|4=>1|n=>n⟩
theorem Tryz.AU7:Go.Proofs.Lays.n196 prog Tryz.AU6:= {
 mixed:=by kernel_rfl
 f196:=func263.trans (congrArg some Ai)
 f259:=func286.trans (congrArg some Ai)
 t0:=underlying0
 a0:=isAgg0
 z0:=sizeOf0
 v0:=zeroValue0
 t3:=underlying3
 a3:=isAgg3
 z3:=sizeOf3
 v3:=zeroValue3
 t4:=underlying4
 a4:=isAgg4
 z4:=sizeOf4
 v4:=zeroValue4
 t5:=underlying5
 a5:=isAgg5
 z5:=sizeOf5
 v5:=zeroValue5
 t9:=underlying9
 a9:=isAgg9
 z9:=sizeOf9
 v9:=zeroValue9
 t12:=underlying12
 a12:=isAgg12
 z12:=sizeOf12
 v12:=zeroValue12
 t46:=underlying209
 a46:=isAgg209
 z46:=sizeOf209
 v46:=zeroValue209
 t53:=underlying239
 a53:=isAgg239
 z53:=sizeOf239
 v53:=zeroValue239
 t119:=underlying283
 a119:=isAgg283
 z119:=sizeOf283
 t138:=underlying285
 a138:=isAgg285
 z138:=sizeOf285
 v138:=zeroValue285
 t139:=underlying286
 a139:=isAgg286
 z139:=sizeOf286
 v139:=zeroValue286
 g3:=by kernel_rfl
 g4:=by kernel_rfl}
open Go.RowKit Go.Lib in
theorem Tryz.utf8_ValidString (s:ByteArray)(w:World)(hs:s.size<=9223372036854775807)(hT:Lib.Utf8Tabs 0 1 w):
 Calls prog 263 #[.string s] w λ e w'=>e= .returned (.bool (Lib.validD s.data.toList))/\Below w.heap.size w w':=Any.utf8_ValidString Tryz.AU7 s w hs hT
def Tryz.AU8:Go.Shelf.Ren:=⟨λ |160=>349|232=>330|231=>327|227=>321|234=>331|233=>328|236=>332|235=>329|228=>322|271=>347|151=>346|197=>224|120=>355|152=>319|260=>248|137=>198|119=>341|224=>342|225=>343|217=>232|266=>254|n=>n,λ |9=>9|4=>4|3=>3|5=>5|117=>326|116=>325|0=>0|124=>332|21=>21|105=>245|46=>209|119=>283|139=>286|138=>285|n=>n,λ |3=>0|4=>1|n=>n⟩
theorem Tryz.AU9:Go.Proofs.Lays.n160 prog Tryz.AU8:= {
 mixed:=by kernel_rfl
 f119:=func341.trans (congrArg some Ai)
 f120:=func355.trans (congrArg some Ai)
 f137:=func198.trans (congrArg some Ai)
 f151:=func346.trans (congrArg some Ai)
 f152:=func319.trans (congrArg some Ai)
 f160:=func349.trans (congrArg some Ai)
 f197:=func224.trans (congrArg some Ai)
 f217:=func232.trans (congrArg some Ai)
 f224:=func342.trans (congrArg some Ai)
 f225:=func343.trans (congrArg some Ai)
 f227:=func321.trans (congrArg some Ai)
 f228:=func322.trans (congrArg some Ai)
 f231:=func327.trans (congrArg some Ai)
 f232:=func330.trans (congrArg some Ai)
 f233:=func328.trans (congrArg some Ai)
 f234:=func331.trans (congrArg some Ai)
 f235:=func329.trans (congrArg some Ai)
 f236:=func332.trans (congrArg some Ai)
 f260:=func248.trans (congrArg some Ai)
 f266:=func254.trans (congrArg some Ai)
 f271:=func347.trans (congrArg some Ai)
 t0:=underlying0
 a0:=isAgg0
 z0:=sizeOf0
 v0:=zeroValue0
 t3:=underlying3
 a3:=isAgg3
 z3:=sizeOf3
 v3:=zeroValue3
 t4:=underlying4
 a4:=isAgg4
 z4:=sizeOf4
 v4:=zeroValue4
 t5:=underlying5
 a5:=isAgg5
 z5:=sizeOf5
 v5:=zeroValue5
 t9:=underlying9
 a9:=isAgg9
 z9:=sizeOf9
 v9:=zeroValue9
 t21:=underlying21
 a21:=isAgg21
 z21:=sizeOf21
 v21:=zeroValue21
 t46:=underlying209
 a46:=isAgg209
 z46:=sizeOf209
 v46:=zeroValue209
 t105:=underlying245
 a105:=isAgg245
 z105:=sizeOf245
 v105:=zeroValue245
 t116:=underlying325
 a116:=isAgg325
 z116:=sizeOf325
 t117:=underlying326
 a117:=isAgg326
 z117:=sizeOf326
 v117:=zeroValue326
 t119:=underlying283
 a119:=isAgg283
 z119:=sizeOf283
 t124:=underlying332
 a124:=isAgg332
 z124:=sizeOf332
 v124:=zeroValue332
 t138:=underlying285
 a138:=isAgg285
 z138:=sizeOf285
 v138:=zeroValue285
 t139:=underlying286
 a139:=isAgg286
 z139:=sizeOf286
 v139:=zeroValue286
 g3:=by kernel_rfl
 g4:=by kernel_rfl}
open Go.RowKit in
theorem Tryz.strings_Trim_one (s:ByteArray)(c:UInt8)(b:c.toNat<128)(w:World)(hs:s.size<=9223372036854775807):
 Calls prog 349 #[.string s,.string ⟨#[c]⟩] w λ e w'=>e= .returned (.string ⟨(Lib.trimB s.data.toList c).toArray⟩)/\(w'=w\/w'=w.drew):=Any.strings_Trim_one Tryz.AU9 s c b w hs
end Go.Proofs
set_option maxRecDepth 100000
namespace Go.Proofs.YtnoegalemkbbbaaGreatDoor
open Go.Proofs.Tryz
open Go.Eng
theorem AV0{t:A0}{p:Int}(h0:0<=p)(h1:p<len t):FK (Eng.sub t 0 (p+1))=decide (p+1<=len (BD t)):=by
 have hl:=FF (s:=t) (i:=0) (j:=p+1) (Int.le_refl 0) Aa Aa
 have q: ∀j:Int,0<=j->j<p+1->A4 (Eng.sub t 0 (p+1)) j=A4 t j:=λ j a b=>by
  have:=PW (s:=t) (i:=0) (j:=p+1) (k:=j) (Int.le_refl 0) a Aa Aa
  rwa [Int.zero_add]at this
 have ho:=YA (s:=t) 0 (Int.le_refl 0)
 have l:=LQ (s:=t) (i:=0) (Int.le_refl 0) (A8 t)
 rw[Bool.eq_iff_iff,decide_eq_true_eq,LR,UW]
 constructor
 ·rintro⟨_,h⟩
  rcases Int.lt_or_le (CP t 0) (p+1)with n|n
  ·have w:=ho.2 (A8 t) Aa
   rw[<-q _ l.1 n,h _ l.1 Aa]at w;cases w
  ·exact n
 ·intro n
  refine⟨λ e=>by rw[e,len_nil]at hl;omega,λ j a b=>?_⟩
  rw[q j a Aa]
  exact ho.1 j a Aa
abbrev spV(x:Sp):Value:=.agg #[.bool x.part,str x.name,i64 x.n]
theorem AV2(s:A0)(i:Int)(first:Bool)(w:World)(h0:0<=i)(h1:i<=len s)(hb:len s<=1048576):
  Calls prog 173 [str s,i64 i,.bool first].toArray w λ e w'=>e= .returned (.tuple #[spV (DF s i first).1,i64 (DF s i first).2])/\Ext w w':=by
 refine AH AF func173 U ntmps173 [] [] [.v (str s),I i,.v (.bool first)] U (BE w) A3 (λ B E=>B9 1 U zeroValue105 U λ N=>CQ 0 (λ s'=> ∃j,i<=j/\j<=len s/\DF s i first=OC s i j/\s'=⟨[],[(1,.box N [.v (.bool false),.v (str []),I 0] 105)],[Z 0 (.v (str s)),Z 1 (I j),Z 6 (.bx 1 N 0),Z 8 (I i)]⟩) U U (λ y=>?_) (λ y=>?_) ?_) U
 ·simp only[zb]at y
  have A:A4 s i=46:=by omega
  have S:=EB s (i+1) Aa Aa
  have T:=UL (A5 s (i+1))
  refine B7 (σ:=Int) (λ k=>⟨[],[(1,.box N [.v (.bool false),.v (str []),I 0] 105)],[Z 0 (.v (str s)),Z 1 (I (i+1)),Z 2 (.v (.bool first)),Z 6 (.bx 1 N 0),Z 8 (I i),Z 9 (I k)]⟩) (λ k=>i+1<=k/\k<=i+1+len (BD (A5 s (i+1)))) (λ k=>(len s-k).toNat) (i+1) U U ⟨Aa,Aa⟩ ?_
  rintro k ⟨V,W⟩
  have D:k<len s->FK (Eng.sub s (i+1) (k+1))=decide (k+1<=i+1+len (BD (A5 s (i+1)))):=λ Q=>by
   have O:=AV0 (t:=A5 s (i+1)) (p:=k-(i+1)) Aa Aa
   rw[Y3 s (i+1) _ Aa Aa,show i+1+(k-(i+1)+1)=k+1 by omega]at O
   rw[O];congr 1;rw[eq_iff_iff];omega
  refine AJ U call201 U U (λ _ w M l=>kY (Eng.sub s (i+1) (k+1)) w (by unfold Eng.sub len at*;rw[List.length_take];omega)) U ?_
  refine A1 U (λ n=>?_) (λ n=>?_)<;>simp only[zb]at n
  ·have:=D Aa
   rw[n.2]at this
   have:=of_decide_eq_true this.symm
   exact AX (k+1) U U ⟨Aa,Aa⟩ Ag
  have C:k=i+1+len (BD (A5 s (i+1))):=by
   rcases n with n|n
   ·omega
   ·by_cases Q:k<len s
    ·rw[D Q]at n
     have:=of_decide_eq_false n;omega
    ·omega
  refine A1 U (λ G=>?_) (λ G=>?_)<;>simp only[zb]at G
  ·have P:BD (A5 s (i+1))≠[]:=λ e=>by rw[e,len_nil]at C;omega
   have H:Eng.sub s (i+1) k=BD (A5 s (i+1)):=by
    have O:=Y3 s (i+1) (len (BD (A5 s (i+1)))) Aa Aa
    rw[C,<-O,LR];rfl
   have b:DF s i first=(⟨false,BD (A5 s (i+1)),0⟩,i+1+len (BD (A5 s (i+1)))):=by unfold DF;rw[if_pos ⟨y.1,A⟩,if_pos P]
   refine A2 E U U U λ w M l=>⟨?_,l.st.low⟩
   rw[b,C]
   show Ending.returned (.tuple #[.agg #[.bool false,str (Eng.sub s (i+1) (i+1+len (BD (A5 s (i+1))))),i64 0],_])=_
   rw[<-C,H];rfl
  have he:BD (A5 s (i+1))=[]:=Classical.byContradiction λ e=>by have:=GL e;omega
  have X:=O1 (A5 s (i+1))
  have hul:=eW (A5 s (i+1))
  refine AJ U call202 U U (λ _ w M l=>AT4 (A5 s (i+1)) w Aa) U <|FX U BK Ac <|H4 U call201 U U (λ _ w M l=>kY (B4 (A5 s (i+1))).1 w Aa) U <|H4 U call203 U U (λ _ w M l=>AT1 (B4 (A5 s (i+1))).1 w Aa) U <|FY U ?_
  refine A1 U (λ z=>?_) (λ z=>?_)<;>simp only[zb]at z
  ·have b:DF s i first=(⟨false,(B4 (A5 s (i+1))).1,0⟩,i+1+(B4 (A5 s (i+1))).2.1):=by
    unfold DF;rw[if_pos ⟨y.1,A⟩,if_neg (by rw[he];simp),if_pos ⟨z.1.1,z.1.2,z.2⟩]
   refine A2 E U U U λ w M l=>⟨?_,l.st.low⟩
   rw[b];rfl
  have J: ¬((B4 (A5 s (i+1))).2.2=0/\FK (B4 (A5 s (i+1))).1=false/\MW (B4 (A5 s (i+1))).1=Eng.sub s (i+1) (i+1+(B4 (A5 s (i+1))).2.1)):=by
   rintro⟨q1,q2,q3⟩
   rcases z with(h|h)|h
   ·exact h q1
   ·rw[q2]at h;cases h
   ·exact h q3
  refine A1 U (λ q=>?_) (λ q=>?_)<;>simp only[zb]at q
  ·have b:DF s i first=(OB,i):=by
    unfold DF;rw[if_pos ⟨y.1,A⟩,if_neg (by rw[he];simp),if_neg J,if_pos q]
   refine A2 E U U U λ w M l=>⟨?_,l.st.low⟩
   rw[b];rfl
  refine AT _ U U ⟨i+1,Aa,Aa,?_,rfl⟩
  unfold DF;rw[if_pos ⟨y.1,A⟩,if_neg (by rw[he];simp),if_neg J,if_neg (by rw[q];decide)]
 ·simp only[zb]at y
  have R: ¬(i<len s/\A4 s i=46):=by omega
  refine A1 U (λ q=>?_) (λ q=>?_)
  ·have b:DF s i first=(OB,i):=by unfold DF;rw[if_neg R,if_pos q]
   refine A2 E U U U λ w M l=>⟨?_,l.st.low⟩
   rw[b];rfl
  refine AT _ U U ⟨i,Int.le_refl _,h1,?_,rfl⟩
  unfold DF;rw[if_neg R,if_neg (by rw[q];decide)]
 ·rintro _ ⟨j,hj0,hj1,F,rfl⟩
  refine A1 U (λ K=>?_) (λ K=>?_)<;>simp only[zb]at K
  ·have b:DF s i first=(OB,i):=by rw[F];unfold OC;rw[if_pos Aa]
   refine A2 E U U U λ w M l=>⟨?_,l.st.low⟩
   rw[b];rfl
  refine AJ U call204 U U (λ _ w M l=>AT8 s (j+1) w Aa Aa Aa) U ?_
  have hfb:j+1<=(I6 s (j+1)).2/\(I6 s (j+1)).2<=len s:=by
   unfold I6
   obtain⟨r,hr⟩:=oW s (j+1)
   have hl:=EB s (j+1) Aa Aa
   rw[hr,AO]at hl
   have:=A8 r
   have:=A8 (EH s (j+1))
   split<;>dsimp only<;>omega
  refine A1 U (λ L=>?_) (λ L=>?_)<;>simp only[zb]at L
  ·have b:DF s i first=(OB,i):=by rw[F];unfold OC;rw[if_neg Aa,if_pos Aa]
   refine A2 E U U U λ w M l=>⟨?_,l.st.low⟩
   rw[b];rfl
  ·have b:DF s i first=(⟨true,[],(I6 s (j+1)).1⟩,(I6 s (j+1)).2+1):=by rw[F];unfold OC;rw[if_neg Aa,if_neg Aa]
   refine A2 E U U U λ w M l=>⟨?_,l.st.low⟩
   rw[b];rfl
theorem AV3{s:A0}{i:Int}{first:Bool}(h0:0<=i)(h1:i<=len s):i<=(DF s i first).2/\(DF s i first).2<=len s:=by
 by_cases h:(DF s i first).2=i
 ·rw[h];omega
 ·have:=oY h0 (x:=(DF s i first).1) (zz:=(DF s i first).2) U h
  omega
theorem SB{α:Type}{l:List α}(h:len l=0):l=[]:=by
 cases l with
 |nil=>rfl
 |cons a l=>rw[AL]at h;have:=A8 l;omega
theorem V4{α:Type}(p:List α):p.isEmpty=(len p==0):=by
 cases p with
 |nil=>rfl
 |cons a p=>symm;show _=false;rw[beq_eq_false_iff_ne,AL];have:=A8 p;omega
theorem AV4{D:World}{M:Mem}(s:A0)(hS:Sat D M)(H:len s<=1048576):
  Calls prog 138 [str s,i64 0].toArray D (MP D M (λ v:Value=>.tuple #[v,i64 (EX s 0).2]) (λ _=>True) (λ v=>[(0,kn v 3 (EX s 0).1 Sp.cells)])):=by
 have E:=A8 s
 refine AH AF func138 U ntmps138 [] [] [.v (str s),I 0] U (Aj hS) A3 (λ B C=>BH 1 [] Sp.cells 3 105 Sp.AS U U Ah U λ v=>B7 (σ:=Int×Value×List Sp) (λ(i,v,p)=>⟨[(1,kn v 3 p Sp.cells)],[(1,.ho (.own 105 3 v p.length (p.flatMap Sp.cells)))],[Z 0 (.v (str s)),Z 1 (I i),Z 6 (.sl 1 v),Z 7 (I 0)]⟩) (λ(i,v,p)=>0<=i/\i<=len s/\len p<=20/\GH (20-p.length) s p i=GH 20 s [] 0) (λ(i,v,p)=>20-p.length) (0,v,[]) U U ⟨Aa,E,by show(0:Int)<=20;omega,rfl⟩ ?_) U
 rintro⟨i,v,p⟩ ⟨y,z,F,n⟩
 have J:(p.length:Int)=len p:=rfl
 have K:=A8 p
 refine A1 U (λ A=>?_) (λ A=>?_)<;>simp only[zb]at A
 ·have L:=AV3 (first:=len p==0) y z
  obtain⟨f,G⟩: ∃f,20-p.length=f+1:=⟨19-p.length,Aa⟩
  refine AJ U call173 U U (λ _ w M j=>AV2 s i (len p==0) w y z H) U <|B9 2 U zeroValue105 U λ P=>?_
  refine A1 U (λ l=>?_) (λ l=>?_)<;>simp only[zb]at l
  ·have e:GH 20 s [] 0=(p,i):=by rw[<-n,G,GH,V4,if_pos l]
   refine A1 U (λ h=>?_) (λ h=>?_)<;>simp only[zb]at h
   ·have k:p=[]:=SB Aa
    have b:EX s 0=([],0+1):=by unfold EX;rw[e,if_pos ⟨k,Aa,Aa⟩]
    subst k
    exact A2 C U U U λ w M j=>⟨v,M,by rw[b];rfl,trivial,j.st.done,by rw[b];exact fc 0 (j.sl 1 U) Sp.AS A3⟩
   ·have b:EX s 0=(p,i):=by
     unfold EX;rw[e,if_neg]
     rintro⟨q,N,O⟩
     have q:p=[]:=q
     rw[q,len_nil]at h;omega
    exact A2 C U U U λ w M j=>⟨v,M,by rw[b];rfl,trivial,j.st.done,by rw[b];exact fc 0 (j.sl 1 U) Sp.AS A3⟩
  ·refine BH 3 [(DF s i (len p==0)).1] Sp.cells 3 105 Sp.AS U U Ah U λ v2=>F4 32 U U U underlying61 type105 U U Sp.cells_one (by simp only[AL,len_nil];omega) λ v'=>AX ((DF s i (len p==0)).2,v',p++[(DF s i (len p==0)).1]) U U ⟨Aa,Aa,by rw[AO];show len p+1<=20;omega,?_⟩ (by show 20-(p++[_]).length<20-p.length;rw[List.length_append,List.length_singleton];omega)
   rw[<-n,G,GH,V4,if_neg l,List.length_append,List.length_singleton,show 20-(p.length+1)=f by omega]
 ·have e:GH 20 s [] 0=(p,i):=by rw[<-n,show 20-p.length=0 by omega,GH]
  refine A1 U (λ h=>?_) (λ h=>?_)<;>simp only[zb]at h
  ·have k:p=[]:=SB Aa
   have b:EX s 0=([],0+1):=by unfold EX;rw[e,if_pos ⟨k,Aa,Aa⟩]
   subst k
   exact A2 C U U U λ w M j=>⟨v,M,by rw[b];rfl,trivial,j.st.done,by rw[b];exact fc 0 (j.sl 1 U) Sp.AS A3⟩
  ·have b:EX s 0=(p,i):=by
    unfold EX;rw[e,if_neg]
    rintro⟨q,N,O⟩
    have q:p=[]:=q
    rw[q,len_nil]at h;omega
   exact A2 C U U U λ w M j=>⟨v,M,by rw[b];rfl,trivial,j.st.done,by rw[b];exact fc 0 (j.sl 1 U) Sp.AS A3⟩
theorem eZ{q:World}{M:Mem}(s:A0)(hS:Sat q M)(y:len s<=1048576):
  Calls prog 82 [str s].toArray q (MP q M (λ v:Value=>.tuple #[v,i64 (D0 s).2.1,i64 (D0 s).2.2]) (λ _=>True) (λ v=>[(0,kn v 3 (D0 s).1 Sp.cells)])):=by
 refine AH AF func82 U ntmps82 [] [] [.v (str s)] U (Aj hS) A3 (λ B n=>FM (λ v:Value=>.tu [.sl 1 v,I (EX s 0).2]) [1] U U call138 U (λ w M i=>AV4 s i.st.sat y) λ v _=>?_) U
 refine A1 U (λ h=>?_) (λ h=>?_)<;>simp only[zb]at h
 ·have b:D0 s=((EX s 0).1,0,0):=by unfold D0;rw[if_pos h]
  exact A2 n U U U λ w M i=>⟨v,M,by rw[b];rfl,trivial,i.st.done,by rw[b];exact fc 0 (i.sl 1 U) Sp.AS A3⟩
 refine A1 U (λ j=>?_) (λ j=>?_)<;>simp only[zb]at j
 ·have b:D0 s=([],0,1):=by unfold D0;rw[if_neg h,if_pos (SB j)]
  refine A2 n U U U λ w M i=>⟨.slice none 0 0,M,by rw[b];rfl,trivial,i.st.done,by rw[b];exact fc 0 (l:=([]:List Sp)) (Sl.nil ..) Sp.AS A3⟩
 refine A1 U (λ k=>?_) (λ k=>?_)<;>simp only[zb]at k
 ·have b:D0 s=([],(EX s 0).2,1):=by unfold D0;rw[if_neg h,if_neg (λ e=>j (by rw[e];rfl)),if_pos k]
  refine A2 n U U U λ w M i=>⟨.slice none 0 0,M,by rw[b];rfl,trivial,i.st.done,by rw[b];exact fc 0 (l:=([]:List Sp)) (Sl.nil ..) Sp.AS A3⟩
 ·have b:D0 s=((EX s 0).1,0,0):=by unfold D0;rw[if_neg h,if_neg (λ e=>j (by rw[e];rfl)),if_neg Aa]
  exact A2 n U U U λ w M i=>⟨v,M,by rw[b];rfl,trivial,i.st.done,by rw[b];exact fc 0 (i.sl 1 U) Sp.AS A3⟩
theorem pO(s:A0)(w:World)(h:len s<=1048576):Calls prog 188 [str s].toArray w λ e w'=>e= .returned (.bool (OD s))/\Ext w w':=AH AF func188 U ntmps188 [] [] [.v (str s)] U (BE w) A3 (λ B i=>FM (λ v:Value=>.tu [.sl 1 v,I (D0 s).2.1,I (D0 s).2.2]) [1] U U call82 U (λ w M b=>eZ s b.st.sat h) λ v _=>A2 i U U U λ w M b=>⟨rfl,b.st.low⟩) U
end Go.Proofs.YtnoegalemkbbbaaGreatDoor
namespace Go.Eng
open Go.RowKit
mutual
def Tf.size:Tf->Nat
 | .mk _ ps=>1+AB ps
def AB:List Tf->Nat
 |[]=>0
 |x::l=>x.size+AB l
end
mutual
theorem Tf.D5:(x:Tf)->x.flat.length=x.size
 | .mk n ps=>by rw[Tf.flat,Tf.size,List.length_cons,SC ps];omega
theorem SC:(l:List Tf)->(AN l).length=AB l
 |[]=>rfl
 |t::ts=>by rw[AN,AB,List.length_append,Tf.D5 t,SC ts]
end
theorem I7(a b:List Tf):AB (a++b)=AB a+AB b:=by
 induction a with
 |nil=>simp[AB]
 |cons x a e=>rw[List.cons_append,AB,AB,e];omega
theorem Tf.size_pos (t:Tf):1<=t.size:=by cases t;rw[Tf.size];omega
theorem Tf.size_eq (t:Tf):t.size=1+AB t.ps:=by cases t;rfl
theorem LZ(l:List Tf):len l<=AB l:=by
 induction l with
 |nil=>exact Int.le_refl _
 |cons t l b=>rw[AL,AB];have:=t.size_pos;omega
def Tf.node (x:Tf):Tm:= { x.t with many:=len x.ps}
theorem Tf.G1 (x:Tf):x.flat=x.node::AN x.ps:=by cases x;rfl
def BS(v:Fl)(i:Int)(l:List Tf):Prop:=0<=i/\ ∃pre post,v=pre++(AN l++post)/\len pre=i
theorem BS.le {v:Fl}{i:Int}{l:List Tf}(h:BS v i l):i+AB l<=len v:=by
 obtain⟨h0,pre,post,rfl,rfl⟩:=h
 unfold len;simp only[List.length_append,SC];omega
theorem BS.kids {v:Fl}{i:Int}{n:Tm}{ps ts:List Tf}(h:BS v i (.mk n ps::ts)):BS v (i+1) (ps++ts):=by
 obtain⟨h0,pre,post,rfl,rfl⟩:=h
 exact⟨Aa,pre++[{ n with many:=len ps}],post,by rw[AN,Tf.flat,J8];simp,by unfold len;simp⟩
theorem BS.SD {v:Fl}{i:Int}{x:Tf}{ts:List Tf}(h:BS v i (x::ts)):BS v (i+1) (x.ps++ts):=by cases x;exact h.kids
theorem BS.skip {v:Fl}{i:Int}{a b:List Tf}(h:BS v i (a++b)):BS v (i+AB a) b:=by
 obtain⟨h0,pre,post,rfl,rfl⟩:=h
 exact⟨Aa,pre++AN a,post,by rw[J8];simp,by unfold len;rw[List.length_append,SC];omega⟩
theorem BS.rest {v:Fl}{i:Int}{x:Tf}{b:List Tf}(h:BS v i (x::b)):BS v (i+x.size) b:=by
 have:=BS.skip (a:=[x]) h
 rw[AB,AB,Nat.add_zero]at this;exact this
theorem BS.head {v:Fl}{i:Int}{x:Tf}{b:List Tf}(h:BS v i (x::b)):BS v i [x]:=by
 obtain⟨h0,pre,post,rfl,rfl⟩:=h
 exact⟨h0,pre,AN b++post,by simp[AN],rfl⟩
theorem BS.node {v:Fl}{i:Int}{x:Tf}{b:List Tf}(h:BS v i (x::b)):0<=i/\i<len v/\at' v i=x.node:=by
 have hl:=h.le
 have e:=x.size_pos
 obtain⟨h0,pre,post,rfl,rfl⟩:=h
 rw[AB]at hl
 refine⟨h0,Aa,?_⟩
 unfold at' len
 rw[Int.toNat_natCast,List.getD_eq_getElem?_getD,List.getElem?_append_right (Nat.le_refl _),Nat.sub_self,AN,Tf.G1];rfl
theorem BS.top (x:Tf):BS x.flat 0 [x]:=⟨Int.le_refl _,[],[],by simp[AN],rfl⟩
theorem Tf.CU (x:Tf):at' x.flat 0=x.node:=(BS.top x).node.2.2
theorem Tf.AV5 (x:Tf):BS x.flat 1 x.ps:=by
 have:=(BS.top x).SD
 rw[List.append_nil]at this;exact this
theorem AV6{v:Fl}{i:Int}{x:Tf}{b:List Tf}(h:BS v i (x::b)):Eng.sub v i (i+x.size)=x.flat:=by
 obtain⟨h0,pre,post,rfl,rfl⟩:=h
 unfold Eng.sub len
 have:(Int.toNat ((pre.length:Int)+x.size))-(Int.toNat (pre.length:Int))=x.flat.length:=by rw[Tf.D5];omega
 simp only[Int.toNat_natCast]at*
 rw[AN,List.drop_left,this,List.append_assoc,List.take_left]
def HN:Nat->Fl->Int->Int->Int
 |0,_,_,_=> -1
 |f+1,v,op,i=>if op<=0 then i else if len v<=i\/(at' v i).many<0\/len v<(at' v i).many then-1 else HN f v (op-1+(at' v i).many) (i+1)
def GV(v:Fl)(i:Int):Int:=HN (v.length+2) v 1 i
theorem fA{f:Nat}{v:Fl}{op i:Int}(h:op<=0):HN (f+1) v op i=i:=by rw[HN,if_pos h]
theorem AV7{v:Fl}: ∀(n:Nat) (ts:List Tf) (f:Nat) (op i:Int),AB ts=n->BS v i ts->0<=op->HN (f+n) v (op+len ts) i=HN f v op (i+n):=by
 intro n
 induction n with
 |zero=>
  intro ts f op i b hs ho
  cases ts with
  |nil=>simp[len]
  |cons t ts=>rw[AB]at b;have:=t.size_pos;omega
 |succ n e=>
  intro ts f op i b hs ho
  cases ts with
  |nil=>rw[AB]at b;omega
  |cons t ts=>
   obtain⟨h,ps⟩:=t
   have h1:=hs.node
   have hle:=hs.le
   have j:=LZ ps
   have k:=A8 ps
   have l:=hs.kids
   rw[AB,Tf.size]at b hle
   rw[show f+(n+1)=(f+n)+1 by omega,HN,if_neg (by rw[AL];have:=A8 ts;omega),h1.2.2]
   show(if len v<=i\/len ps<0\/len v<len ps then(-1:Int)else HN (f+n) v (op+len (Tf.mk h ps::ts)-1+len ps) (i+1))=_
   rw[if_neg Aa]
   have:=e (ps++ts) f op (i+1) (by rw[I7];omega) l ho
   rw[AO]at this
   rw[AL,show op+(len ts+1)-1+len ps=op+(len ps+len ts) by omega,this]
   congr 1;omega
theorem SE{v:Fl}{i:Int}{t:Tf}{b:List Tf}(h:BS v i (t::b)):GV v i=i+t.size:=by
 have hs:=h.head
 have hle:=hs.le
 have:=h.1
 have e:AB [t]=t.size:=by simp[AB]
 obtain⟨f,j⟩: ∃f,v.length+2=(f+1)+t.size:=⟨v.length+1-t.size,by unfold len at hle;omega⟩
 unfold GV
 rw[j]
 have:=AV7 t.size [t] (f+1) 0 i e hs Aa
 rw[show(0:Int)+len [t]=1 from rfl]at this
 rw[this,fA Aa]
mutual
def Tf.zm:Tf->Prop
 | .mk t ps=>t.many=0/\HA ps
def HA:List Tf->Prop
 |[]=>True
 |x::l=>x.zm/\HA l
end
theorem fB{a b:List Tf}:HA (a++b)↔HA a/\HA b:=by
 induction a with
 |nil=>simp[HA]
 |cons x a e=>rw[List.cons_append,HA,HA,e,and_assoc]
theorem AV8{l:List Tf}:HA l↔ ∀x∈l,x.zm:=by
 induction l with
 |nil=>simp[HA]
 |cons x l b=>rw[HA,b];simp
theorem pP{v:Fl}: ∀(f:Nat) (op i j:Int),HN f v op i=j->j≠ -1->0<=i->i<=len v->0<=op-> ∃ts,len ts=op/\HA ts/\BS v i ts/\j=i+AB ts
 |0,op,i,j,h,n,_,_,_=>by rw[HN]at h;omega
 |f+1,op,i,j,h,n,h0,h1,ho=>by
  rw[HN]at h
  split at h
  ·refine⟨[],by rw[len_nil];omega,trivial,⟨h0,v.take i.toNat,v.drop i.toNat,by simp[AN],by unfold len at*;rw[List.length_take];omega⟩,by simp[AB];omega⟩
  ·split at h
   ·omega
   ·rename_i y
    have e:i<len v:=by omega
    obtain⟨ts,q,e2,e3,e4⟩:=pP f _ _ j h n Aa Aa Aa
    have s:(at' v i).many.toNat<=ts.length:=by unfold len at q;omega
    have k:len (ts.take (at' v i).many.toNat)=(at' v i).many:=by unfold len;rw[List.length_take];omega
    refine⟨.mk { at' v i with many:=0} (ts.take (at' v i).many.toNat)::ts.drop (at' v i).many.toNat,?_,?_,?_,?_⟩
    ·rw[AL];unfold len at*;rw[List.length_drop];omega
    ·have:=List.take_append_drop (at' v i).many.toNat ts
     rw[<-this,fB]at e2
     rw[HA,Tf.zm]
     exact⟨⟨rfl,e2.1⟩,e2.2⟩
    ·obtain⟨_,pre,post,l,hp⟩:=e3
     refine⟨h0,v.take i.toNat,post,?_,by unfold len at*;rw[List.length_take];omega⟩
     rw[AN,Tf.flat,k,List.cons_append,<-J8,List.take_append_drop]
     have b:pre=v.take (i.toNat+1):=by
      have:pre=v.take pre.length:=by rw[l];simp
      rw[this];congr 1;unfold len at hp;omega
     have hi:i.toNat<v.length:=by unfold len at e;omega
     have w:v.take (i.toNat+1)=v.take i.toNat++[at' v i]:=by
      rw[List.take_add_one,List.getElem?_eq_getElem hi];simp[at',List.getD_eq_getElem?_getD,hi]
     rw[b,w]at l
     calc v=(v.take i.toNat++[at' v i])++(AN ts++post):=l
      _=_:=by simp
    ·rw[e4,AB,Tf.size]
     have:=I7 (ts.take (at' v i).many.toNat) (ts.drop (at' v i).many.toNat)
     rw[List.take_append_drop]at this
     omega
theorem pQ{v:Fl}(h:GV v 0=len v)(i:v≠[]): ∃x:Tf,x.zm/\v=x.flat:=by
 have hl:=A8 v
 obtain⟨ts,b,e2,e3,e4⟩:=pP _ _ _ _ h Aa (Int.le_refl _) hl Aa
 cases ts with
 |nil=>rw[len_nil]at b;omega
 |cons t ts=>
  cases ts with
  |cons u us=>rw[AL,AL]at b;have:=A8 us;omega
  |nil=>
   refine⟨t,e2.1,?_⟩
   obtain⟨_,pre,post,e,hp⟩:=e3
   have h1:pre=[]:=List.eq_nil_of_length_eq_zero (by unfold len at hp;omega)
   have j:post=[]:=by
    refine List.eq_nil_of_length_eq_zero ?_
    have:=congrArg List.length e
    simp only[List.length_append,SC]at this
    unfold len at e4;omega
   rw[e,h1,j];simp[AN]
theorem AV9(x:Tf):GV x.flat 0=len x.flat:=by
 rw[SE (BS.top x)]
 show 0+(x.size:Int)=(x.flat.length:Nat)
 rw[Tf.D5];omega
theorem Tf.fC (n:A0)(x:Tf):(x.named n).ps=x.ps:=by cases x;rfl
theorem Tf.G2 (n:A0)(x:Tf):(x.named n).size=x.size:=by cases x;rfl
theorem Tf.AW0 (x:Tf):x.named x.t.name=x:=by cases x;rfl
theorem Tf.AW1 (n m:A0)(x:Tf):(x.named n).named m=x.named m:=by cases x;rfl
theorem I8{u:Tf}: ∀ {l:List Tf},u∈l->u.size<=AB l
 |t::l,h=>by
  rw[AB]
  rcases List.mem_cons.1 h with rfl|h
  ·omega
  ·have:=I8 h;omega
theorem AW2: ∀(n:Nat) (a b:List Tf),AB a=n->HA a->HA b->len a=len b->AN a=AN b->a=b:=by
 intro n
 induction n with
 |zero=>
  intro a b e _ _ hl _
  cases a with
  |nil=>cases b with
   |nil=>rfl
   |cons y b=>rw[len_nil,AL]at hl;have:=A8 b;omega
  |cons x a=>rw[AB]at e;have:=x.size_pos;omega
 |succ n q=>
  intro a b e h i hl he
  cases a with
  |nil=>rw[AB]at e;omega
  |cons x a=>
   cases b with
   |nil=>rw[len_nil,AL]at hl;have:=A8 a;omega
   |cons y b=>
    obtain⟨t,ps⟩:=x
    obtain⟨u,j⟩:=y
    rw[HA,Tf.zm]at h i
    rw[AN,AN,Tf.flat,Tf.flat,List.cons_append,List.cons_append,<-J8,<-J8]at he
    obtain⟨h1,w⟩:=List.cons.inj he
    rw[AB,Tf.size]at e
    rw[AL,AL]at hl
    have hm:len ps=len j:=congrArg Tm.many h1
    have l:t=u:=by
     obtain⟨o,m,nm,s,k,c⟩:=t
     obtain⟨E,z,A,s',k',F⟩:=u
     have G:m=0:=h.1.1
     have e2:z=0:=i.1.1
     simp only[Tm.mk.injEq]at h1 ⊢
     exact⟨h1.1,Aa,h1.2.2.1,h1.2.2.2.1,h1.2.2.2.2.1,h1.2.2.2.2.2⟩
    have B:=q (ps++a) (j++b) (by rw[I7];omega) (fB.2 ⟨h.1.2,h.2⟩) (fB.2 ⟨i.1.2,i.2⟩) (by rw[AO,AO];omega) w
    have hlen:ps.length=j.length:=by unfold len at hm;omega
    obtain⟨C,D⟩:=List.append_inj B hlen
    rw[l,C,D]
theorem Tf.AW3 {x y:Tf}(hx:x.zm)(b:y.zm)(h:x.flat=y.flat):x=y:=by
 have:=AW2 _ [x] [y] U ⟨hx,trivial⟩ ⟨b,trivial⟩ U (by show x.flat++[]=y.flat++[];rw[h])
 exact(List.cons.inj this).1
def F9(t:Tm):Bool:=decide (16<=t.op)&&decide (t.op<=19)
def EZ(t:Tm):Tm:=⟨t.op,t.many,t.name,[],0,C3⟩
def K9(n:Nd):Nd:= { n with name:=[]}
def G3(n:Nd):Bool:=
 if n.kind=0\/n.kind=1\/n.kind=2 then decide (K9 n=⟨n.kind,0,[],[],false,0⟩)
 else if n.kind=3 then IZ (K9 n)
 else if n.kind=4 then DJ n.s&&decide (K9 n=⟨n.kind,0,[],n.s,false,0⟩)
 else if n.kind=5\/n.kind=6 then decide (0<=n.many)&&decide (K9 n=⟨n.kind,n.many,[],[],false,0⟩)
 else false
def YP(c:Nd):Bool:=decide (c.kind<5)&&(decide (c.name=[])&&decide (c.many=0)&&G3 c)
def DH(t:Tm):Bool:=
 if t.op=0\/t.op=10\/t.op=11\/t.op=14 then decide (t=EZ t)&&decide (t.many=0)
 else if t.op=1 then decide (t= { EZ t with s:=t.s})&&decide (t.many=0)&&DJ t.s
 else if t.op=2\/t.op=3 then decide (t= { EZ t with n:=t.n})&&decide (t.many=0)&&decide (0<=t.n)&&decide (t.n<=1000000)
 else if t.op=4\/t.op=17\/t.op=18 then decide (t=EZ t)&&decide (t.many=2)
 else if t.op=5\/t.op=6\/t.op=7\/t.op=19 then decide (t=EZ t)&&decide (t.many=1)
 else if t.op=8\/t.op=9 then decide (t=EZ t)&&decide (0<=t.many)
 else if t.op=12\/t.op=13\/t.op=15 then decide (t= { EZ t with s:=t.s})&&decide (t.many=0)&&OD t.s
 else if t.op=16 then decide (t= { EZ t with s:=t.s,n:=t.n,c:=t.c})&&decide (t.many=0)&&OD t.s&&decide (0<=t.n)&&decide (t.n<=5)&&YP t.c
 else false
def KQ(t:Tm)(dn:List Tf)(x:Tf):Bool:=
 if(F9 x.t != (F9 t||t.op==7))||(t.op==4&&dn.isEmpty&&x.t.op==4)then false
 else if(t.op≠8/\x.t.name≠[])\/(t.op=8/\(DJ x.t.name=false\/x.t.name∈dn.map (·.t.name)))then false
 else true
def G4(t:Tm):List Tf->List Tf->Bool
 |_,[]=>true
 |dn,x::r=>KQ t dn x&&G4 t (dn++[x]) r
mutual
def Tf.JA:Tf->Bool
 | .mk t ps=>DH { t with many:=len ps}&&G4 t [] ps&&HP ps
def HP:List Tf->Bool
 |[]=>true
 |x::l=>x.JA&&HP l
end
theorem AW4(a b:List Tf):HP (a++b)=(HP a&&HP b):=by
 induction a with
 |nil=>simp[HP]
 |cons x a e=>rw[List.cons_append,HP,HP,e,Bool.and_assoc]
theorem AW5{l:List Tf}(h:HP l=true): ∀x∈l,x.JA=true:=by
 induction l with
 |nil=>intro x hx;cases hx
 |cons y l b=>
  rw[HP,Bool.and_eq_true]at h
  intro x hx
  rcases List.mem_cons.1 hx with rfl|hx
  ·exact h.1
  ·exact b h.2 x hx
structure Tf.B3 (x:Tf):Prop where
 zm:x.zm
 ok:x.JA=true
theorem Tf.B3.kids {x:Tf}(h:x.B3): ∀y∈x.ps,y.B3:=by
 obtain⟨t,ps⟩:=x
 obtain⟨h1,b⟩:=h
 rw[Tf.zm]at h1
 rw[Tf.JA,Bool.and_eq_true]at b
 exact λ y e=>⟨AV8.1 h1.2 y e,AW5 b.2 y e⟩
theorem pR{t:Tm}: ∀ {r dn:List Tf},G4 t dn r=true-> ∀(a:List Tf) (x:Tf) (b:List Tf),r=a++x::b->KQ t (dn++a) x=true
 |[],dn,_,a,x,b,e=>by cases a<;>cases e
 |y::r,dn,h,a,x,b,e=>by
  rw[G4,Bool.and_eq_true]at h
  cases a with
  |nil=>obtain⟨rfl,rfl⟩:=List.cons.inj e;rw[List.append_nil];exact h.1
  |cons z a=>
   obtain⟨rfl,e2⟩:=List.cons.inj e
   have:=pR h.2 a x b e2
   rwa [List.append_assoc]at this
structure pS (t:Tm) (dn:List Tf) (x:Tf):Prop where
 c:F9 x.t=(F9 t||t.op==7)
 p:t.op=4->dn=[]->x.t.op≠4
 n:t.op≠8->x.t.name=[]
 u:t.op=8->DJ x.t.name=true
 d:t.op=8->x.t.name ∉ dn.map (·.t.name)
theorem AW6{t:Tm}{dn:List Tf}{x:Tf}(h:KQ t dn x=true):pS t dn x:=by
 unfold KQ at h
 split at h
 ·cases h
 ·rename_i h1
  split at h
  ·cases h
  ·rename_i b
   simp only[Bool.or_eq_true,bne_iff_ne,ne_eq,Bool.and_eq_true,beq_iff_eq,not_or,Decidable.not_not,not_and]at h1
   refine⟨?_,λ i e2 e3=>h1.2 ⟨i,by rw[e2];rfl⟩ e3,λ e=>?_,λ e=>?_,λ e hm=>b (.inr ⟨e,.inr hm⟩)⟩
   ·rw[h1.1]
   ·by_cases hn:x.t.name=[]
    ·exact hn
    ·exact absurd (.inl ⟨e,hn⟩) b
   ·cases hu:DJ x.t.name with
    |true=>rfl
    |false=>exact absurd (.inr ⟨e,.inl hu⟩) b
theorem Tf.B3.SF {x:Tf}(h:x.B3)(a:List Tf)(y:Tf)(b:List Tf)(e:x.ps=a++y::b):pS x.t a y:=by
 obtain⟨t,ps⟩:=x
 have i:=h.ok
 rw[Tf.JA,Bool.and_eq_true,Bool.and_eq_true]at i
 have:=pR i.1.2 a y b e
 exact AW6 this
theorem Tf.B3.plain {x:Tf}(h:x.B3):DH x.node=true:=by
 obtain⟨t,ps⟩:=x
 have b:=h.ok
 rw[Tf.JA,Bool.and_eq_true,Bool.and_eq_true]at b
 exact b.1.1
def AW7(v:Fl):Prop:= ∃x:Tf,x.zm/\v=x.flat/\x.t.name=[]/\x.JA=true
open Classical in
noncomputable def KR (v:Fl):Bool:=decide (AW7 v)
noncomputable def fD (v:Fl):Bool:=KR v&& !F9 (at' v 0)
def OE(t:Tm):Bool:=decide (len t.s<=100)&&decide (len t.name<=100)&&decide (len t.c.s<=100)
noncomputable def Q4 (v:Fl) (m:Int):Bool:=decide (len v<=m)&&v.all OE&&fD v
open Classical in
theorem AW8{x:Tf}(b:x.zm)(i:x.t.name=[]):KR x.flat=x.JA:=by
 unfold KR
 cases h:x.JA with
 |true=>exact decide_eq_true ⟨x,b,rfl,i,h⟩
 |false=>
  refine decide_eq_false ?_
  rintro⟨y,h1,j,k,e⟩
  rw[<-Tf.AW3 b h1 j,h]at e;cases e
open Classical in
theorem pT{v:Fl}(h:v=[]\/(at' v 0).name≠[]\/GV v 0≠len v):KR v=false:=by
 unfold KR
 refine decide_eq_false ?_
 rintro⟨x,h1,rfl,b,e⟩
 rcases h with h|h|h
 ·exact x.PU h
 ·rw[x.CU]at h;exact h b
 ·exact h (AV9 x)
theorem AW9{v:Fl}{m:Int}(h:Q4 v m=true): ∃x:Tf,x.B3/\v=x.flat/\x.t.name=[]/\F9 x.t=false/\len v<=m/\ ∀t∈v,len t.s<=100/\len t.name<=100/\len t.c.s<=100:=by
 unfold Q4 fD KR at h
 simp only[Bool.and_eq_true,decide_eq_true_eq,Bool.not_eq_true',List.all_eq_true]at h
 obtain⟨⟨h1,e⟩,⟨x,i,rfl,j,k⟩,b⟩:=h
 refine⟨x,⟨i,k⟩,rfl,j,?_,h1,λ t l=>?_⟩
 ·rw[x.CU]at b;exact b
 ·have:=e t l
  unfold OE at this
  simp only[Bool.and_eq_true,decide_eq_true_eq]at this
  exact⟨this.1.1,this.1.2,this.2⟩
def BE1(c:Nd):A0:=if c.kind=0 then UP else if c.kind=1 then UO else if c.kind=2 then UN else if c.kind=3 then I3 c else MW c.s
end Go.Eng
namespace Go.Proofs.YtnoegalemkbbbaaGreatDoor
open Go.Proofs.Tryz
open Go.Eng
abbrev D1(c:Nd):XV:=.ag [I c.kind,I c.many,.v (str c.name),.v (str c.s),.v (.bool c.neg),I c.e]
theorem AX0(c:Nd)(w:World)(E:len c.s<=1099511627776):Calls prog 87 [ES c].toArray w λ e w'=>e= .returned (.bool (G3 c))/\Ext w w':=by
 refine AH AF func87 U ntmps87 [] [] [D1 c] U (BE w) A3 (λ B l=>BM 1 U U U λ q=>CQ 0 (λ s=> ∃b:Bool,(b=true↔(c.kind=0\/c.kind=1\/c.kind=2))/\s=⟨[],[(1,.box q [I c.kind,I c.many,.v (str []),.v (str c.s),.v (.bool c.neg),I c.e] 46)],[Z 1 (.bx 1 q 0),Z 5 (I c.kind),Z 6 (.v (.bool b))]⟩) U U (λ h1=>?_) (λ h1=>?_) ?_) U
 ·exact AT _ U U ⟨_,by simp only[zb]at h1 ⊢;omega,rfl⟩
 ·exact A1 U (λ z=>AT _ U U ⟨_,by simp only[zb]at z ⊢;omega,rfl⟩) (λ z=>AT _ U U ⟨_,by simp only[zb]at h1 z ⊢;omega,rfl⟩)
 rintro _ ⟨b,j,rfl⟩
 refine A1 U (λ A=>?_) (λ A=>?_)
 ·refine AR (.v (.bool (decide (K9 c=⟨c.kind,0,[],[],false,0⟩)))) U U (λ w M h=>PV.bin (A7 (v:=D1 (K9 c)) U) (A7 (v:=D1 ⟨c.kind,0,[],[],false,0⟩) U) (λ _ w _=>RI _ _ _ _ w)) <|A2 l U U U λ w M h=>⟨?_,h.st.low⟩
  unfold G3;rw[if_pos (j.1 A)];rfl
 have y:=λ e=>(by rw[A]at j;simp at j;omega: ¬(c.kind=0\/c.kind=1\/c.kind=2)) e
 refine A1 U (λ k=>?_) (λ k=>?_)<;>simp only[zb]at k
 ·refine AJ U call140 U U (λ _ w M h=>zN (K9 c) w (by show len c.s<=_;omega)) U <|A2 l U U U λ w M h=>⟨?_,h.st.low⟩
  unfold G3;rw[if_neg y,if_pos k];rfl
 refine A1 U (λ n=>?_) (λ n=>?_)<;>simp only[zb]at n
 ·refine AJ U call125 U U (λ _ w M h=>X1 c.s w Aa) U <|AR (.v (.bool (decide (K9 c=⟨c.kind,0,[],c.s,false,0⟩)))) U U (λ w M h=>PV.bin (A7 (v:=D1 (K9 c)) U) (A7 (v:=D1 ⟨c.kind,0,[],c.s,false,0⟩) U) (λ _ w _=>RI _ _ _ _ w)) <|A2 l U U U λ w M h=>⟨?_,h.st.low⟩
  unfold G3;rw[if_neg y,if_neg k,if_pos n];rfl
 refine CQ 0 (λ s=> ∃b:Bool,(b=true↔(c.kind=5\/c.kind=6))/\s=⟨[],[(1,.box q [I c.kind,I c.many,.v (str []),.v (str c.s),.v (.bool c.neg),I c.e] 46)],[Z 1 (.bx 1 q 0),Z 33 (.v (.bool b))]⟩) U U (λ h1=>?_) (λ h1=>?_) ?_
 ·exact AT _ U U ⟨_,by simp only[zb]at h1 ⊢;omega,rfl⟩
 ·exact AT _ U U ⟨_,by simp only[zb]at h1 ⊢;omega,rfl⟩
 rintro _ ⟨F,i,rfl⟩
 refine A1 U (λ C=>?_) (λ C=>?_)
 ·refine AR (.v (.bool (decide (K9 c=⟨c.kind,c.many,[],[],false,0⟩)))) U U (λ w M h=>PV.bin (A7 (v:=D1 (K9 c)) U) (A7 (v:=D1 ⟨c.kind,c.many,[],[],false,0⟩) U) (λ _ w _=>RI _ _ _ _ w)) <|A2 l U U U λ w M h=>⟨?_,h.st.low⟩
  unfold G3;rw[if_neg y,if_neg k,if_neg n,if_pos (i.1 C)];rfl
 ·have D: ¬(c.kind=5\/c.kind=6):=λ e=>by have:=i.2 e;rw[C]at this;cases this
  refine A2 l U U U λ w M h=>⟨?_,h.st.low⟩
  unfold G3;rw[if_neg y,if_neg k,if_neg n,if_neg D];rfl
theorem AX1(c:Nd)(v:Value)(M:Mem)(w:World)(k:Sat w M)(l:Sl M 6 [c].length v ([c].flatMap Nd.cells)):
    Calls prog 86 [v,i64 0].toArray w λ e w'=>e= .returned (i64 (if c.many=0 then 1 else-1))/\Ext w w':=by
 have hl:len [c]=1:=rfl
 refine AH (Hr:=[]) AF func86 U ntmps86 [(0,kn v 6 [c] Nd.cells)] [] [.sl 0 v,I 0] U (Aj k) (fc 0 l Nd.AS A3) (λ B h=>B7 (σ:=Int×Int) (λ(o,i)=>⟨[(0,kn v 6 [c] Nd.cells)],[],[Z 0 (.sl 0 v),Z 1 (I i),Z 5 (I o)]⟩) (λ(o,i)=>(o=1/\i=0)\/(o=c.many/\i=1/\0<=c.many/\c.many<=1)) (λ(o,i)=>(1-i).toNat) (1,0) U U (.inl ⟨rfl,rfl⟩) ?_) U
 rintro⟨o,i⟩ n
 refine A1 U (λ h1=>?_) (λ h1=>?_)<;>simp only[zb]at h1
 ·have q:i=0->(at' [c] i).many=c.many:=λ e=>by subst e;rfl
  refine A1 U (λ j=>?_) (λ j=>?_)<;>simp only[zb]at j
  ·refine A2 h U U U λ w M b=>⟨?_,b.st.low⟩
   rw[if_neg (by have:=q;omega)];rfl
  ·have hi:i=0:=by omega
   subst hi
   have s:(at' [c] 0).many=c.many:=rfl
   exact AX (c.many,1) U (by dsimp only;rw[show c.many=o-1+(at' [c] 0).many by omega];rfl) (.inr ⟨rfl,rfl,Aa,Aa⟩) Ag
 ·have hm:c.many=0/\i=1:=by omega
  refine A2 h U U U λ w M b=>⟨?_,b.st.low⟩
  rw[if_pos hm.1,hm.2];rfl
theorem AX2(c:Nd)(v:Value)(M:Mem)(w:World)(b:Sat w M)(h:Sl M 6 [c].length v ([c].flatMap Nd.cells))(h0:c.many=0):
   Calls prog 88 [v,i64 0].toArray w λ e w'=>e= .returned (.bool true)/\Ext w w':=by
 have hl:len [c]=1:=rfl
 have hm:(at' [c] 0).many=0:=h0
 refine AH (Hr:=[]) AF func88 U ntmps88 [(0,kn v 6 [c] Nd.cells)] [] [.sl 0 v,I 0] U (Aj b) (fc 0 h Nd.AS A3) (λ B i=>B7 (σ:=Unit) (λ _=>⟨[(0,kn v 6 [c] Nd.cells)],[],[Z 0 (.sl 0 v),Z 1 (I 0),Z 5 (I 1),Z 6 (I 0)]⟩) (λ _=>True) (λ _=>0) () U U trivial ?_) U
 rintro⟨⟩ _
 refine A1 U (λ h1=>?_) (λ h1=>?_)<;>simp only[zb]at h1
 ·omega
 ·exact A2 i U U U λ w M j=>⟨rfl,j.st.low⟩
theorem pU(c:Nd)(v:Value)(M:Mem)(w:World)(q:Sat w M)(y:Sl M 6 [c].length v ([c].flatMap Nd.cells))(z:len c.s<=1099511627776):
    Calls prog 37 [v].toArray w λ e w'=>e= .returned (.bool (decide (c.name=[])&&decide (c.many=0)&&G3 c))/\Ext w w':=by
 have hl:len [c]=1:=rfl
 have D:(at' [c] 0).name=c.name:=rfl
 refine AH (Hr:=[]) AF func37 U ntmps37 [(0,kn v 6 [c] Nd.cells)] [] [.sl 0 v] U (Aj q) (fc 0 y Nd.AS A3) (λ B h=>AJ U call86 U U (λ _ w M b=>AX1 c v M w b.st.sat (b.sl 0 U)) U ?_) U
 refine A1 U (λ h1=>?_) (λ h1=>?_)<;>simp only[zb]at h1
 ·refine A2 h U U U λ w M b=>⟨?_,b.st.low⟩
  have:(decide (c.name=[])&&decide (c.many=0)&&G3 c)=false:=by
   rcases h1 with(h1|h1)|h1
   ·omega
   ·have h1: ¬c.name=[]:=h1
    rw[decide_eq_false h1];rfl
   ·by_cases hm:c.many=0
    ·rw[if_pos hm]at h1;omega
    ·rw[decide_eq_false hm,Bool.and_false];rfl
  rw[this];rfl
 have hm:c.many=0:=Classical.byContradiction λ e=>by rw[if_neg e]at h1;omega
 have j:c.name=[]:=h1.1.2
 refine B7 (σ:=Int) (λ i=>⟨[(0,kn v 6 [c] Nd.cells)],[],[Z 0 (.sl 0 v),Z 3 (I i)]⟩) (λ i=>0<=i/\i<=1/\(i=1->G3 c=true)) (λ i=>(1-i).toNat) 0 rfl rfl ⟨Aa,Aa,λ e=>by cases e⟩ ?_
 rintro i ⟨A,C,k⟩
 refine A1 U (λ n=>?_) (λ n=>?_)<;>simp only[zb]at n
 ·have hi:i=0:=by omega
  subst hi
  refine AJ U call87 U U (λ _ w M b=>AX0 c w z) U <|AJ U call88 U U (λ _ w M b=>AX2 c v M w b.st.sat (b.sl 0 U) hm) U <|A1 U (λ l=>?_) (λ l=>?_)
  ·have hp:G3 c=false:=by simpa using l
   refine A2 h U U U λ w M b=>⟨?_,b.st.low⟩
   rw[hp,Bool.and_false];rfl
  ·have hp:G3 c=true:=by simpa using l
   exact AX 1 U U ⟨Aa,Aa,λ _=>hp⟩ Ag
 ·have hp:=k Aa
  refine A2 h U U U λ w M b=>⟨?_,b.st.low⟩
  rw[hp,decide_eq_true hm,decide_eq_true j];rfl
end Go.Proofs.YtnoegalemkbbbaaGreatDoor
namespace Go.Eng
def OF(n:Nd):Bool:=
 if n.kind≠3\/n.many≠0\/n.name≠[]\/100<len n.s\/n.e< -1000\/1000<n.e\/1000<len n.s+n.e\/IY n.s=false then false
 else if n.s=[]then !n.neg&&decide (n.e=0)else Lib.trimB n.s 48==n.s
def JL(n:Nd):Bool:=
 if n.kind=0\/n.kind=1\/n.kind=2 then decide ((⟨n.kind,n.many,[],n.s,n.neg,n.e⟩:Nd)=⟨n.kind,0,[],[],false,0⟩)
 else if n.kind=3 then OF ⟨n.kind,n.many,[],n.s,n.neg,n.e⟩
 else if n.kind=4 then Lib.validD n.s&&decide ((⟨n.kind,n.many,[],n.s,n.neg,n.e⟩:Nd)=⟨n.kind,0,[],n.s,false,0⟩)
 else if n.kind=5\/n.kind=6 then decide (0<=n.many)&&decide ((⟨n.kind,n.many,[],n.s,n.neg,n.e⟩:Nd)=⟨n.kind,n.many,[],[],false,0⟩)
 else false
def GI(n:Nd):Bool:=JL n&&decide (n.name=[])&&decide (n.many<=0)
def N4(n:Int)(c:Nd):Bool:=decide (0<=n)&&decide (n<=5)&&(decide (c.kind<5)&&GI c)
structure CV where
 kind:Int
 left:Int
 first:Bool
 last:A0
deriving Inhabited
def CV.cells (x:CV):List Value:=[i64 x.kind,i64 x.left,.bool x.first,str x.last]
theorem CV.AS (x:CV):x.cells.length=4:=rfl
theorem CV.cells_one (x:CV): ∀u∈x.cells,u.oneCell'=true:=by intro u hu;simp[CV.cells]at hu;rcases hu with rfl|rfl|rfl|rfl<;>rfl
end Go.Eng
namespace Go.Proofs.YtnoegalemkbbbaaGreatDoor
open Go.Proofs.Tryz
open Go.Eng
theorem pV(s:A0)(w:World)(hg:Gl w)(b:len s<=9223372036854775807):Calls prog 263 [str s].toArray w λ e w'=>e= .returned (.bool (Lib.validD s))/\Ext w w':=
 Tryz.utf8_ValidString ⟨⟨s⟩⟩ w (by unfold len at b;show s.length<=_;omega) hg.u8
theorem AX3(s:A0)(w:World)(b:len s<=9223372036854775807):Calls prog 349 [str s,str [48]].toArray w λ e w'=>e= .returned (str (Lib.trimB s 48))/\Ext w w':=
 (Tryz.strings_Trim_one ⟨⟨s⟩⟩ 48 Ab w (by unfold len at b;show s.length<=_;omega)).mono λ e w' ⟨he,hw⟩=>⟨he,by rcases hw with rfl|rfl;exact Ext.refl _;exact Ext.drew _⟩
theorem AX4(c:Nd)(w:World)(hg:Gl w)(q:len c.s<=1099511627776):
   Calls prog 336 [ES c].toArray w λ e w'=>e= .returned (.bool (OF c))/\Ext w w':=by
 have n:=A8 c.s
 refine AH AF func336 U ntmps336 [] [] [D1 c] U (BE w) A3 (λ B l=>BM 1 U U U λ y=>AJ U call305 U U (λ _ w M b=>V3 (pM (len c.s) c.e w Aa)) U <|AJ U call302 U U (λ _ w M b=>pL c.s w (hg.low b.st.low) Aa) U <|A1 U (λ j=>?_) (λ j=>?_)) U
 ·exact A2 l U U U λ w M b=>⟨by unfold OF;rw[if_pos (by simpa[or_assoc]using j)];rfl,b.st.low⟩
 have k: ¬(c.kind≠3\/c.many≠0\/c.name≠[]\/100<len c.s\/c.e< -1000\/1000<c.e\/1000<len c.s+c.e\/IY c.s=false):=by
  intro h;have:=j;rw[<-Bool.not_eq_true]at this;exact this (by simpa[or_assoc]using h)
 refine A1 U (λ i=>?_) (λ i=>?_)<;>simp only[zb]at i
 ·exact A2 l U U U λ w M b=>⟨by unfold OF;rw[if_neg k,if_pos i];rfl,b.st.low⟩
 exact FX U BK Ac <|H4 U call349 U U (λ _ w M b=>AX3 c.s w Aa) U <|FY U <|A2 l U U U λ w M b=>⟨by unfold OF;rw[if_neg k,if_neg i];rfl,b.st.low⟩
theorem AX5(c:Nd)(w:World)(hg:Gl w)(E:len c.s<=1099511627776):
    Calls prog 309 [ES c].toArray w λ e w'=>e= .returned (.bool (JL c))/\Ext w w':=by
 refine AH AF func309 U ntmps309 [] [] [D1 c] U (BE w) A3 (λ B l=>BM 1 U U U λ q=>CQ 0 (λ s=> ∃b:Bool,(b=true↔(c.kind=0\/c.kind=1\/c.kind=2))/\s=⟨[],[(1,.box q [I c.kind,I c.many,.v (str []),.v (str c.s),.v (.bool c.neg),I c.e] 46)],[Z 1 (.bx 1 q 0),Z 5 (I c.kind),Z 6 (.v (.bool b))]⟩) U U (λ h1=>?_) (λ h1=>?_) ?_) U
 ·exact AT _ U U ⟨_,by simp only[zb]at h1 ⊢;omega,rfl⟩
 ·exact A1 U (λ z=>AT _ U U ⟨_,by simp only[zb]at z ⊢;omega,rfl⟩) (λ z=>AT _ U U ⟨_,by simp only[zb]at h1 z ⊢;omega,rfl⟩)
 rintro _ ⟨b,j,rfl⟩
 refine A1 U (λ A=>?_) (λ A=>?_)
 ·refine AR (.v (.bool (decide ((⟨c.kind,c.many,[],c.s,c.neg,c.e⟩:Nd)=⟨c.kind,0,[],[],false,0⟩)))) U U (λ w M h=>PV.bin (A7 (v:=D1 ⟨c.kind,c.many,[],c.s,c.neg,c.e⟩) U) (A7 (v:=D1 ⟨c.kind,0,[],[],false,0⟩) U) (λ _ w _=>RI _ _ _ _ w)) <|A2 l U U U λ w M h=>⟨?_,h.st.low⟩
  unfold JL;rw[if_pos (j.1 A)];rfl
 have y:=λ e=>(by rw[A]at j;simp at j;omega: ¬(c.kind=0\/c.kind=1\/c.kind=2)) e
 refine A1 U (λ k=>?_) (λ k=>?_)<;>simp only[zb]at k
 ·refine AJ U call336 U U (λ _ w M h=>AX4 ⟨c.kind,c.many,[],c.s,c.neg,c.e⟩ w (hg.low h.st.low) E) U <|A2 l U U U λ w M h=>⟨?_,h.st.low⟩
  unfold JL;rw[if_neg y,if_pos k];rfl
 refine A1 U (λ n=>?_) (λ n=>?_)<;>simp only[zb]at n
 ·refine AJ U call263 U U (λ _ w M h=>pV c.s w (hg.low h.st.low) Aa) U <|AR (.v (.bool (decide ((⟨c.kind,c.many,[],c.s,c.neg,c.e⟩:Nd)=⟨c.kind,0,[],c.s,false,0⟩)))) U U (λ w M h=>PV.bin (A7 (v:=D1 ⟨c.kind,c.many,[],c.s,c.neg,c.e⟩) U) (A7 (v:=D1 ⟨c.kind,0,[],c.s,false,0⟩) U) (λ _ w _=>RI _ _ _ _ w)) <|A2 l U U U λ w M h=>⟨?_,h.st.low⟩
  unfold JL;rw[if_neg y,if_neg k,if_pos n];rfl
 refine CQ 0 (λ s=> ∃b:Bool,(b=true↔(c.kind=5\/c.kind=6))/\s=⟨[],[(1,.box q [I c.kind,I c.many,.v (str []),.v (str c.s),.v (.bool c.neg),I c.e] 46)],[Z 1 (.bx 1 q 0),Z 33 (.v (.bool b))]⟩) U U (λ h1=>?_) (λ h1=>?_) ?_
 ·exact AT _ U U ⟨_,by simp only[zb]at h1 ⊢;omega,rfl⟩
 ·exact AT _ U U ⟨_,by simp only[zb]at h1 ⊢;omega,rfl⟩
 rintro _ ⟨F,i,rfl⟩
 refine A1 U (λ C=>?_) (λ C=>?_)
 ·refine AR (.v (.bool (decide ((⟨c.kind,c.many,[],c.s,c.neg,c.e⟩:Nd)=⟨c.kind,c.many,[],[],false,0⟩)))) U U (λ w M h=>PV.bin (A7 (v:=D1 ⟨c.kind,c.many,[],c.s,c.neg,c.e⟩) U) (A7 (v:=D1 ⟨c.kind,c.many,[],[],false,0⟩) U) (λ _ w _=>RI _ _ _ _ w)) <|A2 l U U U λ w M h=>⟨?_,h.st.low⟩
  unfold JL;rw[if_neg y,if_neg k,if_neg n,if_pos (i.1 C)];rfl
 ·have D: ¬(c.kind=5\/c.kind=6):=λ e=>by have:=i.2 e;rw[C]at this;cases this
  refine A2 l U U U λ w M h=>⟨?_,h.st.low⟩
  unfold JL;rw[if_neg y,if_neg k,if_neg n,if_neg D];rfl
theorem AX6(x:CV)(w:World):Calls prog 311 [.agg x.cells.toArray].toArray w λ e w'=>e= .returned (.bool (decide (0<x.left)))/\Ext w w':=AH AF func311 U ntmps311 [] [] [.ag [I x.kind,I x.left,.v (.bool x.first),.v (str x.last)]] U (BE w) A3 (λ B b=>BM 1 U U U λ i=>A2 b U U U λ w M h=>⟨rfl,h.st.low⟩) U
theorem AX7(v:Value)(l:List CV)(w:World)(M:Mem)(s:Sat w M)(hl:Sl M 4 l.length v (l.flatMap CV.cells))(A:len l<=1099511627776):
    Calls prog 337 [v,.func (.func 311) #[] #[]].toArray w λ e w'=>(∃k:Int,e= .returned (i64 k)/\(0<=k↔l.any (λ x=>decide (0<x.left))=true))/\Ext w w':=by
 have y:=A8 l
 refine AH (Hr:=[]) AF func337 U ntmps337 [(0,kn v 4 l CV.cells)] [] [.sl 0 v,.v (.func (.func 311) #[] #[])] U (Aj s) (fc 0 hl CV.AS A3) (λ B q=>B7 (σ:=Int) (λ k=>⟨[(0,kn v 4 l CV.cells)],[],[Z 0 (.sl 0 v),Z 1 (.v (.func (.func 311) #[] #[])),Z 7 (I (len l)),Z 8 (I k)]⟩) (λ k=>0<=k/\k<=len l/\ ∀x∈Eng.sub l 0 k,¬0<x.left) (λ k=>(len l-k).toNat) 0 rfl rfl ⟨Aa,Aa,λ x hx=>by cases hx⟩ ?_) U
 intro k ⟨h0,h1,i⟩
 refine A1 U (λ b=>?_) (λ b=>?_)<;>simp only[zb]at b
 ·refine AP [] (λ _:Unit=>.v (.bool (decide (0<(at' l k).left)))) [] (λ _=>[]) (Fg:=λ _=>[]) (pu:=λ _=>True) U U call311 U U (λ w M hS hF=>(AX6 (at' l k) w).mono λ e w' ⟨he,hx⟩=>⟨(),M,he,trivial,Mem.le.refl _,hS.ext hx,A3⟩) λ _ _=>?_
  refine A1 U (λ j=>?_) (λ j=>?_)<;>simp only[zb]at j
  ·exact A2 q U U U λ w M n=>⟨⟨k,rfl,λ _=>List.any_eq_true.2 ⟨at' l k,at_mem h0 b,by simpa using j⟩,λ _=>h0⟩,n.st.low⟩
  ·exact AX (k+1) U U ⟨Aa,Aa,λ x hx=>by
    rw[G0 h0 b]at hx
    rcases List.mem_append.1 hx with hx|hx
    ·exact i x hx
    ·rw[List.mem_singleton.1 hx];omega⟩ Aa
 ·rw[GD Aa]at i
  exact A2 q U U U λ w M n=>⟨⟨-1,rfl,λ h=>by omega,λ h=>by
   obtain⟨x,hx,z⟩:=List.any_eq_true.1 h
   exact absurd (by simpa using z) (i x hx)⟩,n.st.low⟩
end Go.Proofs.YtnoegalemkbbbaaGreatDoor
namespace Go.Eng
open Go.RowKit
theorem AX8{P:Program}{ops:Array Oper}{Q:Exit->Act->List Frame->World->Prop}{cs:List Frame}(s: ¬LetsOut (λ e a w=>Q e a cs w))(l:List Oper):
  ∀(k:Nat),(∀j,l[j]? =ops[k+j]?)-> ∀a w,wpList P ops (λ e a w=>Q e a cs w) l a w->wpOpsS P ops Q (List.range' k l.length) a cs w:=by
 induction l with
 |nil=>intro k _ a w h;exact h
 |cons o l y=>
  intro k q a w h
  have h0:ops[k]? =some o:=by simpa using(q 0).symm
  have b:=y (k+1) (λ j=>by have:=q (j+1);simpa[Nat.add_assoc,Nat.add_comm 1 j]using this)
  simp only[List.length_cons,List.range'_succ,wpOpsS,h0]
  unfold wpList at h
  by_cases hw:Region.wanted o (yielded ops a.tmps)=true
  ·rw[if_pos hw]at h ⊢
   have h1:=(h.resolve_right λ n=>s n.2)
   have i:=Oper.wp_mono (λ a' w' n=>b a' w' n) h1
   unfold Oper.wp at i
   split
   ·rename_i w' he;rw[he]at i;exact i.elim
   ·exact i
  ·rw[if_neg hw]at h ⊢
   exact b _ _ h
theorem AX9{P:Program}{Q:Exit->Act->List Frame->World->Prop}{cs cs':List Frame}{id:Nat}{b:Oper}{l:List Oper}{a:Act}{w:World}{v:Value}(hg:b.guard=none)(i:(execOp a.eval b).run P w= .ok .recover w)
  (k:recoverD cs=some (v,cs')\/(recoverD cs=none/\v= .nilIface/\cs'=cs)) (q: ¬LetsOut (λ e a w=>Q e a cs' w)) (h:wpList P (b::l).toArray (λ e a w=>Q e a cs' w) l (a.put b.dst v) w):
  (Code.region id (b::l).toArray false).wpS P Q a cs w:=by
 refine wpS_region ?_
 have hw:Region.wanted b (yielded (b::l).toArray a.tmps)=true:=by unfold Region.wanted;rw[hg]
 have h1:=AX8 (ops:=(b::l).toArray) q l 1 (λ j=>by simp[Nat.add_comm 1 j]) _ _ h
 rw[show List.range (b::l).toArray.size=0::List.range' 1 l.length from by simp[List.range_eq_range',List.range'_succ]]
 unfold wpOpsS
 rw[show(b::l).toArray[0]? =some b from by simp]
 dsimp only
 rw[if_pos hw,i]
 dsimp only
 rcases k with n|⟨n,rfl,rfl⟩
 ·rw[n];exact h1
 ·rw[n];exact h1
section
variable {P:Program} {C:World->Prop} {L:Env} {W:Bool} {d:Option Tmp} {ty:TypeId} {ps:String} {af:Array Edge} {gd:Option (Nat×Bool)}
theorem PV.AY0 {b t:TypeId}{x:Operand}{v:Value}{fs:Array Field}(hx:AA L W x (.iface t v))(e:P.underlying t=some (.struct fs)):PV P C L W ⟨d,.typeAssert x b t true,ty,ps,af,gd⟩ (.tuple #[v,.bool true]):=
 .un (f:=λ u=>Instr.typeAssert u b t true) (λ _=>rfl) hx λ _ w _=>by
  simp only[Instr.typeAssert,Sem.run_bind,run_underlying e,Result.andThen_ok]
  simp[Sem.run_pure]
theorem PV.AY1 {b t:TypeId}{x:Operand}{z:Value}{fs:Array Field}(hx:AA L W x .nilIface)(e:P.underlying t=some (.struct fs))(h: ∀w,(zeroValue t).run P w= .ok z w):PV P C L W ⟨d,.typeAssert x b t true,ty,ps,af,gd⟩ (.tuple #[z,.bool false]):=
 .un (f:=λ u=>Instr.typeAssert u b t true) (λ _=>rfl) hx λ _ w _=>by
  simp only[Instr.typeAssert,Sem.run_bind,run_underlying e,Result.andThen_ok]
  simp[Sem.run_bind,Sem.run_pure,h]
end
def HB:FrameMode->Value×FrameMode
 | .panicking ({ v,recovered:=false,goexit:=false}::older)=>(v,.panicking ({ v,recovered:=true}::older))
 |u=>(.nilIface,u)
theorem AY2(c:Frame)(cs:List Frame):recoverD (c::cs)=some ((HB c.mode).1,{ c with mode:=(HB c.mode).2}::cs)\/(recoverD (c::cs)=none/\(HB c.mode).1= .nilIface/\ { c with mode:=(HB c.mode).2}::cs=c::cs):=by
 obtain⟨_,_,_,_,m,_,_⟩:=c
 cases m with
 |panicking e=>
  cases e with
  |nil=>exact .inr ⟨rfl,rfl,rfl⟩
  |cons p b=>
   obtain⟨v,r,g⟩:=p
   cases r<;>cases g<;>first|exact .inl rfl|exact .inr ⟨rfl,rfl,rfl⟩
 |_=>exact .inr ⟨rfl,rfl,rfl⟩
theorem AY3{P:Program}{f:FuncId}{fn:Func}{id d N:Nat}{j:Oper}{l:List Oper}{y:Code}{vs:List Value}{u:FrameMode}{w:World}{S:World->Prop}(B:P.funcs[f]? =some fn)(C:fn.body=some (.seq (.region id (j::l).toArray false) y))(A:fn.ntmps=N)(hl:vs.length<=N)
  (k:fn.results= #[]) (hg:j.guard=none) (hd:j.dst=some d) (s:Nat.blt d N=true) (n: ∀(a:Act) w,(execOp a.eval j).run P w= .ok .recover w)
  (h: ∀(K:Act->World->Prop) (Q:Exit->Act->World->Prop),(∀a w',y.wp P Q a w'->K a w')->(∀a w',a.defers=[]->S w'->Q .normal a w')->RL P (j::l).toArray (Exit.then K Q) N l ((d,true,(HB u).1)::MI 0 vs) w):
  CallsD P f vs.toArray u w (λ e i w'=>e= .returned (.tuple #[])/\i=(HB u).2/\S w'):=by
 refine callsD_of_wpS B C λ b cs hu=>wpS_seq ?_
 subst hu
 have hs:=AZ.enter vs N hl
 rw[<-A]at hs
 refine AX9 hg (n _ _) (AY2 b cs) ?_ ?_
 ·rintro⟨a,w',h1⟩
  obtain⟨i,z,_⟩:=h1
  cases z
 ·subst A
  have q:=hs.put s true (HB b.mode).1
  rw[hd]
  have D:=h (λ a w'=>y.wpS P (bodyPostS P fn b cs (λ e i w'=>e= .returned (.tuple #[])/\i=(HB b.mode).2/\S w')) a ({ b with mode:=(HB b.mode).2}::cs) w')
   (λ e a w'=>bodyPostS P fn b cs (λ e i w'=>e= .returned (.tuple #[])/\i=(HB b.mode).2/\S w') e a ({ b with mode:=(HB b.mode).2}::cs) w')
   (λ a w' h1=>wpS_of_wp h1) (λ a w' h1 z=>⟨h1,_,rfl,_,results_none k _ _ _,rfl,rfl,z⟩) _ q
  refine Eq.mp ?_ D
  congr 1
  funext e a w'
  cases e<;>rfl
def YQ(D:List Deferred)(a:Act):Act:=⟨a.tmps,a.defers++D⟩
section
variable {P:Program} {ops:Array Oper} {D:List Deferred} {Q:Exit->Act->World->Prop} {N:Nat} {L:Env} {w:World}
def pW(P:Program)(D:List Deferred)(c:Code)(Q:Exit->Act->World->Prop)(N:Nat)(L:Env)(w:World):Prop:= ∀a,AZ a N L->c.wp P Q (YQ D a) w
theorem pW.at {y:Code}{Q':Exit->Act->World->Prop}(L':Env)(b:Eng.G6 (jD L') L=L')(h:pW P D y Q' N L' w): ∀a,AZ a N L->y.wp P Q' (YQ D a) w:=λ a hs=>h a (b▸hs.G6 _)
structure OG (P:Program) (fn:Func) (R:Ending->World->Prop) (Q:Exit->Act->World->Prop):Prop where
 all: ∀e a w,bodyPostD P fn R e a w->Q e a w
theorem OG.p {fn:Func}{R:Ending->World->Prop}{b:List PanicEntry}(E:OG P fn R Q)(h: ∀a,AZ a N L->Leaves P fn a.tmps R D (.panicking b) w): ∀a,AZ a N L->Q (.panic b) (YQ D a) w:=
 λ a hs=>E.all _ _ _ (by show Leaves P fn a.tmps R (a.defers++D) _ w;rw[hs.DX];exact h a hs)
theorem OG.r {fn:Func}{R:Ending->World->Prop}(E:OG P fn R Q)(h: ∀a,AZ a N L->Leaves P fn a.tmps R D .returning w): ∀a,AZ a N L->Q .ret (YQ D a) w:=
 λ a hs=>E.all _ _ _ (by show Leaves P fn a.tmps R (a.defers++D) _ w;rw[hs.DX];exact h a hs)
theorem pX{fn:Func}{R:Ending->World->Prop}{f:FuncId}{tmps:Array Value}{cs:List Value}{u:FrameMode}{S:World->Prop}(i: ∀args w,(callFunc f args).run P w= .ok (.enter f args) w)(hu:u≠ .run)(hm:settle (HB u).2= .returning)
  (j:CallsD P f cs.toArray u w (λ e b w'=>e= .returned (.tuple #[])/\b=(HB u).2/\S w')) (h: ∀w',S w'-> ∃v,(results fn tmps).run P w'= .ok v w'/\R (.returned v) w'):
  Leaves P fn tmps R [{ target:=.fn (.func f) cs.toArray,args:= #[]}] u w:=by
 refine leaves_cons hu (args:=cs.toArray) (f:=f) (by simp[invoke,go_sem,i]) (j.mono ?_)
 rintro e b w' ⟨rfl,rfl,hS⟩
 show Leaves P fn tmps R [] (settle (HB u).2) w'
 rw[hm]
 exact h w' hS
end
def V5(c:Cx)(ds:List Deferred):Cx:= { c with W:=Wk.DX c.P ds}
def Q5(ds:List Deferred)(B:Exit->Act->World->Prop):Exit->Act->World->Prop:=λ e a w=>B e (CR ds a) w
theorem YR{c:Cx}{ds:List Deferred}{B:Exit->Act->World->Prop}(hw: ∀x Q a w,x.wp c.P Q a w->c.W.wp x Q a w): ∀(k:List Fr),MR k=true-> ∀e a w,post (V5 c ds) (Q5 ds B) k e a w->post c B k e (CR ds a) w
 |[],_,e,a,w,h=>h
 | .seq y::k,b,e,a,w,h=>by
  unfold MR at b
  rw[Bool.and_eq_true]at b
  have i:=YR (ds:=ds) (B:=B) hw k b.2
  cases e with
  |normal=>
   have h:D6 y=true->y.wp c.P (RC ds (post (V5 c ds) (Q5 ds B) k)) (CR ds a) w:=h
   refine hw _ _ _ _ (wp_mono (h b.1) λ e a w ⟨a0,e0,q⟩=>?_)
   subst e0;exact i _ _ _ q
  |_=>exact i _ a w h
 | .block id::k,b,e,a,w,h=>by
  have i:=YR (ds:=ds) (B:=B) hw k b
  cases e with
  |exit j=>
   have h:if j=id then post (V5 c ds) (Q5 ds B) k .normal a w else post (V5 c ds) (Q5 ds B) k (.exit j) a w:=h
   show if j=id then _ else _
   split<;>rename_i hid
   ·rw[if_pos hid]at h;exact i _ a w h
   ·rw[if_neg hid]at h;exact i _ a w h
  |_=>exact i _ a w h
 | .scope::k,b,e,a,w,h=>by
  have i:=YR (ds:=ds) (B:=B) hw k b
  cases e<;>first|exact h.elim|exact i _ a w h
 | .loop J::k,b,_,_,_,_=>by cases b
theorem AY4{P:Program}{N:Nat}{w0 w:World}{M0 M:Mem}{Hr:List HO}{T:TT}(hT:DP P T){f:FuncId}{fn:Func}{x:Code}{R:Ending->World->Prop}(b:P.funcs[f]? =some fn)(e:fn.body=some x)(i:fn.ntmps=N)
  (F:List (Nat×Kn)) (H:List (Nat×HX)) (vs:List XV) (hl:Nat.ble vs.length N=true) (hS:St w0 M0 w M (HD H++Hr)) (hF:BI M F)
  (h: ∀B,OG P fn R B->XG ⟨P,N,w0,M0,M,Hr,T,hT,.wide P⟩ B [] (.code x) ⟨F,H,MM 0 vs⟩) {av:List Value} (j:vs.map XV.d=av):Calls P f av.toArray w R:=by
 subst j
 refine calls_of_wp_defers b e ?_
 rw[i]
 have hs:=AZ.enter (vs.map XV.d) N (by rw[List.length_map];exact Nat.le_of_ble_eq_true hl)
 exact h _ ⟨λ _ _ _ h=>h⟩ _ w ⟨by rw[<-R4]at hs;exact hs,M,hS,hF,Mem.le.refl _⟩
section
variable {c:Cx} {B:Exit->Act->World->Prop} {k k':List Fr} {m:Md} {s s':XS} {O:Prop} {E:List Ck} {all:Array Oper} {ty:TypeId} {ps:String} {af:Array Edge}
abbrev fE(f:FuncId)(cs:List Value):List Deferred:=[{ target:=.fn (.func f) cs.toArray,args:= #[]}]
theorem AY5{x:Operand}{f:FuncId}{cs:List Value}{tys:Array TypeId}{E1:List Ck}(hw: ∀x Q a w,x.wp c.P Q a w->c.W.wp x Q a w)(hl: ∀ops Q l a w,wpList c.P ops Q l a w->c.W.list ops Q l a w)
  (h:run c.T c.N k m s=⟨k',.ops all [⟨none,.defer ⟨.value x,#[],tys⟩,ty,ps,af,none⟩],s',O,E⟩) (hx:BB s'.L .t x=some (.v (.func (.func f) #[] ⟨cs⟩),E1)) (j:MR k'=true)
  (n:XG (V5 c (fE f cs)) (Q5 (fE f cs) B) k' .next s') (hE:A9 E:=by exact Ad) (hO:O:=by exact Af) (hE1:A9 E1:=by exact Ad):XG c B k m s:=by
 refine CL h hE hO λ a w ⟨hs,M,b⟩=>hl _ _ _ _ _ <|wpList_plain U λ K q=>?_
 have i:a.eval x= .func (.func f) #[] ⟨cs⟩:=A7 hx (hE:=hE1) a c.N hs U
 have key:(execOp a.eval ⟨none,.defer ⟨.value x,#[],tys⟩,ty,ps,af,none⟩).run c.P w= .ok (.defer { target:=.fn (.func f) cs.toArray,args:= #[]}) w:=by
  simp only[execOp,resolve,i,Deferred.ofValue,Sem.run_bind,Sem.run_pure,Result.andThen_ok]
  simp
 simp only[Oper.wp,key,Oper.upon_defer]
 refine q _ _ ?_
 have h1:=YR hw k' j _ _ _ (n a w ⟨hs,M,b.st,b.f,b.le⟩)
 have e:CR (fE f cs) a= { a with defers:= { target:=.fn (.func f) cs.toArray,args:= #[]}::a.defers}:=by unfold CR;rw[hs.DX];rfl
 rw[e]at h1
 exact h1
theorem fF{P:Program}{T:TT}(hT:DP P T){fn:Func}{H:List (Nat×HX)}{Hr:List HO}{w0 w:World}{M0 M:Mem}{L:XE}{a:Act}{N:Nat}{rs:List ResultVar}{vs:List XV}{E2:List Ck}(hS:St w0 M0 w M (HD H++Hr))(hs:AZ a N L.d)(b:fn.results=⟨rs⟩)(hl:NU T H L rs=some (vs,E2))(hE2:A9 E2:=by exact Ad):(results fn a.tmps).run P w= .ok (PE vs) w:=by
 rw[iT,b]
 have e:=bV hT hS hs hl hE2
 have h:((⟨rs⟩:Array ResultVar).mapM (JX a.tmps)).run P w= .ok (vs.map XV.d).toArray w:=by
  rw[Array.mapM_eq_mapM_toList]
  refine(Sem.run_bind' P _ _ w).trans ?_
  rw[e];rfl
 rw[Sem.run_bind,h]
 simp only[Result.andThen_ok,Sem.run_pure]
 congr 1
 match vs with
 |[]=>rfl
 |[v]=>rfl
 |_::_::_=>simp[PE]
theorem AY6{fn:Func}{R:Ending->World->Prop}{ds:List Deferred}{b:Exit->Act->World->Prop}(e:OG c.P fn R b)(h:run c.T c.N k m s=⟨[],.ret,s',O,E⟩)(i: ∀a w M,AZ a c.N s'.L.d->CZ c s'.F s'.H w M->Leaves c.P fn a.tmps R ds .returning w)(hE:A9 E:=by exact Ad)(hO:O:=by exact Af):XG c (Q5 ds b) k m s:=
 CL h hE hO λ a w ⟨h1,M,j⟩=>e.all _ _ _ (by
  show Leaves c.P fn a.tmps R (a.defers++ds) .returning w
  rw[h1.DX];exact i a w M h1 j)
theorem OG.pan {P:Program}{N:Nat}{L:XE}{fn:Func}{R:Ending->World->Prop}{Q:Exit->Act->World->Prop}{ds:List Deferred}{b:List PanicEntry}{a:Act}{w:World}(e:OG P fn R Q)(hs:AZ a N L.d)(h:Leaves P fn a.tmps R ds (.panicking b) w):Q5 ds Q (.panic b) a w:=
 e.all _ _ _ (by show Leaves P fn a.tmps R (a.defers++ds) _ w;rw[hs.DX];exact h)
end
theorem AY8{P:Program}{o:Oper}{a:Act}{w:World}{K b:Act->World->Prop}{Q:Exit->Act->World->Prop}(h:o.wp P a w b Q):o.wp P a w b (Exit.then K Q):=by
 unfold Oper.wp at*
 generalize (execOp a.eval o).run P w=r at*
 cases r with
 |ok n w'=>cases n<;>first|exact h|(simp only[Oper.upon]at h ⊢;exact h)
 |halt s w'=>cases s<;>first|exact h|(simp only[Oper.upon]at h ⊢;exact h)
theorem pY{P:Program}{T:TT}(hT:DP P T){f:FuncId}{fn:Func}{id d N:Nat}{b:Oper}{l:List Oper}{y:Code}{u:FrameMode}{w0 w:World}{M0 M:Mem}{Hr:List HO}{S:World->Prop}(A:P.funcs[f]? =some fn)(C:fn.body=some (.seq (.region id (b::l).toArray false) y))(D:fn.ntmps=N)
  (i:fn.results= #[]) (hg:b.guard=none) (hd:b.dst=some d) (k:Nat.blt d N=true) (j: ∀(a:Act) w,(execOp a.eval b).run P w= .ok .recover w) (F:List (Nat×Kn)) (H:List (Nat×HX)) (n:XV) (vs:List XV) (q:n.d=(HB u).1) (hl:Nat.ble vs.length N=true) (hS:St w0 M0 w M (HD H++Hr)) (hF:BI M F)
  (h: ∀B,(∀a w',a.defers=[]->S w'->B .normal a w')->XG ⟨P,N,w0,M0,M,Hr,T,hT,.wide P⟩ B [.seq y] (.ops (b::l).toArray l) ⟨F,H,(d,.t,n)::MM 0 vs⟩) {av:List Value} (s:vs.map XV.d=av):
  CallsD P f av.toArray u w (λ e E w'=>e= .returned (.tuple #[])/\E=(HB u).2/\S w'):=by
 subst s
 refine AY3 A C D (by rw[List.length_map];exact Nat.le_of_ble_eq_true hl) i hg hd k j λ K Q G J a hs=>?_
 have h1:=h Q J a w ⟨by
  show AZ a N ((d,true,n.d)::XE.d (MM 0 vs))
  rw[R4,q];exact hs,M,hS,hF,Mem.le.refl _⟩
 have mono: ∀(l':List Oper) (a:Act) (w:World),wpList P (b::l).toArray (Exit.then (y.wp P Q) Q) l' a w->wpList P (b::l).toArray (Exit.then K Q) l' a w:=by
  intro l'
  induction l' with
  |nil=>intro a w h;exact G _ _ h
  |cons o l' z=>
   intro a w h
   unfold wpList at h ⊢
   split at h<;>rename_i hw
   ·rw[if_pos hw]
    rcases h with h|⟨s,a2,L,O⟩
    ·refine .inl ?_
     have R:=U0 h
     have V:=Oper.wp_mono (λ a w W=>z a w W) R
     exact AY8 V
    ·exact .inr ⟨s,a2,L,O⟩
   ·rw[if_neg hw];exact z _ _ h
 exact mono l a w h1
theorem pZ{c:Cx}{B:Exit->Act->World->Prop}{k:List Fr}{m:Md}{s s':XS}{O:Prop}{E:List Ck}{S:World->Prop}(b: ∀a w',a.defers=[]->S w'->B .normal a w')(h:run c.T c.N k m s=⟨[],.next,s',O,E⟩)(e: ∀w M,CZ c s'.F s'.H w M->S w)(hE:A9 E:=by exact Ad)(hO:O:=by exact Af):XG c B k m s:=
 CL h hE hO λ a w ⟨h1,M,i⟩=>b a w h1.DX (e w M i)
end Go.Eng
