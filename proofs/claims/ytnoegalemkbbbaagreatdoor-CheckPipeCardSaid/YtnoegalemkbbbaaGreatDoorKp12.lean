/- Lemmas for the card. -/
import Derived.Shelf.Unicode.ValidAny
import Derived.Test.YtnoegalemkbbbaaGreatDoorKp11
set_option linter.unusedVariables false
set_option linter.unusedSimpArgs false
set_option maxRecDepth 100000
namespace Go.Proofs
open Go.Shelf
def Tryz.AX8:Go.Shelf.Ren:=⟨λ |190=>151|125=>181|258=>180|128=>219|129=>220|302=>210|303=>211|304=>212|305=>213|306=>214|307=>215|308=>216|309=>217|310=>218|333=>242|329=>243|330=>244|334=>245|335=>246|336=>247|344=>271|n=>n,λ |31=>103|9=>9|3=>3|46=>209|0=>0|51=>237|53=>239|4=>4|183=>231|182=>230|131=>169|5=>5|218=>263|222=>267|228=>281|229=>226|n=>n,λ |n=>n⟩
theorem Tryz.qO:Go.Proofs.Lays.n190 prog Tryz.AX8:= {
 mixed:=by kernel_rfl
 f125:=func181.trans (congrArg some Ai)
 f128:=func219.trans (congrArg some Ai)
 f129:=func220.trans (congrArg some Ai)
 f190:=func151.trans (congrArg some Ai)
 f258:=func180.trans (congrArg some Ai)
 f302:=func210.trans (congrArg some Ai)
 f303:=func211.trans (congrArg some Ai)
 f304:=func212.trans (congrArg some Ai)
 f305:=func213.trans (congrArg some Ai)
 f306:=func214.trans (congrArg some Ai)
 f307:=func215.trans (congrArg some Ai)
 f308:=func216.trans (congrArg some Ai)
 f309:=func217.trans (congrArg some Ai)
 f310:=func218.trans (congrArg some Ai)
 f329:=func243.trans (congrArg some Ai)
 f330:=func244.trans (congrArg some Ai)
 f333:=func242.trans (congrArg some Ai)
 f334:=func245.trans (congrArg some Ai)
 f335:=func246.trans (congrArg some Ai)
 f336:=func247.trans (congrArg some Ai)
 f344:=func271.trans (congrArg some Ai)
 t0:=underlying0
 a0:=isAgg0
 z0:=sizeOf0
 v0:=zeroValue0
 t3:=underlying3
 a3:=isAgg3
 z3:=sizeOf3
 v3:=zeroValue3
 t4:=underlying4
 a4:=isAgg4
 z4:=sizeOf4
 v4:=zeroValue4
 t5:=underlying5
 a5:=isAgg5
 z5:=sizeOf5
 v5:=zeroValue5
 t9:=underlying9
 a9:=isAgg9
 z9:=sizeOf9
 v9:=zeroValue9
 t31:=underlying103
 a31:=isAgg103
 z31:=sizeOf103
 v31:=zeroValue103
 t46:=underlying209
 a46:=isAgg209
 z46:=sizeOf209
 v46:=zeroValue209
 t51:=underlying237
 a51:=isAgg237
 z51:=sizeOf237
 v51:=zeroValue237
 t53:=underlying239
 a53:=isAgg239
 z53:=sizeOf239
 v53:=zeroValue239
 t131:=underlying169
 a131:=isAgg169
 z131:=sizeOf169
 v131:=zeroValue169
 t182:=underlying230
 a182:=isAgg230
 z182:=sizeOf230
 v182:=zeroValue230
 t183:=underlying231
 a183:=isAgg231
 z183:=sizeOf231
 v183:=zeroValue231
 t218:=underlying263
 a218:=isAgg263
 z218:=sizeOf263
 v218:=zeroValue263
 t222:=underlying267
 a222:=isAgg267
 z222:=sizeOf267
 v222:=zeroValue267
 t228:=underlying281
 a228:=isAgg281
 z228:=sizeOf281
 v228:=zeroValue281
 t229:=underlying226
 a229:=isAgg226
 z229:=sizeOf226
 v229:=zeroValue226}
open Go.Sort Go.RowKit in
theorem Tryz.slices_Sort_string (E9 off cap:Nat)(b:List (List UInt8))(w:World)(hH:Holds encStr w E9 off b.toArray)(h:E9<w.heap.size)(i:b.length<4611686018427387904):
 Calls prog 151 #[.slice (some ⟨E9,off,none⟩) b.length cap] w λ e w'=>
  e= .returned (.tuple #[])/\ ∃n os,w'=grow (putRow encStr (Sort.ahead w n) E9 off (b.mergeSort λ x y=>decide (x<=y)).toArray) os:=Any.slices_Sort_string Tryz.qO E9 off cap b w hH h i
open Go.RowKit Go.Sort in
theorem Tryz.slices_Sort_string_none (p:Option Addr)(cap:Nat)(w:World):
 Calls prog 151 #[.slice p 0 cap] w λ e w'=>e= .returned (.tuple #[])/\w'=w:=Any.slices_Sort_string_none Tryz.qO p cap w
def Tryz.AX9:Go.Shelf.Ren:=⟨λ |196=>263|259=>286|n=>n,λ |9=>9|4=>4|3=>3|5=>5|12=>12|119=>283|0=>0|46=>209|139=>286|138=>285|53=>239|n=>n,λ |3=>0|4=>1|n=>n⟩
theorem Tryz.AY0:Go.Proofs.Lays.n196 prog Tryz.AX9:= {
 mixed:=by kernel_rfl
 f196:=func263.trans (congrArg some Ai)
 f259:=func286.trans (congrArg some Ai)
 t0:=underlying0
 a0:=isAgg0
 z0:=sizeOf0
 v0:=zeroValue0
 t3:=underlying3
 a3:=isAgg3
 z3:=sizeOf3
 v3:=zeroValue3
 t4:=underlying4
 a4:=isAgg4
 z4:=sizeOf4
 v4:=zeroValue4
 t5:=underlying5
 a5:=isAgg5
 z5:=sizeOf5
 v5:=zeroValue5
 t9:=underlying9
 a9:=isAgg9
 z9:=sizeOf9
 v9:=zeroValue9
 t12:=underlying12
 a12:=isAgg12
 z12:=sizeOf12
 v12:=zeroValue12
 t46:=underlying209
 a46:=isAgg209
 z46:=sizeOf209
 v46:=zeroValue209
 t53:=underlying239
 a53:=isAgg239
 z53:=sizeOf239
 v53:=zeroValue239
 t119:=underlying283
 a119:=isAgg283
 z119:=sizeOf283
 t138:=underlying285
 a138:=isAgg285
 z138:=sizeOf285
 v138:=zeroValue285
 t139:=underlying286
 a139:=isAgg286
 z139:=sizeOf286
 v139:=zeroValue286
 g3:=by kernel_rfl
 g4:=by kernel_rfl}
open Go.RowKit Go.Lib in
theorem Tryz.utf8_ValidString (s:ByteArray)(w:World)(hs:s.size<=9223372036854775807)(hT:Lib.Utf8Tabs 0 1 w):
 Calls prog 263 #[.string s] w λ e w'=>e= .returned (.bool (Lib.validD s.data.toList))/\Below w.heap.size w w':=Any.utf8_ValidString Tryz.AY0 s w hs hT
def Tryz.AY1:Go.Shelf.Ren:=⟨λ |160=>349|232=>330|231=>327|227=>321|234=>331|233=>328|236=>332|235=>329|228=>322|271=>347|151=>346|197=>224|120=>355|152=>319|260=>248|137=>198|119=>341|224=>342|225=>343|217=>232|266=>254|n=>n,λ |9=>9|4=>4|3=>3|5=>5|117=>326|116=>325|0=>0|124=>332|21=>21|105=>245|46=>209|119=>283|139=>286|138=>285|n=>n,λ |3=>0|4=>1|n=>n⟩
theorem Tryz.AY2:Go.Proofs.Lays.n160 prog Tryz.AY1:= {
 mixed:=by kernel_rfl
 f119:=func341.trans (congrArg some Ai)
 f120:=func355.trans (congrArg some Ai)
 f137:=func198.trans (congrArg some Ai)
 f151:=func346.trans (congrArg some Ai)
 f152:=func319.trans (congrArg some Ai)
 f160:=func349.trans (congrArg some Ai)
 f197:=func224.trans (congrArg some Ai)
 f217:=func232.trans (congrArg some Ai)
 f224:=func342.trans (congrArg some Ai)
 f225:=func343.trans (congrArg some Ai)
 f227:=func321.trans (congrArg some Ai)
 f228:=func322.trans (congrArg some Ai)
 f231:=func327.trans (congrArg some Ai)
 f232:=func330.trans (congrArg some Ai)
 f233:=func328.trans (congrArg some Ai)
 f234:=func331.trans (congrArg some Ai)
 f235:=func329.trans (congrArg some Ai)
 f236:=func332.trans (congrArg some Ai)
 f260:=func248.trans (congrArg some Ai)
 f266:=func254.trans (congrArg some Ai)
 f271:=func347.trans (congrArg some Ai)
 t0:=underlying0
 a0:=isAgg0
 z0:=sizeOf0
 v0:=zeroValue0
 t3:=underlying3
 a3:=isAgg3
 z3:=sizeOf3
 v3:=zeroValue3
 t4:=underlying4
 a4:=isAgg4
 z4:=sizeOf4
 v4:=zeroValue4
 t5:=underlying5
 a5:=isAgg5
 z5:=sizeOf5
 v5:=zeroValue5
 t9:=underlying9
 a9:=isAgg9
 z9:=sizeOf9
 v9:=zeroValue9
 t21:=underlying21
 a21:=isAgg21
 z21:=sizeOf21
 v21:=zeroValue21
 t46:=underlying209
 a46:=isAgg209
 z46:=sizeOf209
 v46:=zeroValue209
 t105:=underlying245
 a105:=isAgg245
 z105:=sizeOf245
 v105:=zeroValue245
 t116:=underlying325
 a116:=isAgg325
 z116:=sizeOf325
 t117:=underlying326
 a117:=isAgg326
 z117:=sizeOf326
 v117:=zeroValue326
 t119:=underlying283
 a119:=isAgg283
 z119:=sizeOf283
 t124:=underlying332
 a124:=isAgg332
 z124:=sizeOf332
 v124:=zeroValue332
 t138:=underlying285
 a138:=isAgg285
 z138:=sizeOf285
 v138:=zeroValue285
 t139:=underlying286
 a139:=isAgg286
 z139:=sizeOf286
 v139:=zeroValue286
 g3:=by kernel_rfl
 g4:=by kernel_rfl}
open Go.RowKit in
theorem Tryz.strings_Trim_one (s:ByteArray)(c:UInt8)(b:c.toNat<128)(w:World)(hs:s.size<=9223372036854775807):
 Calls prog 349 #[.string s,.string ⟨#[c]⟩] w λ e w'=>e= .returned (.string ⟨(Lib.trimB s.data.toList c).toArray⟩)/\(w'=w\/w'=w.drew):=Any.strings_Trim_one Tryz.AY2 s c b w hs
end Go.Proofs
set_option maxRecDepth 100000
namespace Go.Proofs.YtnoegalemkbbbaaGreatDoor
open Go.Proofs.Tryz
open Go.Eng
theorem AY3{t:A0}{p:Int}(h0:0<=p)(h1:p<len t):FM (Eng.sub t 0 (p+1))=decide (p+1<=len (BC t)):=by
 have hl:=FG (s:=t) (i:=0) (j:=p+1) (Int.le_refl 0) Aa Aa
 have q: ∀j:Int,0<=j->j<p+1->A3 (Eng.sub t 0 (p+1)) j=A3 t j:=λ j a b=>by
  have:=Q8 (s:=t) (i:=0) (j:=p+1) (k:=j) (Int.le_refl 0) a Aa Aa
  rwa [Int.zero_add]at this
 have ho:=YO (s:=t) 0 (Int.le_refl 0)
 have l:=MB (s:=t) (i:=0) (Int.le_refl 0) (A9 t)
 rw[Bool.eq_iff_iff,decide_eq_true_eq,MC,V9]
 constructor
 ·rintro⟨_,h⟩
  rcases Int.lt_or_le (CZ t 0) (p+1)with n|n
  ·have w:=ho.2 (A9 t) Aa
   rw[<-q _ l.1 n,h _ l.1 Aa]at w;cases w
  ·exact n
 ·intro n
  refine⟨λ e=>by rw[e,len_nil]at hl;omega,λ j a b=>?_⟩
  rw[q j a Aa]
  exact ho.1 j a Aa
abbrev spV(x:Sp):Value:=.agg #[.bool x.part,str x.name,i64 x.n]
theorem AY5(s:A0)(i:Int)(first:Bool)(w:World)(h0:0<=i)(h1:i<=len s)(hb:len s<=1048576):
  Calls prog 173 [str s,i64 i,.bool first].toArray w λ e w'=>e= .returned (.tuple #[spV (DL s i first).1,i64 (DL s i first).2])/\Ext w w':=by
 refine AH AF func173 U ntmps173 [] [] [.v (str s),I i,.v (.bool first)] U (BD w) A4 (λ B E=>BA 1 U zeroValue105 U λ N=>CP 0 (λ s'=> ∃j,i<=j/\j<=len s/\DL s i first=OS s i j/\s'=⟨[],[(1,.box N [.v (.bool false),.v (str []),I 0] 105)],[Z 0 (.v (str s)),Z 1 (I j),Z 6 (.bx 1 N 0),Z 8 (I i)]⟩) U U (λ y=>?_) (λ y=>?_) ?_) U
 ·simp only[zb]at y
  have A:A3 s i=46:=by omega
  have S:=ED s (i+1) Aa Aa
  have T:=UZ (A5 s (i+1))
  refine B5 (σ:=Int) (λ k=>⟨[],[(1,.box N [.v (.bool false),.v (str []),I 0] 105)],[Z 0 (.v (str s)),Z 1 (I (i+1)),Z 2 (.v (.bool first)),Z 6 (.bx 1 N 0),Z 8 (I i),Z 9 (I k)]⟩) (λ k=>i+1<=k/\k<=i+1+len (BC (A5 s (i+1)))) (λ k=>(len s-k).toNat) (i+1) U U ⟨Aa,Aa⟩ ?_
  rintro k ⟨V,W⟩
  have D:k<len s->FM (Eng.sub s (i+1) (k+1))=decide (k+1<=i+1+len (BC (A5 s (i+1)))):=λ Q=>by
   have O:=AY3 (t:=A5 s (i+1)) (p:=k-(i+1)) Aa Aa
   rw[YH s (i+1) _ Aa Aa,show i+1+(k-(i+1)+1)=k+1 by omega]at O
   rw[O];congr 1;rw[eq_iff_iff];omega
  refine AJ U call201 U U (λ _ w M l=>lS (Eng.sub s (i+1) (k+1)) w (by unfold Eng.sub len at*;rw[List.length_take];omega)) U ?_
  refine A1 U (λ n=>?_) (λ n=>?_)<;>simp only[zb]at n
  ·have:=D Aa
   rw[n.2]at this
   have:=of_decide_eq_true this.symm
   exact AX (k+1) U U ⟨Aa,Aa⟩ Ag
  have C:k=i+1+len (BC (A5 s (i+1))):=by
   rcases n with n|n
   ·omega
   ·by_cases Q:k<len s
    ·rw[D Q]at n
     have:=of_decide_eq_false n;omega
    ·omega
  refine A1 U (λ G=>?_) (λ G=>?_)<;>simp only[zb]at G
  ·have P:BC (A5 s (i+1))≠[]:=λ e=>by rw[e,len_nil]at C;omega
   have H:Eng.sub s (i+1) k=BC (A5 s (i+1)):=by
    have O:=YH s (i+1) (len (BC (A5 s (i+1)))) Aa Aa
    rw[C,<-O,MC];rfl
   have b:DL s i first=(⟨false,BC (A5 s (i+1)),0⟩,i+1+len (BC (A5 s (i+1)))):=by unfold DL;rw[if_pos ⟨y.1,A⟩,if_pos P]
   refine A2 E U U U λ w M l=>⟨?_,l.st.low⟩
   rw[b,C]
   show Ending.returned (.tuple #[.agg #[.bool false,str (Eng.sub s (i+1) (i+1+len (BC (A5 s (i+1))))),i64 0],_])=_
   rw[<-C,H];rfl
  have he:BC (A5 s (i+1))=[]:=Classical.byContradiction λ e=>by have:=HQ e;omega
  have X:=OH (A5 s (i+1))
  have hul:=fR (A5 s (i+1))
  refine AJ U call202 U U (λ _ w M l=>AW7 (A5 s (i+1)) w Aa) U <|G4 U BM Ac <|HB U call201 U U (λ _ w M l=>lS (B4 (A5 s (i+1))).1 w Aa) U <|HB U call203 U U (λ _ w M l=>AW4 (B4 (A5 s (i+1))).1 w Aa) U <|G5 U ?_
  refine A1 U (λ z=>?_) (λ z=>?_)<;>simp only[zb]at z
  ·have b:DL s i first=(⟨false,(B4 (A5 s (i+1))).1,0⟩,i+1+(B4 (A5 s (i+1))).2.1):=by
    unfold DL;rw[if_pos ⟨y.1,A⟩,if_neg (by rw[he];simp),if_pos ⟨z.1.1,z.1.2,z.2⟩]
   refine A2 E U U U λ w M l=>⟨?_,l.st.low⟩
   rw[b];rfl
  have J: ¬((B4 (A5 s (i+1))).2.2=0/\FM (B4 (A5 s (i+1))).1=false/\NC (B4 (A5 s (i+1))).1=Eng.sub s (i+1) (i+1+(B4 (A5 s (i+1))).2.1)):=by
   rintro⟨q1,q2,q3⟩
   rcases z with(h|h)|h
   ·exact h q1
   ·rw[q2]at h;cases h
   ·exact h q3
  refine A1 U (λ q=>?_) (λ q=>?_)<;>simp only[zb]at q
  ·have b:DL s i first=(OR,i):=by
    unfold DL;rw[if_pos ⟨y.1,A⟩,if_neg (by rw[he];simp),if_neg J,if_pos q]
   refine A2 E U U U λ w M l=>⟨?_,l.st.low⟩
   rw[b];rfl
  refine AW _ U U ⟨i+1,Aa,Aa,?_,rfl⟩
  unfold DL;rw[if_pos ⟨y.1,A⟩,if_neg (by rw[he];simp),if_neg J,if_neg (by rw[q];decide)]
 ·simp only[zb]at y
  have R: ¬(i<len s/\A3 s i=46):=by omega
  refine A1 U (λ q=>?_) (λ q=>?_)
  ·have b:DL s i first=(OR,i):=by unfold DL;rw[if_neg R,if_pos q]
   refine A2 E U U U λ w M l=>⟨?_,l.st.low⟩
   rw[b];rfl
  refine AW _ U U ⟨i,Int.le_refl _,h1,?_,rfl⟩
  unfold DL;rw[if_neg R,if_neg (by rw[q];decide)]
 ·rintro _ ⟨j,hj0,hj1,F,rfl⟩
  refine A1 U (λ K=>?_) (λ K=>?_)<;>simp only[zb]at K
  ·have b:DL s i first=(OR,i):=by rw[F];unfold OS;rw[if_pos Aa]
   refine A2 E U U U λ w M l=>⟨?_,l.st.low⟩
   rw[b];rfl
  refine AJ U call204 U U (λ _ w M l=>AX1 s (j+1) w Aa Aa Aa) U ?_
  have hfb:j+1<=(IE s (j+1)).2/\(IE s (j+1)).2<=len s:=by
   unfold IE
   obtain⟨r,hr⟩:=pY s (j+1)
   have hl:=ED s (j+1) Aa Aa
   rw[hr,AQ]at hl
   have:=A9 r
   have:=A9 (EL s (j+1))
   split<;>dsimp only<;>omega
  refine A1 U (λ L=>?_) (λ L=>?_)<;>simp only[zb]at L
  ·have b:DL s i first=(OR,i):=by rw[F];unfold OS;rw[if_neg Aa,if_pos Aa]
   refine A2 E U U U λ w M l=>⟨?_,l.st.low⟩
   rw[b];rfl
  ·have b:DL s i first=(⟨true,[],(IE s (j+1)).1⟩,(IE s (j+1)).2+1):=by rw[F];unfold OS;rw[if_neg Aa,if_neg Aa]
   refine A2 E U U U λ w M l=>⟨?_,l.st.low⟩
   rw[b];rfl
theorem AY6{s:A0}{i:Int}{first:Bool}(h0:0<=i)(h1:i<=len s):i<=(DL s i first).2/\(DL s i first).2<=len s:=by
 by_cases h:(DL s i first).2=i
 ·rw[h];omega
 ·have:=qA h0 (x:=(DL s i first).1) (zz:=(DL s i first).2) U h
  omega
theorem SM{α:Type}{l:List α}(h:len l=0):l=[]:=by
 cases l with
 |nil=>rfl
 |cons a l=>rw[AM]at h;have:=A9 l;omega
theorem VI{α:Type}(p:List α):p.isEmpty=(len p==0):=by
 cases p with
 |nil=>rfl
 |cons a p=>symm;show _=false;rw[beq_eq_false_iff_ne,AM];have:=A9 p;omega
theorem AY7{D:World}{M:Mem}(s:A0)(hS:Sat D M)(H:len s<=1048576):
  Calls prog 138 [str s,i64 0].toArray D (N5 D M (λ v:Value=>.tuple #[v,i64 (EZ s 0).2]) (λ _=>True) (λ v=>[(0,kn v 3 (EZ s 0).1 Sp.cells)])):=by
 have E:=A9 s
 refine AH AF func138 U ntmps138 [] [] [.v (str s),I 0] U (Aj hS) A4 (λ B C=>BF 1 [] Sp.cells 3 105 Sp.AV U U Ah U λ v=>B5 (σ:=Int×Value×List Sp) (λ(i,v,p)=>⟨[(1,kn v 3 p Sp.cells)],[(1,.ho (.own 105 3 v p.length (p.flatMap Sp.cells)))],[Z 0 (.v (str s)),Z 1 (I i),Z 6 (.sl 1 v),Z 7 (I 0)]⟩) (λ(i,v,p)=>0<=i/\i<=len s/\len p<=20/\GM (20-p.length) s p i=GM 20 s [] 0) (λ(i,v,p)=>20-p.length) (0,v,[]) U U ⟨Aa,E,by show(0:Int)<=20;omega,rfl⟩ ?_) U
 rintro⟨i,v,p⟩ ⟨y,z,F,n⟩
 have J:(p.length:Int)=len p:=rfl
 have K:=A9 p
 refine A1 U (λ A=>?_) (λ A=>?_)<;>simp only[zb]at A
 ·have L:=AY6 (first:=len p==0) y z
  obtain⟨f,G⟩: ∃f,20-p.length=f+1:=⟨19-p.length,Aa⟩
  refine AJ U call173 U U (λ _ w M j=>AY5 s i (len p==0) w y z H) U <|BA 2 U zeroValue105 U λ P=>?_
  refine A1 U (λ l=>?_) (λ l=>?_)<;>simp only[zb]at l
  ·have e:GM 20 s [] 0=(p,i):=by rw[<-n,G,GM,VI,if_pos l]
   refine A1 U (λ h=>?_) (λ h=>?_)<;>simp only[zb]at h
   ·have k:p=[]:=SM Aa
    have b:EZ s 0=([],0+1):=by unfold EZ;rw[e,if_pos ⟨k,Aa,Aa⟩]
    subst k
    exact A2 C U U U λ w M j=>⟨v,M,by rw[b];rfl,trivial,j.st.done,by rw[b];exact fc 0 (j.sl 1 U) Sp.AV A4⟩
   ·have b:EZ s 0=(p,i):=by
     unfold EZ;rw[e,if_neg]
     rintro⟨q,N,O⟩
     have q:p=[]:=q
     rw[q,len_nil]at h;omega
    exact A2 C U U U λ w M j=>⟨v,M,by rw[b];rfl,trivial,j.st.done,by rw[b];exact fc 0 (j.sl 1 U) Sp.AV A4⟩
  ·refine BF 3 [(DL s i (len p==0)).1] Sp.cells 3 105 Sp.AV U U Ah U λ v2=>F5 32 U U U underlying61 type105 U U Sp.cells_one (by simp only[AM,len_nil];omega) λ v'=>AX ((DL s i (len p==0)).2,v',p++[(DL s i (len p==0)).1]) U U ⟨Aa,Aa,by rw[AQ];show len p+1<=20;omega,?_⟩ (by show 20-(p++[_]).length<20-p.length;rw[List.length_append,List.length_singleton];omega)
   rw[<-n,G,GM,VI,if_neg l,List.length_append,List.length_singleton,show 20-(p.length+1)=f by omega]
 ·have e:GM 20 s [] 0=(p,i):=by rw[<-n,show 20-p.length=0 by omega,GM]
  refine A1 U (λ h=>?_) (λ h=>?_)<;>simp only[zb]at h
  ·have k:p=[]:=SM Aa
   have b:EZ s 0=([],0+1):=by unfold EZ;rw[e,if_pos ⟨k,Aa,Aa⟩]
   subst k
   exact A2 C U U U λ w M j=>⟨v,M,by rw[b];rfl,trivial,j.st.done,by rw[b];exact fc 0 (j.sl 1 U) Sp.AV A4⟩
  ·have b:EZ s 0=(p,i):=by
    unfold EZ;rw[e,if_neg]
    rintro⟨q,N,O⟩
    have q:p=[]:=q
    rw[q,len_nil]at h;omega
   exact A2 C U U U λ w M j=>⟨v,M,by rw[b];rfl,trivial,j.st.done,by rw[b];exact fc 0 (j.sl 1 U) Sp.AV A4⟩
theorem qP{q:World}{M:Mem}(s:A0)(hS:Sat q M)(y:len s<=1048576):
  Calls prog 82 [str s].toArray q (N5 q M (λ v:Value=>.tuple #[v,i64 (ER s).2.1,i64 (ER s).2.2]) (λ _=>True) (λ v=>[(0,kn v 3 (ER s).1 Sp.cells)])):=by
 refine AH AF func82 U ntmps82 [] [] [.v (str s)] U (Aj hS) A4 (λ B n=>EW (λ v:Value=>.tu [.sl 1 v,I (EZ s 0).2]) [1] U U call138 U (λ w M i=>AY7 s i.st.sat y) λ v _=>?_) U
 refine A1 U (λ h=>?_) (λ h=>?_)<;>simp only[zb]at h
 ·have b:ER s=((EZ s 0).1,0,0):=by unfold ER;rw[if_pos h]
  exact A2 n U U U λ w M i=>⟨v,M,by rw[b];rfl,trivial,i.st.done,by rw[b];exact fc 0 (i.sl 1 U) Sp.AV A4⟩
 refine A1 U (λ j=>?_) (λ j=>?_)<;>simp only[zb]at j
 ·have b:ER s=([],0,1):=by unfold ER;rw[if_neg h,if_pos (SM j)]
  refine A2 n U U U λ w M i=>⟨.slice none 0 0,M,by rw[b];rfl,trivial,i.st.done,by rw[b];exact fc 0 (l:=([]:List Sp)) (Sl.nil ..) Sp.AV A4⟩
 refine A1 U (λ k=>?_) (λ k=>?_)<;>simp only[zb]at k
 ·have b:ER s=([],(EZ s 0).2,1):=by unfold ER;rw[if_neg h,if_neg (λ e=>j (by rw[e];rfl)),if_pos k]
  refine A2 n U U U λ w M i=>⟨.slice none 0 0,M,by rw[b];rfl,trivial,i.st.done,by rw[b];exact fc 0 (l:=([]:List Sp)) (Sl.nil ..) Sp.AV A4⟩
 ·have b:ER s=((EZ s 0).1,0,0):=by unfold ER;rw[if_neg h,if_neg (λ e=>j (by rw[e];rfl)),if_neg Aa]
  exact A2 n U U U λ w M i=>⟨v,M,by rw[b];rfl,trivial,i.st.done,by rw[b];exact fc 0 (i.sl 1 U) Sp.AV A4⟩
theorem qQ(s:A0)(w:World)(h:len s<=1048576):Calls prog 188 [str s].toArray w λ e w'=>e= .returned (.bool (SL s))/\Ext w w':=AH AF func188 U ntmps188 [] [] [.v (str s)] U (BD w) A4 (λ B i=>EW (λ v:Value=>.tu [.sl 1 v,I (ER s).2.1,I (ER s).2.2]) [1] U U call82 U (λ w M b=>qP s b.st.sat h) λ v _=>A2 i U U U λ w M b=>⟨rfl,b.st.low⟩) U
end Go.Proofs.YtnoegalemkbbbaaGreatDoor
namespace Go.Eng
open Go.RowKit
mutual
def Tf.size:Tf->Nat
 | .mk _ ps=>1+A6 ps
def A6:List Tf->Nat
 |[]=>0
 |x::l=>x.size+A6 l
end
mutual
theorem Tf.DC:(x:Tf)->x.flat.length=x.size
 | .mk n ps=>by rw[Tf.flat,Tf.size,List.length_cons,SN ps];omega
theorem SN:(l:List Tf)->(AO l).length=A6 l
 |[]=>rfl
 |t::ts=>by rw[AO,A6,List.length_append,Tf.DC t,SN ts]
end
theorem IG(a b:List Tf):A6 (a++b)=A6 a+A6 b:=by
 induction a with
 |nil=>simp[A6]
 |cons x a e=>rw[List.cons_append,A6,A6,e];omega
theorem Tf.size_pos (t:Tf):1<=t.size:=by cases t;rw[Tf.size];omega
theorem Tf.size_eq (t:Tf):t.size=1+A6 t.ps:=by cases t;rfl
theorem MI(l:List Tf):len l<=A6 l:=by
 induction l with
 |nil=>exact Int.le_refl _
 |cons t l b=>rw[AM,A6];have:=t.size_pos;omega
def Tf.node (x:Tf):Tm:= { x.t with many:=len x.ps}
theorem Tf.FK (x:Tf):x.flat=x.node::AO x.ps:=by cases x;rfl
def BW(v:Fl)(i:Int)(l:List Tf):Prop:=0<=i/\ ∃pre post,v=pre++(AO l++post)/\len pre=i
theorem BW.le {v:Fl}{i:Int}{l:List Tf}(h:BW v i l):i+A6 l<=len v:=by
 obtain⟨h0,pre,post,rfl,rfl⟩:=h
 unfold len;simp only[List.length_append,SN];omega
theorem BW.kids {v:Fl}{i:Int}{n:Tm}{ps ts:List Tf}(h:BW v i (.mk n ps::ts)):BW v (i+1) (ps++ts):=by
 obtain⟨h0,pre,post,rfl,rfl⟩:=h
 exact⟨Aa,pre++[{ n with many:=len ps}],post,by rw[AO,Tf.flat,JJ];simp,by unfold len;simp⟩
theorem BW.SO {v:Fl}{i:Int}{x:Tf}{ts:List Tf}(h:BW v i (x::ts)):BW v (i+1) (x.ps++ts):=by cases x;exact h.kids
theorem BW.skip {v:Fl}{i:Int}{a b:List Tf}(h:BW v i (a++b)):BW v (i+A6 a) b:=by
 obtain⟨h0,pre,post,rfl,rfl⟩:=h
 exact⟨Aa,pre++AO a,post,by rw[JJ];simp,by unfold len;rw[List.length_append,SN];omega⟩
theorem BW.rest {v:Fl}{i:Int}{x:Tf}{b:List Tf}(h:BW v i (x::b)):BW v (i+x.size) b:=by
 have:=BW.skip (a:=[x]) h
 rw[A6,A6,Nat.add_zero]at this;exact this
theorem BW.head {v:Fl}{i:Int}{x:Tf}{b:List Tf}(h:BW v i (x::b)):BW v i [x]:=by
 obtain⟨h0,pre,post,rfl,rfl⟩:=h
 exact⟨h0,pre,AO b++post,by simp[AO],rfl⟩
theorem BW.node {v:Fl}{i:Int}{x:Tf}{b:List Tf}(h:BW v i (x::b)):0<=i/\i<len v/\at' v i=x.node:=by
 have hl:=h.le
 have e:=x.size_pos
 obtain⟨h0,pre,post,rfl,rfl⟩:=h
 rw[A6]at hl
 refine⟨h0,Aa,?_⟩
 unfold at' len
 rw[Int.toNat_natCast,List.getD_eq_getElem?_getD,List.getElem?_append_right (Nat.le_refl _),Nat.sub_self,AO,Tf.FK];rfl
theorem BW.top (x:Tf):BW x.flat 0 [x]:=⟨Int.le_refl _,[],[],by simp[AO],rfl⟩
theorem Tf.DA (x:Tf):at' x.flat 0=x.node:=(BW.top x).node.2.2
theorem Tf.AY8 (x:Tf):BW x.flat 1 x.ps:=by
 have:=(BW.top x).SO
 rw[List.append_nil]at this;exact this
theorem AY9{v:Fl}{i:Int}{x:Tf}{b:List Tf}(h:BW v i (x::b)):Eng.sub v i (i+x.size)=x.flat:=by
 obtain⟨h0,pre,post,rfl,rfl⟩:=h
 unfold Eng.sub len
 have:(Int.toNat ((pre.length:Int)+x.size))-(Int.toNat (pre.length:Int))=x.flat.length:=by rw[Tf.DC];omega
 simp only[Int.toNat_natCast]at*
 rw[AO,List.drop_left,this,List.append_assoc,List.take_left]
def HZ:Nat->Fl->Int->Int->Int
 |0,_,_,_=> -1
 |f+1,v,op,i=>if op<=0 then i else if len v<=i\/(at' v i).many<0\/len v<(at' v i).many then-1 else HZ f v (op-1+(at' v i).many) (i+1)
def GZ(v:Fl)(i:Int):Int:=HZ (v.length+2) v 1 i
theorem fU{f:Nat}{v:Fl}{op i:Int}(h:op<=0):HZ (f+1) v op i=i:=by rw[HZ,if_pos h]
theorem AZ0{v:Fl}: ∀(n:Nat) (ts:List Tf) (f:Nat) (op i:Int),A6 ts=n->BW v i ts->0<=op->HZ (f+n) v (op+len ts) i=HZ f v op (i+n):=by
 intro n
 induction n with
 |zero=>
  intro ts f op i b hs ho
  cases ts with
  |nil=>simp[len]
  |cons t ts=>rw[A6]at b;have:=t.size_pos;omega
 |succ n e=>
  intro ts f op i b hs ho
  cases ts with
  |nil=>rw[A6]at b;omega
  |cons t ts=>
   obtain⟨h,ps⟩:=t
   have h1:=hs.node
   have hle:=hs.le
   have j:=MI ps
   have k:=A9 ps
   have l:=hs.kids
   rw[A6,Tf.size]at b hle
   rw[show f+(n+1)=(f+n)+1 by omega,HZ,if_neg (by rw[AM];have:=A9 ts;omega),h1.2.2]
   show(if len v<=i\/len ps<0\/len v<len ps then(-1:Int)else HZ (f+n) v (op+len (Tf.mk h ps::ts)-1+len ps) (i+1))=_
   rw[if_neg Aa]
   have:=e (ps++ts) f op (i+1) (by rw[IG];omega) l ho
   rw[AQ]at this
   rw[AM,show op+(len ts+1)-1+len ps=op+(len ps+len ts) by omega,this]
   congr 1;omega
theorem SP{v:Fl}{i:Int}{t:Tf}{b:List Tf}(h:BW v i (t::b)):GZ v i=i+t.size:=by
 have hs:=h.head
 have hle:=hs.le
 have:=h.1
 have e:A6 [t]=t.size:=by simp[A6]
 obtain⟨f,j⟩: ∃f,v.length+2=(f+1)+t.size:=⟨v.length+1-t.size,by unfold len at hle;omega⟩
 unfold GZ
 rw[j]
 have:=AZ0 t.size [t] (f+1) 0 i e hs Aa
 rw[show(0:Int)+len [t]=1 from rfl]at this
 rw[this,fU Aa]
mutual
def Tf.zm:Tf->Prop
 | .mk t ps=>t.many=0/\HI ps
def HI:List Tf->Prop
 |[]=>True
 |x::l=>x.zm/\HI l
end
theorem fV{a b:List Tf}:HI (a++b)↔HI a/\HI b:=by
 induction a with
 |nil=>simp[HI]
 |cons x a e=>rw[List.cons_append,HI,HI,e,and_assoc]
theorem qR{l:List Tf}:HI l↔ ∀x∈l,x.zm:=by
 induction l with
 |nil=>simp[HI]
 |cons x l b=>rw[HI,b];simp
theorem qS{v:Fl}: ∀(f:Nat) (op i j:Int),HZ f v op i=j->j≠ -1->0<=i->i<=len v->0<=op-> ∃ts,len ts=op/\HI ts/\BW v i ts/\j=i+A6 ts
 |0,op,i,j,h,n,_,_,_=>by rw[HZ]at h;omega
 |f+1,op,i,j,h,n,h0,h1,ho=>by
  rw[HZ]at h
  split at h
  ·refine⟨[],by rw[len_nil];omega,trivial,⟨h0,v.take i.toNat,v.drop i.toNat,by simp[AO],by unfold len at*;rw[List.length_take];omega⟩,by simp[A6];omega⟩
  ·split at h
   ·omega
   ·rename_i y
    have e:i<len v:=by omega
    obtain⟨ts,q,e2,e3,e4⟩:=qS f _ _ j h n Aa Aa Aa
    have s:(at' v i).many.toNat<=ts.length:=by unfold len at q;omega
    have k:len (ts.take (at' v i).many.toNat)=(at' v i).many:=by unfold len;rw[List.length_take];omega
    refine⟨.mk { at' v i with many:=0} (ts.take (at' v i).many.toNat)::ts.drop (at' v i).many.toNat,?_,?_,?_,?_⟩
    ·rw[AM];unfold len at*;rw[List.length_drop];omega
    ·have:=List.take_append_drop (at' v i).many.toNat ts
     rw[<-this,fV]at e2
     rw[HI,Tf.zm]
     exact⟨⟨rfl,e2.1⟩,e2.2⟩
    ·obtain⟨_,pre,post,l,hp⟩:=e3
     refine⟨h0,v.take i.toNat,post,?_,by unfold len at*;rw[List.length_take];omega⟩
     rw[AO,Tf.flat,k,List.cons_append,<-JJ,List.take_append_drop]
     have b:pre=v.take (i.toNat+1):=by
      have:pre=v.take pre.length:=by rw[l];simp
      rw[this];congr 1;unfold len at hp;omega
     have hi:i.toNat<v.length:=by unfold len at e;omega
     have w:v.take (i.toNat+1)=v.take i.toNat++[at' v i]:=by
      rw[List.take_add_one,List.getElem?_eq_getElem hi];simp[at',List.getD_eq_getElem?_getD,hi]
     rw[b,w]at l
     calc v=(v.take i.toNat++[at' v i])++(AO ts++post):=l
      _=_:=by simp
    ·rw[e4,A6,Tf.size]
     have:=IG (ts.take (at' v i).many.toNat) (ts.drop (at' v i).many.toNat)
     rw[List.take_append_drop]at this
     omega
theorem qT{v:Fl}(h:GZ v 0=len v)(i:v≠[]): ∃x:Tf,x.zm/\v=x.flat:=by
 have hl:=A9 v
 obtain⟨ts,b,e2,e3,e4⟩:=qS _ _ _ _ h Aa (Int.le_refl _) hl Aa
 cases ts with
 |nil=>rw[len_nil]at b;omega
 |cons t ts=>
  cases ts with
  |cons u us=>rw[AM,AM]at b;have:=A9 us;omega
  |nil=>
   refine⟨t,e2.1,?_⟩
   obtain⟨_,pre,post,e,hp⟩:=e3
   have h1:pre=[]:=List.eq_nil_of_length_eq_zero (by unfold len at hp;omega)
   have j:post=[]:=by
    refine List.eq_nil_of_length_eq_zero ?_
    have:=congrArg List.length e
    simp only[List.length_append,SN]at this
    unfold len at e4;omega
   rw[e,h1,j];simp[AO]
theorem AZ1(x:Tf):GZ x.flat 0=len x.flat:=by
 rw[SP (BW.top x)]
 show 0+(x.size:Int)=(x.flat.length:Nat)
 rw[Tf.DC];omega
theorem Tf.fW (n:A0)(x:Tf):(x.named n).ps=x.ps:=by cases x;rfl
theorem Tf.E7 (n:A0)(x:Tf):(x.named n).size=x.size:=by cases x;rfl
theorem Tf.AZ2 (x:Tf):x.named x.t.name=x:=by cases x;rfl
theorem Tf.AZ3 (n m:A0)(x:Tf):(x.named n).named m=x.named m:=by cases x;rfl
theorem I0{u:Tf}: ∀ {l:List Tf},u∈l->u.size<=A6 l
 |t::l,h=>by
  rw[A6]
  rcases List.mem_cons.1 h with rfl|h
  ·omega
  ·have:=I0 h;omega
theorem AZ4: ∀(n:Nat) (a b:List Tf),A6 a=n->HI a->HI b->len a=len b->AO a=AO b->a=b:=by
 intro n
 induction n with
 |zero=>
  intro a b e _ _ hl _
  cases a with
  |nil=>cases b with
   |nil=>rfl
   |cons y b=>rw[len_nil,AM]at hl;have:=A9 b;omega
  |cons x a=>rw[A6]at e;have:=x.size_pos;omega
 |succ n q=>
  intro a b e h i hl he
  cases a with
  |nil=>rw[A6]at e;omega
  |cons x a=>
   cases b with
   |nil=>rw[len_nil,AM]at hl;have:=A9 a;omega
   |cons y b=>
    obtain⟨t,ps⟩:=x
    obtain⟨u,j⟩:=y
    rw[HI,Tf.zm]at h i
    rw[AO,AO,Tf.flat,Tf.flat,List.cons_append,List.cons_append,<-JJ,<-JJ]at he
    obtain⟨h1,w⟩:=List.cons.inj he
    rw[A6,Tf.size]at e
    rw[AM,AM]at hl
    have hm:len ps=len j:=congrArg Tm.many h1
    have l:t=u:=by
     obtain⟨o,m,nm,s,k,c⟩:=t
     obtain⟨E,z,A,s',k',F⟩:=u
     have G:m=0:=h.1.1
     have e2:z=0:=i.1.1
     simp only[Tm.mk.injEq]at h1 ⊢
     exact⟨h1.1,Aa,h1.2.2.1,h1.2.2.2.1,h1.2.2.2.2.1,h1.2.2.2.2.2⟩
    have B:=q (ps++a) (j++b) (by rw[IG];omega) (fV.2 ⟨h.1.2,h.2⟩) (fV.2 ⟨i.1.2,i.2⟩) (by rw[AQ,AQ];omega) w
    have hlen:ps.length=j.length:=by unfold len at hm;omega
    obtain⟨C,D⟩:=List.append_inj B hlen
    rw[l,C,D]
theorem Tf.AZ5 {x y:Tf}(hx:x.zm)(b:y.zm)(h:x.flat=y.flat):x=y:=by
 have:=AZ4 _ [x] [y] U ⟨hx,trivial⟩ ⟨b,trivial⟩ U (by show x.flat++[]=y.flat++[];rw[h])
 exact(List.cons.inj this).1
def EG(t:Tm):Bool:=decide (16<=t.op)&&decide (t.op<=19)
def F0(t:Tm):Tm:=⟨t.op,t.many,t.name,[],0,C0⟩
def KI(n:Nd):Nd:= { n with name:=[]}
def GA(n:Nd):Bool:=
 if n.kind=0\/n.kind=1\/n.kind=2 then decide (KI n=⟨n.kind,0,[],[],false,0⟩)
 else if n.kind=3 then JB (KI n)
 else if n.kind=4 then DO n.s&&decide (KI n=⟨n.kind,0,[],n.s,false,0⟩)
 else if n.kind=5\/n.kind=6 then decide (0<=n.many)&&decide (KI n=⟨n.kind,n.many,[],[],false,0⟩)
 else false
def Z3(c:Nd):Bool:=decide (c.kind<5)&&(decide (c.name=[])&&decide (c.many=0)&&GA c)
def CU(t:Tm):Bool:=
 if t.op=0\/t.op=10\/t.op=11\/t.op=14 then decide (t=F0 t)&&decide (t.many=0)
 else if t.op=1 then decide (t= { F0 t with s:=t.s})&&decide (t.many=0)&&DO t.s
 else if t.op=2\/t.op=3 then decide (t= { F0 t with n:=t.n})&&decide (t.many=0)&&decide (0<=t.n)&&decide (t.n<=1000000)
 else if t.op=4\/t.op=17\/t.op=18 then decide (t=F0 t)&&decide (t.many=2)
 else if t.op=5\/t.op=6\/t.op=7\/t.op=19 then decide (t=F0 t)&&decide (t.many=1)
 else if t.op=8\/t.op=9 then decide (t=F0 t)&&decide (0<=t.many)
 else if t.op=12\/t.op=13\/t.op=15 then decide (t= { F0 t with s:=t.s})&&decide (t.many=0)&&SL t.s
 else if t.op=16 then decide (t= { F0 t with s:=t.s,n:=t.n,c:=t.c})&&decide (t.many=0)&&SL t.s&&decide (0<=t.n)&&decide (t.n<=5)&&Z3 t.c
 else false
def JV(t:Tm)(dn:List Tf)(x:Tf):Bool:=
 if(EG x.t != (EG t||t.op==7))||(t.op==4&&dn.isEmpty&&x.t.op==4)then false
 else if(t.op≠8/\x.t.name≠[])\/(t.op=8/\(DO x.t.name=false\/x.t.name∈dn.map (·.t.name)))then false
 else true
def EM(t:Tm):List Tf->List Tf->Bool
 |_,[]=>true
 |dn,x::r=>JV t dn x&&EM t (dn++[x]) r
mutual
def Tf.IX:Tf->Bool
 | .mk t ps=>CU { t with many:=len ps}&&EM t [] ps&&H0 ps
def H0:List Tf->Bool
 |[]=>true
 |x::l=>x.IX&&H0 l
end
theorem AZ6(a b:List Tf):H0 (a++b)=(H0 a&&H0 b):=by
 induction a with
 |nil=>simp[H0]
 |cons x a e=>rw[List.cons_append,H0,H0,e,Bool.and_assoc]
theorem AZ7{l:List Tf}(h:H0 l=true): ∀x∈l,x.IX=true:=by
 induction l with
 |nil=>intro x hx;cases hx
 |cons y l b=>
  rw[H0,Bool.and_eq_true]at h
  intro x hx
  rcases List.mem_cons.1 hx with rfl|hx
  ·exact h.1
  ·exact b h.2 x hx
structure Tf.AR (x:Tf):Prop where
 zm:x.zm
 ok:x.IX=true
theorem Tf.AR.kids {x:Tf}(h:x.AR): ∀y∈x.ps,y.AR:=by
 obtain⟨t,ps⟩:=x
 obtain⟨h1,b⟩:=h
 rw[Tf.zm]at h1
 rw[Tf.IX,Bool.and_eq_true]at b
 exact λ y e=>⟨qR.1 h1.2 y e,AZ7 b.2 y e⟩
theorem qU{t:Tm}: ∀ {r dn:List Tf},EM t dn r=true-> ∀(a:List Tf) (x:Tf) (b:List Tf),r=a++x::b->JV t (dn++a) x=true
 |[],dn,_,a,x,b,e=>by cases a<;>cases e
 |y::r,dn,h,a,x,b,e=>by
  rw[EM,Bool.and_eq_true]at h
  cases a with
  |nil=>obtain⟨rfl,rfl⟩:=List.cons.inj e;rw[List.append_nil];exact h.1
  |cons z a=>
   obtain⟨rfl,e2⟩:=List.cons.inj e
   have:=qU h.2 a x b e2
   rwa [List.append_assoc]at this
structure qV (t:Tm) (dn:List Tf) (x:Tf):Prop where
 c:EG x.t=(EG t||t.op==7)
 p:t.op=4->dn=[]->x.t.op≠4
 n:t.op≠8->x.t.name=[]
 u:t.op=8->DO x.t.name=true
 d:t.op=8->x.t.name ∉ dn.map (·.t.name)
theorem AZ8{t:Tm}{dn:List Tf}{x:Tf}(h:JV t dn x=true):qV t dn x:=by
 unfold JV at h
 split at h
 ·cases h
 ·rename_i h1
  split at h
  ·cases h
  ·rename_i b
   simp only[Bool.or_eq_true,bne_iff_ne,ne_eq,Bool.and_eq_true,beq_iff_eq,not_or,Decidable.not_not,not_and]at h1
   refine⟨?_,λ i e2 e3=>h1.2 ⟨i,by rw[e2];rfl⟩ e3,λ e=>?_,λ e=>?_,λ e hm=>b (.inr ⟨e,.inr hm⟩)⟩
   ·rw[h1.1]
   ·by_cases hn:x.t.name=[]
    ·exact hn
    ·exact absurd (.inl ⟨e,hn⟩) b
   ·cases hu:DO x.t.name with
    |true=>rfl
    |false=>exact absurd (.inr ⟨e,.inl hu⟩) b
theorem Tf.AR.L4 {x:Tf}(h:x.AR)(a:List Tf)(y:Tf)(b:List Tf)(e:x.ps=a++y::b):qV x.t a y:=by
 obtain⟨t,ps⟩:=x
 have i:=h.ok
 rw[Tf.IX,Bool.and_eq_true,Bool.and_eq_true]at i
 have:=qU i.1.2 a y b e
 exact AZ8 this
theorem Tf.AR.plain {x:Tf}(h:x.AR):CU x.node=true:=by
 obtain⟨t,ps⟩:=x
 have b:=h.ok
 rw[Tf.IX,Bool.and_eq_true,Bool.and_eq_true]at b
 exact b.1.1
def AZ9(v:Fl):Prop:= ∃x:Tf,x.zm/\v=x.flat/\x.t.name=[]/\x.IX=true
open Classical in
noncomputable def L5 (v:Fl):Bool:=decide (AZ9 v)
noncomputable def fX (v:Fl):Bool:=L5 v&& !EG (at' v 0)
def OT(t:Tm):Bool:=decide (len t.s<=100)&&decide (len t.name<=100)&&decide (len t.c.s<=100)
noncomputable def OU (v:Fl) (m:Int):Bool:=decide (len v<=m)&&v.all OT&&fX v
open Classical in
theorem Aa0{x:Tf}(b:x.zm)(i:x.t.name=[]):L5 x.flat=x.IX:=by
 unfold L5
 cases h:x.IX with
 |true=>exact decide_eq_true ⟨x,b,rfl,i,h⟩
 |false=>
  refine decide_eq_false ?_
  rintro⟨y,h1,j,k,e⟩
  rw[<-Tf.AZ5 b h1 j,h]at e;cases e
open Classical in
theorem qW{v:Fl}(h:v=[]\/(at' v 0).name≠[]\/GZ v 0≠len v):L5 v=false:=by
 unfold L5
 refine decide_eq_false ?_
 rintro⟨x,h1,rfl,b,e⟩
 rcases h with h|h|h
 ·exact x.OO h
 ·rw[x.DA]at h;exact h b
 ·exact h (AZ1 x)
theorem Aa1{v:Fl}{m:Int}(h:OU v m=true): ∃x:Tf,x.AR/\v=x.flat/\x.t.name=[]/\EG x.t=false/\len v<=m/\ ∀t∈v,len t.s<=100/\len t.name<=100/\len t.c.s<=100:=by
 unfold OU fX L5 at h
 simp only[Bool.and_eq_true,decide_eq_true_eq,Bool.not_eq_true',List.all_eq_true]at h
 obtain⟨⟨h1,e⟩,⟨x,i,rfl,j,k⟩,b⟩:=h
 refine⟨x,⟨i,k⟩,rfl,j,?_,h1,λ t l=>?_⟩
 ·rw[x.DA]at b;exact b
 ·have:=e t l
  unfold OT at this
  simp only[Bool.and_eq_true,decide_eq_true_eq]at this
  exact⟨this.1.1,this.1.2,this.2⟩
def BJ2(c:Nd):A0:=if c.kind=0 then V4 else if c.kind=1 then V3 else if c.kind=2 then V2 else if c.kind=3 then IC c else NC c.s
end Go.Eng
namespace Go.Proofs.YtnoegalemkbbbaaGreatDoor
open Go.Proofs.Tryz
open Go.Eng
abbrev D3(c:Nd):XV:=.ag [I c.kind,I c.many,.v (str c.name),.v (str c.s),.v (.bool c.neg),I c.e]
theorem Aa2(c:Nd)(w:World)(E:len c.s<=1099511627776):Calls prog 87 [EV c].toArray w λ e w'=>e= .returned (.bool (GA c))/\Ext w w':=by
 refine AH AF func87 U ntmps87 [] [] [D3 c] U (BD w) A4 (λ B l=>BP 1 U U U λ q=>CP 0 (λ s=> ∃b:Bool,(b=true↔(c.kind=0\/c.kind=1\/c.kind=2))/\s=⟨[],[(1,.box q [I c.kind,I c.many,.v (str []),.v (str c.s),.v (.bool c.neg),I c.e] 46)],[Z 1 (.bx 1 q 0),Z 5 (I c.kind),Z 6 (.v (.bool b))]⟩) U U (λ h1=>?_) (λ h1=>?_) ?_) U
 ·exact AW _ U U ⟨_,by simp only[zb]at h1 ⊢;omega,rfl⟩
 ·exact A1 U (λ z=>AW _ U U ⟨_,by simp only[zb]at z ⊢;omega,rfl⟩) (λ z=>AW _ U U ⟨_,by simp only[zb]at h1 z ⊢;omega,rfl⟩)
 rintro _ ⟨b,j,rfl⟩
 refine A1 U (λ A=>?_) (λ A=>?_)
 ·refine AU (.v (.bool (decide (KI c=⟨c.kind,0,[],[],false,0⟩)))) U U (λ w M h=>PV.bin (A8 (v:=D3 (KI c)) U) (A8 (v:=D3 ⟨c.kind,0,[],[],false,0⟩) U) (λ _ w _=>RT _ _ _ _ w)) <|A2 l U U U λ w M h=>⟨?_,h.st.low⟩
  unfold GA;rw[if_pos (j.1 A)];rfl
 have y:=λ e=>(by rw[A]at j;simp at j;omega: ¬(c.kind=0\/c.kind=1\/c.kind=2)) e
 refine A1 U (λ k=>?_) (λ k=>?_)<;>simp only[zb]at k
 ·refine AJ U call140 U U (λ _ w M h=>AB9 (KI c) w (by show len c.s<=_;omega)) U <|A2 l U U U λ w M h=>⟨?_,h.st.low⟩
  unfold GA;rw[if_neg y,if_pos k];rfl
 refine A1 U (λ n=>?_) (λ n=>?_)<;>simp only[zb]at n
 ·refine AJ U call125 U U (λ _ w M h=>XJ c.s w Aa) U <|AU (.v (.bool (decide (KI c=⟨c.kind,0,[],c.s,false,0⟩)))) U U (λ w M h=>PV.bin (A8 (v:=D3 (KI c)) U) (A8 (v:=D3 ⟨c.kind,0,[],c.s,false,0⟩) U) (λ _ w _=>RT _ _ _ _ w)) <|A2 l U U U λ w M h=>⟨?_,h.st.low⟩
  unfold GA;rw[if_neg y,if_neg k,if_pos n];rfl
 refine CP 0 (λ s=> ∃b:Bool,(b=true↔(c.kind=5\/c.kind=6))/\s=⟨[],[(1,.box q [I c.kind,I c.many,.v (str []),.v (str c.s),.v (.bool c.neg),I c.e] 46)],[Z 1 (.bx 1 q 0),Z 33 (.v (.bool b))]⟩) U U (λ h1=>?_) (λ h1=>?_) ?_
 ·exact AW _ U U ⟨_,by simp only[zb]at h1 ⊢;omega,rfl⟩
 ·exact AW _ U U ⟨_,by simp only[zb]at h1 ⊢;omega,rfl⟩
 rintro _ ⟨F,i,rfl⟩
 refine A1 U (λ C=>?_) (λ C=>?_)
 ·refine AU (.v (.bool (decide (KI c=⟨c.kind,c.many,[],[],false,0⟩)))) U U (λ w M h=>PV.bin (A8 (v:=D3 (KI c)) U) (A8 (v:=D3 ⟨c.kind,c.many,[],[],false,0⟩) U) (λ _ w _=>RT _ _ _ _ w)) <|A2 l U U U λ w M h=>⟨?_,h.st.low⟩
  unfold GA;rw[if_neg y,if_neg k,if_neg n,if_pos (i.1 C)];rfl
 ·have D: ¬(c.kind=5\/c.kind=6):=λ e=>by have:=i.2 e;rw[C]at this;cases this
  refine A2 l U U U λ w M h=>⟨?_,h.st.low⟩
  unfold GA;rw[if_neg y,if_neg k,if_neg n,if_neg D];rfl
theorem Aa3(c:Nd)(v:Value)(M:Mem)(w:World)(k:Sat w M)(l:Sl M 6 [c].length v ([c].flatMap Nd.cells)):
    Calls prog 86 [v,i64 0].toArray w λ e w'=>e= .returned (i64 (if c.many=0 then 1 else-1))/\Ext w w':=by
 have hl:len [c]=1:=rfl
 refine AH (Hr:=[]) AF func86 U ntmps86 [(0,kn v 6 [c] Nd.cells)] [] [.sl 0 v,I 0] U (Aj k) (fc 0 l Nd.AV A4) (λ B h=>B5 (σ:=Int×Int) (λ(o,i)=>⟨[(0,kn v 6 [c] Nd.cells)],[],[Z 0 (.sl 0 v),Z 1 (I i),Z 5 (I o)]⟩) (λ(o,i)=>(o=1/\i=0)\/(o=c.many/\i=1/\0<=c.many/\c.many<=1)) (λ(o,i)=>(1-i).toNat) (1,0) U U (.inl ⟨rfl,rfl⟩) ?_) U
 rintro⟨o,i⟩ n
 refine A1 U (λ h1=>?_) (λ h1=>?_)<;>simp only[zb]at h1
 ·have q:i=0->(at' [c] i).many=c.many:=λ e=>by subst e;rfl
  refine A1 U (λ j=>?_) (λ j=>?_)<;>simp only[zb]at j
  ·refine A2 h U U U λ w M b=>⟨?_,b.st.low⟩
   rw[if_neg (by have:=q;omega)];rfl
  ·have hi:i=0:=by omega
   subst hi
   have s:(at' [c] 0).many=c.many:=rfl
   exact AX (c.many,1) U (by dsimp only;rw[show c.many=o-1+(at' [c] 0).many by omega];rfl) (.inr ⟨rfl,rfl,Aa,Aa⟩) Ag
 ·have hm:c.many=0/\i=1:=by omega
  refine A2 h U U U λ w M b=>⟨?_,b.st.low⟩
  rw[if_pos hm.1,hm.2];rfl
theorem Aa4(c:Nd)(v:Value)(M:Mem)(w:World)(b:Sat w M)(h:Sl M 6 [c].length v ([c].flatMap Nd.cells))(h0:c.many=0):
   Calls prog 88 [v,i64 0].toArray w λ e w'=>e= .returned (.bool true)/\Ext w w':=by
 have hl:len [c]=1:=rfl
 have hm:(at' [c] 0).many=0:=h0
 refine AH (Hr:=[]) AF func88 U ntmps88 [(0,kn v 6 [c] Nd.cells)] [] [.sl 0 v,I 0] U (Aj b) (fc 0 h Nd.AV A4) (λ B i=>B5 (σ:=Unit) (λ _=>⟨[(0,kn v 6 [c] Nd.cells)],[],[Z 0 (.sl 0 v),Z 1 (I 0),Z 5 (I 1),Z 6 (I 0)]⟩) (λ _=>True) (λ _=>0) () U U trivial ?_) U
 rintro⟨⟩ _
 refine A1 U (λ h1=>?_) (λ h1=>?_)<;>simp only[zb]at h1
 ·omega
 ·exact A2 i U U U λ w M j=>⟨rfl,j.st.low⟩
theorem qX(c:Nd)(v:Value)(M:Mem)(w:World)(q:Sat w M)(y:Sl M 6 [c].length v ([c].flatMap Nd.cells))(z:len c.s<=1099511627776):
    Calls prog 37 [v].toArray w λ e w'=>e= .returned (.bool (decide (c.name=[])&&decide (c.many=0)&&GA c))/\Ext w w':=by
 have hl:len [c]=1:=rfl
 have D:(at' [c] 0).name=c.name:=rfl
 refine AH (Hr:=[]) AF func37 U ntmps37 [(0,kn v 6 [c] Nd.cells)] [] [.sl 0 v] U (Aj q) (fc 0 y Nd.AV A4) (λ B h=>AJ U call86 U U (λ _ w M b=>Aa3 c v M w b.st.sat (b.sl 0 U)) U ?_) U
 refine A1 U (λ h1=>?_) (λ h1=>?_)<;>simp only[zb]at h1
 ·refine A2 h U U U λ w M b=>⟨?_,b.st.low⟩
  have:(decide (c.name=[])&&decide (c.many=0)&&GA c)=false:=by
   rcases h1 with(h1|h1)|h1
   ·omega
   ·have h1: ¬c.name=[]:=h1
    rw[decide_eq_false h1];rfl
   ·by_cases hm:c.many=0
    ·rw[if_pos hm]at h1;omega
    ·rw[decide_eq_false hm,Bool.and_false];rfl
  rw[this];rfl
 have hm:c.many=0:=Classical.byContradiction λ e=>by rw[if_neg e]at h1;omega
 have j:c.name=[]:=h1.1.2
 refine B5 (σ:=Int) (λ i=>⟨[(0,kn v 6 [c] Nd.cells)],[],[Z 0 (.sl 0 v),Z 3 (I i)]⟩) (λ i=>0<=i/\i<=1/\(i=1->GA c=true)) (λ i=>(1-i).toNat) 0 rfl rfl ⟨Aa,Aa,λ e=>by cases e⟩ ?_
 rintro i ⟨A,C,k⟩
 refine A1 U (λ n=>?_) (λ n=>?_)<;>simp only[zb]at n
 ·have hi:i=0:=by omega
  subst hi
  refine AJ U call87 U U (λ _ w M b=>Aa2 c w z) U <|AJ U call88 U U (λ _ w M b=>Aa4 c v M w b.st.sat (b.sl 0 U) hm) U <|A1 U (λ l=>?_) (λ l=>?_)
  ·have hp:GA c=false:=by simpa using l
   refine A2 h U U U λ w M b=>⟨?_,b.st.low⟩
   rw[hp,Bool.and_false];rfl
  ·have hp:GA c=true:=by simpa using l
   exact AX 1 U U ⟨Aa,Aa,λ _=>hp⟩ Ag
 ·have hp:=k Aa
  refine A2 h U U U λ w M b=>⟨?_,b.st.low⟩
  rw[hp,decide_eq_true hm,decide_eq_true j];rfl
end Go.Proofs.YtnoegalemkbbbaaGreatDoor
namespace Go.Eng
def OV(n:Nd):Bool:=
 if n.kind≠3\/n.many≠0\/n.name≠[]\/100<len n.s\/n.e< -1000\/1000<n.e\/1000<len n.s+n.e\/JA n.s=false then false
 else if n.s=[]then !n.neg&&decide (n.e=0)else Lib.trimB n.s 48==n.s
def JW(n:Nd):Bool:=
 if n.kind=0\/n.kind=1\/n.kind=2 then decide ((⟨n.kind,n.many,[],n.s,n.neg,n.e⟩:Nd)=⟨n.kind,0,[],[],false,0⟩)
 else if n.kind=3 then OV ⟨n.kind,n.many,[],n.s,n.neg,n.e⟩
 else if n.kind=4 then Lib.validD n.s&&decide ((⟨n.kind,n.many,[],n.s,n.neg,n.e⟩:Nd)=⟨n.kind,0,[],n.s,false,0⟩)
 else if n.kind=5\/n.kind=6 then decide (0<=n.many)&&decide ((⟨n.kind,n.many,[],n.s,n.neg,n.e⟩:Nd)=⟨n.kind,n.many,[],[],false,0⟩)
 else false
def GN(n:Nd):Bool:=JW n&&decide (n.name=[])&&decide (n.many<=0)
def NK(n:Int)(c:Nd):Bool:=decide (0<=n)&&decide (n<=5)&&(decide (c.kind<5)&&GN c)
structure CV where
 kind:Int
 left:Int
 first:Bool
 last:A0
deriving Inhabited
def CV.cells (x:CV):List Value:=[i64 x.kind,i64 x.left,.bool x.first,str x.last]
theorem CV.AV (x:CV):x.cells.length=4:=rfl
theorem CV.cells_one (x:CV): ∀u∈x.cells,u.oneCell'=true:=by intro u hu;simp[CV.cells]at hu;rcases hu with rfl|rfl|rfl|rfl<;>rfl
end Go.Eng
namespace Go.Proofs.YtnoegalemkbbbaaGreatDoor
open Go.Proofs.Tryz
open Go.Eng
theorem qY(s:A0)(w:World)(hg:Gl w)(b:len s<=9223372036854775807):Calls prog 263 [str s].toArray w λ e w'=>e= .returned (.bool (Lib.validD s))/\Ext w w':=
 Tryz.utf8_ValidString ⟨⟨s⟩⟩ w (by unfold len at b;show s.length<=_;omega) hg.u8
theorem Aa5(s:A0)(w:World)(b:len s<=9223372036854775807):Calls prog 349 [str s,str [48]].toArray w λ e w'=>e= .returned (str (Lib.trimB s 48))/\Ext w w':=
 (Tryz.strings_Trim_one ⟨⟨s⟩⟩ 48 Ab w (by unfold len at b;show s.length<=_;omega)).mono λ e w' ⟨he,hw⟩=>⟨he,by rcases hw with rfl|rfl;exact Ext.refl _;exact Ext.drew _⟩
theorem Aa6(c:Nd)(w:World)(hg:Gl w)(q:len c.s<=1099511627776):
   Calls prog 336 [EV c].toArray w λ e w'=>e= .returned (.bool (OV c))/\Ext w w':=by
 have n:=A9 c.s
 refine AH AF func336 U ntmps336 [] [] [D3 c] U (BD w) A4 (λ B l=>BP 1 U U U λ y=>AJ U call305 U U (λ _ w M b=>VH (qN (len c.s) c.e w Aa)) U <|AJ U call302 U U (λ _ w M b=>qM c.s w (hg.low b.st.low) Aa) U <|A1 U (λ j=>?_) (λ j=>?_)) U
 ·exact A2 l U U U λ w M b=>⟨by unfold OV;rw[if_pos (by simpa[or_assoc]using j)];rfl,b.st.low⟩
 have k: ¬(c.kind≠3\/c.many≠0\/c.name≠[]\/100<len c.s\/c.e< -1000\/1000<c.e\/1000<len c.s+c.e\/JA c.s=false):=by
  intro h;have:=j;rw[<-Bool.not_eq_true]at this;exact this (by simpa[or_assoc]using h)
 refine A1 U (λ i=>?_) (λ i=>?_)<;>simp only[zb]at i
 ·exact A2 l U U U λ w M b=>⟨by unfold OV;rw[if_neg k,if_pos i];rfl,b.st.low⟩
 exact G4 U BM Ac <|HB U call349 U U (λ _ w M b=>Aa5 c.s w Aa) U <|G5 U <|A2 l U U U λ w M b=>⟨by unfold OV;rw[if_neg k,if_neg i];rfl,b.st.low⟩
theorem Aa7(c:Nd)(w:World)(hg:Gl w)(E:len c.s<=1099511627776):
    Calls prog 309 [EV c].toArray w λ e w'=>e= .returned (.bool (JW c))/\Ext w w':=by
 refine AH AF func309 U ntmps309 [] [] [D3 c] U (BD w) A4 (λ B l=>BP 1 U U U λ q=>CP 0 (λ s=> ∃b:Bool,(b=true↔(c.kind=0\/c.kind=1\/c.kind=2))/\s=⟨[],[(1,.box q [I c.kind,I c.many,.v (str []),.v (str c.s),.v (.bool c.neg),I c.e] 46)],[Z 1 (.bx 1 q 0),Z 5 (I c.kind),Z 6 (.v (.bool b))]⟩) U U (λ h1=>?_) (λ h1=>?_) ?_) U
 ·exact AW _ U U ⟨_,by simp only[zb]at h1 ⊢;omega,rfl⟩
 ·exact A1 U (λ z=>AW _ U U ⟨_,by simp only[zb]at z ⊢;omega,rfl⟩) (λ z=>AW _ U U ⟨_,by simp only[zb]at h1 z ⊢;omega,rfl⟩)
 rintro _ ⟨b,j,rfl⟩
 refine A1 U (λ A=>?_) (λ A=>?_)
 ·refine AU (.v (.bool (decide ((⟨c.kind,c.many,[],c.s,c.neg,c.e⟩:Nd)=⟨c.kind,0,[],[],false,0⟩)))) U U (λ w M h=>PV.bin (A8 (v:=D3 ⟨c.kind,c.many,[],c.s,c.neg,c.e⟩) U) (A8 (v:=D3 ⟨c.kind,0,[],[],false,0⟩) U) (λ _ w _=>RT _ _ _ _ w)) <|A2 l U U U λ w M h=>⟨?_,h.st.low⟩
  unfold JW;rw[if_pos (j.1 A)];rfl
 have y:=λ e=>(by rw[A]at j;simp at j;omega: ¬(c.kind=0\/c.kind=1\/c.kind=2)) e
 refine A1 U (λ k=>?_) (λ k=>?_)<;>simp only[zb]at k
 ·refine AJ U call336 U U (λ _ w M h=>Aa6 ⟨c.kind,c.many,[],c.s,c.neg,c.e⟩ w (hg.low h.st.low) E) U <|A2 l U U U λ w M h=>⟨?_,h.st.low⟩
  unfold JW;rw[if_neg y,if_pos k];rfl
 refine A1 U (λ n=>?_) (λ n=>?_)<;>simp only[zb]at n
 ·refine AJ U call263 U U (λ _ w M h=>qY c.s w (hg.low h.st.low) Aa) U <|AU (.v (.bool (decide ((⟨c.kind,c.many,[],c.s,c.neg,c.e⟩:Nd)=⟨c.kind,0,[],c.s,false,0⟩)))) U U (λ w M h=>PV.bin (A8 (v:=D3 ⟨c.kind,c.many,[],c.s,c.neg,c.e⟩) U) (A8 (v:=D3 ⟨c.kind,0,[],c.s,false,0⟩) U) (λ _ w _=>RT _ _ _ _ w)) <|A2 l U U U λ w M h=>⟨?_,h.st.low⟩
  unfold JW;rw[if_neg y,if_neg k,if_pos n];rfl
 refine CP 0 (λ s=> ∃b:Bool,(b=true↔(c.kind=5\/c.kind=6))/\s=⟨[],[(1,.box q [I c.kind,I c.many,.v (str []),.v (str c.s),.v (.bool c.neg),I c.e] 46)],[Z 1 (.bx 1 q 0),Z 33 (.v (.bool b))]⟩) U U (λ h1=>?_) (λ h1=>?_) ?_
 ·exact AW _ U U ⟨_,by simp only[zb]at h1 ⊢;omega,rfl⟩
 ·exact AW _ U U ⟨_,by simp only[zb]at h1 ⊢;omega,rfl⟩
 rintro _ ⟨F,i,rfl⟩
 refine A1 U (λ C=>?_) (λ C=>?_)
 ·refine AU (.v (.bool (decide ((⟨c.kind,c.many,[],c.s,c.neg,c.e⟩:Nd)=⟨c.kind,c.many,[],[],false,0⟩)))) U U (λ w M h=>PV.bin (A8 (v:=D3 ⟨c.kind,c.many,[],c.s,c.neg,c.e⟩) U) (A8 (v:=D3 ⟨c.kind,c.many,[],[],false,0⟩) U) (λ _ w _=>RT _ _ _ _ w)) <|A2 l U U U λ w M h=>⟨?_,h.st.low⟩
  unfold JW;rw[if_neg y,if_neg k,if_neg n,if_pos (i.1 C)];rfl
 ·have D: ¬(c.kind=5\/c.kind=6):=λ e=>by have:=i.2 e;rw[C]at this;cases this
  refine A2 l U U U λ w M h=>⟨?_,h.st.low⟩
  unfold JW;rw[if_neg y,if_neg k,if_neg n,if_neg D];rfl
theorem Aa8(x:CV)(w:World):Calls prog 311 [.agg x.cells.toArray].toArray w λ e w'=>e= .returned (.bool (decide (0<x.left)))/\Ext w w':=AH AF func311 U ntmps311 [] [] [.ag [I x.kind,I x.left,.v (.bool x.first),.v (str x.last)]] U (BD w) A4 (λ B b=>BP 1 U U U λ i=>A2 b U U U λ w M h=>⟨rfl,h.st.low⟩) U
theorem Aa9(v:Value)(l:List CV)(w:World)(M:Mem)(s:Sat w M)(hl:Sl M 4 l.length v (l.flatMap CV.cells))(A:len l<=1099511627776):
    Calls prog 337 [v,.func (.func 311) #[] #[]].toArray w λ e w'=>(∃k:Int,e= .returned (i64 k)/\(0<=k↔l.any (λ x=>decide (0<x.left))=true))/\Ext w w':=by
 have y:=A9 l
 refine AH (Hr:=[]) AF func337 U ntmps337 [(0,kn v 4 l CV.cells)] [] [.sl 0 v,.v (.func (.func 311) #[] #[])] U (Aj s) (fc 0 hl CV.AV A4) (λ B q=>B5 (σ:=Int) (λ k=>⟨[(0,kn v 4 l CV.cells)],[],[Z 0 (.sl 0 v),Z 1 (.v (.func (.func 311) #[] #[])),Z 7 (I (len l)),Z 8 (I k)]⟩) (λ k=>0<=k/\k<=len l/\ ∀x∈Eng.sub l 0 k,¬0<x.left) (λ k=>(len l-k).toNat) 0 rfl rfl ⟨Aa,Aa,λ x hx=>by cases hx⟩ ?_) U
 intro k ⟨h0,h1,i⟩
 refine A1 U (λ b=>?_) (λ b=>?_)<;>simp only[zb]at b
 ·refine AS [] (λ _:Unit=>.v (.bool (decide (0<(at' l k).left)))) [] (λ _=>[]) (Fg:=λ _=>[]) (pu:=λ _=>True) U U call311 U U (λ w M hS hF=>(Aa8 (at' l k) w).mono λ e w' ⟨he,hx⟩=>⟨(),M,he,trivial,Mem.le.refl _,hS.ext hx,A4⟩) λ _ _=>?_
  refine A1 U (λ j=>?_) (λ j=>?_)<;>simp only[zb]at j
  ·exact A2 q U U U λ w M n=>⟨⟨k,rfl,λ _=>List.any_eq_true.2 ⟨at' l k,at_mem h0 b,by simpa using j⟩,λ _=>h0⟩,n.st.low⟩
  ·exact AX (k+1) U U ⟨Aa,Aa,λ x hx=>by
    rw[FT h0 b]at hx
    rcases List.mem_append.1 hx with hx|hx
    ·exact i x hx
    ·rw[List.mem_singleton.1 hx];omega⟩ Aa
 ·rw[G7 Aa]at i
  exact A2 q U U U λ w M n=>⟨⟨-1,rfl,λ h=>by omega,λ h=>by
   obtain⟨x,hx,z⟩:=List.any_eq_true.1 h
   exact absurd (by simpa using z) (i x hx)⟩,n.st.low⟩
end Go.Proofs.YtnoegalemkbbbaaGreatDoor
namespace Go.Eng
open Go.RowKit
theorem Ab0{P:Program}{ops:Array Oper}{Q:Exit->Act->List Frame->World->Prop}{cs:List Frame}(s: ¬LetsOut (λ e a w=>Q e a cs w))(l:List Oper):
  ∀(k:Nat),(∀j,l[j]? =ops[k+j]?)-> ∀a w,wpList P ops (λ e a w=>Q e a cs w) l a w->wpOpsS P ops Q (List.range' k l.length) a cs w:=by
 induction l with
 |nil=>intro k _ a w h;exact h
 |cons o l y=>
  intro k q a w h
  have h0:ops[k]? =some o:=by simpa using(q 0).symm
  have b:=y (k+1) (λ j=>by have:=q (j+1);simpa[Nat.add_assoc,Nat.add_comm 1 j]using this)
  simp only[List.length_cons,List.range'_succ,wpOpsS,h0]
  unfold wpList at h
  by_cases hw:Region.wanted o (yielded ops a.tmps)=true
  ·rw[if_pos hw]at h ⊢
   have h1:=(h.resolve_right λ n=>s n.2)
   have i:=Oper.wp_mono (λ a' w' n=>b a' w' n) h1
   unfold Oper.wp at i
   split
   ·rename_i w' he;rw[he]at i;exact i.elim
   ·exact i
  ·rw[if_neg hw]at h ⊢
   exact b _ _ h
theorem Ab1{P:Program}{Q:Exit->Act->List Frame->World->Prop}{cs cs':List Frame}{id:Nat}{b:Oper}{l:List Oper}{a:Act}{w:World}{v:Value}(hg:b.guard=none)(i:(execOp a.eval b).run P w= .ok .recover w)
  (k:recoverD cs=some (v,cs')\/(recoverD cs=none/\v= .nilIface/\cs'=cs)) (q: ¬LetsOut (λ e a w=>Q e a cs' w)) (h:wpList P (b::l).toArray (λ e a w=>Q e a cs' w) l (a.put b.dst v) w):
  (Code.region id (b::l).toArray false).wpS P Q a cs w:=by
 refine wpS_region ?_
 have hw:Region.wanted b (yielded (b::l).toArray a.tmps)=true:=by unfold Region.wanted;rw[hg]
 have h1:=Ab0 (ops:=(b::l).toArray) q l 1 (λ j=>by simp[Nat.add_comm 1 j]) _ _ h
 rw[show List.range (b::l).toArray.size=0::List.range' 1 l.length from by simp[List.range_eq_range',List.range'_succ]]
 unfold wpOpsS
 rw[show(b::l).toArray[0]? =some b from by simp]
 dsimp only
 rw[if_pos hw,i]
 dsimp only
 rcases k with n|⟨n,rfl,rfl⟩
 ·rw[n];exact h1
 ·rw[n];exact h1
section
variable {P:Program} {C:World->Prop} {L:Env} {W:Bool} {d:Option Tmp} {ty:TypeId} {ps:String} {af:Array Edge} {gd:Option (Nat×Bool)}
theorem PV.Ab2 {b t:TypeId}{x:Operand}{v:Value}{fs:Array Field}(hx:AB L W x (.iface t v))(e:P.underlying t=some (.struct fs)):PV P C L W ⟨d,.typeAssert x b t true,ty,ps,af,gd⟩ (.tuple #[v,.bool true]):=
 .un (f:=λ u=>Instr.typeAssert u b t true) (λ _=>rfl) hx λ _ w _=>by
  simp only[Instr.typeAssert,Sem.run_bind,run_underlying e,Result.andThen_ok]
  simp[Sem.run_pure]
theorem PV.Ab3 {b t:TypeId}{x:Operand}{z:Value}{fs:Array Field}(hx:AB L W x .nilIface)(e:P.underlying t=some (.struct fs))(h: ∀w,(zeroValue t).run P w= .ok z w):PV P C L W ⟨d,.typeAssert x b t true,ty,ps,af,gd⟩ (.tuple #[z,.bool false]):=
 .un (f:=λ u=>Instr.typeAssert u b t true) (λ _=>rfl) hx λ _ w _=>by
  simp only[Instr.typeAssert,Sem.run_bind,run_underlying e,Result.andThen_ok]
  simp[Sem.run_bind,Sem.run_pure,h]
end
def HJ:FrameMode->Value×FrameMode
 | .panicking ({ v,recovered:=false,goexit:=false}::older)=>(v,.panicking ({ v,recovered:=true}::older))
 |u=>(.nilIface,u)
theorem Ab4(c:Frame)(cs:List Frame):recoverD (c::cs)=some ((HJ c.mode).1,{ c with mode:=(HJ c.mode).2}::cs)\/(recoverD (c::cs)=none/\(HJ c.mode).1= .nilIface/\ { c with mode:=(HJ c.mode).2}::cs=c::cs):=by
 obtain⟨_,_,_,_,m,_,_⟩:=c
 cases m with
 |panicking e=>
  cases e with
  |nil=>exact .inr ⟨rfl,rfl,rfl⟩
  |cons p b=>
   obtain⟨v,r,g⟩:=p
   cases r<;>cases g<;>first|exact .inl rfl|exact .inr ⟨rfl,rfl,rfl⟩
 |_=>exact .inr ⟨rfl,rfl,rfl⟩
theorem Ab5{P:Program}{f:FuncId}{fn:Func}{id d N:Nat}{j:Oper}{l:List Oper}{y:Code}{vs:List Value}{u:FrameMode}{w:World}{S:World->Prop}(B:P.funcs[f]? =some fn)(C:fn.body=some (.seq (.region id (j::l).toArray false) y))(A:fn.ntmps=N)(hl:vs.length<=N)
  (k:fn.results= #[]) (hg:j.guard=none) (hd:j.dst=some d) (s:Nat.blt d N=true) (n: ∀(a:Act) w,(execOp a.eval j).run P w= .ok .recover w)
  (h: ∀(K:Act->World->Prop) (Q:Exit->Act->World->Prop),(∀a w',y.wp P Q a w'->K a w')->(∀a w',a.defers=[]->S w'->Q .normal a w')->RL P (j::l).toArray (Exit.then K Q) N l ((d,true,(HJ u).1)::MZ 0 vs) w):
  CallsD P f vs.toArray u w (λ e i w'=>e= .returned (.tuple #[])/\i=(HJ u).2/\S w'):=by
 refine callsD_of_wpS B C λ b cs hu=>wpS_seq ?_
 subst hu
 have hs:=B1.enter vs N hl
 rw[<-A]at hs
 refine Ab1 hg (n _ _) (Ab4 b cs) ?_ ?_
 ·rintro⟨a,w',h1⟩
  obtain⟨i,z,_⟩:=h1
  cases z
 ·subst A
  have q:=hs.put s true (HJ b.mode).1
  rw[hd]
  have D:=h (λ a w'=>y.wpS P (bodyPostS P fn b cs (λ e i w'=>e= .returned (.tuple #[])/\i=(HJ b.mode).2/\S w')) a ({ b with mode:=(HJ b.mode).2}::cs) w')
   (λ e a w'=>bodyPostS P fn b cs (λ e i w'=>e= .returned (.tuple #[])/\i=(HJ b.mode).2/\S w') e a ({ b with mode:=(HJ b.mode).2}::cs) w')
   (λ a w' h1=>wpS_of_wp h1) (λ a w' h1 z=>⟨h1,_,rfl,_,results_none k _ _ _,rfl,rfl,z⟩) _ q
  refine Eq.mp ?_ D
  congr 1
  funext e a w'
  cases e<;>rfl
def Z4(D:List Deferred)(a:Act):Act:=⟨a.tmps,a.defers++D⟩
section
variable {P:Program} {ops:Array Oper} {D:List Deferred} {Q:Exit->Act->World->Prop} {N:Nat} {L:Env} {w:World}
def qZ(P:Program)(D:List Deferred)(c:Code)(Q:Exit->Act->World->Prop)(N:Nat)(L:Env)(w:World):Prop:= ∀a,B1 a N L->c.wp P Q (Z4 D a) w
theorem qZ.at {y:Code}{Q':Exit->Act->World->Prop}(L':Env)(b:Eng.GF (jZ L') L=L')(h:qZ P D y Q' N L' w): ∀a,B1 a N L->y.wp P Q' (Z4 D a) w:=λ a hs=>h a (b▸hs.GF _)
structure OW (P:Program) (fn:Func) (R:Ending->World->Prop) (Q:Exit->Act->World->Prop):Prop where
 all: ∀e a w,bodyPostD P fn R e a w->Q e a w
theorem OW.p {fn:Func}{R:Ending->World->Prop}{b:List PanicEntry}(E:OW P fn R Q)(h: ∀a,B1 a N L->Leaves P fn a.tmps R D (.panicking b) w): ∀a,B1 a N L->Q (.panic b) (Z4 D a) w:=
 λ a hs=>E.all _ _ _ (by show Leaves P fn a.tmps R (a.defers++D) _ w;rw[hs.DZ];exact h a hs)
theorem OW.r {fn:Func}{R:Ending->World->Prop}(E:OW P fn R Q)(h: ∀a,B1 a N L->Leaves P fn a.tmps R D .returning w): ∀a,B1 a N L->Q .ret (Z4 D a) w:=
 λ a hs=>E.all _ _ _ (by show Leaves P fn a.tmps R (a.defers++D) _ w;rw[hs.DZ];exact h a hs)
theorem r0{fn:Func}{R:Ending->World->Prop}{f:FuncId}{tmps:Array Value}{cs:List Value}{u:FrameMode}{S:World->Prop}(i: ∀args w,(callFunc f args).run P w= .ok (.enter f args) w)(hu:u≠ .run)(hm:settle (HJ u).2= .returning)
  (j:CallsD P f cs.toArray u w (λ e b w'=>e= .returned (.tuple #[])/\b=(HJ u).2/\S w')) (h: ∀w',S w'-> ∃v,(results fn tmps).run P w'= .ok v w'/\R (.returned v) w'):
  Leaves P fn tmps R [{ target:=.fn (.func f) cs.toArray,args:= #[]}] u w:=by
 refine leaves_cons hu (args:=cs.toArray) (f:=f) (by simp[invoke,go_sem,i]) (j.mono ?_)
 rintro e b w' ⟨rfl,rfl,hS⟩
 show Leaves P fn tmps R [] (settle (HJ u).2) w'
 rw[hm]
 exact h w' hS
end
def VJ(c:Cx)(ds:List Deferred):Cx:= { c with W:=Wk.DZ c.P ds}
def QE(ds:List Deferred)(B:Exit->Act->World->Prop):Exit->Act->World->Prop:=λ e a w=>B e (CQ ds a) w
theorem Z5{c:Cx}{ds:List Deferred}{B:Exit->Act->World->Prop}(hw: ∀x Q a w,x.wp c.P Q a w->c.W.wp x Q a w): ∀(k:List Fr),N7 k=true-> ∀e a w,post (VJ c ds) (QE ds B) k e a w->post c B k e (CQ ds a) w
 |[],_,e,a,w,h=>h
 | .seq y::k,b,e,a,w,h=>by
  unfold N7 at b
  rw[Bool.and_eq_true]at b
  have i:=Z5 (ds:=ds) (B:=B) hw k b.2
  cases e with
  |normal=>
   have h:D8 y=true->y.wp c.P (RM ds (post (VJ c ds) (QE ds B) k)) (CQ ds a) w:=h
   refine hw _ _ _ _ (wp_mono (h b.1) λ e a w ⟨a0,e0,q⟩=>?_)
   subst e0;exact i _ _ _ q
  |_=>exact i _ a w h
 | .block id::k,b,e,a,w,h=>by
  have i:=Z5 (ds:=ds) (B:=B) hw k b
  cases e with
  |exit j=>
   have h:if j=id then post (VJ c ds) (QE ds B) k .normal a w else post (VJ c ds) (QE ds B) k (.exit j) a w:=h
   show if j=id then _ else _
   split<;>rename_i hid
   ·rw[if_pos hid]at h;exact i _ a w h
   ·rw[if_neg hid]at h;exact i _ a w h
  |_=>exact i _ a w h
 | .scope::k,b,e,a,w,h=>by
  have i:=Z5 (ds:=ds) (B:=B) hw k b
  cases e<;>first|exact h.elim|exact i _ a w h
 | .loop J::k,b,_,_,_,_=>by cases b
theorem Ab6{P:Program}{N:Nat}{w0 w:World}{M0 M:Mem}{Hr:List HO}{T:TT}(hT:DR P T){f:FuncId}{fn:Func}{x:Code}{R:Ending->World->Prop}(b:P.funcs[f]? =some fn)(e:fn.body=some x)(i:fn.ntmps=N)
  (F:List (Nat×Kn)) (H:List (Nat×HX)) (vs:List XV) (hl:Nat.ble vs.length N=true) (hS:St w0 M0 w M (HD H++Hr)) (hF:BH M F)
  (h: ∀B,OW P fn R B->XG ⟨P,N,w0,M0,M,Hr,T,hT,.wide P⟩ B [] (.code x) ⟨F,H,N3 0 vs⟩) {av:List Value} (j:vs.map XV.d=av):Calls P f av.toArray w R:=by
 subst j
 refine calls_of_wp_defers b e ?_
 rw[i]
 have hs:=B1.enter (vs.map XV.d) N (by rw[List.length_map];exact Nat.le_of_ble_eq_true hl)
 exact h _ ⟨λ _ _ _ h=>h⟩ _ w ⟨by rw[<-RD]at hs;exact hs,M,hS,hF,Mem.le.refl _⟩
section
variable {c:Cx} {B:Exit->Act->World->Prop} {k k':List Fr} {m:Md} {s s':XS} {O:Prop} {E:List Ck} {all:Array Oper} {ty:TypeId} {ps:String} {af:Array Edge}
abbrev fY(f:FuncId)(cs:List Value):List Deferred:=[{ target:=.fn (.func f) cs.toArray,args:= #[]}]
theorem Ab7{x:Operand}{f:FuncId}{cs:List Value}{tys:Array TypeId}{E1:List Ck}(hw: ∀x Q a w,x.wp c.P Q a w->c.W.wp x Q a w)(hl: ∀ops Q l a w,wpList c.P ops Q l a w->c.W.list ops Q l a w)
  (h:run c.T c.N k m s=⟨k',.ops all [⟨none,.defer ⟨.value x,#[],tys⟩,ty,ps,af,none⟩],s',O,E⟩) (hx:B8 s'.L .t x=some (.v (.func (.func f) #[] ⟨cs⟩),E1)) (j:N7 k'=true)
  (n:XG (VJ c (fY f cs)) (QE (fY f cs) B) k' .next s') (hE:AA E:=by exact Ad) (hO:O:=by exact Af) (hE1:AA E1:=by exact Ad):XG c B k m s:=by
 refine CH h hE hO λ a w ⟨hs,M,b⟩=>hl _ _ _ _ _ <|wpList_plain U λ K q=>?_
 have i:a.eval x= .func (.func f) #[] ⟨cs⟩:=A8 hx (hE:=hE1) a c.N hs U
 have key:(execOp a.eval ⟨none,.defer ⟨.value x,#[],tys⟩,ty,ps,af,none⟩).run c.P w= .ok (.defer { target:=.fn (.func f) cs.toArray,args:= #[]}) w:=by
  simp only[execOp,resolve,i,Deferred.ofValue,Sem.run_bind,Sem.run_pure,Result.andThen_ok]
  simp
 simp only[Oper.wp,key,Oper.upon_defer]
 refine q _ _ ?_
 have h1:=Z5 hw k' j _ _ _ (n a w ⟨hs,M,b.st,b.f,b.le⟩)
 have e:CQ (fY f cs) a= { a with defers:= { target:=.fn (.func f) cs.toArray,args:= #[]}::a.defers}:=by unfold CQ;rw[hs.DZ];rfl
 rw[e]at h1
 exact h1
theorem fZ{P:Program}{T:TT}(hT:DR P T){fn:Func}{H:List (Nat×HX)}{Hr:List HO}{w0 w:World}{M0 M:Mem}{L:XE}{a:Act}{N:Nat}{rs:List ResultVar}{vs:List XV}{E2:List Ck}(hS:St w0 M0 w M (HD H++Hr))(hs:B1 a N L.d)(b:fn.results=⟨rs⟩)(hl:OA T H L rs=some (vs,E2))(hE2:AA E2:=by exact Ad):(results fn a.tmps).run P w= .ok (PT vs) w:=by
 rw[jH,b]
 have e:=cW hT hS hs hl hE2
 have h:((⟨rs⟩:Array ResultVar).mapM (K7 a.tmps)).run P w= .ok (vs.map XV.d).toArray w:=by
  rw[Array.mapM_eq_mapM_toList]
  refine(Sem.run_bind' P _ _ w).trans ?_
  rw[e];rfl
 rw[Sem.run_bind,h]
 simp only[Result.andThen_ok,Sem.run_pure]
 congr 1
 match vs with
 |[]=>rfl
 |[v]=>rfl
 |_::_::_=>simp[PT]
theorem Ab8{fn:Func}{R:Ending->World->Prop}{ds:List Deferred}{b:Exit->Act->World->Prop}(e:OW c.P fn R b)(h:run c.T c.N k m s=⟨[],.ret,s',O,E⟩)(i: ∀a w M,B1 a c.N s'.L.d->D1 c s'.F s'.H w M->Leaves c.P fn a.tmps R ds .returning w)(hE:AA E:=by exact Ad)(hO:O:=by exact Af):XG c (QE ds b) k m s:=
 CH h hE hO λ a w ⟨h1,M,j⟩=>e.all _ _ _ (by
  show Leaves c.P fn a.tmps R (a.defers++ds) .returning w
  rw[h1.DZ];exact i a w M h1 j)
theorem OW.pan {P:Program}{N:Nat}{L:XE}{fn:Func}{R:Ending->World->Prop}{Q:Exit->Act->World->Prop}{ds:List Deferred}{b:List PanicEntry}{a:Act}{w:World}(e:OW P fn R Q)(hs:B1 a N L.d)(h:Leaves P fn a.tmps R ds (.panicking b) w):QE ds Q (.panic b) a w:=
 e.all _ _ _ (by show Leaves P fn a.tmps R (a.defers++ds) _ w;rw[hs.DZ];exact h)
end
theorem Ac0{P:Program}{o:Oper}{a:Act}{w:World}{K b:Act->World->Prop}{Q:Exit->Act->World->Prop}(h:o.wp P a w b Q):o.wp P a w b (Exit.then K Q):=by
 unfold Oper.wp at*
 generalize (execOp a.eval o).run P w=r at*
 cases r with
 |ok n w'=>cases n<;>first|exact h|(simp only[Oper.upon]at h ⊢;exact h)
 |halt s w'=>cases s<;>first|exact h|(simp only[Oper.upon]at h ⊢;exact h)
theorem r6{P:Program}{T:TT}(hT:DR P T){f:FuncId}{fn:Func}{id d N:Nat}{b:Oper}{l:List Oper}{y:Code}{u:FrameMode}{w0 w:World}{M0 M:Mem}{Hr:List HO}{S:World->Prop}(A:P.funcs[f]? =some fn)(C:fn.body=some (.seq (.region id (b::l).toArray false) y))(D:fn.ntmps=N)
  (i:fn.results= #[]) (hg:b.guard=none) (hd:b.dst=some d) (k:Nat.blt d N=true) (j: ∀(a:Act) w,(execOp a.eval b).run P w= .ok .recover w) (F:List (Nat×Kn)) (H:List (Nat×HX)) (n:XV) (vs:List XV) (q:n.d=(HJ u).1) (hl:Nat.ble vs.length N=true) (hS:St w0 M0 w M (HD H++Hr)) (hF:BH M F)
  (h: ∀B,(∀a w',a.defers=[]->S w'->B .normal a w')->XG ⟨P,N,w0,M0,M,Hr,T,hT,.wide P⟩ B [.seq y] (.ops (b::l).toArray l) ⟨F,H,(d,.t,n)::N3 0 vs⟩) {av:List Value} (s:vs.map XV.d=av):
  CallsD P f av.toArray u w (λ e E w'=>e= .returned (.tuple #[])/\E=(HJ u).2/\S w'):=by
 subst s
 refine Ab5 A C D (by rw[List.length_map];exact Nat.le_of_ble_eq_true hl) i hg hd k j λ K Q G J a hs=>?_
 have h1:=h Q J a w ⟨by
  show B1 a N ((d,true,n.d)::XE.d (N3 0 vs))
  rw[RD,q];exact hs,M,hS,hF,Mem.le.refl _⟩
 have mono: ∀(l':List Oper) (a:Act) (w:World),wpList P (b::l).toArray (Exit.then (y.wp P Q) Q) l' a w->wpList P (b::l).toArray (Exit.then K Q) l' a w:=by
  intro l'
  induction l' with
  |nil=>intro a w h;exact G _ _ h
  |cons o l' z=>
   intro a w h
   unfold wpList at h ⊢
   split at h<;>rename_i hw
   ·rw[if_pos hw]
    rcases h with h|⟨s,a2,L,O⟩
    ·refine .inl ?_
     have R:=UC h
     have V:=Oper.wp_mono (λ a w W=>z a w W) R
     exact Ac0 V
    ·exact .inr ⟨s,a2,L,O⟩
   ·rw[if_neg hw];exact z _ _ h
 exact mono l a w h1
theorem r7{c:Cx}{B:Exit->Act->World->Prop}{k:List Fr}{m:Md}{s s':XS}{O:Prop}{E:List Ck}{S:World->Prop}(b: ∀a w',a.defers=[]->S w'->B .normal a w')(h:run c.T c.N k m s=⟨[],.next,s',O,E⟩)(e: ∀w M,D1 c s'.F s'.H w M->S w)(hE:AA E:=by exact Ad)(hO:O:=by exact Af):XG c B k m s:=
 CH h hE hO λ a w ⟨h1,M,i⟩=>b a w h1.DZ (e w M i)
end Go.Eng
