/-
  Parts Num Quote Ref UtfN Utf Lexp, put together and made short by wip/py/merge.py (mini.py).
-/
import Derived.Test.YtmjpjbmeamnfpaaGreatDoorZc3
import Derived.Shelf.Strings.SlTrimAscii
import Derived.Lib.ItoaNum
import Derived.Lib.Bytealg
import Derived.Lib.AtoiAll
import Derived.Lib.RuneBytes
import Derived.Lib.QuoteLoop
import Derived.Lib.RuneCount
import Derived.Lib.DecodeN
import Derived.Lib.Join
import Derived.Test.YtmjpjbmeamnfpaaGreatDoorZc0
set_option linter.unusedVariables false
set_option linter.unusedSimpArgs false
namespace Go.Eng
open Go.RowKit
def C7(b:UInt8):Bool:=BM (b.toNat:Int)
def BF(n:Int):A1:=List.replicate n.toNat 48
def AM(s:A1)(i:Int):Int:=i+len ((A4 s i).takeWhile C7)
def AZ(s:A1):A1:=s.dropWhile (([48]:A1).contains ·)
def D8(s:A1):A1:=Lib.trimRightS s [48]
def BE(s:A1):Int:=s.foldl (λ n b=>n*10+((b.toNat:Int)-48)) 0
theorem IS(s:A1)(i:Int)(h0:0<=i)(h1:i<len s): ∃b,A4 s i=b::A4 s (i+1)/\A3 s i=(b.toNat:Int):=by
 have h:i.toNat<s.length:=by unfold len at h1;omega
 refine⟨s[i.toNat],?_,by simp[A3,h]⟩
 unfold A4
 rw[show(i+1).toNat=i.toNat+1 from by omega]
 exact List.drop_eq_getElem_cons h
theorem OJ(s:A1)(i:Int)(h1:len s<=i):A4 s i=[]:=by
 unfold A4;rw[List.drop_eq_nil_iff];unfold len at h1;omega
theorem DV(s:A1)(i:Int)(h0:0<=i)(h1:i<=len s):len (A4 s i)=len s-i:=by
 unfold A4 len at*;rw[List.length_drop];omega
theorem eV{s:A1}{i:Int}(h0:0<=i)(h1:i<len s)(h:BM (A3 s i)=true):AM s (i+1)=AM s i:=by
 obtain⟨b,h2,h3⟩:=IS s i h0 h1
 unfold AM
 rw[h2,List.takeWhile_cons,show C7 b=true from by unfold C7;rw[<-h3];exact h]
 simp[len];omega
theorem eW{s:A1}{i:Int}(h0:0<=i)(h1:i<len s)(h:BM (A3 s i)=false):AM s i=i:=by
 obtain⟨b,h2,h3⟩:=IS s i h0 h1
 unfold AM
 rw[h2,List.takeWhile_cons,show C7 b=false from by unfold C7;rw[<-h3];exact h]
 simp[len]
theorem eX{s:A1}{i:Int}(h1:len s<=i):AM s i=i:=by
 unfold AM;rw[OJ s i h1];simp[len]
theorem KC(s:A1)(i:Int)(h0:0<=i)(h1:i<=len s):i<=AM s i/\AM s i<=len s:=by
 have h2:=DV s i h0 h1
 have h3:=(List.takeWhile_sublist C7 (l:=A4 s i)).length_le
 unfold AM len at*;omega
theorem eY{s:A1}{i k:Int}(h0:0<=i)(h1:i<=k)(h2:k<AM s i):BM (A3 s k)=true:=by
 by_cases hl:i<len s
 ·by_cases hf:BM (A3 s i)=true
  ·by_cases hk:i=k
   ·subst hk;exact hf
   ·rw[<-eV h0 hl hf]at h2
    exact eY (i:=i+1) (by omega) (by omega) h2
  ·rw[Bool.not_eq_true]at hf
   rw[eW h0 hl hf]at h2;omega
 ·rw[eX (by omega)]at h2;omega
termination_by (len s-i).toNat
def EK(neg:Bool)(s:A1)(e:Int):Nd×Int:=
 if I3 s then
  if AZ s==[]then(⟨3,0,[],[],false,0⟩,0)
  else if decide (e< -100000000)||decide (100000000<e)then(AO,2)
  else
   if decide (100<len (D8 (AZ s)))||decide (e+(len (AZ s)-len (D8 (AZ s)))< -1000)||decide (1000<len (D8 (AZ s))+(e+(len (AZ s)-len (D8 (AZ s)))))then(AO,2)
   else(⟨3,0,[],D8 (AZ s),neg,e+(len (AZ s)-len (D8 (AZ s)))⟩,0)
 else(AO,4)
def CP(n:Nd):A1:=
 let sign:A1:=if n.neg then [45]else []
 if n.s==[]then [48]
 else if decide (0<=n.e)&&decide (len n.s+n.e<=20)then sign++n.s++BF n.e
 else if decide (n.e<0)&&decide (-20<=n.e)then
  let s:=BF (1-n.e-len n.s)++n.s
  sign++Eng.sub s 0 (len s+n.e)++[46]++A4 s (len s+n.e)
 else sign++n.s++[101]++Lib.itoa n.e
theorem KD{n:Int}(h:n<=0):BF n=[]:=by unfold BF;rw[show n.toNat=0 from by omega];rfl
theorem eZ(n:Int)(h:0<=n):len (BF n)=n:=by unfold BF len;rw[List.length_replicate];omega
theorem RJ(d:Int):0<=len (BF d)/\d<=len (BF d)/\(len (BF d)<=0\/len (BF d)=d):=by unfold BF len;rw[List.length_replicate];omega
theorem A5{α:Type}(a b:List α):len (a++b)=len a+len b:=by unfold len;simp
theorem A7{α:Type}(a:α)(b:List α):len (a::b)=len b+1:=by unfold len;simp
theorem NL{α:Type}(a:α)(b:List α):A4 (a::b) 1=b:=rfl
theorem len_nil{α:Type}:len ([]:List α)=0:=rfl
theorem GV{α:Type}(s:List α)(i j:Int):0<=len (Eng.sub s i j)/\len (Eng.sub s i j)<=len s:=by unfold Eng.sub len;simp;omega
theorem EV{α:Type}{s:List α}{i j:Int}(h0:0<=i)(h1:i<=j)(h2:j<=len s):len (Eng.sub s i j)=j-i:=by unfold Eng.sub len at*;simp;omega
theorem L9{α:Type}(s:List α)(i:Int):0<=len (A4 s i)/\len (A4 s i)<=len s:=by unfold A4 len;simp
theorem fA(s:A1):len (AZ s)<=len s:=by
 have:=(List.dropWhile_sublist (([48]:A1).contains ·) (l:=s)).length_le
 unfold AZ len;omega
theorem rU(s:A1):len (D8 s)<=len s:=by
 have:=(List.dropWhile_sublist (([48]:A1).contains ·) (l:=s.reverse)).length_le
 unfold D8 Lib.trimRightS len;simp at*;omega
theorem dropWhile_nil{α:Type}{p:α->Bool}: ∀ {l:List α},l.dropWhile p=[]-> ∀x∈l,p x=true
 |[],_,x,hx=>by cases hx
 |a::l,h,x,hx=>by
  rw[List.dropWhile_cons]at h
  split at h
  ·rename_i ha
   rcases List.mem_cons.1 hx with rfl|hx
   ·exact ha
   ·exact dropWhile_nil h x hx
  ·cases h
theorem Y5{s:A1}{b:UInt8}{l:A1}(h:AZ s=b::l):(([48]:A1).contains b)=false:=by
 unfold AZ at h
 induction s with
 |nil=>cases h
 |cons a s ih=>
  rw[List.dropWhile_cons]at h
  split at h
  ·exact ih h
  ·rename_i hn;cases h;simpa using hn
theorem fB(s:A1): ¬AZ s=[]->0<len (D8 (AZ s)):=by
 intro h
 cases hd:AZ s with
 |nil=>exact absurd hd h
 |cons b l=>
  have hb:=Y5 hd
  have:D8 (b::l)≠[]:=by
   unfold D8 Lib.trimRightS
   intro hr
   rw[List.reverse_eq_nil_iff]at hr
   have:=dropWhile_nil hr b (by simp)
   rw[this]at hb;cases hb
  unfold len
  have:=List.length_pos_iff.2 this
  omega
theorem fC(u:Nat):(Lib.decDigits u).length<=u+1:=by
 induction u using Nat.strongRecOn with
 |_ u ih=>
  rw[Lib.decDigits]
  split
  ·simp
  ·have:=ih (u/10) (by omega)
   simp only[List.length_append,List.length_cons,List.length_nil];omega
theorem LA(n:Int):0<=len (Lib.itoa n)/\len (Lib.itoa n)<=n.natAbs+2:=by
 unfold Lib.itoa len
 have h1:=fC n.natAbs
 have h2:=fC n.toNat
 split
 ·simp only[List.length_cons];omega
 ·omega
def BU(s signs:A1)(p:Int):Bool:=decide (p<len s)&&decide (0<=Lib.indexByte signs (A3 s p).toNat.toUInt8)
def B5(s signs:A1)(p:Int):Int:=if BU s signs p then p+1 else p
theorem fD{s signs:A1}{p:Int}(h:BU s signs p=true):p<len s:=by unfold BU at h;simp only[Bool.and_eq_true,decide_eq_true_eq]at h;exact h.1
theorem NM(s signs:A1)(p:Int)(h:p<=len s):p<=B5 s signs p/\B5 s signs p<=len s:=by
 unfold B5;split
 ·rename_i h1;have:=fD h1;omega
 ·omega
theorem OK{s signs:A1}{p:Int}(h:BU s signs p=true):B5 s signs p=p+1:=by unfold B5;rw[if_pos h]
theorem ML{s signs:A1}{p:Int}(h:BU s signs p=false):B5 s signs p=p:=by unfold B5;rw[if_neg (by rw[h];simp)]
def FT(neg:Bool)(fg:A1)(x:Int)(pw:A1)(side:Int):Nd×Int×Int:=
 if 6<len (AZ pw)then(AO,0,2)
 else((EK neg fg (x+side*BE (AZ pw))).1,0,(EK neg fg (x+side*BE (AZ pw))).2)
def NN(s:A1)(neg:Bool)(fg:A1)(x:Int)(c0:Int):Nd×Int×Int:=
 let m:=BU s [45] c0
 let c1:=if m then B5 s [45] c0 else B5 s [43] (B5 s [45] c0)
 let c2:=AM s c1
 let pw:=Eng.sub s c1 c2
 if pw=[]\/c2<len s then(AO,c2,1)else FT neg fg x pw (if m then-1 else 1)
def FI(s:A1)(neg:Bool)(fg:A1)(x:Int)(b:Int):Nd×Int×Int:=
 if BU s [101,69] b then NN s neg fg x (B5 s [101,69] b)
 else if B5 s [101,69] b<len s then(AO,B5 s [101,69] b,1)else FT neg fg x [] 1
def C3(s:A1):Nd×Int×Int:=
 let neg:=BU s [45] 0
 let a0:=B5 s [45] 0
 let b0:=AM s a0
 let fg:=Eng.sub s a0 b0
 if 1<len fg/\A3 fg 0=48 then(AO,a0+1,1)
 else if fg=[]then(AO,b0,1)
 else if BU s [46] b0 then
  let b2:=AM s (B5 s [46] b0)
  let part:=Eng.sub s (B5 s [46] b0) b2
  if part=[]then(AO,b2,1)else FI s neg (fg++part) (-(len part)) b2
 else FI s neg fg 0 (B5 s [46] b0)
theorem rV{s:A1}{i:Int}(h0:0<=i):Eng.sub s i (AM s i)=(A4 s i).takeWhile C7:=by
 have h1:(AM s i).toNat-i.toNat=((A4 s i).takeWhile C7).length:=by unfold AM len;omega
 unfold Eng.sub;rw[h1]
 exact(List.prefix_iff_eq_take.1 (List.takeWhile_prefix C7)).symm
theorem fE{α:Type}{p:α->Bool}: ∀ {l:List α},∀x∈l.takeWhile p,p x=true
 |[],x,hx=>by cases hx
 |a::l,x,hx=>by
  rw[List.takeWhile_cons]at hx
  split at hx
  ·rename_i ha
   rcases List.mem_cons.1 hx with rfl|hx
   ·exact ha
   ·exact fE x hx
  ·cases hx
theorem RM{s:A1}{i:Int}(h0:0<=i): ∀b∈Eng.sub s i (AM s i),C7 b=true:=by rw[rV h0];exact fE
theorem fF{l:A1}(h: ∀b∈l,C7 b=true): ∀b∈AZ l,C7 b=true:=λ b hb=>h b ((List.dropWhile_sublist _).subset hb)
theorem UJ: ∀(l:A1) (n:Int),(∀b∈l,C7 b=true)->0<=n->0<=l.foldl (λ n b=>n*10+((b.toNat:Int)-48)) n/\l.foldl (λ n b=>n*10+((b.toNat:Int)-48)) n<(n+1)*10^l.length
 |[],n,_,h0=>by simp;omega
 |a::l,n,h,h0=>by
  have ha:=h a (by simp)
  unfold C7 BM at ha
  simp only[Bool.and_eq_true,decide_eq_true_eq]at ha
  have:=UJ l (n*10+((a.toNat:Int)-48)) (λ b hb=>h b (by simp[hb])) (by omega)
  rw[List.foldl_cons]
  refine⟨this.1,Int.lt_of_lt_of_le this.2 ?_⟩
  have h1:(n+1)*10^ (a::l).length=((n+1)*10)*10^l.length:=by rw[List.length_cons,Int.pow_succ,Int.mul_comm (10^l.length) 10,<-Int.mul_assoc]
  rw[h1]
  exact Int.mul_le_mul_of_nonneg_right (by omega) (Int.le_of_lt (Int.pow_pos (by decide:(0:Int)<10)))
theorem Y6: ∀(l:A1) (n:Nat),(∀b∈l,C7 b=true)->(n+1)*10^l.length<=10000000->Lib.parseUint10 n l= .ok (l.foldl (λ n b=>n*10+((b.toNat:Int)-48)) (n:Int)).toNat
 |[],n,_,_=>by simp[Lib.parseUint10]
 |a::l,n,h,hl=>by
  have ha:=h a (by simp)
  unfold C7 BM at ha
  simp only[Bool.and_eq_true,decide_eq_true_eq]at ha
  have hn:n<10000000:=by
   have:(n+1)*1<=(n+1)*10^ (a::l).length:=Nat.mul_le_mul_left _ (Nat.pow_pos (by decide))
   omega
  have ih:=Y6 l (n*10+(a.toNat-48)) (λ b hb=>h b (by simp[hb])) (by
   have h1:(n+1)*10^ (a::l).length=((n+1)*10)*10^l.length:=by rw[List.length_cons,Nat.pow_succ,Nat.mul_comm (10^l.length) 10,<-Nat.mul_assoc]
   rw[h1]at hl
   exact Nat.le_trans (Nat.mul_le_mul_right _ (by omega)) hl)
  rw[Lib.parseUint10,if_pos (by omega),if_neg (by omega),if_neg (by omega),ih,List.foldl_cons]
  congr 3
  omega
theorem rW{l:A1}(h: ∀b∈l,C7 b=true)(hl:len l<=6):Lib.atoiAll ([48]++l)= .ok (BE l)/\0<=BE l/\BE l<1000000:=by
 have h1:=UJ l 0 h (by omega)
 have h2:(10:Int)^l.length<=10^6:=by
  have:(10:Nat)^l.length<=10^6:=Nat.pow_le_pow_right (by omega) (by unfold len at hl;omega)
  exact_mod_cast this
 have h3:=Y6 l 0 h (by
  have:(10:Nat)^l.length<=10^6:=Nat.pow_le_pow_right (by omega) (by unfold len at hl;omega)
  omega)
 have h4:0<=BE l/\BE l<1000000:=by unfold BE;omega
 refine⟨?_,h4⟩
 show Lib.atoiAll (48::l)=_
 have hm:Lib.parseMag (48::l)= .ok (BE l).toNat:=by
  unfold Lib.parseMag
  rw[if_neg (by simp),Lib.parseUint10,if_pos (by decide),if_neg (by decide),if_neg (by decide)]
  exact h3
 unfold Lib.atoiAll
 dsimp only
 rw[if_neg (by decide: ¬((48:UInt8).toNat=43\/(48:UInt8).toNat=45)),hm]
 dsimp only
 rw[if_neg (by omega),if_neg (by intro hh;exact absurd hh.1 (by decide)),if_neg (by decide)]
 congr 1;omega
end Go.Eng
namespace Go.Eng
open Go.RowKit
def CK:List KV:=[⟨34,.int .i32 34,0⟩,⟨92,.int .i32 92,1⟩,⟨47,.int .i32 47,2⟩,⟨98,.int .i32 8,3⟩,⟨102,.int .i32 12,4⟩,⟨110,.int .i32 10,5⟩,⟨114,.int .i32 13,6⟩,⟨116,.int .i32 9,7⟩]
def E7(p:KV):Int:=match p.val with| .int _ x=>x|_=>0
theorem rX: ∀p∈CK,p.val= .int .i32 (E7 p):=by
 intro p hp
 simp only[CK,List.mem_cons,List.not_mem_nil,or_false]at hp
 rcases hp with rfl|rfl|rfl|rfl|rfl|rfl|rfl|rfl<;>rfl
theorem rY: ∀p∈CK,p.born<8:=by
 intro p hp
 simp only[CK,List.mem_cons,List.not_mem_nil,or_false]at hp
 rcases hp with rfl|rfl|rfl|rfl|rfl|rfl|rfl|rfl<;>decide
theorem fG:(CK.map (·.born)).Nodup:=by decide
theorem rZ: ∀p∈CK,∀q∈CK,E7 p=E7 q->p=q:=by
 intro p hp q hq h
 simp only[CK,List.mem_cons,List.not_mem_nil,or_false]at hp hq
 rcases hp with rfl|rfl|rfl|rfl|rfl|rfl|rfl|rfl<;>rcases hq with rfl|rfl|rfl|rfl|rfl|rfl|rfl|rfl<;>first|rfl|(exfalso;revert h;decide)
def HI(c:Int):Bool:=c==34||c==92||c==47||c==98||c==102||c==110||c==114||c==116
def IT(c:Int):Int:=if c=98 then 8 else if c=102 then 12 else if c=110 then 10 else if c=114 then 13 else if c=116 then 9 else if HI c then c else 0
theorem PO(c:Int):(BY CK c).getD (.int .i32 0)= .int .i32 (IT c)/\(BY CK c).isSome=HI c:=by
 simp only[CK,BY,beq_iff_eq]
 by_cases h1:c=34
 ·subst h1;exact⟨rfl,rfl⟩
 by_cases h2:c=92
 ·subst h2;exact⟨rfl,rfl⟩
 by_cases h3:c=47
 ·subst h3;exact⟨rfl,rfl⟩
 by_cases h4:c=98
 ·subst h4;exact⟨rfl,rfl⟩
 by_cases h5:c=102
 ·subst h5;exact⟨rfl,rfl⟩
 by_cases h6:c=110
 ·subst h6;exact⟨rfl,rfl⟩
 by_cases h7:c=114
 ·subst h7;exact⟨rfl,rfl⟩
 by_cases h8:c=116
 ·subst h8;exact⟨rfl,rfl⟩
 rw[if_neg h1,if_neg h2,if_neg h3,if_neg h4,if_neg h5,if_neg h6,if_neg h7,if_neg h8]
 have:HI c=false:=by simp[HI,h1,h2,h3,h4,h5,h6,h7,h8]
 simp[IT,this,h4,h5,h6,h7,h8]
def JH(r:Int):Bool:=r==34||r==92||r==8||r==12||r==10||r==13||r==9
def JI(r:Int):Int:=if r=8 then 98 else if r=12 then 102 else if r=10 then 110 else if r=13 then 114 else if r=9 then 116 else if JH r then r else 0
def Lets(seen:Array Nat)(l:List KV):Prop:=
 (l.map (·.key)).Nodup/\(∀p∈CK,seen.contains p.born=true->BY l (E7 p)=some (.int .u8 p.key))/\ ∀r,(∀p∈CK,seen.contains p.born=true->E7 p≠r)->BY l r=none
theorem s0{l:List KV}{x:Int}(h:BY l x=none): ∀p∈l,p.key≠x:=by
 induction l with
 |nil=>intro p hp;cases hp
 |cons a l ih=>
  intro p hp
  unfold BY at h
  split at h
  ·cases h
  ·rename_i hn
   rcases List.mem_cons.1 hp with rfl|hp
   ·intro e;subst e;simp at hn
   ·exact ih h p hp
theorem s5{l:List KV}{x:Int}{v:Value}(h:BY l x=none):HE l x v=none:=by
 induction l with
 |nil=>rfl
 |cons a l ih=>
  unfold BY at h;unfold HE
  split at h
  ·cases h
  ·rename_i hn;rw[if_neg hn,ih h];rfl
theorem fH(l:List KV)(p:KV)(x:Int)(h:BY l p.key=none):BY (l++[p]) x=if x==p.key then some p.val else BY l x:=by
 induction l with
 |nil=>simp[BY]
 |cons a l ih=>
  have hn: ¬(p.key==a.key)=true:=by intro e;simp[BY,e]at h
  have h':BY l p.key=none:=by simpa[BY,hn]using h
  simp only[List.cons_append,BY,ih h']
  by_cases e1:(x==a.key)=true
  ·rw[if_pos e1,if_pos e1]
   have: ¬(x==p.key)=true:=by
    intro e2;apply hn
    have a1:x=a.key:=by simpa using e1
    have a2:x=p.key:=by simpa using e2
    simp[<-a1,<-a2]
   rw[if_neg this]
  ·rw[if_neg e1,if_neg e1]
theorem s6(l:List KV)(x y:Int)(h:(l.map (·.key)).Nodup):BY (HG l x) y=if y==x then none else BY l y:=by
 induction l with
 |nil=>simp[HG,BY]
 |cons a l ih=>
  rw[List.map_cons,List.nodup_cons]at h
  have ih':=ih h.2
  unfold HG
  by_cases e:(x==a.key)=true
  ·rw[if_pos e]
   have e':x=a.key:=by simpa using e
   by_cases f:(y==x)=true
   ·rw[if_pos f]
    have f':y=x:=by simpa using f
    cases hk:BY l y with
    |none=>rfl
    |some v=>
     exfalso;apply h.1
     have: ∃p∈l,p.key=y:=by
      clear ih ih' h
      induction l with
      |nil=>cases hk
      |cons b l ih2=>
       unfold BY at hk
       split at hk
       ·rename_i hb;exact⟨b,by simp,by simpa using(by simpa using hb:y=b.key).symm⟩
       ·obtain⟨p,hp,hq⟩:=ih2 hk;exact⟨p,by simp[hp],hq⟩
     obtain⟨p,hp,hq⟩:=this
     exact List.mem_map.2 ⟨p,hp,by rw[hq,f',e']⟩
   ·rw[if_neg f]
    rw[show BY (a::l) y=if y==a.key then some a.val else BY l y from rfl,if_neg (by rw[<-e'];exact f)]
  ·rw[if_neg e]
   unfold BY
   by_cases f:(y==a.key)=true
   ·rw[if_pos f,if_pos f]
    have: ¬(y==x)=true:=by
     intro g;apply e
     have a1:y=a.key:=by simpa using f
     have a2:y=x:=by simpa using g
     simp[<-a1,<-a2]
    rw[if_neg this]
   ·rw[if_neg f,if_neg f];exact ih'
theorem Lets.step {seen:Array Nat}{l:List KV}{c:Nat}(h:Lets seen l){p:KV}(hp:p∈CK)(hn: ¬seen.contains p.born=true):Lets (seen.push p.born) (FH l c (E7 p) (.int .u8 p.key)):=by
 obtain⟨h1,h2,h3⟩:=h
 have hne: ∀q∈CK,seen.contains q.born=true->E7 q≠E7 p:=by
  intro q hq hs e
  have:=rZ q hq p hp e
  subst this;exact hn hs
 have h0:BY l (E7 p)=none:=h3 _ hne
 have hk:FH l c (E7 p) (.int .u8 p.key)=l++[⟨E7 p,.int .u8 p.key,c⟩]:=by unfold FH;rw[s5 h0]
 rw[hk]
 have hc: ∀q:KV,(seen.push p.born).contains q.born=true↔seen.contains q.born=true\/q.born=p.born:=by
  intro q;simp[Array.contains_iff_mem,Array.mem_push]
 refine⟨?_,?_,?_⟩
 ·rw[List.map_append,List.nodup_append]
  refine⟨h1,by simp,?_⟩
  intro x hx y hy
  simp only[List.map_cons,List.map_nil,List.mem_singleton]at hy
  subst hy
  obtain⟨q,hq,rfl⟩:=List.mem_map.1 hx
  exact s0 h0 q hq
 ·intro q hq hs
  rw[fH _ _ _ h0]
  rcases(hc q).1 hs with hs|hs
  ·rw[if_neg (by simpa using hne q hq hs)];exact h2 q hq hs
  ·have:q=p:=by
    have hnd:=fG
    simp only[CK,List.mem_cons,List.not_mem_nil,or_false]at hp hq
    rcases hp with rfl|rfl|rfl|rfl|rfl|rfl|rfl|rfl<;>rcases hq with rfl|rfl|rfl|rfl|rfl|rfl|rfl|rfl<;>first|rfl|(exfalso;revert hs;decide)
   subst this;simp
 ·intro r hr
  have hpr:E7 p≠r:=hr p hp ((hc p).2 (.inr U))
  rw[fH _ _ _ h0,if_neg (by simpa using λ e=>hpr e.symm)]
  exact h3 r λ q hq hs=>hr q hq ((hc q).2 (.inl hs))
theorem s7{seen:Array Nat}{l:List KV}(h:Lets seen l)(hall: ∀p∈CK,seen.contains p.born=true)(r:Int):
  (BY (HG l 47) r).getD (.int .u8 0)= .int .u8 (JI r)/\(BY (HG l 47) r).isSome=JH r:=by
 obtain⟨h1,h2,h3⟩:=h
 rw[s6 _ _ _ h1]
 have hs: ∀p∈CK,BY l (E7 p)=some (.int .u8 p.key):=λ p hp=>h2 p hp (hall p hp)
 by_cases e0:r=47
 ·subst e0;exact⟨rfl,rfl⟩
 rw[if_neg (by simpa using e0)]
 by_cases e1:r=34
 ·subst e1;have:=hs ⟨34,.int .i32 34,0⟩ (by simp[CK]);rw[show E7 ⟨34,.int .i32 34,0⟩=34 from rfl]at this;rw[this];exact⟨rfl,rfl⟩
 by_cases e2:r=92
 ·subst e2;have:=hs ⟨92,.int .i32 92,1⟩ (by simp[CK]);rw[show E7 ⟨92,.int .i32 92,1⟩=92 from rfl]at this;rw[this];exact⟨rfl,rfl⟩
 by_cases e3:r=8
 ·subst e3;have:=hs ⟨98,.int .i32 8,3⟩ (by simp[CK]);rw[show E7 ⟨98,.int .i32 8,3⟩=8 from rfl]at this;rw[this];exact⟨rfl,rfl⟩
 by_cases e4:r=12
 ·subst e4;have:=hs ⟨102,.int .i32 12,4⟩ (by simp[CK]);rw[show E7 ⟨102,.int .i32 12,4⟩=12 from rfl]at this;rw[this];exact⟨rfl,rfl⟩
 by_cases e5:r=10
 ·subst e5;have:=hs ⟨110,.int .i32 10,5⟩ (by simp[CK]);rw[show E7 ⟨110,.int .i32 10,5⟩=10 from rfl]at this;rw[this];exact⟨rfl,rfl⟩
 by_cases e6:r=13
 ·subst e6;have:=hs ⟨114,.int .i32 13,6⟩ (by simp[CK]);rw[show E7 ⟨114,.int .i32 13,6⟩=13 from rfl]at this;rw[this];exact⟨rfl,rfl⟩
 by_cases e7:r=9
 ·subst e7;have:=hs ⟨116,.int .i32 9,7⟩ (by simp[CK]);rw[show E7 ⟨116,.int .i32 9,7⟩=9 from rfl]at this;rw[this];exact⟨rfl,rfl⟩
 have hn:BY l r=none:=h3 r (by
  intro p hp _
  simp only[CK,List.mem_cons,List.not_mem_nil,or_false]at hp
  rcases hp with rfl|rfl|rfl|rfl|rfl|rfl|rfl|rfl<;>simp only[E7]<;>omega)
 have hi:JH r=false:=by simp[JH,e1,e2,e3,e4,e5,e6,e7]
 rw[hn];simp[JI,hi,e3,e4,e5,e6,e7]
theorem fI{α:Type}(f g:α->Bool): ∀l:List α,(l.filter (λ q=> !(f q||g q))).length<=(l.filter (λ q=> !f q)).length/\((∃p∈l,f p=false/\g p=true)->(l.filter (λ q=> !(f q||g q))).length<(l.filter (λ q=> !f q)).length)
 |[]=>⟨Nat.le_refl _,λ⟨p,hp,_⟩=>by cases hp⟩
 |a::l=>by
  obtain⟨h1,h2⟩:=fI f g l
  rw[List.filter_cons,List.filter_cons]
  cases hf:f a<;>cases hg:g a<;>simp only[Bool.or_false,Bool.or_true,Bool.false_or,Bool.true_or,Bool.not_false,Bool.not_true,if_true,if_false,Bool.false_eq_true,List.length_cons]
  ·refine⟨by omega,λ⟨p,hp,h3,h4⟩=>?_⟩
   rcases List.mem_cons.1 hp with rfl|hp
   ·rw[hg]at h4;cases h4
   ·have:=h2 ⟨p,hp,h3,h4⟩;omega
  ·exact⟨by omega,λ _=>by omega⟩
  ·refine⟨by omega,λ⟨p,hp,h3,h4⟩=>?_⟩
   rcases List.mem_cons.1 hp with rfl|hp
   ·rw[hf]at h3;cases h3
   ·exact h2 ⟨p,hp,h3,h4⟩
  ·refine⟨by omega,λ⟨p,hp,h3,h4⟩=>?_⟩
   rcases List.mem_cons.1 hp with rfl|hp
   ·rw[hf]at h3;cases h3
   ·exact h2 ⟨p,hp,h3,h4⟩
theorem s8{seen:Array Nat}{p:KV}(hp:p∈CK)(hn: ¬seen.contains p.born=true):(CK.filter (λ q=> !(seen.push p.born).contains q.born)).length<(CK.filter (λ q=> !seen.contains q.born)).length:=by
 have hc:(λ q:KV=> !(seen.push p.born).contains q.born)=λ q=> !(seen.contains q.born||q.born==p.born):=by
  funext q;congr 1;rw[Bool.eq_iff_iff];simp[Array.contains_iff_mem,Array.mem_push]
 rw[hc]
 exact(fI (λ q:KV=>seen.contains q.born) (λ q=>q.born==p.born) CK).2 ⟨p,hp,by simpa using hn,by simp⟩
def LB(b:UInt8):Int:=if 48<=b.toNat/\b.toNat<=57 then b.toNat-48 else if 97<=b.toNat/\b.toNat<=102 then b.toNat-87 else if 65<=b.toNat/\b.toNat<=70 then b.toNat-55 else-1
def ER(l:A1):Bool:=l.all (λ b=>decide (0<=LB b))
def F9(l:A1):Int:=l.foldl (λ n b=>n*16+LB b) 0
def BB(s:A1):Int:=if len s<6 then-1 else if Lib.hasPrefix s [92,117]=false then-1 else if ER (Eng.sub s 2 6)then F9 (Eng.sub s 2 6)else-1
def B2(s:A1):Int×Int:=
 if len s<2 then(0,0)
 else if HI (A3 s 1)then(IT (A3 s 1),2)
 else if BB s<0\/(56320<=BB s/\BB s<57344)then(0,0)
 else if BB s<55296\/57344<=BB s then(BB s,6)
 else if BB (A4 s 6)<56320\/57344<=BB (A4 s 6)then(0,0)
 else(65536+(BB s-55296)*1024+BB (A4 s 6)-56320,12)
theorem s9(b:UInt8):LB b<=15:=by unfold LB;(repeat' split)<;>omega
theorem RN: ∀(l:A1) (n:Int),(∀b∈l,0<=LB b)->0<=n->0<=l.foldl (λ n b=>n*16+LB b) n/\l.foldl (λ n b=>n*16+LB b) n<(n+1)*16^l.length
 |[],n,_,h0=>by simp;omega
 |a::l,n,h,h0=>by
  have ha:=h a (by simp)
  have hb:=s9 a
  have:=RN l (n*16+LB a) (λ b hb=>h b (by simp[hb])) (by omega)
  rw[List.foldl_cons]
  refine⟨this.1,Int.lt_of_lt_of_le this.2 ?_⟩
  have h1:(n+1)*16^ (a::l).length=((n+1)*16)*16^l.length:=by rw[List.length_cons,Int.pow_succ,Int.mul_comm (16^l.length) 16,<-Int.mul_assoc]
  rw[h1]
  exact Int.mul_le_mul_of_nonneg_right (by omega) (Int.le_of_lt (Int.pow_pos (by decide:(0:Int)<16)))
theorem sA{l:A1}(hl:len l=4)(h:ER l=true):0<=F9 l/\F9 l<=65535:=by
 unfold ER at h
 have:=RN l 0 (by simpa[List.all_eq_true]using h) (by omega)
 rw[show l.length=4 from by unfold len at hl;omega]at this
 unfold F9;omega
theorem NO(s:A1): -1<=BB s/\BB s<=65535/\(0<=BB s->6<=len s):=by
 unfold BB
 split
 ·omega
 ·split
  ·omega
  ·split
   ·rename_i h1 h2 h3
    unfold ER at h3
    have:=RN (Eng.sub s 2 6) 0 (by simpa[List.all_eq_true]using h3) (by omega)
    have hl:(Eng.sub s 2 6).length=4:=by have:=EV (s:=s) (i:=2) (j:=6) (by omega) (by omega) (by omega);unfold len at this;omega
    rw[hl]at this
    unfold F9;omega
   ·omega
theorem sB(s:A1):0<=(B2 s).1/\(B2 s).1<=1114111/\0<=(B2 s).2/\(B2 s).2<=12:=by
 have h1:=NO s
 have h2:=NO (A4 s 6)
 have h3:=L4 s 1
 have h4:0<=IT (A3 s 1)/\IT (A3 s 1)<=255:=by unfold IT;(repeat' split)<;>omega
 unfold B2
 repeat' split
 all_goals (dsimp only;omega)
def DP(f:Nat)(s:A1)(i:Int)(acc:List Int):A1×Int×Int:=
 match f with
 |0=>([],len s,1)
 |f+1=>
  if i<len s then
   if AR (A4 s i) 0=34 then(toStr acc,i+1,0)
   else if AR (A4 s i) 0=92 then
    if(B2 (A4 s i)).2=0 then([],i,1)else DP f s (i+(B2 (A4 s i)).2) (acc++Lib.encodeRuneZ (B2 (A4 s i)).1)
   else if AR (A4 s i) 0<32\/(AR (A4 s i) 0=65533/\runeLen (A4 s i) 0=1)then([],i,1)
   else DP f s (i+runeLen (A4 s i) 0) (acc++Lib.encodeRuneZ (AR (A4 s i) 0))
  else([],len s,1)
def AS(s:A1):A1×Int×Int:=if Lib.hasPrefix s [34]then DP s.length s 1 []else([],0,1)
theorem KE{f:Nat}{s:A1}{i:Int}{acc:List Int}(hf:(len s-i).toNat<=f)(h1:i<len s):DP f s i acc=
  (if AR (A4 s i) 0=34 then(toStr acc,i+1,0)
   else if AR (A4 s i) 0=92 then
    if(B2 (A4 s i)).2=0 then([],i,1)else DP (f-1) s (i+(B2 (A4 s i)).2) (acc++Lib.encodeRuneZ (B2 (A4 s i)).1)
   else if AR (A4 s i) 0<32\/(AR (A4 s i) 0=65533/\runeLen (A4 s i) 0=1)then([],i,1)
   else DP (f-1) s (i+runeLen (A4 s i) 0) (acc++Lib.encodeRuneZ (AR (A4 s i) 0))):=by
 cases f with
 |zero=>omega
 |succ f=>
     conv=>lhs;unfold DP
     rw[if_pos h1];rfl
theorem fJ{f:Nat}{s:A1}{i:Int}{acc:List Int}(h1: ¬i<len s):DP f s i acc=([],len s,1):=by
 cases f with
 |zero=>rfl
 |succ f=>unfold DP;rw[if_neg h1]
theorem sC:Lets #[] []:=⟨by simp,λ p _ h=>by simp at h,λ r _=>rfl⟩
def FJ(n:Int):Int:=if n<10 then 48+n else 87+n
def D9(r:Int):A1:=if JH r then [92,(JI r).toNat.toUInt8]else if r<32 then [92,117,48,48,(FJ (r/16)).toNat.toUInt8,(FJ (r%16)).toNat.toUInt8]else Lib.encodeRune r
theorem RO(s:A1)(p:Int)(h0:0<=p)(h1:p<len s):1<=runeLen s p/\p+runeLen s p<=len s:=by
 have hs:(ByteArray.mk ⟨s⟩).size=s.length:=rfl
 have h2:=Lib.decode_width_pos ⟨⟨s⟩⟩ p.toNat (by rw[hs];unfold len at h1;omega)
 have h3:(Utf8.decode ⟨⟨s⟩⟩ p.toNat).2<=(ByteArray.mk ⟨s⟩).size-p.toNat:=by rw[Lib.decode_at];exact Lib.decodeN_width_le _ _ _ _ _ (by rw[hs];unfold len at h1;omega)
 rw[hs]at h3
 unfold runeLen len at*;omega
def FB(s:A1)(p:Int):A1:=if h:0<=p/\p<len s then D9 (AR s p)++FB s (p+runeLen s p)else []
termination_by (len s-p).toNat
decreasing_by have:=RO s p h.1 h.2;omega
def A9(s:A1):A1:=34::FB s 0++[34]
theorem PQ{s:A1}{p:Int}(h0:0<=p)(h1:p<len s):FB s p=D9 (AR s p)++FB s (p+runeLen s p):=by rw[FB,dif_pos ⟨h0,h1⟩]
theorem UK{s:A1}{p:Int}(h1: ¬p<len s):FB s p=[]:=by rw[FB,dif_neg (by omega)]
theorem UL(s:A1)(p:Int):0<=AR s p/\AR s p<=1114111:=by have:=Lib.rune_le ⟨⟨s⟩⟩ p.toNat;unfold AR;omega
theorem fK(r:Int):0<=JI r/\JI r<=255:=by
 unfold JI
 (repeat' split)<;>first|omega|skip
 rename_i h;unfold JH at h;simp only[Bool.or_eq_true,beq_iff_eq]at h;omega
theorem sD{r:Int}(h:JH r=true):ints (D9 r)=[92,JI r]:=by
 have:=fK r
 unfold D9;rw[if_pos h];simp[ints];omega
theorem sE{r:Int}(h:JH r=false)(h2:r<32)(h3:0<=r):ints (D9 r)=ints [92,117,48,48]++ints (A4 [49,(FJ (r/16)).toNat.toUInt8,(FJ (r%16)).toNat.toUInt8] 1):=by
 unfold D9;rw[if_neg (by rw[h];simp),if_pos h2];rfl
theorem sF{r:Int}(h:JH r=false)(h2: ¬r<32):ints (D9 r)=Lib.encodeRuneZ r:=by
 unfold D9;rw[if_neg (by rw[h];simp),if_neg h2]
 unfold ints Lib.encodeRune;rw[List.map_map]
 conv=>rhs;rw[<-List.map_id (Lib.encodeRuneZ r)]
 apply List.map_congr_left
 intro x hx
 have:=Lib.encodeRuneZ_byte r x hx
 simp;omega
end Go.Eng
namespace Go.Eng
open Go.RowKit
def GW(b:UInt8):Bool:=L7 (b.toNat:Int)
def DD(s:A1)(i:Int):Int:=i+len ((A4 s i).takeWhile GW)
theorem sG{s:A1}{i:Int}(h0:0<=i)(h1:i<len s)(h:L7 (A3 s i)=true):DD s (i+1)=DD s i:=by
 obtain⟨b,h2,h3⟩:=IS s i h0 h1
 unfold DD
 rw[h2,List.takeWhile_cons,show GW b=true from by unfold GW;rw[<-h3];exact h]
 simp[len];omega
theorem sH{s:A1}{i:Int}(h1:len s<=i):DD s i=i:=by
 unfold DD;rw[OJ s i h1];simp[len]
theorem KF(s:A1)(i:Int)(h0:0<=i)(h1:i<=len s):i<=DD s i/\DD s i<=len s:=by
 have h2:=DV s i h0 h1
 have h3:=(List.takeWhile_sublist GW (l:=A4 s i)).length_le
 unfold DD len at*;omega
def UM(s:A1)(i:Int)(t:A1):Bool:=decide (i+len t<=len s)&&(Eng.sub s i (i+len t)==t)
def KG(n:Int):A1:=Eng.sub [48,49,50,51,52,53,54,55,56,57,97,98,99,100,101,102] n (n+1)
def G3(c:Int):A1:=
 if c=34 then [92,34]else if c=92 then [92,92]else if c=8 then [92,98]else if c=12 then [92,102]else if c=10 then [92,110]else if c=13 then [92,114]else if c=9 then [92,116]
 else if c<32 then [92,117,48,48]++KG (c/16)++KG (c%16)else toStr [c]
def I6(b:UInt8):A1:=G3 (b.toNat:Int)
def IU(s:A1):A1:=34::s.flatMap I6++[34]
theorem fL(c:Int):0<=len (G3 c)/\len (G3 c)<=6:=by
 have h1:=GV ([48,49,50,51,52,53,54,55,56,57,97,98,99,100,101,102]:A1) (c/16) (c/16+1)
 have h2: ∀n:Int,0<=len (KG n)/\len (KG n)<=1:=by intro n;unfold KG Eng.sub len;simp;omega
 have h3:=h2 (c/16)
 have h4:=h2 (c%16)
 unfold G3 toStr
 (repeat' split)<;>(simp only[A5,A7,len_nil,List.map_cons,List.map_nil];omega)
theorem RP{s:A1}{k:Int}(h0:0<=k)(h1:k<len s): ∃b,Eng.sub s 0 (k+1)=Eng.sub s 0 k++[b]/\(b.toNat:Int)=A3 s k:=by
 have h:k.toNat<s.length:=by unfold len at h1;omega
 refine⟨s[k.toNat],?_,by simp[A3,h]⟩
 unfold Eng.sub
 simp only[Int.toNat_zero,List.drop_zero,Nat.sub_zero]
 rw[show(k+1).toNat=k.toNat+1 from by omega,List.take_succ_eq_append_getElem h]
theorem sI{s:A1}{k:Int}{o:A1}(h0:0<=k)(h1:k<len s)(h:o=34::(Eng.sub s 0 k).flatMap I6):o++G3 (A3 s k)=34::(Eng.sub s 0 (k+1)).flatMap I6:=by
 obtain⟨b,h2,h3⟩:=RP h0 h1
 rw[h2,h,List.flatMap_append,<-h3];simp[I6]
theorem UN{b:UInt8}:(([48]:A1).contains b)=true↔(b.toNat:Int)=48:=by
 simp only[List.contains_cons,List.contains_nil,Bool.or_false,beq_iff_eq]
 constructor
 ·rintro rfl;rfl
 ·intro h;apply UInt8.toNat_inj.1;show b.toNat=48;omega
theorem sJ{s:A1}(h: ¬(0<len s/\A3 s 0=48)):AZ s=s:=by
 cases s with
 |nil=>rfl
 |cons a l=>
  unfold AZ
  rw[List.dropWhile_cons,if_neg]
  intro hc
  have h1:=UN.1 hc
  exact h ⟨by rw[A7];have:=AA l;omega,by simpa[A3]using h1⟩
theorem sK{s:A1}(h:0<len s): ∃b,s=Eng.sub s 0 (len s-1)++[b]/\(b.toNat:Int)=A3 s (len s-1):=by
 obtain⟨b,h1,h2⟩:=RP (s:=s) (k:=len s-1) (by omega) (by omega)
 rw[show len s-1+1=len s from by omega,IP s (len s) (by omega)]at h1
 exact⟨b,h1,h2⟩
theorem RT(x:Int)(n:Nat)(h:x.toNat=n):toStr [x]=[UInt8.ofNat n]:=by subst h;rfl
theorem OL{k:Int}(h:0<=k):Lib.itoa k=(if 10<=k then Lib.itoa (k/10)else [])++toStr [48+k%10]:=by
 rw[RT _ (48+k.toNat%10) (by omega)]
 by_cases hk:10<=k
 ·rw[if_pos hk]
  unfold Lib.itoa
  rw[if_neg (by omega),if_neg (by omega),Lib.decDigits,dif_neg (by omega),show(k/10).toNat=k.toNat/10 from by omega]
 ·rw[if_neg hk]
  unfold Lib.itoa
  rw[if_neg (by omega),Lib.decDigits,dif_pos (by omega),Nat.mod_eq_of_lt (by omega)];rfl
theorem sL{k:Int}(h:k<= -10):Lib.itoa k=Lib.itoa (-((-k)/10))++toStr [48+(-k)%10]:=by
 rw[RT _ (48+k.natAbs%10) (by omega)]
 unfold Lib.itoa
 rw[if_pos (by omega),if_pos (by omega),Lib.decDigits,dif_neg (by omega),show(-((-k)/10)).natAbs=k.natAbs/10 from by omega];rfl
theorem sM{k:Int}(h: -10<k)(h2:k<0):Lib.itoa k=[45]++toStr [48-k]:=by
 rw[RT _ (48+k.natAbs) (by omega)]
 unfold Lib.itoa
 rw[if_pos (by omega),Lib.decDigits,dif_pos (by omega)];rfl
theorem sN{k:Int}(h:k<=0):k.tdiv 10= -((-k)/10):=by
 have:k= -(-k):=by omega
 rw[this,Int.neg_tdiv,Int.tdiv_eq_ediv_of_nonneg (by omega)];simp
theorem sO{k:Int}(h:k<=0):k.tmod 10= -((-k)%10):=by
 have:k= -(-k):=by omega
 rw[this,Int.neg_tmod,Int.tmod_eq_emod_of_nonneg (by omega)];simp
theorem sP{a:UInt8}{l:A1}(h:(([48]:A1).contains a)=true):AZ (a::l)=AZ l:=by unfold AZ;rw[List.dropWhile_cons,if_pos h]
end Go.Eng
namespace Go.Eng
def OM(n x0 x1 x2 x3:Nat):Nat:=
 if x0<128 then 1
 else if 194<=x0/\x0<224/\(1<n/\128<=x1/\x1<192)then 2
 else if 224<=x0/\x0<240/\(1<n/\128<=x1/\x1<192)/\(2<n/\128<=x2/\x2<192)then
  if(x0=224/\x1<160)\/(x0=237/\160<=x1)then 0 else 3
 else if 240<=x0/\x0<245/\(1<n/\128<=x1/\x1<192)/\(2<n/\128<=x2/\x2<192)/\(3<n/\128<=x3/\x3<192)then
  if(x0=240/\x1<144)\/(x0=244/\144<=x1)then 0 else 4
 else 0
def Y7(n x0 x1 x2 x3 k r l:Nat):Prop:=
 (k=0/\r=65533/\l=1/\128<=x0)\/(k=1/\r=x0/\l=1/\x0<128)\/
 (k=2/\l=2/\2<=n/\128<=r/\r<=2047/\192+r/64=x0/\128+r%64=x1)\/
 (k=3/\l=3/\3<=n/\((2048<=r/\r<55296)\/(57343<r/\r<=65535))/\224+r/4096=x0/\128+r/64%64=x1/\128+r%64=x2)\/
 (k=4/\l=4/\4<=n/\65536<=r/\r<=1114111/\240+r/262144=x0/\128+r/4096%64=x1/\128+r/64%64=x2/\128+r%64=x3)
set_option maxHeartbeats 4000000 in
set_option maxRecDepth 100000 in
theorem Y8(n x0 x1 x2 x3:Nat)(hn:1<=n)(h0:x0<256)(h1:x1<256)(h2:x2<256)(h3:x3<256):Y7 n x0 x1 x2 x3 (OM n x0 x1 x2 x3) (Lib.decodeN n x0 x1 x2 x3).1 (Lib.decodeN n x0 x1 x2 x3).2:=by
 unfold OM Lib.decodeN Y7
 repeat' split
 all_goals first|exact .inl ⟨rfl,rfl,rfl,by omega⟩|exact .inr (.inl ⟨rfl,rfl,rfl,by omega⟩)|exact .inr (.inr (.inl ⟨rfl,rfl,by omega,by dsimp only;omega,by dsimp only;omega,by dsimp only;omega,by dsimp only;omega⟩))|exact .inr (.inr (.inr (.inl ⟨rfl,rfl,by omega,by dsimp only;omega,by dsimp only;omega,by dsimp only;omega,by dsimp only;omega⟩)))|exact .inr (.inr (.inr (.inr ⟨rfl,rfl,by omega,by dsimp only;omega,by dsimp only;omega,by dsimp only;omega,by dsimp only;omega,by dsimp only;omega,by dsimp only;omega⟩)))|(exfalso;omega)
end Go.Eng
namespace Go.Eng
open Go.RowKit
theorem UO(s:A1)(i:Int)(h0:0<=i)(j:Nat):A3 s (i+j)=((s.getD (i.toNat+j) 0).toNat:Int):=by
 unfold A3;rw[show(i+j).toNat=i.toNat+j from by omega]
theorem fM(s:A1)(i:Int)(j:Nat):(A4 s i).getD j 0=s.getD (i.toNat+j) 0:=by
 unfold A4;simp[List.getD_eq_getElem?_getD,List.getElem?_drop]
theorem fN(l:A1)(j:Nat):(ByteArray.mk ⟨l⟩).get! j=l.getD j 0:=by
 show(Array.mk l)[j]! =_
 simp[List.getD_eq_getElem?_getD]
 rfl
theorem KH{α:Type}(s:List α)(i j:Int)(h0:0<=i)(h1:0<=j):A4 (A4 s i) j=A4 s (i+j):=by
 unfold A4;rw[List.drop_drop,show(i+j).toNat=i.toNat+j.toNat from by omega]
theorem NP(s:A1)(i j:Int)(h0:0<=i)(h1:0<=j):A3 (A4 s i) j=A3 s (i+j):=by
 unfold A3;rw[fM,show(i+j).toNat=i.toNat+j.toNat from by omega]
theorem UP(s:A1)(i:Int)(h0:0<=i):
  Utf8.decode ⟨⟨A4 s i⟩⟩ 0=Lib.decodeN (s.length-i.toNat) (s.getD i.toNat 0).toNat (s.getD (i.toNat+1) 0).toNat (s.getD (i.toNat+2) 0).toNat (s.getD (i.toNat+3) 0).toNat:=by
 rw[Lib.decode_at]
 simp only[fN,fM,Nat.zero_add,Nat.add_zero,Nat.sub_zero]
 congr 1
 show(A4 s i).length=_
 unfold A4;rw[List.length_drop]
theorem RU(s:A1)(i:Int)(h0:0<=i):Utf8.decode ⟨⟨s⟩⟩ i.toNat=Utf8.decode ⟨⟨A4 s i⟩⟩ 0:=by
 rw[UP s i h0,Lib.decode_at]
 simp only[fN];rfl
theorem PS(s:A1)(i:Int)(h0:0<=i):AR (A4 s i) 0=AR s i:=by unfold AR;rw[RU s i h0];rfl
theorem ON(s:A1)(i:Int)(h0:0<=i):runeLen (A4 s i) 0=runeLen s i:=by unfold runeLen;rw[RU s i h0];rfl
theorem UQ{s:A1}{i:Int}(h0:0<=i): ∀n:Nat,i+n<=len s->Eng.sub s i (i+n)=(List.range n).map (λ j=>s.getD (i.toNat+j) 0):=by
 intro n h
 unfold Eng.sub
 apply List.ext_getElem?
 intro k
 rw[show(i+n).toNat-i.toNat=n from by omega]
 unfold len at h
 by_cases hk:k<n
 ·rw[List.getElem?_take,if_pos hk,List.getElem?_drop]
  have:i.toNat+k<s.length:=by omega
  simp[hk,this]
 ·rw[List.getElem?_take,if_neg hk]
  simp[hk]
theorem KI(b:UInt8)(x:Int)(h:x=(b.toNat:Int)):UInt8.ofNat x.toNat=b:=by subst h;simp
theorem Y9{s:A1}{i:Int}(h0:0<=i)(h1:i<len s):rune s i=(OM (s.length-i.toNat) (s.getD i.toNat 0).toNat (s.getD (i.toNat+1) 0).toNat (s.getD (i.toNat+2) 0).toNat (s.getD (i.toNat+3) 0).toNat:Nat):=by
 have e0:A3 s i=((s.getD i.toNat 0).toNat:Int):=rfl
 have e1:A3 s (i+1)=((s.getD (i.toNat+1) 0).toNat:Int):=UO s i h0 1
 have e2:A3 s (i+2)=((s.getD (i.toNat+2) 0).toNat:Int):=UO s i h0 2
 have e3:A3 s (i+3)=((s.getD (i.toNat+3) 0).toNat:Int):=UO s i h0 3
 have hlen:len s=(s.length:Int):=rfl
 unfold rune cont OM
 simp only[e0,e1,e2,e3]
 simp only[Bool.and_eq_true,Bool.or_eq_true,decide_eq_true_eq,beq_iff_eq]
 repeat' split
 all_goals first|rfl|(exfalso;omega)
theorem MM{s:A1}{i:Int}(h0:0<=i)(h1:i<len s):
  (rune s i=0/\AR s i=65533/\runeLen s i=1/\128<=A3 s i)\/
  (1<=rune s i/\runeLen s i=rune s i/\ ¬(AR s i=65533/\runeLen s i=1)/\toStr (Lib.encodeRuneZ (AR s i))=Eng.sub s i (i+rune s i)/\(A3 s i<128->rune s i=1/\AR s i=A3 s i)/\(128<=A3 s i->128<=AR s i)):=by
 have hlen:len s=(s.length:Int):=rfl
 have hrn:=Y9 h0 h1
 have hle:=rune_le s i h1
 have e0:A3 s i=((s.getD i.toNat 0).toNat:Int):=rfl
 have s1:=UQ (s:=s) h0 1
 have s2:=UQ (s:=s) h0 2
 have s3:=UQ (s:=s) h0 3
 have s4:=UQ (s:=s) h0 4
 simp only[List.range_succ,List.range_zero,List.nil_append,List.map_append,List.map_cons,List.map_nil,List.cons_append,Nat.add_zero]at s1 s2 s3 s4
 have hr:AR s i=((Lib.decodeN (s.length-i.toNat) (s.getD i.toNat 0).toNat (s.getD (i.toNat+1) 0).toNat (s.getD (i.toNat+2) 0).toNat (s.getD (i.toNat+3) 0).toNat).1:Nat):=by
  unfold AR;rw[RU s i h0,UP s i h0]
 have hl:runeLen s i=((Lib.decodeN (s.length-i.toNat) (s.getD i.toNat 0).toNat (s.getD (i.toNat+1) 0).toNat (s.getD (i.toNat+2) 0).toNat (s.getD (i.toNat+3) 0).toNat).2:Nat):=by
  unfold runeLen;rw[RU s i h0,UP s i h0]
 have hD:=Y8 (s.length-i.toNat) (s.getD i.toNat 0).toNat (s.getD (i.toNat+1) 0).toNat (s.getD (i.toNat+2) 0).toNat (s.getD (i.toNat+3) 0).toNat (by omega) (UInt8.toNat_lt _) (UInt8.toNat_lt _) (UInt8.toNat_lt _) (UInt8.toNat_lt _)
 generalize Lib.decodeN (s.length-i.toNat) (s.getD i.toNat 0).toNat (s.getD (i.toNat+1) 0).toNat (s.getD (i.toNat+2) 0).toNat (s.getD (i.toNat+3) 0).toNat=D at*
 generalize OM (s.length-i.toNat) (s.getD i.toNat 0).toNat (s.getD (i.toNat+1) 0).toNat (s.getD (i.toNat+2) 0).toNat (s.getD (i.toNat+3) 0).toNat=K at*
 obtain⟨r,l⟩:=D
 dsimp only at hD hr hl
 rcases hD with⟨rfl,hd,hx⟩|⟨rfl,hd,hx⟩|⟨rfl,hd,hx⟩|⟨rfl,hd,hx⟩|⟨rfl,hd,hx⟩
 ·left;refine⟨by omega,by omega,by omega,by omega⟩
 ·right
  refine⟨by omega,by omega,by omega,?_,λ _=>⟨by omega,by omega⟩,by omega⟩
  rw[hr,hrn,Lib.encodeRuneZ_one (by omega) (by omega)]
  rw[show((1:Nat):Int)=1 from rfl]at*
  rw[s1 (by omega)]
  simp only[toStr,List.map_cons,List.map_nil]
  rw[KI (s.getD i.toNat 0) _ (by omega)]
 ·right
  refine⟨by omega,by omega,by omega,?_,by omega,by omega⟩
  rw[hr,hrn,Lib.encodeRuneZ_two (by omega) (by omega)]
  have:=s2 (by omega)
  refine Eq.trans ?_ this.symm
  simp only[toStr,List.map_cons,List.map_nil]
  rw[KI (s.getD i.toNat 0) _ (by omega),KI (s.getD (i.toNat+1) 0) _ (by omega)]
 ·right
  refine⟨by omega,by omega,by omega,?_,by omega,by omega⟩
  rw[hr,hrn,Lib.encodeRuneZ_three (by omega)]
  have:=s3 (by omega)
  refine Eq.trans ?_ this.symm
  simp only[toStr,List.map_cons,List.map_nil]
  rw[KI (s.getD i.toNat 0) _ (by omega),KI (s.getD (i.toNat+1) 0) _ (by omega),KI (s.getD (i.toNat+2) 0) _ (by omega)]
 ·right
  refine⟨by omega,by omega,by omega,?_,by omega,by omega⟩
  rw[hr,hrn,Lib.encodeRuneZ_four (by omega) (by omega)]
  have:=s4 (by omega)
  refine Eq.trans ?_ this.symm
  simp only[toStr,List.map_cons,List.map_nil]
  rw[KI (s.getD i.toNat 0) _ (by omega),KI (s.getD (i.toNat+1) 0) _ (by omega),KI (s.getD (i.toNat+2) 0) _ (by omega),KI (s.getD (i.toNat+3) 0) _ (by omega)]
end Go.Eng
namespace Go.Eng
open Go.RowKit
def OO(s:A1):A1:=s.dropWhile (([32,9,10,13]:A1).contains ·)
def DA(s:A1):A1:=s.dropWhile (([48,49,50,51,52,53,54,55,56,57,43,45,46,101,69]:A1).contains ·)
def HJ(b:UInt8):Bool:=([48,49,50,51,52,53,54,55,56,57,43,45,46,101,69]:A1).contains b
theorem drop_take{α:Type}(p:α->Bool): ∀l:List α,l.dropWhile p=l.drop (l.takeWhile p).length
 |[]=>rfl
 |a::l=>by
  rw[List.dropWhile_cons,List.takeWhile_cons]
  split
  ·rw[List.length_cons,List.drop_succ_cons];exact drop_take p l
  ·rfl
theorem sQ(b:UInt8):([32,9,10,13]:A1).contains b=GW b:=by
 unfold GW L7
 rw[Bool.eq_iff_iff]
 simp only[List.contains_cons,List.contains_nil,Bool.or_false,Bool.or_eq_true,beq_iff_eq]
 have h: ∀n:Nat,n<256->(b=UInt8.ofNat n↔(b.toNat:Int)=n):=λ n hn=>by
  rw[<-UInt8.toNat_inj];simp[Nat.mod_eq_of_lt hn];omega
 have h1:=h 32 (by omega)
 have h2:=h 9 (by omega)
 have h3:=h 10 (by omega)
 have h4:=h 13 (by omega)
 have e1:b=32↔(b.toNat:Int)=32:=h1
 have e2:b=9↔(b.toNat:Int)=9:=h2
 have e3:b=10↔(b.toNat:Int)=10:=h3
 have e4:b=13↔(b.toNat:Int)=13:=h4
 rw[e1,e2,e3,e4];omega
theorem fO(s:A1)(i:Int)(h0:0<=i):OO (A4 s i)=A4 s (DD s i):=by
 unfold OO DD
 rw[show(λ b=>([32,9,10,13]:A1).contains b)=GW from funext sQ,drop_take,<-KH s i _ h0 (AA _)]
 unfold A4 len
 rw[Int.toNat_natCast]
def runN(s:A1):A1:=Eng.sub s 0 (len s-len (DA s))
theorem RW(s:A1):runN s=s.takeWhile HJ:=by
 unfold runN DA
 rw[show(λ b=>([48,49,50,51,52,53,54,55,56,57,43,45,46,101,69]:A1).contains b)=HJ from rfl,drop_take]
 have h:=(List.takeWhile_prefix HJ (l:=s)).length_le
 unfold Eng.sub len
 rw[List.length_drop]
 have e:((s.length:Int)-((s.length-(s.takeWhile HJ).length:Nat):Int)).toNat-Int.toNat 0=(s.takeWhile HJ).length:=by omega
 rw[e]
 simp only[Int.toNat_zero,List.drop_zero]
 exact(List.prefix_iff_eq_take.1 (List.takeWhile_prefix HJ)).symm
theorem sR(s:A1):0<=len (DA s)/\len (DA s)<=len s:=by
 have:=(List.dropWhile_sublist (([48,49,50,51,52,53,54,55,56,57,43,45,46,101,69]:A1).contains ·) (l:=s)).length_le
 unfold DA len;omega
def BX(s:A1):A1:=(AI.find? (λ m=>Lib.hasPrefix s m)).getD []
theorem OP(s:A1):BX s=[]\/(BX s∈AI/\Lib.hasPrefix s (BX s)=true):=by
 unfold BX
 cases h:AI.find? (λ m=>Lib.hasPrefix s m)with
 |none=>left;rfl
 |some m=>right;exact⟨List.mem_of_find?_eq_some h,by simpa using List.find?_some h⟩
def fP:Tk:=⟨0,[],AO,0⟩
def AB(s:A1):Tk×Int×Int:=
 if A3 s 0=46/\AY (A4 s 1)≠[]then(⟨3,AY (A4 s 1),AO,0⟩,1+len (AY (A4 s 1)),0)
 else if A3 s 0=46/\Lib.hasPrefix (A4 s 1) [34]=true then(⟨3,(AS (A4 s 1)).1,AO,0⟩,1+(AS (A4 s 1)).2.1,(AS (A4 s 1)).2.2)
 else if BX s≠[]then(⟨1,BX s,AO,0⟩,len (BX s),0)
 else if AY s≠[]then(⟨2,AY s,AO,0⟩,len (AY s),0)
 else if A3 s 0=34 then(⟨4,(AS s).1,AO,0⟩,(AS s).2.1,(AS s).2.2)
 else if A3 s 0=45\/BM (A3 s 0)=true then
  if(C3 (runN s)).2.2≠0 then(fP,(C3 (runN s)).2.1,(C3 (runN s)).2.2)
  else(⟨5,[],(C3 (runN s)).1,0⟩,len (runN s),0)
 else(fP,0,1)
def G4(s:A1):Tk:=⟨6,[],AO,len s⟩
def IV(f:Nat)(s:A1)(i:Int)(acc:List Tk):List Tk×Int×Int:=
 match f with
 |0=>(acc++[G4 s],0,0)
 |f+1=>
  if i<len s then
   if(AB (A4 s i)).2.2≠0 then([],i+(AB (A4 s i)).2.1,(AB (A4 s i)).2.2)
   else IV f s (DD s (i+(AB (A4 s i)).2.1)) (acc++[{ (AB (A4 s i)).1 with pos:=i}])
  else(acc++[G4 s],0,0)
def CF(s:A1):List Tk×Int×Int:=IV s.length s (DD s 0) []
theorem PT{f:Nat}{s:A1}{i:Int}{acc:List Tk}(hf:(len s-i).toNat<=f)(h1:i<len s):IV f s i acc=
  if(AB (A4 s i)).2.2≠0 then([],i+(AB (A4 s i)).2.1,(AB (A4 s i)).2.2)
   else IV (f-1) s (DD s (i+(AB (A4 s i)).2.1)) (acc++[{ (AB (A4 s i)).1 with pos:=i}]):=by
 cases f with
 |zero=>omega
 |succ f=>
    conv=>lhs;unfold IV
    rw[if_pos h1];rfl
theorem YA{f:Nat}{s:A1}{i:Int}{acc:List Tk}(h1: ¬i<len s):IV f s i acc=(acc++[G4 s],0,0):=by
 cases f with
 |zero=>rfl
 |succ f=>unfold IV;rw[if_neg h1]
theorem NQ{s:A1}{i:Int}(h0:0<=i)(h1:i<=len s):i<=D6 s i/\D6 s i<=len s:=by
 by_cases h:i<len s
 ·by_cases hw:C0 (A3 s i) (i==0)=true
  ·have:=NQ (s:=s) (i:=i+1) (by omega) (by omega)
   rw[PI h0 h hw]at this;omega
  ·rw[PJ h0 h (by simpa using hw)];omega
 ·rw[PK h];omega
termination_by (len s-i).toNat
theorem LC(s:A1):len (AY s)=D6 s 0:=by
 have:=NQ (s:=s) (i:=0) (by omega) (AA s)
 unfold AY;rw[EV (by omega) (by omega) (by omega)];omega
theorem NR(s:A1):0<=len (AY s)/\len (AY s)<=len s:=by
 have:=NQ (s:=s) (i:=0) (by omega) (AA s)
 rw[LC];omega
theorem UR{α:Type}(s:List α)(i:Int)(h0:0<=i):len (A4 s i)=if i<=len s then len s-i else 0:=by
 unfold A4 len;rw[List.length_drop];split<;>omega
theorem US(s:A1):0<=(B2 s).2/\(B2 s).2<=len s/\((B2 s).2≠0->2<=(B2 s).2):=by
 have h1:=NO s
 have h2:=NO (A4 s 6)
 have h3:=UR s 6 (by omega)
 have h4:=AA s
 unfold B2
 repeat' split
 all_goals (dsimp only;try (split at h3);all_goals omega)
theorem RX{s:A1}{i:Int}(h0:0<=i)(h1:i<len s):1<=runeLen s i/\i+runeLen s i<=len s:=by
 have h2:=rune_le s i h1
 rcases MM h0 h1 with⟨_,_,h3,_⟩|⟨h3,h4,_⟩<;>omega
theorem UT{f:Nat}{s:A1}{i:Int}{acc:List Int}(h0:0<=i)(h1:i<=len s):
  0<=(DP f s i acc).2.1/\(DP f s i acc).2.1<=len s/\((DP f s i acc).2.2=0->i<(DP f s i acc).2.1)/\((DP f s i acc).2.2=0\/(DP f s i acc).2.2=1):=by
 induction f generalizing i acc with
 |zero=>unfold DP;dsimp only;omega
 |succ f ih=>
  unfold DP
  split
  ·rename_i hlt
   have hf:=DV s i h0 h1
   split
   ·dsimp only;omega
   ·split
    ·have he:=US (A4 s i)
     split
     ·dsimp only;omega
     ·have:=ih (i:=i+(B2 (A4 s i)).2) (acc:=acc++Lib.encodeRuneZ (B2 (A4 s i)).1) (by omega) (by omega)
      omega
    ·split
     ·dsimp only;omega
     ·have hb:=RX h0 hlt
      rw[ON s i h0]
      have:=ih (i:=i+runeLen s i) (acc:=acc++Lib.encodeRuneZ (AR (A4 s i) 0)) (by omega) (by omega)
      omega
  ·dsimp only;omega
theorem YB{s p:A1}(h:Lib.hasPrefix s p=true):len p<=len s:=by
 have:=(List.isPrefixOf_iff_prefix.1 h).length_le
 unfold len;omega
theorem MN(s:A1):0<=(AS s).2.1/\(AS s).2.1<=len s/\((AS s).2.2=0->2<=(AS s).2.1)/\((AS s).2.2=0\/(AS s).2.2=1):=by
 unfold AS
 split
 ·rename_i h
  have h1:(1:Int)<=len s:=YB h
  have:=UT (f:=s.length) (s:=s) (i:=1) (acc:=[]) (by omega) h1
  omega
 ·have:=AA s;dsimp only;omega
def PU(t:Tk):A1:=
 if t.kind=3 then 46::(if ¬AY t.s=t.s\/t.s=[]then A9 t.s else t.s)
 else if t.kind=4 then A9 t.s
 else if t.kind=5 then CP t.c
 else t.s
def DE(s:A1):A1:=if D7 s then s else IU s
end Go.Eng
