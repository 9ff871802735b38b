/-
  Parts Quote Ref UtfN Utf Lexp Pf Ka Ia, put together and made short by wip/py/merge.py (mini.py).
-/
import Derived.Test.YtmjpjbmeamnfpaaGreatDoorZd9
import Derived.Test.YtmjpjbmeamnfpaaGreatDoorZd3
import Derived.Lib.RuneBytes
import Derived.Lib.QuoteLoop
import Derived.Lib.RuneCount
import Derived.Lib.DecodeN
import Derived.Lib.Join
import Derived.Test.YtmjpjbmeamnfpaaGreatDoorZd8
import Derived.Test.YtmjpjbmeamnfpaaGreatDoorZd7
import Derived.Test.YtmjpjbmeamnfpaaGreatDoorZd0
set_option linter.unusedVariables false
set_option linter.unusedSimpArgs false
namespace Go.Eng
open Go.RowKit
def BR:List KV:=[⟨34,.int .i32 34,0⟩,⟨92,.int .i32 92,1⟩,⟨47,.int .i32 47,2⟩,⟨98,.int .i32 8,3⟩,⟨102,.int .i32 12,4⟩,⟨110,.int .i32 10,5⟩,⟨114,.int .i32 13,6⟩,⟨116,.int .i32 9,7⟩]
def CU(p:KV):Int:=match p.val with| .int _ x=>x|_=>0
theorem nT: ∀p∈BR,p.val= .int .i32 (CU p):=by
 intro p hp
 simp only[BR,List.mem_cons,List.not_mem_nil,or_false]at hp
 rcases hp with rfl|rfl|rfl|rfl|rfl|rfl|rfl|rfl<;>rfl
theorem nU: ∀p∈BR,p.born<8:=by
 intro p hp
 simp only[BR,List.mem_cons,List.not_mem_nil,or_false]at hp
 rcases hp with rfl|rfl|rfl|rfl|rfl|rfl|rfl|rfl<;>decide
theorem bE:(BR.map (·.born)).Nodup:=by decide
theorem nV: ∀p∈BR,∀q∈BR,CU p=CU q->p=q:=by
 intro p hp q hq h
 simp only[BR,List.mem_cons,List.not_mem_nil,or_false]at hp hq
 rcases hp with rfl|rfl|rfl|rfl|rfl|rfl|rfl|rfl<;>rcases hq with rfl|rfl|rfl|rfl|rfl|rfl|rfl|rfl<;>first|rfl|(exfalso;revert h;decide)
def JQ(c:Int):Bool:=c==34||c==92||c==47||c==98||c==102||c==110||c==114||c==116
def IC(c:Int):Int:=if c=98 then 8 else if c=102 then 12 else if c=110 then 10 else if c=114 then 13 else if c=116 then 9 else if JQ c then c else 0
theorem NJ(c:Int):(B5 BR c).getD (.int .i32 0)= .int .i32 (IC c)/\(B5 BR c).isSome=JQ c:=by
 simp only[BR,B5,beq_iff_eq]
 by_cases h1:c=34
 ·subst h1;exact⟨rfl,rfl⟩
 by_cases h2:c=92
 ·subst h2;exact⟨rfl,rfl⟩
 by_cases h3:c=47
 ·subst h3;exact⟨rfl,rfl⟩
 by_cases h4:c=98
 ·subst h4;exact⟨rfl,rfl⟩
 by_cases h5:c=102
 ·subst h5;exact⟨rfl,rfl⟩
 by_cases h6:c=110
 ·subst h6;exact⟨rfl,rfl⟩
 by_cases h7:c=114
 ·subst h7;exact⟨rfl,rfl⟩
 by_cases h8:c=116
 ·subst h8;exact⟨rfl,rfl⟩
 rw[if_neg h1,if_neg h2,if_neg h3,if_neg h4,if_neg h5,if_neg h6,if_neg h7,if_neg h8]
 have:JQ c=false:=by simp[JQ,h1,h2,h3,h4,h5,h6,h7,h8]
 simp[IC,this,h4,h5,h6,h7,h8]
def ID(r:Int):Bool:=r==34||r==92||r==8||r==12||r==10||r==13||r==9
def HM(r:Int):Int:=if r=8 then 98 else if r=12 then 102 else if r=10 then 110 else if r=13 then 114 else if r=9 then 116 else if ID r then r else 0
def Lets(seen:Array Nat)(l:List KV):Prop:=
 (l.map (·.key)).Nodup/\(∀p∈BR,seen.contains p.born=true->B5 l (CU p)=some (.int .u8 p.key))/\ ∀r,(∀p∈BR,seen.contains p.born=true->CU p≠r)->B5 l r=none
theorem nW{l:List KV}{x:Int}(h:B5 l x=none): ∀p∈l,p.key≠x:=by
 induction l with
 |nil=>intro p hp;cases hp
 |cons a l ih=>
  intro p hp
  unfold B5 at h
  split at h
  ·cases h
  ·rename_i hn
   rcases List.mem_cons.1 hp with rfl|hp
   ·intro e;subst e;simp at hn
   ·exact ih h p hp
theorem nX{l:List KV}{x:Int}{v:Value}(h:B5 l x=none):FU l x v=none:=by
 induction l with
 |nil=>rfl
 |cons a l ih=>
  unfold B5 at h;unfold FU
  split at h
  ·cases h
  ·rename_i hn;rw[if_neg hn,ih h];rfl
theorem bF(l:List KV)(p:KV)(x:Int)(h:B5 l p.key=none):B5 (l++[p]) x=if x==p.key then some p.val else B5 l x:=by
 induction l with
 |nil=>simp[B5]
 |cons a l ih=>
  have hn: ¬(p.key==a.key)=true:=by intro e;simp[B5,e]at h
  have h':B5 l p.key=none:=by simpa[B5,hn]using h
  simp only[List.cons_append,B5,ih h']
  by_cases e1:(x==a.key)=true
  ·rw[if_pos e1,if_pos e1]
   have: ¬(x==p.key)=true:=by
    intro e2;apply hn
    have a1:x=a.key:=by simpa using e1
    have a2:x=p.key:=by simpa using e2
    simp[<-a1,<-a2]
   rw[if_neg this]
  ·rw[if_neg e1,if_neg e1]
theorem nY(l:List KV)(x y:Int)(h:(l.map (·.key)).Nodup):B5 (FW l x) y=if y==x then none else B5 l y:=by
 induction l with
 |nil=>simp[FW,B5]
 |cons a l ih=>
  rw[List.map_cons,List.nodup_cons]at h
  have ih':=ih h.2
  unfold FW
  by_cases e:(x==a.key)=true
  ·rw[if_pos e]
   have e':x=a.key:=by simpa using e
   by_cases f:(y==x)=true
   ·rw[if_pos f]
    have f':y=x:=by simpa using f
    cases hk:B5 l y with
    |none=>rfl
    |some v=>
     exfalso;apply h.1
     have: ∃p∈l,p.key=y:=by
      clear ih ih' h
      induction l with
      |nil=>cases hk
      |cons b l ih2=>
       unfold B5 at hk
       split at hk
       ·rename_i hb;exact⟨b,by simp,by simpa using(by simpa using hb:y=b.key).symm⟩
       ·obtain⟨p,hp,hq⟩:=ih2 hk;exact⟨p,by simp[hp],hq⟩
     obtain⟨p,hp,hq⟩:=this
     exact List.mem_map.2 ⟨p,hp,by rw[hq,f',e']⟩
   ·rw[if_neg f]
    rw[show B5 (a::l) y=if y==a.key then some a.val else B5 l y from rfl,if_neg (by rw[<-e'];exact f)]
  ·rw[if_neg e]
   unfold B5
   by_cases f:(y==a.key)=true
   ·rw[if_pos f,if_pos f]
    have: ¬(y==x)=true:=by
     intro g;apply e
     have a1:y=a.key:=by simpa using f
     have a2:y=x:=by simpa using g
     simp[<-a1,<-a2]
    rw[if_neg this]
   ·rw[if_neg f,if_neg f];exact ih'
theorem Lets.step {seen:Array Nat}{l:List KV}{c:Nat}(h:Lets seen l){p:KV}(hp:p∈BR)(hn: ¬seen.contains p.born=true):Lets (seen.push p.born) (E8 l c (CU p) (.int .u8 p.key)):=by
 obtain⟨h1,h2,h3⟩:=h
 have hne: ∀q∈BR,seen.contains q.born=true->CU q≠CU p:=by
  intro q hq hs e
  have:=nV q hq p hp e
  subst this;exact hn hs
 have h0:B5 l (CU p)=none:=h3 _ hne
 have hk:E8 l c (CU p) (.int .u8 p.key)=l++[⟨CU p,.int .u8 p.key,c⟩]:=by unfold E8;rw[nX h0]
 rw[hk]
 have hc: ∀q:KV,(seen.push p.born).contains q.born=true↔seen.contains q.born=true\/q.born=p.born:=by
  intro q;simp[Array.contains_iff_mem,Array.mem_push]
 refine⟨?_,?_,?_⟩
 ·rw[List.map_append,List.nodup_append]
  refine⟨h1,by simp,?_⟩
  intro x hx y hy
  simp only[List.map_cons,List.map_nil,List.mem_singleton]at hy
  subst hy
  obtain⟨q,hq,rfl⟩:=List.mem_map.1 hx
  exact nW h0 q hq
 ·intro q hq hs
  rw[bF _ _ _ h0]
  rcases(hc q).1 hs with hs|hs
  ·rw[if_neg (by simpa using hne q hq hs)];exact h2 q hq hs
  ·have:q=p:=by
    have hnd:=bE
    simp only[BR,List.mem_cons,List.not_mem_nil,or_false]at hp hq
    rcases hp with rfl|rfl|rfl|rfl|rfl|rfl|rfl|rfl<;>rcases hq with rfl|rfl|rfl|rfl|rfl|rfl|rfl|rfl<;>first|rfl|(exfalso;revert hs;decide)
   subst this;simp
 ·intro r hr
  have hpr:CU p≠r:=hr p hp ((hc p).2 (.inr U))
  rw[bF _ _ _ h0,if_neg (by simpa using λ e=>hpr e.symm)]
  exact h3 r λ q hq hs=>hr q hq ((hc q).2 (.inl hs))
theorem nZ{seen:Array Nat}{l:List KV}(h:Lets seen l)(hall: ∀p∈BR,seen.contains p.born=true)(r:Int):
  (B5 (FW l 47) r).getD (.int .u8 0)= .int .u8 (HM r)/\(B5 (FW l 47) r).isSome=ID r:=by
 obtain⟨h1,h2,h3⟩:=h
 rw[nY _ _ _ h1]
 have hs: ∀p∈BR,B5 l (CU p)=some (.int .u8 p.key):=λ p hp=>h2 p hp (hall p hp)
 by_cases e0:r=47
 ·subst e0;exact⟨rfl,rfl⟩
 rw[if_neg (by simpa using e0)]
 by_cases e1:r=34
 ·subst e1;have:=hs ⟨34,.int .i32 34,0⟩ (by simp[BR]);rw[show CU ⟨34,.int .i32 34,0⟩=34 from rfl]at this;rw[this];exact⟨rfl,rfl⟩
 by_cases e2:r=92
 ·subst e2;have:=hs ⟨92,.int .i32 92,1⟩ (by simp[BR]);rw[show CU ⟨92,.int .i32 92,1⟩=92 from rfl]at this;rw[this];exact⟨rfl,rfl⟩
 by_cases e3:r=8
 ·subst e3;have:=hs ⟨98,.int .i32 8,3⟩ (by simp[BR]);rw[show CU ⟨98,.int .i32 8,3⟩=8 from rfl]at this;rw[this];exact⟨rfl,rfl⟩
 by_cases e4:r=12
 ·subst e4;have:=hs ⟨102,.int .i32 12,4⟩ (by simp[BR]);rw[show CU ⟨102,.int .i32 12,4⟩=12 from rfl]at this;rw[this];exact⟨rfl,rfl⟩
 by_cases e5:r=10
 ·subst e5;have:=hs ⟨110,.int .i32 10,5⟩ (by simp[BR]);rw[show CU ⟨110,.int .i32 10,5⟩=10 from rfl]at this;rw[this];exact⟨rfl,rfl⟩
 by_cases e6:r=13
 ·subst e6;have:=hs ⟨114,.int .i32 13,6⟩ (by simp[BR]);rw[show CU ⟨114,.int .i32 13,6⟩=13 from rfl]at this;rw[this];exact⟨rfl,rfl⟩
 by_cases e7:r=9
 ·subst e7;have:=hs ⟨116,.int .i32 9,7⟩ (by simp[BR]);rw[show CU ⟨116,.int .i32 9,7⟩=9 from rfl]at this;rw[this];exact⟨rfl,rfl⟩
 have hn:B5 l r=none:=h3 r (by
  intro p hp _
  simp only[BR,List.mem_cons,List.not_mem_nil,or_false]at hp
  rcases hp with rfl|rfl|rfl|rfl|rfl|rfl|rfl|rfl<;>simp only[CU]<;>omega)
 have hi:ID r=false:=by simp[ID,e1,e2,e3,e4,e5,e6,e7]
 rw[hn];simp[HM,hi,e3,e4,e5,e6,e7]
theorem bG{α:Type}(f g:α->Bool): ∀l:List α,(l.filter (λ q=> !(f q||g q))).length<=(l.filter (λ q=> !f q)).length/\((∃p∈l,f p=false/\g p=true)->(l.filter (λ q=> !(f q||g q))).length<(l.filter (λ q=> !f q)).length)
 |[]=>⟨Nat.le_refl _,λ⟨p,hp,_⟩=>by cases hp⟩
 |a::l=>by
  obtain⟨h1,h2⟩:=bG f g l
  rw[List.filter_cons,List.filter_cons]
  cases hf:f a<;>cases hg:g a<;>simp only[Bool.or_false,Bool.or_true,Bool.false_or,Bool.true_or,Bool.not_false,Bool.not_true,if_true,if_false,Bool.false_eq_true,List.length_cons]
  ·refine⟨by omega,λ⟨p,hp,h3,h4⟩=>?_⟩
   rcases List.mem_cons.1 hp with rfl|hp
   ·rw[hg]at h4;cases h4
   ·have:=h2 ⟨p,hp,h3,h4⟩;omega
  ·exact⟨by omega,λ _=>by omega⟩
  ·refine⟨by omega,λ⟨p,hp,h3,h4⟩=>?_⟩
   rcases List.mem_cons.1 hp with rfl|hp
   ·rw[hf]at h3;cases h3
   ·exact h2 ⟨p,hp,h3,h4⟩
  ·refine⟨by omega,λ⟨p,hp,h3,h4⟩=>?_⟩
   rcases List.mem_cons.1 hp with rfl|hp
   ·rw[hf]at h3;cases h3
   ·exact h2 ⟨p,hp,h3,h4⟩
theorem o3{seen:Array Nat}{p:KV}(hp:p∈BR)(hn: ¬seen.contains p.born=true):(BR.filter (λ q=> !(seen.push p.born).contains q.born)).length<(BR.filter (λ q=> !seen.contains q.born)).length:=by
 have hc:(λ q:KV=> !(seen.push p.born).contains q.born)=λ q=> !(seen.contains q.born||q.born==p.born):=by
  funext q;congr 1;rw[Bool.eq_iff_iff];simp[Array.contains_iff_mem,Array.mem_push]
 rw[hc]
 exact(bG (λ q:KV=>seen.contains q.born) (λ q=>q.born==p.born) BR).2 ⟨p,hp,by simpa using hn,by simp⟩
def J9(b:UInt8):Int:=if 48<=b.toNat/\b.toNat<=57 then b.toNat-48 else if 97<=b.toNat/\b.toNat<=102 then b.toNat-87 else if 65<=b.toNat/\b.toNat<=70 then b.toNat-55 else-1
def EA(l:A1):Bool:=l.all (λ b=>decide (0<=J9 b))
def FJ(l:A1):Int:=l.foldl (λ n b=>n*16+J9 b) 0
def CC(s:A1):Int:=if len s<6 then-1 else if Lib.hasPrefix s [92,117]=false then-1 else if EA (Eng.sub s 2 6)then FJ (Eng.sub s 2 6)else-1
def BD(s:A1):Int×Int:=
 if len s<2 then(0,0)
 else if JQ (A2 s 1)then(IC (A2 s 1),2)
 else if CC s<0\/(56320<=CC s/\CC s<57344)then(0,0)
 else if CC s<55296\/57344<=CC s then(CC s,6)
 else if CC (A3 s 6)<56320\/57344<=CC (A3 s 6)then(0,0)
 else(65536+(CC s-55296)*1024+CC (A3 s 6)-56320,12)
theorem o4(b:UInt8):J9 b<=15:=by unfold J9;(repeat' split)<;>omega
theorem S2: ∀(l:A1) (n:Int),(∀b∈l,0<=J9 b)->0<=n->0<=l.foldl (λ n b=>n*16+J9 b) n/\l.foldl (λ n b=>n*16+J9 b) n<(n+1)*16^l.length
 |[],n,_,h0=>by simp;omega
 |a::l,n,h,h0=>by
  have ha:=h a (by simp)
  have hb:=o4 a
  have:=S2 l (n*16+J9 a) (λ b hb=>h b (by simp[hb])) (by omega)
  rw[List.foldl_cons]
  refine⟨this.1,Int.lt_of_lt_of_le this.2 ?_⟩
  have h1:(n+1)*16^ (a::l).length=((n+1)*16)*16^l.length:=by rw[List.length_cons,Int.pow_succ,Int.mul_comm (16^l.length) 16,<-Int.mul_assoc]
  rw[h1]
  exact Int.mul_le_mul_of_nonneg_right (by omega) (Int.le_of_lt (Int.pow_pos (by decide:(0:Int)<16)))
theorem o5{l:A1}(hl:len l=4)(h:EA l=true):0<=FJ l/\FJ l<=65535:=by
 unfold EA at h
 have:=S2 l 0 (by simpa[List.all_eq_true]using h) (by omega)
 rw[show l.length=4 from by unfold len at hl;omega]at this
 unfold FJ;omega
theorem NK(s:A1): -1<=CC s/\CC s<=65535/\(0<=CC s->6<=len s):=by
 unfold CC
 split
 ·omega
 ·split
  ·omega
  ·split
   ·rename_i h1 h2 h3
    unfold EA at h3
    have:=S2 (Eng.sub s 2 6) 0 (by simpa[List.all_eq_true]using h3) (by omega)
    have hl:(Eng.sub s 2 6).length=4:=by have:=H5 (s:=s) (i:=2) (j:=6) (by omega) (by omega) (by omega);unfold len at this;omega
    rw[hl]at this
    unfold FJ;omega
   ·omega
theorem o6(s:A1):0<=(BD s).1/\(BD s).1<=1114111/\0<=(BD s).2/\(BD s).2<=12:=by
 have h1:=NK s
 have h2:=NK (A3 s 6)
 have h3:=ML s 1
 have h4:0<=IC (A2 s 1)/\IC (A2 s 1)<=255:=by unfold IC;(repeat' split)<;>omega
 unfold BD
 repeat' split
 all_goals (dsimp only;omega)
def DE(f:Nat)(s:A1)(i:Int)(acc:List Int):A1×Int×Int:=
 match f with
 |0=>([],len s,1)
 |f+1=>
  if i<len s then
   if AM (A3 s i) 0=34 then(toStr acc,i+1,0)
   else if AM (A3 s i) 0=92 then
    if(BD (A3 s i)).2=0 then([],i,1)else DE f s (i+(BD (A3 s i)).2) (acc++Lib.encodeRuneZ (BD (A3 s i)).1)
   else if AM (A3 s i) 0<32\/(AM (A3 s i) 0=65533/\runeLen (A3 s i) 0=1)then([],i,1)
   else DE f s (i+runeLen (A3 s i) 0) (acc++Lib.encodeRuneZ (AM (A3 s i) 0))
  else([],len s,1)
def AQ(s:A1):A1×Int×Int:=if Lib.hasPrefix s [34]then DE s.length s 1 []else([],0,1)
theorem KR{f:Nat}{s:A1}{i:Int}{acc:List Int}(hf:(len s-i).toNat<=f)(h1:i<len s):DE f s i acc=
  (if AM (A3 s i) 0=34 then(toStr acc,i+1,0)
   else if AM (A3 s i) 0=92 then
    if(BD (A3 s i)).2=0 then([],i,1)else DE (f-1) s (i+(BD (A3 s i)).2) (acc++Lib.encodeRuneZ (BD (A3 s i)).1)
   else if AM (A3 s i) 0<32\/(AM (A3 s i) 0=65533/\runeLen (A3 s i) 0=1)then([],i,1)
   else DE (f-1) s (i+runeLen (A3 s i) 0) (acc++Lib.encodeRuneZ (AM (A3 s i) 0))):=by
 cases f with
 |zero=>omega
 |succ f=>
     conv=>lhs;unfold DE
     rw[if_pos h1];rfl
theorem o7{f:Nat}{s:A1}{i:Int}{acc:List Int}(h1: ¬i<len s):DE f s i acc=([],len s,1):=by
 cases f with
 |zero=>rfl
 |succ f=>unfold DE;rw[if_neg h1]
theorem o8:Lets #[] []:=⟨by simp,λ p _ h=>by simp at h,λ r _=>rfl⟩
def EB(n:Int):Int:=if n<10 then 48+n else 87+n
def IE(r:Int):A1:=if ID r then [92,(HM r).toNat.toUInt8]else if r<32 then [92,117,48,48,(EB (r/16)).toNat.toUInt8,(EB (r%16)).toNat.toUInt8]else Lib.encodeRune r
theorem P6(s:A1)(p:Int)(h0:0<=p)(h1:p<len s):1<=runeLen s p/\p+runeLen s p<=len s:=by
 have hs:(ByteArray.mk ⟨s⟩).size=s.length:=rfl
 have h2:=Lib.decode_width_pos ⟨⟨s⟩⟩ p.toNat (by rw[hs];unfold len at h1;omega)
 have h3:(Utf8.decode ⟨⟨s⟩⟩ p.toNat).2<=(ByteArray.mk ⟨s⟩).size-p.toNat:=by rw[Lib.decode_at];exact Lib.decodeN_width_le _ _ _ _ _ (by rw[hs];unfold len at h1;omega)
 rw[hs]at h3
 unfold runeLen len at*;omega
def IF(s:A1)(p:Int):A1:=if h:0<=p/\p<len s then IE (AM s p)++IF s (p+runeLen s p)else []
termination_by (len s-p).toNat
decreasing_by have:=P6 s p h.1 h.2;omega
def AH(s:A1):A1:=34::IF s 0++[34]
theorem S3{s:A1}{p:Int}(h0:0<=p)(h1:p<len s):IF s p=IE (AM s p)++IF s (p+runeLen s p):=by rw[IF,dif_pos ⟨h0,h1⟩]
theorem bH{s:A1}{p:Int}(h1: ¬p<len s):IF s p=[]:=by rw[IF,dif_neg (by omega)]
theorem S4(s:A1)(p:Int):0<=AM s p/\AM s p<=1114111:=by have:=Lib.rune_le ⟨⟨s⟩⟩ p.toNat;unfold AM;omega
theorem bI(r:Int):0<=HM r/\HM r<=255:=by
 unfold HM
 (repeat' split)<;>first|omega|skip
 rename_i h;unfold ID at h;simp only[Bool.or_eq_true,beq_iff_eq]at h;omega
theorem o9{r:Int}(h:ID r=true):ints (IE r)=[92,HM r]:=by
 have:=bI r
 unfold IE;rw[if_pos h];simp[ints];omega
theorem oA{r:Int}(h:ID r=false)(h2:r<32)(h3:0<=r):ints (IE r)=ints [92,117,48,48]++ints (A3 [49,(EB (r/16)).toNat.toUInt8,(EB (r%16)).toNat.toUInt8] 1):=by
 unfold IE;rw[if_neg (by rw[h];simp),if_pos h2];rfl
theorem oB{r:Int}(h:ID r=false)(h2: ¬r<32):ints (IE r)=Lib.encodeRuneZ r:=by
 unfold IE;rw[if_neg (by rw[h];simp),if_neg h2]
 unfold ints Lib.encodeRune;rw[List.map_map]
 conv=>rhs;rw[<-List.map_id (Lib.encodeRuneZ r)]
 apply List.map_congr_left
 intro x hx
 have:=Lib.encodeRuneZ_byte r x hx
 simp;omega
end Go.Eng
namespace Go.Eng
open Go.RowKit
def GL(b:UInt8):Bool:=TY (b.toNat:Int)
def DF(s:A1)(i:Int):Int:=i+len ((A3 s i).takeWhile GL)
theorem IG(s:A1)(i:Int)(h0:0<=i)(h1:i<=len s):i<=DF s i/\DF s i<=len s:=by
 have h2:=DK s i h0 h1
 have h3:=(List.takeWhile_sublist GL (l:=A3 s i)).length_le
 unfold DF len at*;omega
def S5(s:A1)(i:Int)(t:A1):Bool:=decide (i+len t<=len s)&&(Eng.sub s i (i+len t)==t)
def bJ(n:Int):A1:=Eng.sub [48,49,50,51,52,53,54,55,56,57,97,98,99,100,101,102] n (n+1)
def oC(c:Int):A1:=
 if c=34 then [92,34]else if c=92 then [92,92]else if c=8 then [92,98]else if c=12 then [92,102]else if c=10 then [92,110]else if c=13 then [92,114]else if c=9 then [92,116]
 else if c<32 then [92,117,48,48]++bJ (c/16)++bJ (c%16)else toStr [c]
def oD(b:UInt8):A1:=oC (b.toNat:Int)
def oE(s:A1):A1:=34::s.flatMap oD++[34]
theorem oF{s:A1}{k:Int}(h0:0<=k)(h1:k<len s): ∃b,Eng.sub s 0 (k+1)=Eng.sub s 0 k++[b]/\(b.toNat:Int)=A2 s k:=by
 have h:k.toNat<s.length:=by unfold len at h1;omega
 refine⟨s[k.toNat],?_,by simp[A2,h]⟩
 unfold Eng.sub
 simp only[Int.toNat_zero,List.drop_zero,Nat.sub_zero]
 rw[show(k+1).toNat=k.toNat+1 from by omega,List.take_succ_eq_append_getElem h]
theorem bK{b:UInt8}:(([48]:A1).contains b)=true↔(b.toNat:Int)=48:=by
 simp only[List.contains_cons,List.contains_nil,Bool.or_false,beq_iff_eq]
 constructor
 ·rintro rfl;rfl
 ·intro h;apply UInt8.toNat_inj.1;show b.toNat=48;omega
theorem oG{s:A1}(h:0<len s): ∃b,s=Eng.sub s 0 (len s-1)++[b]/\(b.toNat:Int)=A2 s (len s-1):=by
 obtain⟨b,h1,h2⟩:=oF (s:=s) (k:=len s-1) (by omega) (by omega)
 rw[show len s-1+1=len s from by omega,KD s (len s) (by omega)]at h1
 exact⟨b,h1,h2⟩
end Go.Eng
namespace Go.Eng
def LR(n x0 x1 x2 x3:Nat):Nat:=
 if x0<128 then 1
 else if 194<=x0/\x0<224/\(1<n/\128<=x1/\x1<192)then 2
 else if 224<=x0/\x0<240/\(1<n/\128<=x1/\x1<192)/\(2<n/\128<=x2/\x2<192)then
  if(x0=224/\x1<160)\/(x0=237/\160<=x1)then 0 else 3
 else if 240<=x0/\x0<245/\(1<n/\128<=x1/\x1<192)/\(2<n/\128<=x2/\x2<192)/\(3<n/\128<=x3/\x3<192)then
  if(x0=240/\x1<144)\/(x0=244/\144<=x1)then 0 else 4
 else 0
def VN(n x0 x1 x2 x3 k r l:Nat):Prop:=
 (k=0/\r=65533/\l=1/\128<=x0)\/(k=1/\r=x0/\l=1/\x0<128)\/
 (k=2/\l=2/\2<=n/\128<=r/\r<=2047/\192+r/64=x0/\128+r%64=x1)\/
 (k=3/\l=3/\3<=n/\((2048<=r/\r<55296)\/(57343<r/\r<=65535))/\224+r/4096=x0/\128+r/64%64=x1/\128+r%64=x2)\/
 (k=4/\l=4/\4<=n/\65536<=r/\r<=1114111/\240+r/262144=x0/\128+r/4096%64=x1/\128+r/64%64=x2/\128+r%64=x3)
set_option maxHeartbeats 4000000 in
set_option maxRecDepth 100000 in
theorem VO(n x0 x1 x2 x3:Nat)(hn:1<=n)(h0:x0<256)(h1:x1<256)(h2:x2<256)(h3:x3<256):VN n x0 x1 x2 x3 (LR n x0 x1 x2 x3) (Lib.decodeN n x0 x1 x2 x3).1 (Lib.decodeN n x0 x1 x2 x3).2:=by
 unfold LR Lib.decodeN VN
 repeat' split
 all_goals first|exact .inl ⟨rfl,rfl,rfl,by omega⟩|exact .inr (.inl ⟨rfl,rfl,rfl,by omega⟩)|exact .inr (.inr (.inl ⟨rfl,rfl,by omega,by dsimp only;omega,by dsimp only;omega,by dsimp only;omega,by dsimp only;omega⟩))|exact .inr (.inr (.inr (.inl ⟨rfl,rfl,by omega,by dsimp only;omega,by dsimp only;omega,by dsimp only;omega,by dsimp only;omega⟩)))|exact .inr (.inr (.inr (.inr ⟨rfl,rfl,by omega,by dsimp only;omega,by dsimp only;omega,by dsimp only;omega,by dsimp only;omega,by dsimp only;omega,by dsimp only;omega⟩)))|(exfalso;omega)
end Go.Eng
namespace Go.Eng
open Go.RowKit
theorem S6(s:A1)(i:Int)(h0:0<=i)(j:Nat):A2 s (i+j)=((s.getD (i.toNat+j) 0).toNat:Int):=by
 unfold A2;rw[show(i+j).toNat=i.toNat+j from by omega]
theorem oH(s:A1)(i:Int)(j:Nat):(A3 s i).getD j 0=s.getD (i.toNat+j) 0:=by
 unfold A3;simp[List.getD_eq_getElem?_getD,List.getElem?_drop]
theorem bL(l:A1)(j:Nat):(ByteArray.mk ⟨l⟩).get! j=l.getD j 0:=by
 show(Array.mk l)[j]! =_
 simp[List.getD_eq_getElem?_getD]
 rfl
theorem S7{α:Type}(s:List α)(i j:Int)(h0:0<=i)(h1:0<=j):A3 (A3 s i) j=A3 s (i+j):=by
 unfold A3;rw[List.drop_drop,show(i+j).toNat=i.toNat+j.toNat from by omega]
theorem S8(s:A1)(i:Int)(h0:0<=i):
  Utf8.decode ⟨⟨A3 s i⟩⟩ 0=Lib.decodeN (s.length-i.toNat) (s.getD i.toNat 0).toNat (s.getD (i.toNat+1) 0).toNat (s.getD (i.toNat+2) 0).toNat (s.getD (i.toNat+3) 0).toNat:=by
 rw[Lib.decode_at]
 simp only[bL,oH,Nat.zero_add,Nat.add_zero,Nat.sub_zero]
 congr 1
 show(A3 s i).length=_
 unfold A3;rw[List.length_drop]
theorem P7(s:A1)(i:Int)(h0:0<=i):Utf8.decode ⟨⟨s⟩⟩ i.toNat=Utf8.decode ⟨⟨A3 s i⟩⟩ 0:=by
 rw[S8 s i h0,Lib.decode_at]
 simp only[bL];rfl
theorem bM(s:A1)(i:Int)(h0:0<=i):AM (A3 s i) 0=AM s i:=by unfold AM;rw[P7 s i h0];rfl
theorem S9(s:A1)(i:Int)(h0:0<=i):runeLen (A3 s i) 0=runeLen s i:=by unfold runeLen;rw[P7 s i h0];rfl
theorem SA{s:A1}{i:Int}(h0:0<=i): ∀n:Nat,i+n<=len s->Eng.sub s i (i+n)=(List.range n).map (λ j=>s.getD (i.toNat+j) 0):=by
 intro n h
 unfold Eng.sub
 apply List.ext_getElem?
 intro k
 rw[show(i+n).toNat-i.toNat=n from by omega]
 unfold len at h
 by_cases hk:k<n
 ·rw[List.getElem?_take,if_pos hk,List.getElem?_drop]
  have:i.toNat+k<s.length:=by omega
  simp[hk,this]
 ·rw[List.getElem?_take,if_neg hk]
  simp[hk]
theorem JA(b:UInt8)(x:Int)(h:x=(b.toNat:Int)):UInt8.ofNat x.toNat=b:=by subst h;simp
theorem VP{s:A1}{i:Int}(h0:0<=i)(h1:i<len s):rune s i=(LR (s.length-i.toNat) (s.getD i.toNat 0).toNat (s.getD (i.toNat+1) 0).toNat (s.getD (i.toNat+2) 0).toNat (s.getD (i.toNat+3) 0).toNat:Nat):=by
 have e0:A2 s i=((s.getD i.toNat 0).toNat:Int):=rfl
 have e1:A2 s (i+1)=((s.getD (i.toNat+1) 0).toNat:Int):=S6 s i h0 1
 have e2:A2 s (i+2)=((s.getD (i.toNat+2) 0).toNat:Int):=S6 s i h0 2
 have e3:A2 s (i+3)=((s.getD (i.toNat+3) 0).toNat:Int):=S6 s i h0 3
 have hlen:len s=(s.length:Int):=rfl
 unfold rune cont LR
 simp only[e0,e1,e2,e3]
 simp only[Bool.and_eq_true,Bool.or_eq_true,decide_eq_true_eq,beq_iff_eq]
 repeat' split
 all_goals first|rfl|(exfalso;omega)
theorem NL{s:A1}{i:Int}(h0:0<=i)(h1:i<len s):
  (rune s i=0/\AM s i=65533/\runeLen s i=1/\128<=A2 s i)\/
  (1<=rune s i/\runeLen s i=rune s i/\ ¬(AM s i=65533/\runeLen s i=1)/\toStr (Lib.encodeRuneZ (AM s i))=Eng.sub s i (i+rune s i)/\(A2 s i<128->rune s i=1/\AM s i=A2 s i)/\(128<=A2 s i->128<=AM s i)):=by
 have hlen:len s=(s.length:Int):=rfl
 have hrn:=VP h0 h1
 have hle:=rune_le s i h1
 have e0:A2 s i=((s.getD i.toNat 0).toNat:Int):=rfl
 have s1:=SA (s:=s) h0 1
 have s2:=SA (s:=s) h0 2
 have s3:=SA (s:=s) h0 3
 have s4:=SA (s:=s) h0 4
 simp only[List.range_succ,List.range_zero,List.nil_append,List.map_append,List.map_cons,List.map_nil,List.cons_append,Nat.add_zero]at s1 s2 s3 s4
 have hr:AM s i=((Lib.decodeN (s.length-i.toNat) (s.getD i.toNat 0).toNat (s.getD (i.toNat+1) 0).toNat (s.getD (i.toNat+2) 0).toNat (s.getD (i.toNat+3) 0).toNat).1:Nat):=by
  unfold AM;rw[P7 s i h0,S8 s i h0]
 have hl:runeLen s i=((Lib.decodeN (s.length-i.toNat) (s.getD i.toNat 0).toNat (s.getD (i.toNat+1) 0).toNat (s.getD (i.toNat+2) 0).toNat (s.getD (i.toNat+3) 0).toNat).2:Nat):=by
  unfold runeLen;rw[P7 s i h0,S8 s i h0]
 have hD:=VO (s.length-i.toNat) (s.getD i.toNat 0).toNat (s.getD (i.toNat+1) 0).toNat (s.getD (i.toNat+2) 0).toNat (s.getD (i.toNat+3) 0).toNat (by omega) (UInt8.toNat_lt _) (UInt8.toNat_lt _) (UInt8.toNat_lt _) (UInt8.toNat_lt _)
 generalize Lib.decodeN (s.length-i.toNat) (s.getD i.toNat 0).toNat (s.getD (i.toNat+1) 0).toNat (s.getD (i.toNat+2) 0).toNat (s.getD (i.toNat+3) 0).toNat=D at*
 generalize LR (s.length-i.toNat) (s.getD i.toNat 0).toNat (s.getD (i.toNat+1) 0).toNat (s.getD (i.toNat+2) 0).toNat (s.getD (i.toNat+3) 0).toNat=K at*
 obtain⟨r,l⟩:=D
 dsimp only at hD hr hl
 rcases hD with⟨rfl,hd,hx⟩|⟨rfl,hd,hx⟩|⟨rfl,hd,hx⟩|⟨rfl,hd,hx⟩|⟨rfl,hd,hx⟩
 ·left;refine⟨by omega,by omega,by omega,by omega⟩
 ·right
  refine⟨by omega,by omega,by omega,?_,λ _=>⟨by omega,by omega⟩,by omega⟩
  rw[hr,hrn,Lib.encodeRuneZ_one (by omega) (by omega)]
  rw[show((1:Nat):Int)=1 from rfl]at*
  rw[s1 (by omega)]
  simp only[toStr,List.map_cons,List.map_nil]
  rw[JA (s.getD i.toNat 0) _ (by omega)]
 ·right
  refine⟨by omega,by omega,by omega,?_,by omega,by omega⟩
  rw[hr,hrn,Lib.encodeRuneZ_two (by omega) (by omega)]
  have:=s2 (by omega)
  refine Eq.trans ?_ this.symm
  simp only[toStr,List.map_cons,List.map_nil]
  rw[JA (s.getD i.toNat 0) _ (by omega),JA (s.getD (i.toNat+1) 0) _ (by omega)]
 ·right
  refine⟨by omega,by omega,by omega,?_,by omega,by omega⟩
  rw[hr,hrn,Lib.encodeRuneZ_three (by omega)]
  have:=s3 (by omega)
  refine Eq.trans ?_ this.symm
  simp only[toStr,List.map_cons,List.map_nil]
  rw[JA (s.getD i.toNat 0) _ (by omega),JA (s.getD (i.toNat+1) 0) _ (by omega),JA (s.getD (i.toNat+2) 0) _ (by omega)]
 ·right
  refine⟨by omega,by omega,by omega,?_,by omega,by omega⟩
  rw[hr,hrn,Lib.encodeRuneZ_four (by omega) (by omega)]
  have:=s4 (by omega)
  refine Eq.trans ?_ this.symm
  simp only[toStr,List.map_cons,List.map_nil]
  rw[JA (s.getD i.toNat 0) _ (by omega),JA (s.getD (i.toNat+1) 0) _ (by omega),JA (s.getD (i.toNat+2) 0) _ (by omega),JA (s.getD (i.toNat+3) 0) _ (by omega)]
end Go.Eng
namespace Go.Eng
open Go.RowKit
def LS(s:A1):A1:=s.dropWhile (([32,9,10,13]:A1).contains ·)
def C7(s:A1):A1:=s.dropWhile (([48,49,50,51,52,53,54,55,56,57,43,45,46,101,69]:A1).contains ·)
def JR(b:UInt8):Bool:=([48,49,50,51,52,53,54,55,56,57,43,45,46,101,69]:A1).contains b
theorem drop_take{α:Type}(p:α->Bool): ∀l:List α,l.dropWhile p=l.drop (l.takeWhile p).length
 |[]=>rfl
 |a::l=>by
  rw[List.dropWhile_cons,List.takeWhile_cons]
  split
  ·rw[List.length_cons,List.drop_succ_cons];exact drop_take p l
  ·rfl
theorem oI(b:UInt8):([32,9,10,13]:A1).contains b=GL b:=by
 unfold GL TY
 rw[Bool.eq_iff_iff]
 simp only[List.contains_cons,List.contains_nil,Bool.or_false,Bool.or_eq_true,beq_iff_eq]
 have h: ∀n:Nat,n<256->(b=UInt8.ofNat n↔(b.toNat:Int)=n):=λ n hn=>by
  rw[<-UInt8.toNat_inj];simp[Nat.mod_eq_of_lt hn];omega
 have h1:=h 32 (by omega)
 have h2:=h 9 (by omega)
 have h3:=h 10 (by omega)
 have h4:=h 13 (by omega)
 have e1:b=32↔(b.toNat:Int)=32:=h1
 have e2:b=9↔(b.toNat:Int)=9:=h2
 have e3:b=10↔(b.toNat:Int)=10:=h3
 have e4:b=13↔(b.toNat:Int)=13:=h4
 rw[e1,e2,e3,e4];omega
theorem bN(s:A1)(i:Int)(h0:0<=i):LS (A3 s i)=A3 s (DF s i):=by
 unfold LS DF
 rw[show(λ b=>([32,9,10,13]:A1).contains b)=GL from funext oI,drop_take,<-S7 s i _ h0 (AA _)]
 unfold A3 len
 rw[Int.toNat_natCast]
def runN(s:A1):A1:=Eng.sub s 0 (len s-len (C7 s))
theorem oJ(s:A1):runN s=s.takeWhile JR:=by
 unfold runN C7
 rw[show(λ b=>([48,49,50,51,52,53,54,55,56,57,43,45,46,101,69]:A1).contains b)=JR from rfl,drop_take]
 have h:=(List.takeWhile_prefix JR (l:=s)).length_le
 unfold Eng.sub len
 rw[List.length_drop]
 have e:((s.length:Int)-((s.length-(s.takeWhile JR).length:Nat):Int)).toNat-Int.toNat 0=(s.takeWhile JR).length:=by omega
 rw[e]
 simp only[Int.toNat_zero,List.drop_zero]
 exact(List.prefix_iff_eq_take.1 (List.takeWhile_prefix JR)).symm
theorem oK(s:A1):0<=len (C7 s)/\len (C7 s)<=len s:=by
 have:=(List.dropWhile_sublist (([48,49,50,51,52,53,54,55,56,57,43,45,46,101,69]:A1).contains ·) (l:=s)).length_le
 unfold C7 len;omega
def C3(s:A1):A1:=(AB.find? (λ m=>Lib.hasPrefix s m)).getD []
theorem VQ(s:A1):C3 s=[]\/(C3 s∈AB/\Lib.hasPrefix s (C3 s)=true):=by
 unfold C3
 cases h:AB.find? (λ m=>Lib.hasPrefix s m)with
 |none=>left;rfl
 |some m=>right;exact⟨List.mem_of_find?_eq_some h,by simpa using List.find?_some h⟩
def bO:Tk:=⟨0,[],B2,0⟩
def A6(s:A1):Tk×Int×Int:=
 if A2 s 0=46/\B9 (A3 s 1)≠[]then(⟨3,B9 (A3 s 1),B2,0⟩,1+len (B9 (A3 s 1)),0)
 else if A2 s 0=46/\Lib.hasPrefix (A3 s 1) [34]=true then(⟨3,(AQ (A3 s 1)).1,B2,0⟩,1+(AQ (A3 s 1)).2.1,(AQ (A3 s 1)).2.2)
 else if C3 s≠[]then(⟨1,C3 s,B2,0⟩,len (C3 s),0)
 else if B9 s≠[]then(⟨2,B9 s,B2,0⟩,len (B9 s),0)
 else if A2 s 0=34 then(⟨4,(AQ s).1,B2,0⟩,(AQ s).2.1,(AQ s).2.2)
 else if A2 s 0=45\/C9 (A2 s 0)=true then
  if(BQ (runN s)).2.2≠0 then(bO,(BQ (runN s)).2.1,(BQ (runN s)).2.2)
  else(⟨5,[],(BQ (runN s)).1,0⟩,len (runN s),0)
 else(bO,0,1)
def F8(s:A1):Tk:=⟨6,[],B2,len s⟩
def H6(f:Nat)(s:A1)(i:Int)(acc:List Tk):List Tk×Int×Int:=
 match f with
 |0=>(acc++[F8 s],0,0)
 |f+1=>
  if i<len s then
   if(A6 (A3 s i)).2.2≠0 then([],i+(A6 (A3 s i)).2.1,(A6 (A3 s i)).2.2)
   else H6 f s (DF s (i+(A6 (A3 s i)).2.1)) (acc++[{ (A6 (A3 s i)).1 with pos:=i}])
  else(acc++[F8 s],0,0)
def BF(s:A1):List Tk×Int×Int:=H6 s.length s (DF s 0) []
theorem NM{f:Nat}{s:A1}{i:Int}{acc:List Tk}(hf:(len s-i).toNat<=f)(h1:i<len s):H6 f s i acc=
  if(A6 (A3 s i)).2.2≠0 then([],i+(A6 (A3 s i)).2.1,(A6 (A3 s i)).2.2)
   else H6 (f-1) s (DF s (i+(A6 (A3 s i)).2.1)) (acc++[{ (A6 (A3 s i)).1 with pos:=i}]):=by
 cases f with
 |zero=>omega
 |succ f=>
    conv=>lhs;unfold H6
    rw[if_pos h1];rfl
theorem VR{f:Nat}{s:A1}{i:Int}{acc:List Tk}(h1: ¬i<len s):H6 f s i acc=(acc++[F8 s],0,0):=by
 cases f with
 |zero=>rfl
 |succ f=>unfold H6;rw[if_neg h1]
theorem LU{s:A1}{i:Int}(h0:0<=i)(h1:i<=len s):i<=CG s i/\CG s i<=len s:=by
 by_cases h:i<len s
 ·by_cases hw:BN (A2 s i) (i==0)=true
  ·have:=LU (s:=s) (i:=i+1) (by omega) (by omega)
   rw[OD h0 h hw]at this;omega
  ·rw[MQ h0 h (by simpa using hw)];omega
 ·rw[MR h];omega
termination_by (len s-i).toNat
theorem VS(s:A1):len (B9 s)=CG s 0:=by
 have:=LU (s:=s) (i:=0) (by omega) (AA s)
 unfold B9;rw[H5 (by omega) (by omega) (by omega)];omega
theorem P8(s:A1):0<=len (B9 s)/\len (B9 s)<=len s:=by
 have:=LU (s:=s) (i:=0) (by omega) (AA s)
 rw[VS];omega
theorem oL{α:Type}(s:List α)(i:Int)(h0:0<=i):len (A3 s i)=if i<=len s then len s-i else 0:=by
 unfold A3 len;rw[List.length_drop];split<;>omega
theorem bP(s:A1):0<=(BD s).2/\(BD s).2<=len s/\((BD s).2≠0->2<=(BD s).2):=by
 have h1:=NK s
 have h2:=NK (A3 s 6)
 have h3:=oL s 6 (by omega)
 have h4:=AA s
 unfold BD
 repeat' split
 all_goals (dsimp only;try (split at h3);all_goals omega)
theorem SB{s:A1}{i:Int}(h0:0<=i)(h1:i<len s):1<=runeLen s i/\i+runeLen s i<=len s:=by
 have h2:=rune_le s i h1
 rcases NL h0 h1 with⟨_,_,h3,_⟩|⟨h3,h4,_⟩<;>omega
theorem oM{f:Nat}{s:A1}{i:Int}{acc:List Int}(h0:0<=i)(h1:i<=len s):
  0<=(DE f s i acc).2.1/\(DE f s i acc).2.1<=len s/\((DE f s i acc).2.2=0->i<(DE f s i acc).2.1)/\((DE f s i acc).2.2=0\/(DE f s i acc).2.2=1):=by
 induction f generalizing i acc with
 |zero=>unfold DE;dsimp only;omega
 |succ f ih=>
  unfold DE
  split
  ·rename_i hlt
   have hf:=DK s i h0 h1
   split
   ·dsimp only;omega
   ·split
    ·have he:=bP (A3 s i)
     split
     ·dsimp only;omega
     ·have:=ih (i:=i+(BD (A3 s i)).2) (acc:=acc++Lib.encodeRuneZ (BD (A3 s i)).1) (by omega) (by omega)
      omega
    ·split
     ·dsimp only;omega
     ·have hb:=SB h0 hlt
      rw[S9 s i h0]
      have:=ih (i:=i+runeLen s i) (acc:=acc++Lib.encodeRuneZ (AM (A3 s i) 0)) (by omega) (by omega)
      omega
  ·dsimp only;omega
theorem SC{s p:A1}(h:Lib.hasPrefix s p=true):len p<=len s:=by
 have:=(List.isPrefixOf_iff_prefix.1 h).length_le
 unfold len;omega
theorem LV(s:A1):0<=(AQ s).2.1/\(AQ s).2.1<=len s/\((AQ s).2.2=0->2<=(AQ s).2.1)/\((AQ s).2.2=0\/(AQ s).2.2=1):=by
 unfold AQ
 split
 ·rename_i h
  have h1:(1:Int)<=len s:=SC h
  have:=oM (f:=s.length) (s:=s) (i:=1) (acc:=[]) (by omega) h1
  omega
 ·have:=AA s;dsimp only;omega
end Go.Eng
namespace Go.Eng
open Go.RowKit
structure Tm where
 op:Int
 many:Int
 name:A1
 s:A1
 n:Int
 c:Nd
deriving Inhabited,DecidableEq
def Tm.cells (t:Tm):List Value:=[i64 t.op,i64 t.many,str t.name,str t.s,i64 t.n,i64 t.c.kind,i64 t.c.many,str t.c.name,str t.c.s,.bool t.c.neg,i64 t.c.e]
theorem Tm.C1 (t:Tm):t.cells.length=11:=rfl
abbrev Fl:=List Tm
def AR(o:Int):Tm:=⟨o,0,[],[],0,B2⟩
inductive Tf where
 |mk (t:Tm) (ps:List Tf)
mutual
def Tf.flat:Tf->Fl
 | .mk t ps=> { t with many:=len ps}::AF ps
def AF:List Tf->Fl
 |[]=>[]
 |x::l=>x.flat++AF l
end
instance:Inhabited Tf:=⟨.mk default []⟩
def Tf.t:Tf->Tm
 | .mk t _=>t
def Tf.ps:Tf->List Tf
 | .mk _ ps=>ps
def Tf.named (n:A1):Tf->Tf
 | .mk t ps=>.mk { t with name:=n} ps
def P9:Tf->Tf->Tf
 | .mk t [a,b],g=>if t.op=4 then .mk (AR 4) [a,P9 b g]else .mk (AR 4) [.mk t [a,b],g]
 |x,g=>.mk (AR 4) [x,g]
def SD:List Tf->Tf
 |[]=>default
 |[x]=>x
 |x::y::l=>P9 x (SD (y::l))
structure Sp where
 part:Bool
 name:A1
 n:Int
deriving Inhabited,DecidableEq
def Sp.cells (x:Sp):List Value:=[.bool x.part,str x.name,i64 x.n]
def NN(s:A1):Bool:=s != []&&B9 s==s
def EF(q:A1->A1)(x:Sp):A1:=
 if x.part then [91]++Lib.itoa x.n++[93]else if NN x.name then [46]++x.name else [46]++q x.name
def FK(q:A1->A1)(p:List Sp):A1:=(if p=[]\/(at' p 0).part=true then [46]else [])++(p.map (EF q)).flatten
def AN(l:List Tk)(i:Int)(m:A1):Bool:=(at' l i).kind==1&&(at' l i).s==m
def NO(l:List Tk)(i:Int)(w:A1):Bool:=(at' l i).kind==2&&(at' l i).s==w
def B7{α:Type}(l:List Tk)(i e:Int):PR α:=.er e (at' l i).pos
def PR.bind {α β:Type}(r:PR α)(k:α->Int->PR β):PR β:=match r with
 | .er c p=>.er c p
 | .ok x j=>k x j
def AV(l:List Tk)(i:Int)(m:A1):PR Unit:=if AN l i m then .ok () (i+1)else B7 l i 1
def CV(l:List Tk)(d i:Int)(m:A1):PR Unit:=if AN l i m&&decide (64<=d)then B7 l i 3 else AV l i m
def NP{α:Type}(l:List Tk)(d i:Int)(x:Int->PR α):PR α:=(CV l d i [40]).bind λ _ j=>(x j).bind λ y k=>(AV l k [41]).bind λ _ m=>.ok y m
def SE(s:A1):Int:=s.foldl (λ n c=>10*n+((c.toNat:Int)-48)) 0
def JS(t:Tk):Int:=SE (t.c.s++List.replicate t.c.e.toNat 48)
def GM(l:List Tk)(i:Int):PR Int:=
 if(at' l i).kind≠5\/(at' l i).c.neg=true\/(at' l i).c.e<0\/7<len (at' l i).c.s+(at' l i).c.e then B7 l i 1
 else if 1000000<JS (at' l i)then B7 l i 1 else .ok (JS (at' l i)) (i+1)
def oN(l:List Tk)(i:Int):PR Tf:=
 if(at' l i).kind=3 then .ok (.mk { AR 1 with s:=(at' l i).s} []) (i+1)
 else(GM l (i+1)).bind λ n j=>
  if AN l j [58]then(AV l (j+1) [93]).bind λ _ k=>.ok (.mk { AR 3 with n:=n} []) k
  else(AV l j [93]).bind λ _ k=>.ok (.mk { AR 2 with n:=n} []) k
def bQ:Nat->List Tk->List Tf->Int->PR Tf
 |0,l,_,i=>B7 l i 1
 |f+1,l,xs,i=>if(at' l i).kind=3\/AN l i [91]=true then(oN l i).bind λ x j=>bQ f l (xs++[x]) j else .ok (SD xs) i
def F9(dot:Bool):Nat->List Tk->List Sp->Int->PR (List Sp)
 |0,l,_,i=>B7 l i 1
 |f+1,l,xs,i=>
  if AN l i [91]=true\/(at' l i).kind=3/\(dot=false\/xs≠[])then
   if len xs=20 then B7 l i 1
   else if(at' l i).kind=1 then(GM l (i+1)).bind λ n j=>(AV l j [93]).bind λ _ k=>F9 dot f l (xs++[⟨true,[],n⟩]) k
   else F9 dot f l (xs++[⟨false,(at' l i).s,0⟩]) (i+1)
  else .ok xs i
def LW(q:A1->A1)(l:List Tk)(i:Int):PR A1:=
 if AN l i [46]then(F9 true l.length l [] (i+1)).bind λ xs j=>.ok (FK q xs) j
 else if(at' l i).kind≠3 then B7 l i 1 else(F9 false l.length l [] i).bind λ xs j=>.ok (FK q xs) j
def JT:A1:=[116,114,117,101]
def JU:A1:=[102,97,108,115,101]
def JV:A1:=[110,117,108,108]
def FB(l:List Tk)(i:Int):PR Nd:=
 if(at' l i).kind=5 then .ok (at' l i).c (i+1)
 else if(at' l i).kind=4 then .ok ⟨4,0,[],(at' l i).s,false,0⟩ (i+1)
 else if(at' l i).kind=2/\(at' l i).s∈[JV,JU,JT]then .ok ⟨([JV,JU,JT].idxOf (at' l i).s:Nat),0,[],[],false,0⟩ (i+1)
 else B7 l i 1
def JW:List A1:=[[61,61],[33,61],[60],[60,61],[62],[62,61]]
def oO(q:A1->A1)(l:List Tk)(i:Int):PR Tf:=(LW q l i).bind λ s j=>
 if(at' l j).kind=1/\(at' l j).s∈JW then(FB l (j+1)).bind λ c k=>.ok (.mk ⟨16,0,[],s,(JW.idxOf (at' l j).s:Nat),c⟩ []) k
 else B7 l j 1
def oP:A1:=[111,114]
def oQ:A1:=[97,110,100]
def oR:A1:=[110,111,116]
def oS:A1:=[116,111,95,101,110,116,114,105,101,115]
def oT:A1:=[102,114,111,109,95,101,110,116,114,105,101,115]
def oU:A1:=[114,101,118,101,114,115,101]
def oV:A1:=[103,114,111,117,112,95,98,121]
def oW:A1:=[115,111,114,116,95,98,121]
def oX:A1:=[100,101,108]
def oY:A1:=[109,97,112]
def oZ:A1:=[109,97,112,95,118,97,108,117,101,115]
def p2:A1:=[119,105,116,104,95,101,110,116,114,105,101,115]
def p3:A1:=[115,101,108,101,99,116]
def p4(w:A1):Option Int:=if w=oV then some 12 else if w=oW then some 13 else if w=oX then some 15 else none
def p5(w:A1):Option Int:=if w=oS then some 10 else if w=oT then some 11 else if w=oU then some 14 else none
mutual
def PA(q:A1->A1):Nat->List Tk->Int->Int->PR Tf
 |0,l,_,i=>B7 l i 1
 |f+1,l,d,i=>(PB q f l d i).bind λ x j=>VT q f l d [x] j
def VT(q:A1->A1):Nat->List Tk->Int->List Tf->Int->PR Tf
 |0,l,_,_,i=>B7 l i 1
 |f+1,l,d,xs,i=>if AN l i [124]then(PB q f l d (i+1)).bind λ x j=>VT q f l d (xs++[x]) j else .ok (SD xs) i
def PB(q:A1->A1):Nat->List Tk->Int->Int->PR Tf
 |0,l,_,i=>B7 l i 1
 |f+1,l,d,i=>(bR q f l d i).bind λ x j=>bQ l.length l (if AN l i [46]&&AN l j [91]then []else [x]) j
def bR(q:A1->A1):Nat->List Tk->Int->Int->PR Tf
 |0,l,_,i=>B7 l i 1
 |f+1,l,d,i=>
  if AN l i [46]then .ok (.mk (AR 0) []) (i+1)
  else if(at' l i).kind=3 then .ok (.mk { AR 1 with s:=(at' l i).s} []) (i+1)
  else if(at' l i).kind=2 then bS q f l d i
  else if AN l i [123]then(CV l d i [123]).bind λ _ j=>VU q f l (d+1) [] j
  else if AN l i [91]then(CV l d i [91]).bind λ _ j=>VV q f l (d+1) [] j
  else NP l d i (PA q f l (d+1))
def bS(q:A1->A1):Nat->List Tk->Int->Int->PR Tf
 |0,l,_,i=>B7 l i 1
 |f+1,l,d,i=>match p5 (at' l i).s with
  |some o=>.ok (.mk (AR o) []) (i+1)
  |none=>match p4 (at' l i).s with
   |some o=>NP l d (i+1) λ j=>(LW q l j).bind λ s k=>.ok (.mk { AR o with s:=s} []) k
   |none=>
    if(at' l i).s=oY then(NP l d (i+1) (PA q f l (d+1))).bind λ x j=>.ok (.mk (AR 5) [x]) j
    else if(at' l i).s=oZ then(NP l d (i+1) (PA q f l (d+1))).bind λ x j=>.ok (.mk (AR 6) [x]) j
    else if(at' l i).s=p2 then(NP l d (i+1) (PA q f l (d+1))).bind λ x j=>.ok (SD [.mk (AR 10) [],.mk (AR 5) [x],.mk (AR 11) []]) j
    else if(at' l i).s=p3 then(NP l d (i+1) (VW q f l (d+1))).bind λ x j=>.ok (.mk (AR 7) [x]) j
    else B7 l i 1
def VU(q:A1->A1):Nat->List Tk->Int->List Tf->Int->PR Tf
 |0,l,_,_,i=>B7 l i 1
 |f+1,l,d,xs,i=>
  if AN l i [125]then .ok (.mk (AR 8) xs) (i+1)
  else(if xs.isEmpty then .ok () i else AV l i [44]).bind λ _ j=>
   if(at' l j).kind≠2/\(at' l j).kind≠4\/(at' l j).s∈xs.map (λ x=>x.t.name)then B7 l j 1
   else(AV l (j+1) [58]).bind λ _ k=>(PB q f l d k).bind λ x m=>VU q f l d (xs++[x.named (at' l j).s]) m
def VV(q:A1->A1):Nat->List Tk->Int->List Tf->Int->PR Tf
 |0,l,_,_,i=>B7 l i 1
 |f+1,l,d,xs,i=>
  if AN l i [93]then .ok (.mk (AR 9) xs) (i+1)
  else(if xs.isEmpty then .ok () i else AV l i [44]).bind λ _ j=>(PB q f l d j).bind λ x m=>VV q f l d (xs++[x]) m
def VW(q:A1->A1):Nat->List Tk->Int->Int->PR Tf
 |0,l,_,i=>B7 l i 1
 |f+1,l,d,i=>(VY q f l d i).bind λ x j=>VX q f l d x j
def VX(q:A1->A1):Nat->List Tk->Int->Tf->Int->PR Tf
 |0,l,_,_,i=>B7 l i 1
 |f+1,l,d,x,i=>if NO l i oP then(VY q f l d (i+1)).bind λ y j=>VX q f l d (.mk (AR 18) [x,y]) j else .ok x i
def VY(q:A1->A1):Nat->List Tk->Int->Int->PR Tf
 |0,l,_,i=>B7 l i 1
 |f+1,l,d,i=>(W0 q f l d i).bind λ x j=>VZ q f l d x j
def VZ(q:A1->A1):Nat->List Tk->Int->Tf->Int->PR Tf
 |0,l,_,_,i=>B7 l i 1
 |f+1,l,d,x,i=>if NO l i oQ then(W0 q f l d (i+1)).bind λ y j=>VZ q f l d (.mk (AR 17) [x,y]) j else .ok x i
def W0(q:A1->A1):Nat->List Tk->Int->Int->PR Tf
 |0,l,_,i=>B7 l i 1
 |f+1,l,d,i=>
  if AN l i [40]=false then oO q l i
  else(CV l d i [40]).bind λ _ j=>(VW q f l (d+1) j).bind λ x k=>
   (if AN l k [124]then(if NO l (k+1) oR then .ok (.mk (AR 19) [x]) (k+2)else B7 l (k+1) 1)else .ok x k).bind λ y m=>(AV l m [41]).bind λ _ n=>.ok y n
end
end Go.Eng
set_option maxRecDepth 100000
namespace Go.Proofs.YtmjpjbmeamnfpaaGreatDoor
open Go.Eng
abbrev p6(b:Nat)(v:Value)(i d:Int):HO:=.box b [v,i64 i,i64 d] 60
theorem EU:Tryz.prog.follows .mixedOrders=true:=by kernel_rfl
abbrev D1(t:Tk):XV:=.ag [I t.kind,.v (str t.s),I t.c.kind,I t.c.many,.v (str t.c.name),.v (str t.c.s),.v (.bool t.c.neg),I t.c.e,I t.pos]
end Go.Proofs.YtmjpjbmeamnfpaaGreatDoor
namespace Go.Eng
open Go.RowKit
def EV:A1:=[97,110,121]
def p7:A1:=[110,117,109]
def p8:A1:=[115,116,114]
def GN:A1:=[116,117,112]
def GO:A1:=[101,110,116,114,105,101,115]
def PC:A1:=[115,111,114,116,101,100]
def PD:A1:=[103,114,111,117,112,101,100]
def G3:List A1:=[JV,JU,JT,p7,p8]
def KS(l:List Tk)(m i:Int):PR Int:=
 if(at' l i).kind=2/\(at' l i).s∈G3/\(m.toNat/2^ (G3.idxOf (at' l i).s))%2=0 then .ok (m+(2^ (G3.idxOf (at' l i).s):Nat)) (i+1)else B7 l i 1
def LX:Nat->List Tk->Int->Int->PR Int
 |0,l,_,i=>B7 l i 1
 |f+1,l,m,i=>if AN l i [124]then(KS l m (i+1)).bind λ n j=>LX f l n j else .ok m i
def KT(l:List Tk)(i:Int):PR Tf:=
 if(at' l i).kind=1/\(at' l i).s∈JW then(FB l (i+1)).bind λ c k=>.ok (.mk ⟨9,0,[],[],(JW.idxOf (at' l i).s:Nat),c⟩ []) k else B7 l i 1
def LY:Nat->List Tk->List Tf->Int->PR (List Tf)
 |0,l,_,i=>B7 l i 1
 |f+1,l,xs,i=>if AN l i [44]then(KT l (i+1)).bind λ x j=>LY f l (xs++[x]) j else .ok xs i
def KU(m:Int)(xs:List Tf):Tf:=.mk { AR 1 with n:=m} xs
def NQ(l:List Tk)(d i:Int):PR Tf:=(KS l 0 i).bind λ m0 i0=>(LX l.length l m0 i0).bind λ m j=>
 if AN l j [40]then(CV l d j [40]).bind λ _ k=>(KT l k).bind λ x n=>(LY l.length l [x] n).bind λ xs o=>(AV l o [41]).bind λ _ p=>.ok (KU m xs) p
 else .ok (KU m []) j
def NR(x:Tf):List Tf->List Tf
 |[]=>[x]
 |y::l=>if x.t.name<=y.t.name then x::y::l else y::NR x l
def KW:List Tf->List Tf
 |[]=>[]
 |x::l=>NR x (KW l)
def HN(o:Int)(xs:List Tf):Tf:=.mk { AR 2 with n:=o} (KW xs)
def FL(q:A1->A1)(rt:Tf->Bool)(l:List Tk)(kind i:Int)(x:Int->PR Tf):PR Tf:=
 (LW q l i).bind λ s j=>(AV l j [44]).bind λ _ k=>(x k).bind λ y m=>(AV l m [41]).bind λ _ n=>
  if rt (Tf.mk { AR kind with s:=s} [y.named []])then .ok (.mk { AR kind with s:=s} [y]) n else B7 l i 1
mutual
def AY(q:A1->A1)(rt:Tf->Bool):Nat->List Tk->Int->Int->PR Tf
 |0,l,_,i=>B7 l i 1
 |f+1,l,d,i=>
  if(at' l i).kind=2 then JX q rt f l d i
  else if AN l i [123]then(CV l d i [123]).bind λ _ j=>DL q rt f l (d+1) [] j
  else(CV l d i [91]).bind λ _ j=>(AY q rt f l (d+1) j).bind λ x k=>(AV l k [93]).bind λ _ m=>.ok (.mk (AR 5) [x]) m
def JX(q:A1->A1)(rt:Tf->Bool):Nat->List Tk->Int->Int->PR Tf
 |0,l,_,i=>B7 l i 1
 |f+1,l,d,i=>
  if(at' l i).s=EV then .ok (.mk (AR 0) []) (i+1)
  else if(at' l i).s=GN then(CV l d (i+1) [40]).bind λ _ j=>(EG q rt f l (d+1) [] j).bind λ x k=>(AV l k [41]).bind λ _ m=>.ok x m
  else if(at' l i).s=GO then(CV l d (i+1) [40]).bind λ _ j=>(AY q rt f l (d+1) j).bind λ x k=>(AV l k [41]).bind λ _ m=>.ok (.mk (AR 6) [x]) m
  else if(at' l i).s=PC then(CV l d (i+1) [40]).bind λ _ j=>FL q rt l 7 j (AY q rt f l (d+1))
  else if(at' l i).s=PD then(CV l d (i+1) [40]).bind λ _ j=>FL q rt l 8 j (AY q rt f l (d+1))
  else NQ l d i
def DL(q:A1->A1)(rt:Tf->Bool):Nat->List Tk->Int->List Tf->Int->PR Tf
 |0,l,_,_,i=>B7 l i 1
 |f+1,l,d,xs,i=>
  if AN l i [125]then .ok (HN 0 xs) (i+1)
  else(if xs.isEmpty then .ok () i else AV l i [44]).bind λ _ j=>
   if AN l j [63]then
    if xs.isEmpty&&AN l (j+1) [58]then(AY q rt f l d (j+2)).bind λ x k=>(AV l k [125]).bind λ _ m=>.ok (.mk (AR 3) [x]) m
    else(AV l (j+1) [125]).bind λ _ m=>.ok (HN 1 xs) m
   else if(at' l j).kind≠2/\(at' l j).kind≠4\/(at' l j).s∈xs.map (λ x=>x.t.name)then B7 l j 1
   else(AV l (j+1) [58]).bind λ _ k=>(AY q rt f l d k).bind λ x m=>DL q rt f l d (xs++[x.named (at' l j).s]) m
def EG(q:A1->A1)(rt:Tf->Bool):Nat->List Tk->Int->List Tf->Int->PR Tf
 |0,l,_,_,i=>B7 l i 1
 |f+1,l,d,xs,i=>
  if AN l i [41]then .ok (.mk (AR 4) xs) i
  else(if xs.isEmpty then .ok () i else AV l i [44]).bind λ _ j=>(AY q rt f l d j).bind λ x m=>EG q rt f l d (xs++[x]) m
end
def SF(q:A1->A1)(rt:Tf->Bool)(l:List Tk):Fl×Int×Int:=match AY q rt (4*l.length+4) l 0 0 with
 | .er c p=>([],p,c)
 | .ok x j=>if(at' l j).kind=6 then(x.flat,0,0)else([],(at' l j).pos,1)
def DT(q:A1->A1)(rt:Tf->Bool)(s:A1):Fl×Int×Int:=if(BF s).2.2≠0 then([],(BF s).2.1,(BF s).2.2)else SF q rt (BF s).1
end Go.Eng
