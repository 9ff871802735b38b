/-
  Parts Quote Ref UtfN Utf Lexp Pf Ka Ia, put together and made short by wip/py/merge.py (mini.py).
-/
import Derived.Test.YtmjpjbmeamnfpaaGreatDoorZe9
import Derived.Test.YtmjpjbmeamnfpaaGreatDoorZe3
import Derived.Lib.RuneBytes
import Derived.Lib.QuoteLoop
import Derived.Lib.RuneCount
import Derived.Lib.DecodeN
import Derived.Lib.Join
import Derived.Test.YtmjpjbmeamnfpaaGreatDoorZe8
import Derived.Test.YtmjpjbmeamnfpaaGreatDoorZe7
import Derived.Test.YtmjpjbmeamnfpaaGreatDoorZe0
set_option linter.unusedVariables false
set_option linter.unusedSimpArgs false
namespace Go.Eng
open Go.RowKit
def C1:List KV:=[⟨34,.int .i32 34,0⟩,⟨92,.int .i32 92,1⟩,⟨47,.int .i32 47,2⟩,⟨98,.int .i32 8,3⟩,⟨102,.int .i32 12,4⟩,⟨110,.int .i32 10,5⟩,⟨114,.int .i32 13,6⟩,⟨116,.int .i32 9,7⟩]
def D5(p:KV):Int:=match p.val with| .int _ x=>x|_=>0
theorem qZ: ∀p∈C1,p.val= .int .i32 (D5 p):=by
 intro p hp
 simp only[C1,List.mem_cons,List.not_mem_nil,or_false]at hp
 rcases hp with rfl|rfl|rfl|rfl|rfl|rfl|rfl|rfl<;>rfl
theorem r0: ∀p∈C1,p.born<8:=by
 intro p hp
 simp only[C1,List.mem_cons,List.not_mem_nil,or_false]at hp
 rcases hp with rfl|rfl|rfl|rfl|rfl|rfl|rfl|rfl<;>decide
theorem eF:(C1.map (·.born)).Nodup:=by decide
theorem r7: ∀p∈C1,∀q∈C1,D5 p=D5 q->p=q:=by
 intro p hp q hq h
 simp only[C1,List.mem_cons,List.not_mem_nil,or_false]at hp hq
 rcases hp with rfl|rfl|rfl|rfl|rfl|rfl|rfl|rfl<;>rcases hq with rfl|rfl|rfl|rfl|rfl|rfl|rfl|rfl<;>first|rfl|(exfalso;revert h;decide)
def JW(c:Int):Bool:=c==34||c==92||c==47||c==98||c==102||c==110||c==114||c==116
def J0(c:Int):Int:=if c=98 then 8 else if c=102 then 12 else if c=110 then 10 else if c=114 then 13 else if c=116 then 9 else if JW c then c else 0
theorem OH(c:Int):(BD C1 c).getD (.int .i32 0)= .int .i32 (J0 c)/\(BD C1 c).isSome=JW c:=by
 simp only[C1,BD,beq_iff_eq]
 by_cases h1:c=34
 ·subst h1;exact⟨rfl,rfl⟩
 by_cases h2:c=92
 ·subst h2;exact⟨rfl,rfl⟩
 by_cases h3:c=47
 ·subst h3;exact⟨rfl,rfl⟩
 by_cases h4:c=98
 ·subst h4;exact⟨rfl,rfl⟩
 by_cases h5:c=102
 ·subst h5;exact⟨rfl,rfl⟩
 by_cases h6:c=110
 ·subst h6;exact⟨rfl,rfl⟩
 by_cases h7:c=114
 ·subst h7;exact⟨rfl,rfl⟩
 by_cases h8:c=116
 ·subst h8;exact⟨rfl,rfl⟩
 rw[if_neg h1,if_neg h2,if_neg h3,if_neg h4,if_neg h5,if_neg h6,if_neg h7,if_neg h8]
 have:JW c=false:=by simp[JW,h1,h2,h3,h4,h5,h6,h7,h8]
 simp[J0,this,h4,h5,h6,h7,h8]
def J1(r:Int):Bool:=r==34||r==92||r==8||r==12||r==10||r==13||r==9
def I5(r:Int):Int:=if r=8 then 98 else if r=12 then 102 else if r=10 then 110 else if r=13 then 114 else if r=9 then 116 else if J1 r then r else 0
def Lets(seen:Array Nat)(l:List KV):Prop:=
 (l.map (·.key)).Nodup/\(∀p∈C1,seen.contains p.born=true->BD l (D5 p)=some (.int .u8 p.key))/\ ∀r,(∀p∈C1,seen.contains p.born=true->D5 p≠r)->BD l r=none
theorem r8{l:List KV}{x:Int}(h:BD l x=none): ∀p∈l,p.key≠x:=by
 induction l with
 |nil=>intro p hp;cases hp
 |cons a l ih=>
  intro p hp
  unfold BD at h
  split at h
  ·cases h
  ·rename_i hn
   rcases List.mem_cons.1 hp with rfl|hp
   ·intro e;subst e;simp at hn
   ·exact ih h p hp
theorem r9{l:List KV}{x:Int}{v:Value}(h:BD l x=none):GA l x v=none:=by
 induction l with
 |nil=>rfl
 |cons a l ih=>
  unfold BD at h;unfold GA
  split at h
  ·cases h
  ·rename_i hn;rw[if_neg hn,ih h];rfl
theorem eG(l:List KV)(p:KV)(x:Int)(h:BD l p.key=none):BD (l++[p]) x=if x==p.key then some p.val else BD l x:=by
 induction l with
 |nil=>simp[BD]
 |cons a l ih=>
  have hn: ¬(p.key==a.key)=true:=by intro e;simp[BD,e]at h
  have h':BD l p.key=none:=by simpa[BD,hn]using h
  simp only[List.cons_append,BD,ih h']
  by_cases e1:(x==a.key)=true
  ·rw[if_pos e1,if_pos e1]
   have: ¬(x==p.key)=true:=by
    intro e2;apply hn
    have a1:x=a.key:=by simpa using e1
    have a2:x=p.key:=by simpa using e2
    simp[<-a1,<-a2]
   rw[if_neg this]
  ·rw[if_neg e1,if_neg e1]
theorem rA(l:List KV)(x y:Int)(h:(l.map (·.key)).Nodup):BD (GC l x) y=if y==x then none else BD l y:=by
 induction l with
 |nil=>simp[GC,BD]
 |cons a l ih=>
  rw[List.map_cons,List.nodup_cons]at h
  have ih':=ih h.2
  unfold GC
  by_cases e:(x==a.key)=true
  ·rw[if_pos e]
   have e':x=a.key:=by simpa using e
   by_cases f:(y==x)=true
   ·rw[if_pos f]
    have f':y=x:=by simpa using f
    cases hk:BD l y with
    |none=>rfl
    |some v=>
     exfalso;apply h.1
     have: ∃p∈l,p.key=y:=by
      clear ih ih' h
      induction l with
      |nil=>cases hk
      |cons b l ih2=>
       unfold BD at hk
       split at hk
       ·rename_i hb;exact⟨b,by simp,by simpa using(by simpa using hb:y=b.key).symm⟩
       ·obtain⟨p,hp,hq⟩:=ih2 hk;exact⟨p,by simp[hp],hq⟩
     obtain⟨p,hp,hq⟩:=this
     exact List.mem_map.2 ⟨p,hp,by rw[hq,f',e']⟩
   ·rw[if_neg f]
    rw[show BD (a::l) y=if y==a.key then some a.val else BD l y from rfl,if_neg (by rw[<-e'];exact f)]
  ·rw[if_neg e]
   unfold BD
   by_cases f:(y==a.key)=true
   ·rw[if_pos f,if_pos f]
    have: ¬(y==x)=true:=by
     intro g;apply e
     have a1:y=a.key:=by simpa using f
     have a2:y=x:=by simpa using g
     simp[<-a1,<-a2]
    rw[if_neg this]
   ·rw[if_neg f,if_neg f];exact ih'
theorem Lets.step {seen:Array Nat}{l:List KV}{c:Nat}(h:Lets seen l){p:KV}(hp:p∈C1)(hn: ¬seen.contains p.born=true):Lets (seen.push p.born) (EM l c (D5 p) (.int .u8 p.key)):=by
 obtain⟨h1,h2,h3⟩:=h
 have hne: ∀q∈C1,seen.contains q.born=true->D5 q≠D5 p:=by
  intro q hq hs e
  have:=r7 q hq p hp e
  subst this;exact hn hs
 have h0:BD l (D5 p)=none:=h3 _ hne
 have hk:EM l c (D5 p) (.int .u8 p.key)=l++[⟨D5 p,.int .u8 p.key,c⟩]:=by unfold EM;rw[r9 h0]
 rw[hk]
 have hc: ∀q:KV,(seen.push p.born).contains q.born=true↔seen.contains q.born=true\/q.born=p.born:=by
  intro q;simp[Array.contains_iff_mem,Array.mem_push]
 refine⟨?_,?_,?_⟩
 ·rw[List.map_append,List.nodup_append]
  refine⟨h1,by simp,?_⟩
  intro x hx y hy
  simp only[List.map_cons,List.map_nil,List.mem_singleton]at hy
  subst hy
  obtain⟨q,hq,rfl⟩:=List.mem_map.1 hx
  exact r8 h0 q hq
 ·intro q hq hs
  rw[eG _ _ _ h0]
  rcases(hc q).1 hs with hs|hs
  ·rw[if_neg (by simpa using hne q hq hs)];exact h2 q hq hs
  ·have:q=p:=by
    have hnd:=eF
    simp only[C1,List.mem_cons,List.not_mem_nil,or_false]at hp hq
    rcases hp with rfl|rfl|rfl|rfl|rfl|rfl|rfl|rfl<;>rcases hq with rfl|rfl|rfl|rfl|rfl|rfl|rfl|rfl<;>first|rfl|(exfalso;revert hs;decide)
   subst this;simp
 ·intro r hr
  have hpr:D5 p≠r:=hr p hp ((hc p).2 (.inr U))
  rw[eG _ _ _ h0,if_neg (by simpa using λ e=>hpr e.symm)]
  exact h3 r λ q hq hs=>hr q hq ((hc q).2 (.inl hs))
theorem rB{seen:Array Nat}{l:List KV}(h:Lets seen l)(hall: ∀p∈C1,seen.contains p.born=true)(r:Int):
  (BD (GC l 47) r).getD (.int .u8 0)= .int .u8 (I5 r)/\(BD (GC l 47) r).isSome=J1 r:=by
 obtain⟨h1,h2,h3⟩:=h
 rw[rA _ _ _ h1]
 have hs: ∀p∈C1,BD l (D5 p)=some (.int .u8 p.key):=λ p hp=>h2 p hp (hall p hp)
 by_cases e0:r=47
 ·subst e0;exact⟨rfl,rfl⟩
 rw[if_neg (by simpa using e0)]
 by_cases e1:r=34
 ·subst e1;have:=hs ⟨34,.int .i32 34,0⟩ (by simp[C1]);rw[show D5 ⟨34,.int .i32 34,0⟩=34 from rfl]at this;rw[this];exact⟨rfl,rfl⟩
 by_cases e2:r=92
 ·subst e2;have:=hs ⟨92,.int .i32 92,1⟩ (by simp[C1]);rw[show D5 ⟨92,.int .i32 92,1⟩=92 from rfl]at this;rw[this];exact⟨rfl,rfl⟩
 by_cases e3:r=8
 ·subst e3;have:=hs ⟨98,.int .i32 8,3⟩ (by simp[C1]);rw[show D5 ⟨98,.int .i32 8,3⟩=8 from rfl]at this;rw[this];exact⟨rfl,rfl⟩
 by_cases e4:r=12
 ·subst e4;have:=hs ⟨102,.int .i32 12,4⟩ (by simp[C1]);rw[show D5 ⟨102,.int .i32 12,4⟩=12 from rfl]at this;rw[this];exact⟨rfl,rfl⟩
 by_cases e5:r=10
 ·subst e5;have:=hs ⟨110,.int .i32 10,5⟩ (by simp[C1]);rw[show D5 ⟨110,.int .i32 10,5⟩=10 from rfl]at this;rw[this];exact⟨rfl,rfl⟩
 by_cases e6:r=13
 ·subst e6;have:=hs ⟨114,.int .i32 13,6⟩ (by simp[C1]);rw[show D5 ⟨114,.int .i32 13,6⟩=13 from rfl]at this;rw[this];exact⟨rfl,rfl⟩
 by_cases e7:r=9
 ·subst e7;have:=hs ⟨116,.int .i32 9,7⟩ (by simp[C1]);rw[show D5 ⟨116,.int .i32 9,7⟩=9 from rfl]at this;rw[this];exact⟨rfl,rfl⟩
 have hn:BD l r=none:=h3 r (by
  intro p hp _
  simp only[C1,List.mem_cons,List.not_mem_nil,or_false]at hp
  rcases hp with rfl|rfl|rfl|rfl|rfl|rfl|rfl|rfl<;>simp only[D5]<;>omega)
 have hi:J1 r=false:=by simp[J1,e1,e2,e3,e4,e5,e6,e7]
 rw[hn];simp[I5,hi,e3,e4,e5,e6,e7]
theorem eH{α:Type}(f g:α->Bool): ∀l:List α,(l.filter (λ q=> !(f q||g q))).length<=(l.filter (λ q=> !f q)).length/\((∃p∈l,f p=false/\g p=true)->(l.filter (λ q=> !(f q||g q))).length<(l.filter (λ q=> !f q)).length)
 |[]=>⟨Nat.le_refl _,λ⟨p,hp,_⟩=>by cases hp⟩
 |a::l=>by
  obtain⟨h1,h2⟩:=eH f g l
  rw[List.filter_cons,List.filter_cons]
  cases hf:f a<;>cases hg:g a<;>simp only[Bool.or_false,Bool.or_true,Bool.false_or,Bool.true_or,Bool.not_false,Bool.not_true,if_true,if_false,Bool.false_eq_true,List.length_cons]
  ·refine⟨by omega,λ⟨p,hp,h3,h4⟩=>?_⟩
   rcases List.mem_cons.1 hp with rfl|hp
   ·rw[hg]at h4;cases h4
   ·have:=h2 ⟨p,hp,h3,h4⟩;omega
  ·exact⟨by omega,λ _=>by omega⟩
  ·refine⟨by omega,λ⟨p,hp,h3,h4⟩=>?_⟩
   rcases List.mem_cons.1 hp with rfl|hp
   ·rw[hf]at h3;cases h3
   ·exact h2 ⟨p,hp,h3,h4⟩
  ·refine⟨by omega,λ⟨p,hp,h3,h4⟩=>?_⟩
   rcases List.mem_cons.1 hp with rfl|hp
   ·rw[hf]at h3;cases h3
   ·exact h2 ⟨p,hp,h3,h4⟩
theorem rC{seen:Array Nat}{p:KV}(hp:p∈C1)(hn: ¬seen.contains p.born=true):(C1.filter (λ q=> !(seen.push p.born).contains q.born)).length<(C1.filter (λ q=> !seen.contains q.born)).length:=by
 have hc:(λ q:KV=> !(seen.push p.born).contains q.born)=λ q=> !(seen.contains q.born||q.born==p.born):=by
  funext q;congr 1;rw[Bool.eq_iff_iff];simp[Array.contains_iff_mem,Array.mem_push]
 rw[hc]
 exact(eH (λ q:KV=>seen.contains q.born) (λ q=>q.born==p.born) C1).2 ⟨p,hp,by simpa using hn,by simp⟩
def JX(b:UInt8):Int:=if 48<=b.toNat/\b.toNat<=57 then b.toNat-48 else if 97<=b.toNat/\b.toNat<=102 then b.toNat-87 else if 65<=b.toNat/\b.toNat<=70 then b.toNat-55 else-1
def EH(l:A1):Bool:=l.all (λ b=>decide (0<=JX b))
def FM(l:A1):Int:=l.foldl (λ n b=>n*16+JX b) 0
def BJ(s:A1):Int:=if len s<6 then-1 else if Lib.hasPrefix s [92,117]=false then-1 else if EH (Eng.sub s 2 6)then FM (Eng.sub s 2 6)else-1
def B5(s:A1):Int×Int:=
 if len s<2 then(0,0)
 else if JW (A2 s 1)then(J0 (A2 s 1),2)
 else if BJ s<0\/(56320<=BJ s/\BJ s<57344)then(0,0)
 else if BJ s<55296\/57344<=BJ s then(BJ s,6)
 else if BJ (A3 s 6)<56320\/57344<=BJ (A3 s 6)then(0,0)
 else(65536+(BJ s-55296)*1024+BJ (A3 s 6)-56320,12)
theorem rD(b:UInt8):JX b<=15:=by unfold JX;(repeat' split)<;>omega
theorem TV: ∀(l:A1) (n:Int),(∀b∈l,0<=JX b)->0<=n->0<=l.foldl (λ n b=>n*16+JX b) n/\l.foldl (λ n b=>n*16+JX b) n<(n+1)*16^l.length
 |[],n,_,h0=>by simp;omega
 |a::l,n,h,h0=>by
  have ha:=h a (by simp)
  have hb:=rD a
  have:=TV l (n*16+JX a) (λ b hb=>h b (by simp[hb])) (by omega)
  rw[List.foldl_cons]
  refine⟨this.1,Int.lt_of_lt_of_le this.2 ?_⟩
  have h1:(n+1)*16^ (a::l).length=((n+1)*16)*16^l.length:=by rw[List.length_cons,Int.pow_succ,Int.mul_comm (16^l.length) 16,<-Int.mul_assoc]
  rw[h1]
  exact Int.mul_le_mul_of_nonneg_right (by omega) (Int.le_of_lt (Int.pow_pos (by decide:(0:Int)<16)))
theorem rE{l:A1}(hl:len l=4)(h:EH l=true):0<=FM l/\FM l<=65535:=by
 unfold EH at h
 have:=TV l 0 (by simpa[List.all_eq_true]using h) (by omega)
 rw[show l.length=4 from by unfold len at hl;omega]at this
 unfold FM;omega
theorem OI(s:A1): -1<=BJ s/\BJ s<=65535/\(0<=BJ s->6<=len s):=by
 unfold BJ
 split
 ·omega
 ·split
  ·omega
  ·split
   ·rename_i h1 h2 h3
    unfold EH at h3
    have:=TV (Eng.sub s 2 6) 0 (by simpa[List.all_eq_true]using h3) (by omega)
    have hl:(Eng.sub s 2 6).length=4:=by have:=FX (s:=s) (i:=2) (j:=6) (by omega) (by omega) (by omega);unfold len at this;omega
    rw[hl]at this
    unfold FM;omega
   ·omega
theorem rF(s:A1):0<=(B5 s).1/\(B5 s).1<=1114111/\0<=(B5 s).2/\(B5 s).2<=12:=by
 have h1:=OI s
 have h2:=OI (A3 s 6)
 have h3:=NK s 1
 have h4:0<=J0 (A2 s 1)/\J0 (A2 s 1)<=255:=by unfold J0;(repeat' split)<;>omega
 unfold B5
 repeat' split
 all_goals (dsimp only;omega)
def CZ(f:Nat)(s:A1)(i:Int)(acc:List Int):A1×Int×Int:=
 match f with
 |0=>([],len s,1)
 |f+1=>
  if i<len s then
   if AQ (A3 s i) 0=34 then(toStr acc,i+1,0)
   else if AQ (A3 s i) 0=92 then
    if(B5 (A3 s i)).2=0 then([],i,1)else CZ f s (i+(B5 (A3 s i)).2) (acc++Lib.encodeRuneZ (B5 (A3 s i)).1)
   else if AQ (A3 s i) 0<32\/(AQ (A3 s i) 0=65533/\runeLen (A3 s i) 0=1)then([],i,1)
   else CZ f s (i+runeLen (A3 s i) 0) (acc++Lib.encodeRuneZ (AQ (A3 s i) 0))
  else([],len s,1)
def AM(s:A1):A1×Int×Int:=if Lib.hasPrefix s [34]then CZ s.length s 1 []else([],0,1)
theorem KE{f:Nat}{s:A1}{i:Int}{acc:List Int}(hf:(len s-i).toNat<=f)(h1:i<len s):CZ f s i acc=
  (if AQ (A3 s i) 0=34 then(toStr acc,i+1,0)
   else if AQ (A3 s i) 0=92 then
    if(B5 (A3 s i)).2=0 then([],i,1)else CZ (f-1) s (i+(B5 (A3 s i)).2) (acc++Lib.encodeRuneZ (B5 (A3 s i)).1)
   else if AQ (A3 s i) 0<32\/(AQ (A3 s i) 0=65533/\runeLen (A3 s i) 0=1)then([],i,1)
   else CZ (f-1) s (i+runeLen (A3 s i) 0) (acc++Lib.encodeRuneZ (AQ (A3 s i) 0))):=by
 cases f with
 |zero=>omega
 |succ f=>
     conv=>lhs;unfold CZ
     rw[if_pos h1];rfl
theorem rG{f:Nat}{s:A1}{i:Int}{acc:List Int}(h1: ¬i<len s):CZ f s i acc=([],len s,1):=by
 cases f with
 |zero=>rfl
 |succ f=>unfold CZ;rw[if_neg h1]
theorem rH:Lets #[] []:=⟨by simp,λ p _ h=>by simp at h,λ r _=>rfl⟩
def EO(n:Int):Int:=if n<10 then 48+n else 87+n
def J2(r:Int):A1:=if J1 r then [92,(I5 r).toNat.toUInt8]else if r<32 then [92,117,48,48,(EO (r/16)).toNat.toUInt8,(EO (r%16)).toNat.toUInt8]else Lib.encodeRune r
theorem QN(s:A1)(p:Int)(h0:0<=p)(h1:p<len s):1<=runeLen s p/\p+runeLen s p<=len s:=by
 have hs:(ByteArray.mk ⟨s⟩).size=s.length:=rfl
 have h2:=Lib.decode_width_pos ⟨⟨s⟩⟩ p.toNat (by rw[hs];unfold len at h1;omega)
 have h3:(Utf8.decode ⟨⟨s⟩⟩ p.toNat).2<=(ByteArray.mk ⟨s⟩).size-p.toNat:=by rw[Lib.decode_at];exact Lib.decodeN_width_le _ _ _ _ _ (by rw[hs];unfold len at h1;omega)
 rw[hs]at h3
 unfold runeLen len at*;omega
def J3(s:A1)(p:Int):A1:=if h:0<=p/\p<len s then J2 (AQ s p)++J3 s (p+runeLen s p)else []
termination_by (len s-p).toNat
decreasing_by have:=QN s p h.1 h.2;omega
def A4(s:A1):A1:=34::J3 s 0++[34]
theorem TW{s:A1}{p:Int}(h0:0<=p)(h1:p<len s):J3 s p=J2 (AQ s p)++J3 s (p+runeLen s p):=by rw[J3,dif_pos ⟨h0,h1⟩]
theorem eI{s:A1}{p:Int}(h1: ¬p<len s):J3 s p=[]:=by rw[J3,dif_neg (by omega)]
theorem TX(s:A1)(p:Int):0<=AQ s p/\AQ s p<=1114111:=by have:=Lib.rune_le ⟨⟨s⟩⟩ p.toNat;unfold AQ;omega
theorem eJ(r:Int):0<=I5 r/\I5 r<=255:=by
 unfold I5
 (repeat' split)<;>first|omega|skip
 rename_i h;unfold J1 at h;simp only[Bool.or_eq_true,beq_iff_eq]at h;omega
theorem rI{r:Int}(h:J1 r=true):ints (J2 r)=[92,I5 r]:=by
 have:=eJ r
 unfold J2;rw[if_pos h];simp[ints];omega
theorem rJ{r:Int}(h:J1 r=false)(h2:r<32)(h3:0<=r):ints (J2 r)=ints [92,117,48,48]++ints (A3 [49,(EO (r/16)).toNat.toUInt8,(EO (r%16)).toNat.toUInt8] 1):=by
 unfold J2;rw[if_neg (by rw[h];simp),if_pos h2];rfl
theorem rK{r:Int}(h:J1 r=false)(h2: ¬r<32):ints (J2 r)=Lib.encodeRuneZ r:=by
 unfold J2;rw[if_neg (by rw[h];simp),if_neg h2]
 unfold ints Lib.encodeRune;rw[List.map_map]
 conv=>rhs;rw[<-List.map_id (Lib.encodeRuneZ r)]
 apply List.map_congr_left
 intro x hx
 have:=Lib.encodeRuneZ_byte r x hx
 simp;omega
end Go.Eng
namespace Go.Eng
open Go.RowKit
def FY(b:UInt8):Bool:=IN (b.toNat:Int)
def AV(s:A1)(i:Int):Int:=i+len ((A3 s i).takeWhile FY)
theorem I6(s:A1)(i:Int)(h0:0<=i)(h1:i<=len s):i<=AV s i/\AV s i<=len s:=by
 have h2:=CN s i h0 h1
 have h3:=(List.takeWhile_sublist FY (l:=A3 s i)).length_le
 unfold AV len at*;omega
def TY(s:A1)(i:Int)(t:A1):Bool:=decide (i+len t<=len s)&&(Eng.sub s i (i+len t)==t)
def eK(n:Int):A1:=Eng.sub [48,49,50,51,52,53,54,55,56,57,97,98,99,100,101,102] n (n+1)
def rL(c:Int):A1:=
 if c=34 then [92,34]else if c=92 then [92,92]else if c=8 then [92,98]else if c=12 then [92,102]else if c=10 then [92,110]else if c=13 then [92,114]else if c=9 then [92,116]
 else if c<32 then [92,117,48,48]++eK (c/16)++eK (c%16)else toStr [c]
def rM(b:UInt8):A1:=rL (b.toNat:Int)
def rN(s:A1):A1:=34::s.flatMap rM++[34]
theorem rO{s:A1}{k:Int}(h0:0<=k)(h1:k<len s): ∃b,Eng.sub s 0 (k+1)=Eng.sub s 0 k++[b]/\(b.toNat:Int)=A2 s k:=by
 have h:k.toNat<s.length:=by unfold len at h1;omega
 refine⟨s[k.toNat],?_,by simp[A2,h]⟩
 unfold Eng.sub
 simp only[Int.toNat_zero,List.drop_zero,Nat.sub_zero]
 rw[show(k+1).toNat=k.toNat+1 from by omega,List.take_succ_eq_append_getElem h]
theorem eM{b:UInt8}:(([48]:A1).contains b)=true↔(b.toNat:Int)=48:=by
 simp only[List.contains_cons,List.contains_nil,Bool.or_false,beq_iff_eq]
 constructor
 ·rintro rfl;rfl
 ·intro h;apply UInt8.toNat_inj.1;show b.toNat=48;omega
theorem rP{s:A1}(h:0<len s): ∃b,s=Eng.sub s 0 (len s-1)++[b]/\(b.toNat:Int)=A2 s (len s-1):=by
 obtain⟨b,h1,h2⟩:=rO (s:=s) (k:=len s-1) (by omega) (by omega)
 rw[show len s-1+1=len s from by omega,JM s (len s) (by omega)]at h1
 exact⟨b,h1,h2⟩
end Go.Eng
namespace Go.Eng
def MS(n x0 x1 x2 x3:Nat):Nat:=
 if x0<128 then 1
 else if 194<=x0/\x0<224/\(1<n/\128<=x1/\x1<192)then 2
 else if 224<=x0/\x0<240/\(1<n/\128<=x1/\x1<192)/\(2<n/\128<=x2/\x2<192)then
  if(x0=224/\x1<160)\/(x0=237/\160<=x1)then 0 else 3
 else if 240<=x0/\x0<245/\(1<n/\128<=x1/\x1<192)/\(2<n/\128<=x2/\x2<192)/\(3<n/\128<=x3/\x3<192)then
  if(x0=240/\x1<144)\/(x0=244/\144<=x1)then 0 else 4
 else 0
def XX(n x0 x1 x2 x3 k r l:Nat):Prop:=
 (k=0/\r=65533/\l=1/\128<=x0)\/(k=1/\r=x0/\l=1/\x0<128)\/
 (k=2/\l=2/\2<=n/\128<=r/\r<=2047/\192+r/64=x0/\128+r%64=x1)\/
 (k=3/\l=3/\3<=n/\((2048<=r/\r<55296)\/(57343<r/\r<=65535))/\224+r/4096=x0/\128+r/64%64=x1/\128+r%64=x2)\/
 (k=4/\l=4/\4<=n/\65536<=r/\r<=1114111/\240+r/262144=x0/\128+r/4096%64=x1/\128+r/64%64=x2/\128+r%64=x3)
set_option maxHeartbeats 4000000 in
set_option maxRecDepth 100000 in
theorem XY(n x0 x1 x2 x3:Nat)(hn:1<=n)(h0:x0<256)(h1:x1<256)(h2:x2<256)(h3:x3<256):XX n x0 x1 x2 x3 (MS n x0 x1 x2 x3) (Lib.decodeN n x0 x1 x2 x3).1 (Lib.decodeN n x0 x1 x2 x3).2:=by
 unfold MS Lib.decodeN XX
 repeat' split
 all_goals first|exact .inl ⟨rfl,rfl,rfl,by omega⟩|exact .inr (.inl ⟨rfl,rfl,rfl,by omega⟩)|exact .inr (.inr (.inl ⟨rfl,rfl,by omega,by dsimp only;omega,by dsimp only;omega,by dsimp only;omega,by dsimp only;omega⟩))|exact .inr (.inr (.inr (.inl ⟨rfl,rfl,by omega,by dsimp only;omega,by dsimp only;omega,by dsimp only;omega,by dsimp only;omega⟩)))|exact .inr (.inr (.inr (.inr ⟨rfl,rfl,by omega,by dsimp only;omega,by dsimp only;omega,by dsimp only;omega,by dsimp only;omega,by dsimp only;omega,by dsimp only;omega⟩)))|(exfalso;omega)
end Go.Eng
namespace Go.Eng
open Go.RowKit
theorem TZ(s:A1)(i:Int)(h0:0<=i)(j:Nat):A2 s (i+j)=((s.getD (i.toNat+j) 0).toNat:Int):=by
 unfold A2;rw[show(i+j).toNat=i.toNat+j from by omega]
theorem eN(s:A1)(i:Int)(j:Nat):(A3 s i).getD j 0=s.getD (i.toNat+j) 0:=by
 unfold A3;simp[List.getD_eq_getElem?_getD,List.getElem?_drop]
theorem eO(l:A1)(j:Nat):(ByteArray.mk ⟨l⟩).get! j=l.getD j 0:=by
 show(Array.mk l)[j]! =_
 simp[List.getD_eq_getElem?_getD]
 rfl
theorem MT{α:Type}(s:List α)(i j:Int)(h0:0<=i)(h1:0<=j):A3 (A3 s i) j=A3 s (i+j):=by
 unfold A3;rw[List.drop_drop,show(i+j).toNat=i.toNat+j.toNat from by omega]
theorem U0(s:A1)(i j:Int)(h0:0<=i)(h1:0<=j):A2 (A3 s i) j=A2 s (i+j):=by
 unfold A2;rw[eN,show(i+j).toNat=i.toNat+j.toNat from by omega]
theorem U1(s:A1)(i:Int)(h0:0<=i):
  Utf8.decode ⟨⟨A3 s i⟩⟩ 0=Lib.decodeN (s.length-i.toNat) (s.getD i.toNat 0).toNat (s.getD (i.toNat+1) 0).toNat (s.getD (i.toNat+2) 0).toNat (s.getD (i.toNat+3) 0).toNat:=by
 rw[Lib.decode_at]
 simp only[eO,eN,Nat.zero_add,Nat.add_zero,Nat.sub_zero]
 congr 1
 show(A3 s i).length=_
 unfold A3;rw[List.length_drop]
theorem QO(s:A1)(i:Int)(h0:0<=i):Utf8.decode ⟨⟨s⟩⟩ i.toNat=Utf8.decode ⟨⟨A3 s i⟩⟩ 0:=by
 rw[U1 s i h0,Lib.decode_at]
 simp only[eO];rfl
theorem U2(s:A1)(i:Int)(h0:0<=i):AQ (A3 s i) 0=AQ s i:=by unfold AQ;rw[QO s i h0];rfl
theorem OJ(s:A1)(i:Int)(h0:0<=i):runeLen (A3 s i) 0=runeLen s i:=by unfold runeLen;rw[QO s i h0];rfl
theorem U3{s:A1}{i:Int}(h0:0<=i): ∀n:Nat,i+n<=len s->Eng.sub s i (i+n)=(List.range n).map (λ j=>s.getD (i.toNat+j) 0):=by
 intro n h
 unfold Eng.sub
 apply List.ext_getElem?
 intro k
 rw[show(i+n).toNat-i.toNat=n from by omega]
 unfold len at h
 by_cases hk:k<n
 ·rw[List.getElem?_take,if_pos hk,List.getElem?_drop]
  have:i.toNat+k<s.length:=by omega
  simp[hk,this]
 ·rw[List.getElem?_take,if_neg hk]
  simp[hk]
theorem JY(b:UInt8)(x:Int)(h:x=(b.toNat:Int)):UInt8.ofNat x.toNat=b:=by subst h;simp
theorem XZ{s:A1}{i:Int}(h0:0<=i)(h1:i<len s):rune s i=(MS (s.length-i.toNat) (s.getD i.toNat 0).toNat (s.getD (i.toNat+1) 0).toNat (s.getD (i.toNat+2) 0).toNat (s.getD (i.toNat+3) 0).toNat:Nat):=by
 have e0:A2 s i=((s.getD i.toNat 0).toNat:Int):=rfl
 have e1:A2 s (i+1)=((s.getD (i.toNat+1) 0).toNat:Int):=TZ s i h0 1
 have e2:A2 s (i+2)=((s.getD (i.toNat+2) 0).toNat:Int):=TZ s i h0 2
 have e3:A2 s (i+3)=((s.getD (i.toNat+3) 0).toNat:Int):=TZ s i h0 3
 have hlen:len s=(s.length:Int):=rfl
 unfold rune cont MS
 simp only[e0,e1,e2,e3]
 simp only[Bool.and_eq_true,Bool.or_eq_true,decide_eq_true_eq,beq_iff_eq]
 repeat' split
 all_goals first|rfl|(exfalso;omega)
theorem MU{s:A1}{i:Int}(h0:0<=i)(h1:i<len s):
  (rune s i=0/\AQ s i=65533/\runeLen s i=1/\128<=A2 s i)\/
  (1<=rune s i/\runeLen s i=rune s i/\ ¬(AQ s i=65533/\runeLen s i=1)/\toStr (Lib.encodeRuneZ (AQ s i))=Eng.sub s i (i+rune s i)/\(A2 s i<128->rune s i=1/\AQ s i=A2 s i)/\(128<=A2 s i->128<=AQ s i)):=by
 have hlen:len s=(s.length:Int):=rfl
 have hrn:=XZ h0 h1
 have hle:=rune_le s i h1
 have e0:A2 s i=((s.getD i.toNat 0).toNat:Int):=rfl
 have s1:=U3 (s:=s) h0 1
 have s2:=U3 (s:=s) h0 2
 have s3:=U3 (s:=s) h0 3
 have s4:=U3 (s:=s) h0 4
 simp only[List.range_succ,List.range_zero,List.nil_append,List.map_append,List.map_cons,List.map_nil,List.cons_append,Nat.add_zero]at s1 s2 s3 s4
 have hr:AQ s i=((Lib.decodeN (s.length-i.toNat) (s.getD i.toNat 0).toNat (s.getD (i.toNat+1) 0).toNat (s.getD (i.toNat+2) 0).toNat (s.getD (i.toNat+3) 0).toNat).1:Nat):=by
  unfold AQ;rw[QO s i h0,U1 s i h0]
 have hl:runeLen s i=((Lib.decodeN (s.length-i.toNat) (s.getD i.toNat 0).toNat (s.getD (i.toNat+1) 0).toNat (s.getD (i.toNat+2) 0).toNat (s.getD (i.toNat+3) 0).toNat).2:Nat):=by
  unfold runeLen;rw[QO s i h0,U1 s i h0]
 have hD:=XY (s.length-i.toNat) (s.getD i.toNat 0).toNat (s.getD (i.toNat+1) 0).toNat (s.getD (i.toNat+2) 0).toNat (s.getD (i.toNat+3) 0).toNat (by omega) (UInt8.toNat_lt _) (UInt8.toNat_lt _) (UInt8.toNat_lt _) (UInt8.toNat_lt _)
 generalize Lib.decodeN (s.length-i.toNat) (s.getD i.toNat 0).toNat (s.getD (i.toNat+1) 0).toNat (s.getD (i.toNat+2) 0).toNat (s.getD (i.toNat+3) 0).toNat=D at*
 generalize MS (s.length-i.toNat) (s.getD i.toNat 0).toNat (s.getD (i.toNat+1) 0).toNat (s.getD (i.toNat+2) 0).toNat (s.getD (i.toNat+3) 0).toNat=K at*
 obtain⟨r,l⟩:=D
 dsimp only at hD hr hl
 rcases hD with⟨rfl,hd,hx⟩|⟨rfl,hd,hx⟩|⟨rfl,hd,hx⟩|⟨rfl,hd,hx⟩|⟨rfl,hd,hx⟩
 ·left;refine⟨by omega,by omega,by omega,by omega⟩
 ·right
  refine⟨by omega,by omega,by omega,?_,λ _=>⟨by omega,by omega⟩,by omega⟩
  rw[hr,hrn,Lib.encodeRuneZ_one (by omega) (by omega)]
  rw[show((1:Nat):Int)=1 from rfl]at*
  rw[s1 (by omega)]
  simp only[toStr,List.map_cons,List.map_nil]
  rw[JY (s.getD i.toNat 0) _ (by omega)]
 ·right
  refine⟨by omega,by omega,by omega,?_,by omega,by omega⟩
  rw[hr,hrn,Lib.encodeRuneZ_two (by omega) (by omega)]
  have:=s2 (by omega)
  refine Eq.trans ?_ this.symm
  simp only[toStr,List.map_cons,List.map_nil]
  rw[JY (s.getD i.toNat 0) _ (by omega),JY (s.getD (i.toNat+1) 0) _ (by omega)]
 ·right
  refine⟨by omega,by omega,by omega,?_,by omega,by omega⟩
  rw[hr,hrn,Lib.encodeRuneZ_three (by omega)]
  have:=s3 (by omega)
  refine Eq.trans ?_ this.symm
  simp only[toStr,List.map_cons,List.map_nil]
  rw[JY (s.getD i.toNat 0) _ (by omega),JY (s.getD (i.toNat+1) 0) _ (by omega),JY (s.getD (i.toNat+2) 0) _ (by omega)]
 ·right
  refine⟨by omega,by omega,by omega,?_,by omega,by omega⟩
  rw[hr,hrn,Lib.encodeRuneZ_four (by omega) (by omega)]
  have:=s4 (by omega)
  refine Eq.trans ?_ this.symm
  simp only[toStr,List.map_cons,List.map_nil]
  rw[JY (s.getD i.toNat 0) _ (by omega),JY (s.getD (i.toNat+1) 0) _ (by omega),JY (s.getD (i.toNat+2) 0) _ (by omega),JY (s.getD (i.toNat+3) 0) _ (by omega)]
end Go.Eng
namespace Go.Eng
open Go.RowKit
def MV(s:A1):A1:=s.dropWhile (([32,9,10,13]:A1).contains ·)
def CJ(s:A1):A1:=s.dropWhile (([48,49,50,51,52,53,54,55,56,57,43,45,46,101,69]:A1).contains ·)
def I7(b:UInt8):Bool:=([48,49,50,51,52,53,54,55,56,57,43,45,46,101,69]:A1).contains b
theorem drop_take{α:Type}(p:α->Bool): ∀l:List α,l.dropWhile p=l.drop (l.takeWhile p).length
 |[]=>rfl
 |a::l=>by
  rw[List.dropWhile_cons,List.takeWhile_cons]
  split
  ·rw[List.length_cons,List.drop_succ_cons];exact drop_take p l
  ·rfl
theorem rQ(b:UInt8):([32,9,10,13]:A1).contains b=FY b:=by
 unfold FY IN
 rw[Bool.eq_iff_iff]
 simp only[List.contains_cons,List.contains_nil,Bool.or_false,Bool.or_eq_true,beq_iff_eq]
 have h: ∀n:Nat,n<256->(b=UInt8.ofNat n↔(b.toNat:Int)=n):=λ n hn=>by
  rw[<-UInt8.toNat_inj];simp[Nat.mod_eq_of_lt hn];omega
 have h1:=h 32 (by omega)
 have h2:=h 9 (by omega)
 have h3:=h 10 (by omega)
 have h4:=h 13 (by omega)
 have e1:b=32↔(b.toNat:Int)=32:=h1
 have e2:b=9↔(b.toNat:Int)=9:=h2
 have e3:b=10↔(b.toNat:Int)=10:=h3
 have e4:b=13↔(b.toNat:Int)=13:=h4
 rw[e1,e2,e3,e4];omega
theorem eP(s:A1)(i:Int)(h0:0<=i):MV (A3 s i)=A3 s (AV s i):=by
 unfold MV AV
 rw[show(λ b=>([32,9,10,13]:A1).contains b)=FY from funext rQ,drop_take,<-MT s i _ h0 (A8 _)]
 unfold A3 len
 rw[Int.toNat_natCast]
def runN(s:A1):A1:=Eng.sub s 0 (len s-len (CJ s))
theorem Y0(s:A1):runN s=s.takeWhile I7:=by
 unfold runN CJ
 rw[show(λ b=>([48,49,50,51,52,53,54,55,56,57,43,45,46,101,69]:A1).contains b)=I7 from rfl,drop_take]
 have h:=(List.takeWhile_prefix I7 (l:=s)).length_le
 unfold Eng.sub len
 rw[List.length_drop]
 have e:((s.length:Int)-((s.length-(s.takeWhile I7).length:Nat):Int)).toNat-Int.toNat 0=(s.takeWhile I7).length:=by omega
 rw[e]
 simp only[Int.toNat_zero,List.drop_zero]
 exact(List.prefix_iff_eq_take.1 (List.takeWhile_prefix I7)).symm
theorem rR(s:A1):0<=len (CJ s)/\len (CJ s)<=len s:=by
 have:=(List.dropWhile_sublist (([48,49,50,51,52,53,54,55,56,57,43,45,46,101,69]:A1).contains ·) (l:=s)).length_le
 unfold CJ len;omega
def BK(s:A1):A1:=(AD.find? (λ m=>Lib.hasPrefix s m)).getD []
theorem MW(s:A1):BK s=[]\/(BK s∈AD/\Lib.hasPrefix s (BK s)=true):=by
 unfold BK
 cases h:AD.find? (λ m=>Lib.hasPrefix s m)with
 |none=>left;rfl
 |some m=>right;exact⟨List.mem_of_find?_eq_some h,by simpa using List.find?_some h⟩
def Y1:Tk:=⟨0,[],AY,0⟩
def A7(s:A1):Tk×Int×Int:=
 if A2 s 0=46/\B1 (A3 s 1)≠[]then(⟨3,B1 (A3 s 1),AY,0⟩,1+len (B1 (A3 s 1)),0)
 else if A2 s 0=46/\Lib.hasPrefix (A3 s 1) [34]=true then(⟨3,(AM (A3 s 1)).1,AY,0⟩,1+(AM (A3 s 1)).2.1,(AM (A3 s 1)).2.2)
 else if BK s≠[]then(⟨1,BK s,AY,0⟩,len (BK s),0)
 else if B1 s≠[]then(⟨2,B1 s,AY,0⟩,len (B1 s),0)
 else if A2 s 0=34 then(⟨4,(AM s).1,AY,0⟩,(AM s).2.1,(AM s).2.2)
 else if A2 s 0=45\/C7 (A2 s 0)=true then
  if(BY (runN s)).2.2≠0 then(Y1,(BY (runN s)).2.1,(BY (runN s)).2.2)
  else(⟨5,[],(BY (runN s)).1,0⟩,len (runN s),0)
 else(Y1,0,1)
def BH(s:A1):Tk:=⟨6,[],AY,len s⟩
def HK(f:Nat)(s:A1)(i:Int)(acc:List Tk):List Tk×Int×Int:=
 match f with
 |0=>(acc++[BH s],0,0)
 |f+1=>
  if i<len s then
   if(A7 (A3 s i)).2.2≠0 then([],i+(A7 (A3 s i)).2.1,(A7 (A3 s i)).2.2)
   else HK f s (AV s (i+(A7 (A3 s i)).2.1)) (acc++[{ (A7 (A3 s i)).1 with pos:=i}])
  else(acc++[BH s],0,0)
def BB(s:A1):List Tk×Int×Int:=HK s.length s (AV s 0) []
theorem OK{f:Nat}{s:A1}{i:Int}{acc:List Tk}(hf:(len s-i).toNat<=f)(h1:i<len s):HK f s i acc=
  if(A7 (A3 s i)).2.2≠0 then([],i+(A7 (A3 s i)).2.1,(A7 (A3 s i)).2.2)
   else HK (f-1) s (AV s (i+(A7 (A3 s i)).2.1)) (acc++[{ (A7 (A3 s i)).1 with pos:=i}]):=by
 cases f with
 |zero=>omega
 |succ f=>
    conv=>lhs;unfold HK
    rw[if_pos h1];rfl
theorem Y2{f:Nat}{s:A1}{i:Int}{acc:List Tk}(h1: ¬i<len s):HK f s i acc=(acc++[BH s],0,0):=by
 cases f with
 |zero=>rfl
 |succ f=>unfold HK;rw[if_neg h1]
theorem KF{s:A1}{i:Int}(h0:0<=i)(h1:i<=len s):i<=CC s i/\CC s i<=len s:=by
 by_cases h:i<len s
 ·by_cases hw:BN (A2 s i) (i==0)=true
  ·have:=KF (s:=s) (i:=i+1) (by omega) (by omega)
   rw[NP h0 h hw]at this;omega
  ·rw[NQ h0 h (by simpa using hw)];omega
 ·rw[NR h];omega
termination_by (len s-i).toNat
theorem MX(s:A1):len (B1 s)=CC s 0:=by
 have:=KF (s:=s) (i:=0) (by omega) (A8 s)
 unfold B1;rw[FX (by omega) (by omega) (by omega)];omega
theorem QP(s:A1):0<=len (B1 s)/\len (B1 s)<=len s:=by
 have:=KF (s:=s) (i:=0) (by omega) (A8 s)
 rw[MX];omega
theorem eQ{α:Type}(s:List α)(i:Int)(h0:0<=i):len (A3 s i)=if i<=len s then len s-i else 0:=by
 unfold A3 len;rw[List.length_drop];split<;>omega
theorem Y3(s:A1):0<=(B5 s).2/\(B5 s).2<=len s/\((B5 s).2≠0->2<=(B5 s).2):=by
 have h1:=OI s
 have h2:=OI (A3 s 6)
 have h3:=eQ s 6 (by omega)
 have h4:=A8 s
 unfold B5
 repeat' split
 all_goals (dsimp only;try (split at h3);all_goals omega)
theorem QQ{s:A1}{i:Int}(h0:0<=i)(h1:i<len s):1<=runeLen s i/\i+runeLen s i<=len s:=by
 have h2:=rune_le s i h1
 rcases MU h0 h1 with⟨_,_,h3,_⟩|⟨h3,h4,_⟩<;>omega
theorem U4{f:Nat}{s:A1}{i:Int}{acc:List Int}(h0:0<=i)(h1:i<=len s):
  0<=(CZ f s i acc).2.1/\(CZ f s i acc).2.1<=len s/\((CZ f s i acc).2.2=0->i<(CZ f s i acc).2.1)/\((CZ f s i acc).2.2=0\/(CZ f s i acc).2.2=1):=by
 induction f generalizing i acc with
 |zero=>unfold CZ;dsimp only;omega
 |succ f ih=>
  unfold CZ
  split
  ·rename_i hlt
   have hf:=CN s i h0 h1
   split
   ·dsimp only;omega
   ·split
    ·have he:=Y3 (A3 s i)
     split
     ·dsimp only;omega
     ·have:=ih (i:=i+(B5 (A3 s i)).2) (acc:=acc++Lib.encodeRuneZ (B5 (A3 s i)).1) (by omega) (by omega)
      omega
    ·split
     ·dsimp only;omega
     ·have hb:=QQ h0 hlt
      rw[OJ s i h0]
      have:=ih (i:=i+runeLen s i) (acc:=acc++Lib.encodeRuneZ (AQ (A3 s i) 0)) (by omega) (by omega)
      omega
  ·dsimp only;omega
theorem U5{s p:A1}(h:Lib.hasPrefix s p=true):len p<=len s:=by
 have:=(List.isPrefixOf_iff_prefix.1 h).length_le
 unfold len;omega
theorem KG(s:A1):0<=(AM s).2.1/\(AM s).2.1<=len s/\((AM s).2.2=0->2<=(AM s).2.1)/\((AM s).2.2=0\/(AM s).2.2=1):=by
 unfold AM
 split
 ·rename_i h
  have h1:(1:Int)<=len s:=U5 h
  have:=U4 (f:=s.length) (s:=s) (i:=1) (acc:=[]) (by omega) h1
  omega
 ·have:=A8 s;dsimp only;omega
end Go.Eng
namespace Go.Eng
open Go.RowKit
structure Tm where
 op:Int
 many:Int
 name:A1
 s:A1
 n:Int
 c:Nd
deriving Inhabited,DecidableEq
def Tm.cells (t:Tm):List Value:=[i64 t.op,i64 t.many,str t.name,str t.s,i64 t.n,i64 t.c.kind,i64 t.c.many,str t.c.name,str t.c.s,.bool t.c.neg,i64 t.c.e]
theorem Tm.BZ (t:Tm):t.cells.length=11:=rfl
abbrev Fl:=List Tm
def AN(o:Int):Tm:=⟨o,0,[],[],0,AY⟩
inductive Tf where
 |mk (t:Tm) (ps:List Tf)
mutual
def Tf.flat:Tf->Fl
 | .mk t ps=> { t with many:=len ps}::AL ps
def AL:List Tf->Fl
 |[]=>[]
 |x::l=>x.flat++AL l
end
instance:Inhabited Tf:=⟨.mk default []⟩
def Tf.t:Tf->Tm
 | .mk t _=>t
def Tf.ps:Tf->List Tf
 | .mk _ ps=>ps
def Tf.named (n:A1):Tf->Tf
 | .mk t ps=>.mk { t with name:=n} ps
def QS:Tf->Tf->Tf
 | .mk t [a,b],g=>if t.op=4 then .mk (AN 4) [a,QS b g]else .mk (AN 4) [.mk t [a,b],g]
 |x,g=>.mk (AN 4) [x,g]
def U6:List Tf->Tf
 |[]=>default
 |[x]=>x
 |x::y::l=>QS x (U6 (y::l))
structure Sp where
 part:Bool
 name:A1
 n:Int
deriving Inhabited,DecidableEq
def Sp.cells (x:Sp):List Value:=[.bool x.part,str x.name,i64 x.n]
def OL(s:A1):Bool:=s != []&&B1 s==s
def EU(q:A1->A1)(x:Sp):A1:=
 if x.part then [91]++Lib.itoa x.n++[93]else if OL x.name then [46]++x.name else [46]++q x.name
def FZ(q:A1->A1)(p:List Sp):A1:=(if p=[]\/(at' p 0).part=true then [46]else [])++(p.map (EU q)).flatten
def A9(l:List Tk)(i:Int)(m:A1):Bool:=(at' l i).kind==1&&(at' l i).s==m
def OM(l:List Tk)(i:Int)(w:A1):Bool:=(at' l i).kind==2&&(at' l i).s==w
def B8{α:Type}(l:List Tk)(i e:Int):PR α:=.er e (at' l i).pos
def PR.bind {α β:Type}(r:PR α)(k:α->Int->PR β):PR β:=match r with
 | .er c p=>.er c p
 | .ok x j=>k x j
def AR(l:List Tk)(i:Int)(m:A1):PR Unit:=if A9 l i m then .ok () (i+1)else B8 l i 1
def C9(l:List Tk)(d i:Int)(m:A1):PR Unit:=if A9 l i m&&decide (64<=d)then B8 l i 3 else AR l i m
def HL{α:Type}(l:List Tk)(d i:Int)(x:Int->PR α):PR α:=(C9 l d i [40]).bind λ _ j=>(x j).bind λ y k=>(AR l k [41]).bind λ _ m=>.ok y m
def U7(s:A1):Int:=s.foldl (λ n c=>10*n+((c.toNat:Int)-48)) 0
def GI(t:Tk):Int:=U7 (t.c.s++List.replicate t.c.e.toNat 48)
def DU(l:List Tk)(i:Int):PR Int:=
 if(at' l i).kind≠5\/(at' l i).c.neg=true\/(at' l i).c.e<0\/7<len (at' l i).c.s+(at' l i).c.e then B8 l i 1
 else if 1000000<GI (at' l i)then B8 l i 1 else .ok (GI (at' l i)) (i+1)
def rS(l:List Tk)(i:Int):PR Tf:=
 if(at' l i).kind=3 then .ok (.mk { AN 1 with s:=(at' l i).s} []) (i+1)
 else(DU l (i+1)).bind λ n j=>
  if A9 l j [58]then(AR l (j+1) [93]).bind λ _ k=>.ok (.mk { AN 3 with n:=n} []) k
  else(AR l j [93]).bind λ _ k=>.ok (.mk { AN 2 with n:=n} []) k
def eR:Nat->List Tk->List Tf->Int->PR Tf
 |0,l,_,i=>B8 l i 1
 |f+1,l,xs,i=>if(at' l i).kind=3\/A9 l i [91]=true then(rS l i).bind λ x j=>eR f l (xs++[x]) j else .ok (U6 xs) i
def DQ(dot:Bool):Nat->List Tk->List Sp->Int->PR (List Sp)
 |0,l,_,i=>B8 l i 1
 |f+1,l,xs,i=>
  if A9 l i [91]=true\/(at' l i).kind=3/\(dot=false\/xs≠[])then
   if len xs=20 then B8 l i 1
   else if(at' l i).kind=1 then(DU l (i+1)).bind λ n j=>(AR l j [93]).bind λ _ k=>DQ dot f l (xs++[⟨true,[],n⟩]) k
   else DQ dot f l (xs++[⟨false,(at' l i).s,0⟩]) (i+1)
  else .ok xs i
def GJ(q:A1->A1)(l:List Tk)(i:Int):PR A1:=
 if A9 l i [46]then(DQ true l.length l [] (i+1)).bind λ xs j=>.ok (FZ q xs) j
 else if(at' l i).kind≠3 then B8 l i 1 else(DQ false l.length l [] i).bind λ xs j=>.ok (FZ q xs) j
def KH:A1:=[116,114,117,101]
def KI:A1:=[102,97,108,115,101]
def KJ:A1:=[110,117,108,108]
def D0(l:List Tk)(i:Int):PR Nd:=
 if(at' l i).kind=5 then .ok (at' l i).c (i+1)
 else if(at' l i).kind=4 then .ok ⟨4,0,[],(at' l i).s,false,0⟩ (i+1)
 else if(at' l i).kind=2/\(at' l i).s∈[KJ,KI,KH]then .ok ⟨([KJ,KI,KH].idxOf (at' l i).s:Nat),0,[],[],false,0⟩ (i+1)
 else B8 l i 1
def JZ:List A1:=[[61,61],[33,61],[60],[60,61],[62],[62,61]]
def rT(q:A1->A1)(l:List Tk)(i:Int):PR Tf:=(GJ q l i).bind λ s j=>
 if(at' l j).kind=1/\(at' l j).s∈JZ then(D0 l (j+1)).bind λ c k=>.ok (.mk ⟨16,0,[],s,(JZ.idxOf (at' l j).s:Nat),c⟩ []) k
 else B8 l j 1
def rU:A1:=[111,114]
def rV:A1:=[97,110,100]
def rW:A1:=[110,111,116]
def rX:A1:=[116,111,95,101,110,116,114,105,101,115]
def rY:A1:=[102,114,111,109,95,101,110,116,114,105,101,115]
def rZ:A1:=[114,101,118,101,114,115,101]
def s5:A1:=[103,114,111,117,112,95,98,121]
def s6:A1:=[115,111,114,116,95,98,121]
def s7:A1:=[100,101,108]
def s8:A1:=[109,97,112]
def s9:A1:=[109,97,112,95,118,97,108,117,101,115]
def sA:A1:=[119,105,116,104,95,101,110,116,114,105,101,115]
def sB:A1:=[115,101,108,101,99,116]
def sC(w:A1):Option Int:=if w=s5 then some 12 else if w=s6 then some 13 else if w=s7 then some 15 else none
def sD(w:A1):Option Int:=if w=rX then some 10 else if w=rY then some 11 else if w=rZ then some 14 else none
mutual
def LK(q:A1->A1):Nat->List Tk->Int->Int->PR Tf
 |0,l,_,i=>B8 l i 1
 |f+1,l,d,i=>(LM q f l d i).bind λ x j=>ON q f l d [x] j
def ON(q:A1->A1):Nat->List Tk->Int->List Tf->Int->PR Tf
 |0,l,_,_,i=>B8 l i 1
 |f+1,l,d,xs,i=>if A9 l i [124]then(LM q f l d (i+1)).bind λ x j=>ON q f l d (xs++[x]) j else .ok (U6 xs) i
def LM(q:A1->A1):Nat->List Tk->Int->Int->PR Tf
 |0,l,_,i=>B8 l i 1
 |f+1,l,d,i=>(QT q f l d i).bind λ x j=>eR l.length l (if A9 l i [46]&&A9 l j [91]then []else [x]) j
def QT(q:A1->A1):Nat->List Tk->Int->Int->PR Tf
 |0,l,_,i=>B8 l i 1
 |f+1,l,d,i=>
  if A9 l i [46]then .ok (.mk (AN 0) []) (i+1)
  else if(at' l i).kind=3 then .ok (.mk { AN 1 with s:=(at' l i).s} []) (i+1)
  else if(at' l i).kind=2 then QU q f l d i
  else if A9 l i [123]then(C9 l d i [123]).bind λ _ j=>OO q f l (d+1) [] j
  else if A9 l i [91]then(C9 l d i [91]).bind λ _ j=>OP q f l (d+1) [] j
  else HL l d i (LK q f l (d+1))
def QU(q:A1->A1):Nat->List Tk->Int->Int->PR Tf
 |0,l,_,i=>B8 l i 1
 |f+1,l,d,i=>match sD (at' l i).s with
  |some o=>.ok (.mk (AN o) []) (i+1)
  |none=>match sC (at' l i).s with
   |some o=>HL l d (i+1) λ j=>(GJ q l j).bind λ s k=>.ok (.mk { AN o with s:=s} []) k
   |none=>
    if(at' l i).s=s8 then(HL l d (i+1) (LK q f l (d+1))).bind λ x j=>.ok (.mk (AN 5) [x]) j
    else if(at' l i).s=s9 then(HL l d (i+1) (LK q f l (d+1))).bind λ x j=>.ok (.mk (AN 6) [x]) j
    else if(at' l i).s=sA then(HL l d (i+1) (LK q f l (d+1))).bind λ x j=>.ok (U6 [.mk (AN 10) [],.mk (AN 5) [x],.mk (AN 11) []]) j
    else if(at' l i).s=sB then(HL l d (i+1) (OQ q f l (d+1))).bind λ x j=>.ok (.mk (AN 7) [x]) j
    else B8 l i 1
def OO(q:A1->A1):Nat->List Tk->Int->List Tf->Int->PR Tf
 |0,l,_,_,i=>B8 l i 1
 |f+1,l,d,xs,i=>
  if A9 l i [125]then .ok (.mk (AN 8) xs) (i+1)
  else(if xs.isEmpty then .ok () i else AR l i [44]).bind λ _ j=>
   if(at' l j).kind≠2/\(at' l j).kind≠4\/(at' l j).s∈xs.map (λ x=>x.t.name)then B8 l j 1
   else(AR l (j+1) [58]).bind λ _ k=>(LM q f l d k).bind λ x m=>OO q f l d (xs++[x.named (at' l j).s]) m
def OP(q:A1->A1):Nat->List Tk->Int->List Tf->Int->PR Tf
 |0,l,_,_,i=>B8 l i 1
 |f+1,l,d,xs,i=>
  if A9 l i [93]then .ok (.mk (AN 9) xs) (i+1)
  else(if xs.isEmpty then .ok () i else AR l i [44]).bind λ _ j=>(LM q f l d j).bind λ x m=>OP q f l d (xs++[x]) m
def OQ(q:A1->A1):Nat->List Tk->Int->Int->PR Tf
 |0,l,_,i=>B8 l i 1
 |f+1,l,d,i=>(OS q f l d i).bind λ x j=>OR q f l d x j
def OR(q:A1->A1):Nat->List Tk->Int->Tf->Int->PR Tf
 |0,l,_,_,i=>B8 l i 1
 |f+1,l,d,x,i=>if OM l i rU then(OS q f l d (i+1)).bind λ y j=>OR q f l d (.mk (AN 18) [x,y]) j else .ok x i
def OS(q:A1->A1):Nat->List Tk->Int->Int->PR Tf
 |0,l,_,i=>B8 l i 1
 |f+1,l,d,i=>(OU q f l d i).bind λ x j=>OT q f l d x j
def OT(q:A1->A1):Nat->List Tk->Int->Tf->Int->PR Tf
 |0,l,_,_,i=>B8 l i 1
 |f+1,l,d,x,i=>if OM l i rV then(OU q f l d (i+1)).bind λ y j=>OT q f l d (.mk (AN 17) [x,y]) j else .ok x i
def OU(q:A1->A1):Nat->List Tk->Int->Int->PR Tf
 |0,l,_,i=>B8 l i 1
 |f+1,l,d,i=>
  if A9 l i [40]=false then rT q l i
  else(C9 l d i [40]).bind λ _ j=>(OQ q f l (d+1) j).bind λ x k=>
   (if A9 l k [124]then(if OM l (k+1) rW then .ok (.mk (AN 19) [x]) (k+2)else B8 l (k+1) 1)else .ok x k).bind λ y m=>(AR l m [41]).bind λ _ n=>.ok y n
end
end Go.Eng
set_option maxRecDepth 100000
namespace Go.Proofs.YtmjpjbmeamnfpaaGreatDoor
open Go.Eng
abbrev sE(b:Nat)(v:Value)(i d:Int):HO:=.box b [v,i64 i,i64 d] 60
theorem EV:Tryz.prog.follows .mixedOrders=true:=by kernel_rfl
abbrev DA(t:Tk):XV:=.ag [I t.kind,.v (str t.s),I t.c.kind,I t.c.many,.v (str t.c.name),.v (str t.c.s),.v (.bool t.c.neg),I t.c.e,I t.pos]
end Go.Proofs.YtmjpjbmeamnfpaaGreatDoor
namespace Go.Eng
open Go.RowKit
def KK:A1:=[97,110,121]
def sG:A1:=[110,117,109]
def sH:A1:=[115,116,114]
def EW:A1:=[116,117,112]
def QV:A1:=[101,110,116,114,105,101,115]
def QW:A1:=[115,111,114,116,101,100]
def QX:A1:=[103,114,111,117,112,101,100]
def GK:List A1:=[KJ,KI,KH,sG,sH]
def GL(l:List Tk)(m i:Int):PR Int:=
 if(at' l i).kind=2/\(at' l i).s∈GK/\(m.toNat/2^ (GK.idxOf (at' l i).s))%2=0 then .ok (m+(2^ (GK.idxOf (at' l i).s):Nat)) (i+1)else B8 l i 1
def H0:Nat->List Tk->Int->Int->PR Int
 |0,l,_,i=>B8 l i 1
 |f+1,l,m,i=>if A9 l i [124]then(GL l m (i+1)).bind λ n j=>H0 f l n j else .ok m i
def HM(l:List Tk)(i:Int):PR Tf:=
 if(at' l i).kind=1/\(at' l i).s∈JZ then(D0 l (i+1)).bind λ c k=>.ok (.mk ⟨9,0,[],[],(JZ.idxOf (at' l i).s:Nat),c⟩ []) k else B8 l i 1
def I8:Nat->List Tk->List Tf->Int->PR (List Tf)
 |0,l,_,i=>B8 l i 1
 |f+1,l,xs,i=>if A9 l i [44]then(HM l (i+1)).bind λ x j=>I8 f l (xs++[x]) j else .ok xs i
def KL(m:Int)(xs:List Tf):Tf:=.mk { AN 1 with n:=m} xs
def J4(l:List Tk)(d i:Int):PR Tf:=(GL l 0 i).bind λ m0 i0=>(H0 l.length l m0 i0).bind λ m j=>
 if A9 l j [40]then(C9 l d j [40]).bind λ _ k=>(HM l k).bind λ x n=>(I8 l.length l [x] n).bind λ xs o=>(AR l o [41]).bind λ _ p=>.ok (KL m xs) p
 else .ok (KL m []) j
def OV(x:Tf):List Tf->List Tf
 |[]=>[x]
 |y::l=>if x.t.name<=y.t.name then x::y::l else y::OV x l
def LN:List Tf->List Tf
 |[]=>[]
 |x::l=>OV x (LN l)
def H3(o:Int)(xs:List Tf):Tf:=.mk { AN 2 with n:=o} (LN xs)
def EI(q:A1->A1)(rt:Tf->Bool)(l:List Tk)(kind i:Int)(x:Int->PR Tf):PR Tf:=
 (GJ q l i).bind λ s j=>(AR l j [44]).bind λ _ k=>(x k).bind λ y m=>(AR l m [41]).bind λ _ n=>
  if rt (Tf.mk { AN kind with s:=s} [y.named []])then .ok (.mk { AN kind with s:=s} [y]) n else B8 l i 1
mutual
def AP(q:A1->A1)(rt:Tf->Bool):Nat->List Tk->Int->Int->PR Tf
 |0,l,_,i=>B8 l i 1
 |f+1,l,d,i=>
  if(at' l i).kind=2 then HN q rt f l d i
  else if A9 l i [123]then(C9 l d i [123]).bind λ _ j=>D1 q rt f l (d+1) [] j
  else(C9 l d i [91]).bind λ _ j=>(AP q rt f l (d+1) j).bind λ x k=>(AR l k [93]).bind λ _ m=>.ok (.mk (AN 5) [x]) m
def HN(q:A1->A1)(rt:Tf->Bool):Nat->List Tk->Int->Int->PR Tf
 |0,l,_,i=>B8 l i 1
 |f+1,l,d,i=>
  if(at' l i).s=KK then .ok (.mk (AN 0) []) (i+1)
  else if(at' l i).s=EW then(C9 l d (i+1) [40]).bind λ _ j=>(D6 q rt f l (d+1) [] j).bind λ x k=>(AR l k [41]).bind λ _ m=>.ok x m
  else if(at' l i).s=QV then(C9 l d (i+1) [40]).bind λ _ j=>(AP q rt f l (d+1) j).bind λ x k=>(AR l k [41]).bind λ _ m=>.ok (.mk (AN 6) [x]) m
  else if(at' l i).s=QW then(C9 l d (i+1) [40]).bind λ _ j=>EI q rt l 7 j (AP q rt f l (d+1))
  else if(at' l i).s=QX then(C9 l d (i+1) [40]).bind λ _ j=>EI q rt l 8 j (AP q rt f l (d+1))
  else J4 l d i
def D1(q:A1->A1)(rt:Tf->Bool):Nat->List Tk->Int->List Tf->Int->PR Tf
 |0,l,_,_,i=>B8 l i 1
 |f+1,l,d,xs,i=>
  if A9 l i [125]then .ok (H3 0 xs) (i+1)
  else(if xs.isEmpty then .ok () i else AR l i [44]).bind λ _ j=>
   if A9 l j [63]then
    if xs.isEmpty&&A9 l (j+1) [58]then(AP q rt f l d (j+2)).bind λ x k=>(AR l k [125]).bind λ _ m=>.ok (.mk (AN 3) [x]) m
    else(AR l (j+1) [125]).bind λ _ m=>.ok (H3 1 xs) m
   else if(at' l j).kind≠2/\(at' l j).kind≠4\/(at' l j).s∈xs.map (λ x=>x.t.name)then B8 l j 1
   else(AR l (j+1) [58]).bind λ _ k=>(AP q rt f l d k).bind λ x m=>D1 q rt f l d (xs++[x.named (at' l j).s]) m
def D6(q:A1->A1)(rt:Tf->Bool):Nat->List Tk->Int->List Tf->Int->PR Tf
 |0,l,_,_,i=>B8 l i 1
 |f+1,l,d,xs,i=>
  if A9 l i [41]then .ok (.mk (AN 4) xs) i
  else(if xs.isEmpty then .ok () i else AR l i [44]).bind λ _ j=>(AP q rt f l d j).bind λ x m=>D6 q rt f l d (xs++[x]) m
end
def K0(q:A1->A1)(rt:Tf->Bool)(l:List Tk):Fl×Int×Int:=match AP q rt (4*l.length+4) l 0 0 with
 | .er c p=>([],p,c)
 | .ok x j=>if(at' l j).kind=6 then(x.flat,0,0)else([],(at' l j).pos,1)
def B2(q:A1->A1)(rt:Tf->Bool)(s:A1):Fl×Int×Int:=if(BB s).2.2≠0 then([],(BB s).2.1,(BB s).2.2)else K0 q rt (BB s).1
end Go.Eng
