/- Lemmas for the card. -/
import Derived.Test.YtmjpjbmeamnfpaaGreatDoorZf3
import Derived.Lib.QuoteLoop
import Derived.Lib.RuneCount
import Derived.Lib.Join
set_option linter.unusedVariables false
set_option linter.unusedSimpArgs false
namespace Go.Eng
open Go.RowKit
def CI:List KV:=[⟨34,.int .i32 34,0⟩,⟨92,.int .i32 92,1⟩,⟨47,.int .i32 47,2⟩,⟨98,.int .i32 8,3⟩,⟨102,.int .i32 12,4⟩,⟨110,.int .i32 10,5⟩,⟨114,.int .i32 13,6⟩,⟨116,.int .i32 9,7⟩]
def E4(p:KV):Int:=match p.val with| .int _ x=>x|_=>0
theorem uL: ∀p∈CI,p.val= .int .i32 (E4 p):=by
 intro p hp
 simp only[CI,List.mem_cons,List.not_mem_nil,or_false]at hp
 rcases hp with rfl|rfl|rfl|rfl|rfl|rfl|rfl|rfl<;>rfl
theorem uM: ∀p∈CI,p.born<8:=by
 intro p hp
 simp only[CI,List.mem_cons,List.not_mem_nil,or_false]at hp
 rcases hp with rfl|rfl|rfl|rfl|rfl|rfl|rfl|rfl<;>decide
theorem gS:(CI.map (·.born)).Nodup:=by decide
theorem uN: ∀p∈CI,∀q∈CI,E4 p=E4 q->p=q:=by
 intro p hp q hq h
 simp only[CI,List.mem_cons,List.not_mem_nil,or_false]at hp hq
 rcases hp with rfl|rfl|rfl|rfl|rfl|rfl|rfl|rfl<;>rcases hq with rfl|rfl|rfl|rfl|rfl|rfl|rfl|rfl<;>first|rfl|(exfalso;revert h;decide)
def HU(c:Int):Bool:=c==34||c==92||c==47||c==98||c==102||c==110||c==114||c==116
def J4(c:Int):Int:=if c=98 then 8 else if c=102 then 12 else if c=110 then 10 else if c=114 then 13 else if c=116 then 9 else if HU c then c else 0
theorem QV(c:Int):(BP CI c).getD (.int .i32 0)= .int .i32 (J4 c)/\(BP CI c).isSome=HU c:=by
 simp only[CI,BP,beq_iff_eq]
 by_cases h1:c=34
 ·subst h1;exact⟨rfl,rfl⟩
 by_cases h2:c=92
 ·subst h2;exact⟨rfl,rfl⟩
 by_cases h3:c=47
 ·subst h3;exact⟨rfl,rfl⟩
 by_cases h4:c=98
 ·subst h4;exact⟨rfl,rfl⟩
 by_cases h5:c=102
 ·subst h5;exact⟨rfl,rfl⟩
 by_cases h6:c=110
 ·subst h6;exact⟨rfl,rfl⟩
 by_cases h7:c=114
 ·subst h7;exact⟨rfl,rfl⟩
 by_cases h8:c=116
 ·subst h8;exact⟨rfl,rfl⟩
 rw[if_neg h1,if_neg h2,if_neg h3,if_neg h4,if_neg h5,if_neg h6,if_neg h7,if_neg h8]
 have:HU c=false:=by simp[HU,h1,h2,h3,h4,h5,h6,h7,h8]
 simp[J4,this,h4,h5,h6,h7,h8]
def JX(r:Int):Bool:=r==34||r==92||r==8||r==12||r==10||r==13||r==9
def JY(r:Int):Int:=if r=8 then 98 else if r=12 then 102 else if r=10 then 110 else if r=13 then 114 else if r=9 then 116 else if JX r then r else 0
def Lets(seen:Array Nat)(l:List KV):Prop:=
 (l.map (·.key)).Nodup/\(∀p∈CI,seen.contains p.born=true->BP l (E4 p)=some (.int .u8 p.key))/\ ∀r,(∀p∈CI,seen.contains p.born=true->E4 p≠r)->BP l r=none
theorem uO{l:List KV}{x:Int}(h:BP l x=none): ∀p∈l,p.key≠x:=by
 induction l with
 |nil=>intro p hp;cases hp
 |cons a l ih=>
  intro p hp
  unfold BP at h
  split at h
  ·cases h
  ·rename_i hn
   rcases List.mem_cons.1 hp with rfl|hp
   ·intro e;subst e;simp at hn
   ·exact ih h p hp
theorem uP{l:List KV}{x:Int}{v:Value}(h:BP l x=none):HQ l x v=none:=by
 induction l with
 |nil=>rfl
 |cons a l ih=>
  unfold BP at h;unfold HQ
  split at h
  ·cases h
  ·rename_i hn;rw[if_neg hn,ih h];rfl
theorem gT(l:List KV)(p:KV)(x:Int)(h:BP l p.key=none):BP (l++[p]) x=if x==p.key then some p.val else BP l x:=by
 induction l with
 |nil=>simp[BP]
 |cons a l ih=>
  have hn: ¬(p.key==a.key)=true:=by intro e;simp[BP,e]at h
  have h':BP l p.key=none:=by simpa[BP,hn]using h
  simp only[List.cons_append,BP,ih h']
  by_cases e1:(x==a.key)=true
  ·rw[if_pos e1,if_pos e1]
   have: ¬(x==p.key)=true:=by
    intro e2;apply hn
    have a1:x=a.key:=by simpa using e1
    have a2:x=p.key:=by simpa using e2
    simp[<-a1,<-a2]
   rw[if_neg this]
  ·rw[if_neg e1,if_neg e1]
theorem uQ(l:List KV)(x y:Int)(h:(l.map (·.key)).Nodup):BP (HS l x) y=if y==x then none else BP l y:=by
 induction l with
 |nil=>simp[HS,BP]
 |cons a l ih=>
  rw[List.map_cons,List.nodup_cons]at h
  have ih':=ih h.2
  unfold HS
  by_cases e:(x==a.key)=true
  ·rw[if_pos e]
   have e':x=a.key:=by simpa using e
   by_cases f:(y==x)=true
   ·rw[if_pos f]
    have f':y=x:=by simpa using f
    cases hk:BP l y with
    |none=>rfl
    |some v=>
     exfalso;apply h.1
     have: ∃p∈l,p.key=y:=by
      clear ih ih' h
      induction l with
      |nil=>cases hk
      |cons b l ih2=>
       unfold BP at hk
       split at hk
       ·rename_i hb;exact⟨b,by simp,by simpa using(by simpa using hb:y=b.key).symm⟩
       ·obtain⟨p,hp,hq⟩:=ih2 hk;exact⟨p,by simp[hp],hq⟩
     obtain⟨p,hp,hq⟩:=this
     exact List.mem_map.2 ⟨p,hp,by rw[hq,f',e']⟩
   ·rw[if_neg f]
    rw[show BP (a::l) y=if y==a.key then some a.val else BP l y from rfl,if_neg (by rw[<-e'];exact f)]
  ·rw[if_neg e]
   unfold BP
   by_cases f:(y==a.key)=true
   ·rw[if_pos f,if_pos f]
    have: ¬(y==x)=true:=by
     intro g;apply e
     have a1:y=a.key:=by simpa using f
     have a2:y=x:=by simpa using g
     simp[<-a1,<-a2]
    rw[if_neg this]
   ·rw[if_neg f,if_neg f];exact ih'
theorem Lets.step {seen:Array Nat}{l:List KV}{c:Nat}(h:Lets seen l){p:KV}(hp:p∈CI)(hn: ¬seen.contains p.born=true):Lets (seen.push p.born) (FM l c (E4 p) (.int .u8 p.key)):=by
 obtain⟨h1,h2,h3⟩:=h
 have hne: ∀q∈CI,seen.contains q.born=true->E4 q≠E4 p:=by
  intro q hq hs e
  have:=uN q hq p hp e
  subst this;exact hn hs
 have h0:BP l (E4 p)=none:=h3 _ hne
 have hk:FM l c (E4 p) (.int .u8 p.key)=l++[⟨E4 p,.int .u8 p.key,c⟩]:=by unfold FM;rw[uP h0]
 rw[hk]
 have hc: ∀q:KV,(seen.push p.born).contains q.born=true↔seen.contains q.born=true\/q.born=p.born:=by
  intro q;simp[Array.contains_iff_mem,Array.mem_push]
 refine⟨?_,?_,?_⟩
 ·rw[List.map_append,List.nodup_append]
  refine⟨h1,by simp,?_⟩
  intro x hx y hy
  simp only[List.map_cons,List.map_nil,List.mem_singleton]at hy
  subst hy
  obtain⟨q,hq,rfl⟩:=List.mem_map.1 hx
  exact uO h0 q hq
 ·intro q hq hs
  rw[gT _ _ _ h0]
  rcases(hc q).1 hs with hs|hs
  ·rw[if_neg (by simpa using hne q hq hs)];exact h2 q hq hs
  ·have:q=p:=by
    have hnd:=gS
    simp only[CI,List.mem_cons,List.not_mem_nil,or_false]at hp hq
    rcases hp with rfl|rfl|rfl|rfl|rfl|rfl|rfl|rfl<;>rcases hq with rfl|rfl|rfl|rfl|rfl|rfl|rfl|rfl<;>first|rfl|(exfalso;revert hs;decide)
   subst this;simp
 ·intro r hr
  have hpr:E4 p≠r:=hr p hp ((hc p).2 (.inr U))
  rw[gT _ _ _ h0,if_neg (by simpa using λ e=>hpr e.symm)]
  exact h3 r λ q hq hs=>hr q hq ((hc q).2 (.inl hs))
theorem uR{seen:Array Nat}{l:List KV}(h:Lets seen l)(hall: ∀p∈CI,seen.contains p.born=true)(r:Int):
  (BP (HS l 47) r).getD (.int .u8 0)= .int .u8 (JY r)/\(BP (HS l 47) r).isSome=JX r:=by
 obtain⟨h1,h2,h3⟩:=h
 rw[uQ _ _ _ h1]
 have hs: ∀p∈CI,BP l (E4 p)=some (.int .u8 p.key):=λ p hp=>h2 p hp (hall p hp)
 by_cases e0:r=47
 ·subst e0;exact⟨rfl,rfl⟩
 rw[if_neg (by simpa using e0)]
 by_cases e1:r=34
 ·subst e1;have:=hs ⟨34,.int .i32 34,0⟩ (by simp[CI]);rw[show E4 ⟨34,.int .i32 34,0⟩=34 from rfl]at this;rw[this];exact⟨rfl,rfl⟩
 by_cases e2:r=92
 ·subst e2;have:=hs ⟨92,.int .i32 92,1⟩ (by simp[CI]);rw[show E4 ⟨92,.int .i32 92,1⟩=92 from rfl]at this;rw[this];exact⟨rfl,rfl⟩
 by_cases e3:r=8
 ·subst e3;have:=hs ⟨98,.int .i32 8,3⟩ (by simp[CI]);rw[show E4 ⟨98,.int .i32 8,3⟩=8 from rfl]at this;rw[this];exact⟨rfl,rfl⟩
 by_cases e4:r=12
 ·subst e4;have:=hs ⟨102,.int .i32 12,4⟩ (by simp[CI]);rw[show E4 ⟨102,.int .i32 12,4⟩=12 from rfl]at this;rw[this];exact⟨rfl,rfl⟩
 by_cases e5:r=10
 ·subst e5;have:=hs ⟨110,.int .i32 10,5⟩ (by simp[CI]);rw[show E4 ⟨110,.int .i32 10,5⟩=10 from rfl]at this;rw[this];exact⟨rfl,rfl⟩
 by_cases e6:r=13
 ·subst e6;have:=hs ⟨114,.int .i32 13,6⟩ (by simp[CI]);rw[show E4 ⟨114,.int .i32 13,6⟩=13 from rfl]at this;rw[this];exact⟨rfl,rfl⟩
 by_cases e7:r=9
 ·subst e7;have:=hs ⟨116,.int .i32 9,7⟩ (by simp[CI]);rw[show E4 ⟨116,.int .i32 9,7⟩=9 from rfl]at this;rw[this];exact⟨rfl,rfl⟩
 have hn:BP l r=none:=h3 r (by
  intro p hp _
  simp only[CI,List.mem_cons,List.not_mem_nil,or_false]at hp
  rcases hp with rfl|rfl|rfl|rfl|rfl|rfl|rfl|rfl<;>simp only[E4]<;>omega)
 have hi:JX r=false:=by simp[JX,e1,e2,e3,e4,e5,e6,e7]
 rw[hn];simp[JY,hi,e3,e4,e5,e6,e7]
theorem gU{α:Type}(f g:α->Bool): ∀l:List α,(l.filter (λ q=> !(f q||g q))).length<=(l.filter (λ q=> !f q)).length/\((∃p∈l,f p=false/\g p=true)->(l.filter (λ q=> !(f q||g q))).length<(l.filter (λ q=> !f q)).length)
 |[]=>⟨Nat.le_refl _,λ⟨p,hp,_⟩=>by cases hp⟩
 |a::l=>by
  obtain⟨h1,h2⟩:=gU f g l
  rw[List.filter_cons,List.filter_cons]
  cases hf:f a<;>cases hg:g a<;>simp only[Bool.or_false,Bool.or_true,Bool.false_or,Bool.true_or,Bool.not_false,Bool.not_true,if_true,if_false,Bool.false_eq_true,List.length_cons]
  ·refine⟨by omega,λ⟨p,hp,h3,h4⟩=>?_⟩
   rcases List.mem_cons.1 hp with rfl|hp
   ·rw[hg]at h4;cases h4
   ·have:=h2 ⟨p,hp,h3,h4⟩;omega
  ·exact⟨by omega,λ _=>by omega⟩
  ·refine⟨by omega,λ⟨p,hp,h3,h4⟩=>?_⟩
   rcases List.mem_cons.1 hp with rfl|hp
   ·rw[hf]at h3;cases h3
   ·exact h2 ⟨p,hp,h3,h4⟩
  ·refine⟨by omega,λ⟨p,hp,h3,h4⟩=>?_⟩
   rcases List.mem_cons.1 hp with rfl|hp
   ·rw[hf]at h3;cases h3
   ·exact h2 ⟨p,hp,h3,h4⟩
theorem uS{seen:Array Nat}{p:KV}(hp:p∈CI)(hn: ¬seen.contains p.born=true):(CI.filter (λ q=> !(seen.push p.born).contains q.born)).length<(CI.filter (λ q=> !seen.contains q.born)).length:=by
 have hc:(λ q:KV=> !(seen.push p.born).contains q.born)=λ q=> !(seen.contains q.born||q.born==p.born):=by
  funext q;congr 1;rw[Bool.eq_iff_iff];simp[Array.contains_iff_mem,Array.mem_push]
 rw[hc]
 exact(gU (λ q:KV=>seen.contains q.born) (λ q=>q.born==p.born) CI).2 ⟨p,hp,by simpa using hn,by simp⟩
def LV(b:UInt8):Int:=if 48<=b.toNat/\b.toNat<=57 then b.toNat-48 else if 97<=b.toNat/\b.toNat<=102 then b.toNat-87 else if 65<=b.toNat/\b.toNat<=70 then b.toNat-55 else-1
def ER(l:A1):Bool:=l.all (λ b=>decide (0<=LV b))
def FC(l:A1):Int:=l.foldl (λ n b=>n*16+LV b) 0
def B9(s:A1):Int:=if len s<6 then-1 else if Lib.hasPrefix s [92,117]=false then-1 else if ER (Eng.sub s 2 6)then FC (Eng.sub s 2 6)else-1
def AW(s:A1):Int×Int:=
 if len s<2 then(0,0)
 else if HU (A2 s 1)then(J4 (A2 s 1),2)
 else if B9 s<0\/(56320<=B9 s/\B9 s<57344)then(0,0)
 else if B9 s<55296\/57344<=B9 s then(B9 s,6)
 else if B9 (A3 s 6)<56320\/57344<=B9 (A3 s 6)then(0,0)
 else(65536+(B9 s-55296)*1024+B9 (A3 s 6)-56320,12)
theorem uT(b:UInt8):LV b<=15:=by unfold LV;(repeat' split)<;>omega
theorem SO: ∀(l:A1) (n:Int),(∀b∈l,0<=LV b)->0<=n->0<=l.foldl (λ n b=>n*16+LV b) n/\l.foldl (λ n b=>n*16+LV b) n<(n+1)*16^l.length
 |[],n,_,h0=>by simp;omega
 |a::l,n,h,h0=>by
  have ha:=h a (by simp)
  have hb:=uT a
  have:=SO l (n*16+LV a) (λ b hb=>h b (by simp[hb])) (by omega)
  rw[List.foldl_cons]
  refine⟨this.1,Int.lt_of_lt_of_le this.2 ?_⟩
  have h1:(n+1)*16^ (a::l).length=((n+1)*16)*16^l.length:=by rw[List.length_cons,Int.pow_succ,Int.mul_comm (16^l.length) 16,<-Int.mul_assoc]
  rw[h1]
  exact Int.mul_le_mul_of_nonneg_right (by omega) (Int.le_of_lt (Int.pow_pos (by decide:(0:Int)<16)))
theorem uU{l:A1}(hl:len l=4)(h:ER l=true):0<=FC l/\FC l<=65535:=by
 unfold ER at h
 have:=SO l 0 (by simpa[List.all_eq_true]using h) (by omega)
 rw[show l.length=4 from by unfold len at hl;omega]at this
 unfold FC;omega
theorem OA(s:A1): -1<=B9 s/\B9 s<=65535/\(0<=B9 s->6<=len s):=by
 unfold B9
 split
 ·omega
 ·split
  ·omega
  ·split
   ·rename_i h1 h2 h3
    unfold ER at h3
    have:=SO (Eng.sub s 2 6) 0 (by simpa[List.all_eq_true]using h3) (by omega)
    have hl:(Eng.sub s 2 6).length=4:=by have:=FB (s:=s) (i:=2) (j:=6) (by omega) (by omega) (by omega);unfold len at this;omega
    rw[hl]at this
    unfold FC;omega
   ·omega
theorem uV(s:A1):0<=(AW s).1/\(AW s).1<=1114111/\0<=(AW s).2/\(AW s).2<=12:=by
 have h1:=OA s
 have h2:=OA (A3 s 6)
 have h3:=LQ s 1
 have h4:0<=J4 (A2 s 1)/\J4 (A2 s 1)<=255:=by unfold J4;(repeat' split)<;>omega
 unfold AW
 repeat' split
 all_goals (dsimp only;omega)
def DL(f:Nat)(s:A1)(i:Int)(acc:List Int):A1×Int×Int:=
 match f with
 |0=>([],len s,1)
 |f+1=>
  if i<len s then
   if AO (A3 s i) 0=34 then(toStr acc,i+1,0)
   else if AO (A3 s i) 0=92 then
    if(AW (A3 s i)).2=0 then([],i,1)else DL f s (i+(AW (A3 s i)).2) (acc++Lib.encodeRuneZ (AW (A3 s i)).1)
   else if AO (A3 s i) 0<32\/(AO (A3 s i) 0=65533/\runeLen (A3 s i) 0=1)then([],i,1)
   else DL f s (i+runeLen (A3 s i) 0) (acc++Lib.encodeRuneZ (AO (A3 s i) 0))
  else([],len s,1)
def AH(s:A1):A1×Int×Int:=if Lib.hasPrefix s [34]then DL s.length s 1 []else([],0,1)
theorem KS{f:Nat}{s:A1}{i:Int}{acc:List Int}(hf:(len s-i).toNat<=f)(h1:i<len s):DL f s i acc=
  (if AO (A3 s i) 0=34 then(toStr acc,i+1,0)
   else if AO (A3 s i) 0=92 then
    if(AW (A3 s i)).2=0 then([],i,1)else DL (f-1) s (i+(AW (A3 s i)).2) (acc++Lib.encodeRuneZ (AW (A3 s i)).1)
   else if AO (A3 s i) 0<32\/(AO (A3 s i) 0=65533/\runeLen (A3 s i) 0=1)then([],i,1)
   else DL (f-1) s (i+runeLen (A3 s i) 0) (acc++Lib.encodeRuneZ (AO (A3 s i) 0))):=by
 cases f with
 |zero=>omega
 |succ f=>
     conv=>lhs;unfold DL
     rw[if_pos h1];rfl
theorem gV{f:Nat}{s:A1}{i:Int}{acc:List Int}(h1: ¬i<len s):DL f s i acc=([],len s,1):=by
 cases f with
 |zero=>rfl
 |succ f=>unfold DL;rw[if_neg h1]
theorem uW:Lets #[] []:=⟨by simp,λ p _ h=>by simp at h,λ r _=>rfl⟩
def FO(n:Int):Int:=if n<10 then 48+n else 87+n
def D8(r:Int):A1:=if JX r then [92,(JY r).toNat.toUInt8]else if r<32 then [92,117,48,48,(FO (r/16)).toNat.toUInt8,(FO (r%16)).toNat.toUInt8]else Lib.encodeRune r
theorem SP(s:A1)(p:Int)(h0:0<=p)(h1:p<len s):1<=runeLen s p/\p+runeLen s p<=len s:=by
 have hs:(ByteArray.mk ⟨s⟩).size=s.length:=rfl
 have h2:=Lib.decode_width_pos ⟨⟨s⟩⟩ p.toNat (by rw[hs];unfold len at h1;omega)
 have h3:(Utf8.decode ⟨⟨s⟩⟩ p.toNat).2<=(ByteArray.mk ⟨s⟩).size-p.toNat:=by rw[Lib.decode_at];exact Lib.decodeN_width_le _ _ _ _ _ (by rw[hs];unfold len at h1;omega)
 rw[hs]at h3
 unfold runeLen len at*;omega
def FD(s:A1)(p:Int):A1:=if h:0<=p/\p<len s then D8 (AO s p)++FD s (p+runeLen s p)else []
termination_by (len s-p).toNat
decreasing_by have:=SP s p h.1 h.2;omega
def AE(s:A1):A1:=34::FD s 0++[34]
theorem QW{s:A1}{p:Int}(h0:0<=p)(h1:p<len s):FD s p=D8 (AO s p)++FD s (p+runeLen s p):=by rw[FD,dif_pos ⟨h0,h1⟩]
theorem VA{s:A1}{p:Int}(h1: ¬p<len s):FD s p=[]:=by rw[FD,dif_neg (by omega)]
theorem VB(s:A1)(p:Int):0<=AO s p/\AO s p<=1114111:=by have:=Lib.rune_le ⟨⟨s⟩⟩ p.toNat;unfold AO;omega
theorem gW(r:Int):0<=JY r/\JY r<=255:=by
 unfold JY
 (repeat' split)<;>first|omega|skip
 rename_i h;unfold JX at h;simp only[Bool.or_eq_true,beq_iff_eq]at h;omega
theorem uX{r:Int}(h:JX r=true):ints (D8 r)=[92,JY r]:=by
 have:=gW r
 unfold D8;rw[if_pos h];simp[ints];omega
theorem uY{r:Int}(h:JX r=false)(h2:r<32)(h3:0<=r):ints (D8 r)=ints [92,117,48,48]++ints (A3 [49,(FO (r/16)).toNat.toUInt8,(FO (r%16)).toNat.toUInt8] 1):=by
 unfold D8;rw[if_neg (by rw[h];simp),if_pos h2];rfl
theorem uZ{r:Int}(h:JX r=false)(h2: ¬r<32):ints (D8 r)=Lib.encodeRuneZ r:=by
 unfold D8;rw[if_neg (by rw[h];simp),if_neg h2]
 unfold ints Lib.encodeRune;rw[List.map_map]
 conv=>rhs;rw[<-List.map_id (Lib.encodeRuneZ r)]
 apply List.map_congr_left
 intro x hx
 have:=Lib.encodeRuneZ_byte r x hx
 simp;omega
def HV(b:UInt8):Bool:=J1 (b.toNat:Int)
def BL(s:A1)(i:Int):Int:=i+len ((A3 s i).takeWhile HV)
theorem vA{s:A1}{i:Int}(h0:0<=i)(h1:i<len s)(h:J1 (A2 s i)=true):BL s (i+1)=BL s i:=by
 obtain⟨b,h2,h3⟩:=J3 s i h0 h1
 unfold BL
 rw[h2,List.takeWhile_cons,show HV b=true from by unfold HV;rw[<-h3];exact h]
 simp[len];omega
theorem vB{s:A1}{i:Int}(h1:len s<=i):BL s i=i:=by
 unfold BL;rw[O6 s i h1];simp[len]
theorem LW(s:A1)(i:Int)(h0:0<=i)(h1:i<=len s):i<=BL s i/\BL s i<=len s:=by
 have h2:=CO s i h0 h1
 have h3:=(List.takeWhile_sublist HV (l:=A3 s i)).length_le
 unfold BL len at*;omega
def KT(n:Int):A1:=Eng.sub [48,49,50,51,52,53,54,55,56,57,97,98,99,100,101,102] n (n+1)
def GI(c:Int):A1:=
 if c=34 then [92,34]else if c=92 then [92,92]else if c=8 then [92,98]else if c=12 then [92,102]else if c=10 then [92,110]else if c=13 then [92,114]else if c=9 then [92,116]
 else if c<32 then [92,117,48,48]++KT (c/16)++KT (c%16)else toStr [c]
def IE(b:UInt8):A1:=GI (b.toNat:Int)
def J5(s:A1):A1:=34::s.flatMap IE++[34]
theorem gX(c:Int):0<=len (GI c)/\len (GI c)<=6:=by
 have h1:=HB ([48,49,50,51,52,53,54,55,56,57,97,98,99,100,101,102]:A1) (c/16) (c/16+1)
 have h2: ∀n:Int,0<=len (KT n)/\len (KT n)<=1:=by intro n;unfold KT Eng.sub len;simp;omega
 have h3:=h2 (c/16)
 have h4:=h2 (c%16)
 unfold GI toStr
 (repeat' split)<;>(simp only[A5,A6,len_nil,List.map_cons,List.map_nil];omega)
theorem gY{s:A1}{k:Int}(h0:0<=k)(h1:k<len s): ∃b,Eng.sub s 0 (k+1)=Eng.sub s 0 k++[b]/\(b.toNat:Int)=A2 s k:=by
 have h:k.toNat<s.length:=by unfold len at h1;omega
 refine⟨s[k.toNat],?_,by simp[A2,h]⟩
 unfold Eng.sub
 simp only[Int.toNat_zero,List.drop_zero,Nat.sub_zero]
 rw[show(k+1).toNat=k.toNat+1 from by omega,List.take_succ_eq_append_getElem h]
theorem vC{s:A1}{k:Int}{o:A1}(h0:0<=k)(h1:k<len s)(h:o=34::(Eng.sub s 0 k).flatMap IE):o++GI (A2 s k)=34::(Eng.sub s 0 (k+1)).flatMap IE:=by
 obtain⟨b,h2,h3⟩:=gY h0 h1
 rw[h2,h,List.flatMap_append,<-h3];simp[IE]
theorem VC{b:UInt8}:(([48]:A1).contains b)=true↔(b.toNat:Int)=48:=by
 simp only[List.contains_cons,List.contains_nil,Bool.or_false,beq_iff_eq]
 constructor
 ·rintro rfl;rfl
 ·intro h;apply UInt8.toNat_inj.1;show b.toNat=48;omega
theorem vD{s:A1}(h: ¬(0<len s/\A2 s 0=48)):AT s=s:=by
 cases s with
 |nil=>rfl
 |cons a l=>
  unfold AT
  rw[List.dropWhile_cons,if_neg]
  intro hc
  have h1:=VC.1 hc
  exact h ⟨by rw[A6];have:=A4 l;omega,by simpa[A2]using h1⟩
theorem vE{s:A1}(h:0<len s): ∃b,s=Eng.sub s 0 (len s-1)++[b]/\(b.toNat:Int)=A2 s (len s-1):=by
 obtain⟨b,h1,h2⟩:=gY (s:=s) (k:=len s-1) (by omega) (by omega)
 rw[show len s-1+1=len s from by omega,JW s (len s) (by omega)]at h1
 exact⟨b,h1,h2⟩
theorem SQ(x:Int)(n:Nat)(h:x.toNat=n):toStr [x]=[UInt8.ofNat n]:=by subst h;rfl
theorem SR{k:Int}(h:0<=k):Lib.itoa k=(if 10<=k then Lib.itoa (k/10)else [])++toStr [48+k%10]:=by
 rw[SQ _ (48+k.toNat%10) (by omega)]
 by_cases hk:10<=k
 ·rw[if_pos hk]
  unfold Lib.itoa
  rw[if_neg (by omega),if_neg (by omega),Lib.decDigits,dif_neg (by omega),show(k/10).toNat=k.toNat/10 from by omega]
 ·rw[if_neg hk]
  unfold Lib.itoa
  rw[if_neg (by omega),Lib.decDigits,dif_pos (by omega),Nat.mod_eq_of_lt (by omega)];rfl
theorem vF{k:Int}(h:k<= -10):Lib.itoa k=Lib.itoa (-((-k)/10))++toStr [48+(-k)%10]:=by
 rw[SQ _ (48+k.natAbs%10) (by omega)]
 unfold Lib.itoa
 rw[if_pos (by omega),if_pos (by omega),Lib.decDigits,dif_neg (by omega),show(-((-k)/10)).natAbs=k.natAbs/10 from by omega];rfl
theorem vG{k:Int}(h: -10<k)(h2:k<0):Lib.itoa k=[45]++toStr [48-k]:=by
 rw[SQ _ (48+k.natAbs) (by omega)]
 unfold Lib.itoa
 rw[if_pos (by omega),Lib.decDigits,dif_pos (by omega)];rfl
theorem vH{k:Int}(h:k<=0):k.tdiv 10= -((-k)/10):=by
 have:k= -(-k):=by omega
 rw[this,Int.neg_tdiv,Int.tdiv_eq_ediv_of_nonneg (by omega)];simp
theorem vI{k:Int}(h:k<=0):k.tmod 10= -((-k)%10):=by
 have:k= -(-k):=by omega
 rw[this,Int.neg_tmod,Int.tmod_eq_emod_of_nonneg (by omega)];simp
theorem vJ{a:UInt8}{l:A1}(h:(([48]:A1).contains a)=true):AT (a::l)=AT l:=by unfold AT;rw[List.dropWhile_cons,if_pos h]
def P9(n x0 x1 x2 x3:Nat):Nat:=
 if x0<128 then 1
 else if 194<=x0/\x0<224/\(1<n/\128<=x1/\x1<192)then 2
 else if 224<=x0/\x0<240/\(1<n/\128<=x1/\x1<192)/\(2<n/\128<=x2/\x2<192)then
  if(x0=224/\x1<160)\/(x0=237/\160<=x1)then 0 else 3
 else if 240<=x0/\x0<245/\(1<n/\128<=x1/\x1<192)/\(2<n/\128<=x2/\x2<192)/\(3<n/\128<=x3/\x3<192)then
  if(x0=240/\x1<144)\/(x0=244/\144<=x1)then 0 else 4
 else 0
def Z7(n x0 x1 x2 x3 k r l:Nat):Prop:=
 (k=0/\r=65533/\l=1/\128<=x0)\/(k=1/\r=x0/\l=1/\x0<128)\/
 (k=2/\l=2/\2<=n/\128<=r/\r<=2047/\192+r/64=x0/\128+r%64=x1)\/
 (k=3/\l=3/\3<=n/\((2048<=r/\r<55296)\/(57343<r/\r<=65535))/\224+r/4096=x0/\128+r/64%64=x1/\128+r%64=x2)\/
 (k=4/\l=4/\4<=n/\65536<=r/\r<=1114111/\240+r/262144=x0/\128+r/4096%64=x1/\128+r/64%64=x2/\128+r%64=x3)
set_option maxHeartbeats 4000000 in
set_option maxRecDepth 100000 in
theorem Z8(n x0 x1 x2 x3:Nat)(hn:1<=n)(h0:x0<256)(h1:x1<256)(h2:x2<256)(h3:x3<256):Z7 n x0 x1 x2 x3 (P9 n x0 x1 x2 x3) (Lib.decodeN n x0 x1 x2 x3).1 (Lib.decodeN n x0 x1 x2 x3).2:=by
 unfold P9 Lib.decodeN Z7
 repeat' split
 all_goals first|exact .inl ⟨rfl,rfl,rfl,by omega⟩|exact .inr (.inl ⟨rfl,rfl,rfl,by omega⟩)|exact .inr (.inr (.inl ⟨rfl,rfl,by omega,by dsimp only;omega,by dsimp only;omega,by dsimp only;omega,by dsimp only;omega⟩))|exact .inr (.inr (.inr (.inl ⟨rfl,rfl,by omega,by dsimp only;omega,by dsimp only;omega,by dsimp only;omega,by dsimp only;omega⟩)))|exact .inr (.inr (.inr (.inr ⟨rfl,rfl,by omega,by dsimp only;omega,by dsimp only;omega,by dsimp only;omega,by dsimp only;omega,by dsimp only;omega,by dsimp only;omega⟩)))|(exfalso;omega)
theorem VD(s:A1)(i:Int)(h0:0<=i)(j:Nat):A2 s (i+j)=((s.getD (i.toNat+j) 0).toNat:Int):=by
 unfold A2;rw[show(i+j).toNat=i.toNat+j from by omega]
theorem gZ(s:A1)(i:Int)(j:Nat):(A3 s i).getD j 0=s.getD (i.toNat+j) 0:=by
 unfold A3;simp[List.getD_eq_getElem?_getD,List.getElem?_drop]
theorem hP(l:A1)(j:Nat):(ByteArray.mk ⟨l⟩).get! j=l.getD j 0:=by
 show(Array.mk l)[j]! =_
 simp[List.getD_eq_getElem?_getD]
 rfl
theorem IF{α:Type}(s:List α)(i j:Int)(h0:0<=i)(h1:0<=j):A3 (A3 s i) j=A3 s (i+j):=by
 unfold A3;rw[List.drop_drop,show(i+j).toNat=i.toNat+j.toNat from by omega]
theorem OB(s:A1)(i j:Int)(h0:0<=i)(h1:0<=j):A2 (A3 s i) j=A2 s (i+j):=by
 unfold A2;rw[gZ,show(i+j).toNat=i.toNat+j.toNat from by omega]
theorem VE(s:A1)(i:Int)(h0:0<=i):
  Utf8.decode ⟨⟨A3 s i⟩⟩ 0=Lib.decodeN (s.length-i.toNat) (s.getD i.toNat 0).toNat (s.getD (i.toNat+1) 0).toNat (s.getD (i.toNat+2) 0).toNat (s.getD (i.toNat+3) 0).toNat:=by
 rw[Lib.decode_at]
 simp only[hP,gZ,Nat.zero_add,Nat.add_zero,Nat.sub_zero]
 congr 1
 show(A3 s i).length=_
 unfold A3;rw[List.length_drop]
theorem QX(s:A1)(i:Int)(h0:0<=i):Utf8.decode ⟨⟨s⟩⟩ i.toNat=Utf8.decode ⟨⟨A3 s i⟩⟩ 0:=by
 rw[VE s i h0,Lib.decode_at]
 simp only[hP];rfl
theorem QY(s:A1)(i:Int)(h0:0<=i):AO (A3 s i) 0=AO s i:=by unfold AO;rw[QX s i h0];rfl
theorem PA(s:A1)(i:Int)(h0:0<=i):runeLen (A3 s i) 0=runeLen s i:=by unfold runeLen;rw[QX s i h0];rfl
theorem VF{s:A1}{i:Int}(h0:0<=i): ∀n:Nat,i+n<=len s->Eng.sub s i (i+n)=(List.range n).map (λ j=>s.getD (i.toNat+j) 0):=by
 intro n h
 unfold Eng.sub
 apply List.ext_getElem?
 intro k
 rw[show(i+n).toNat-i.toNat=n from by omega]
 unfold len at h
 by_cases hk:k<n
 ·rw[List.getElem?_take,if_pos hk,List.getElem?_drop]
  have:i.toNat+k<s.length:=by omega
  simp[hk,this]
 ·rw[List.getElem?_take,if_neg hk]
  simp[hk]
theorem KU(b:UInt8)(x:Int)(h:x=(b.toNat:Int)):UInt8.ofNat x.toNat=b:=by subst h;simp
theorem Z9{s:A1}{i:Int}(h0:0<=i)(h1:i<len s):rune s i=(P9 (s.length-i.toNat) (s.getD i.toNat 0).toNat (s.getD (i.toNat+1) 0).toNat (s.getD (i.toNat+2) 0).toNat (s.getD (i.toNat+3) 0).toNat:Nat):=by
 have e0:A2 s i=((s.getD i.toNat 0).toNat:Int):=rfl
 have e1:A2 s (i+1)=((s.getD (i.toNat+1) 0).toNat:Int):=VD s i h0 1
 have e2:A2 s (i+2)=((s.getD (i.toNat+2) 0).toNat:Int):=VD s i h0 2
 have e3:A2 s (i+3)=((s.getD (i.toNat+3) 0).toNat:Int):=VD s i h0 3
 have hlen:len s=(s.length:Int):=rfl
 unfold rune cont P9
 simp only[e0,e1,e2,e3]
 simp only[Bool.and_eq_true,Bool.or_eq_true,decide_eq_true_eq,beq_iff_eq]
 repeat' split
 all_goals first|rfl|(exfalso;omega)
theorem LX{s:A1}{i:Int}(h0:0<=i)(h1:i<len s):
  (rune s i=0/\AO s i=65533/\runeLen s i=1/\128<=A2 s i)\/
  (1<=rune s i/\runeLen s i=rune s i/\ ¬(AO s i=65533/\runeLen s i=1)/\toStr (Lib.encodeRuneZ (AO s i))=Eng.sub s i (i+rune s i)/\(A2 s i<128->rune s i=1/\AO s i=A2 s i)/\(128<=A2 s i->128<=AO s i)):=by
 have hlen:len s=(s.length:Int):=rfl
 have hrn:=Z9 h0 h1
 have hle:=rune_le s i h1
 have e0:A2 s i=((s.getD i.toNat 0).toNat:Int):=rfl
 have s1:=VF (s:=s) h0 1
 have s2:=VF (s:=s) h0 2
 have s3:=VF (s:=s) h0 3
 have s4:=VF (s:=s) h0 4
 simp only[List.range_succ,List.range_zero,List.nil_append,List.map_append,List.map_cons,List.map_nil,List.cons_append,Nat.add_zero]at s1 s2 s3 s4
 have hr:AO s i=((Lib.decodeN (s.length-i.toNat) (s.getD i.toNat 0).toNat (s.getD (i.toNat+1) 0).toNat (s.getD (i.toNat+2) 0).toNat (s.getD (i.toNat+3) 0).toNat).1:Nat):=by
  unfold AO;rw[QX s i h0,VE s i h0]
 have hl:runeLen s i=((Lib.decodeN (s.length-i.toNat) (s.getD i.toNat 0).toNat (s.getD (i.toNat+1) 0).toNat (s.getD (i.toNat+2) 0).toNat (s.getD (i.toNat+3) 0).toNat).2:Nat):=by
  unfold runeLen;rw[QX s i h0,VE s i h0]
 have hD:=Z8 (s.length-i.toNat) (s.getD i.toNat 0).toNat (s.getD (i.toNat+1) 0).toNat (s.getD (i.toNat+2) 0).toNat (s.getD (i.toNat+3) 0).toNat (by omega) (UInt8.toNat_lt _) (UInt8.toNat_lt _) (UInt8.toNat_lt _) (UInt8.toNat_lt _)
 generalize Lib.decodeN (s.length-i.toNat) (s.getD i.toNat 0).toNat (s.getD (i.toNat+1) 0).toNat (s.getD (i.toNat+2) 0).toNat (s.getD (i.toNat+3) 0).toNat=D at*
 generalize P9 (s.length-i.toNat) (s.getD i.toNat 0).toNat (s.getD (i.toNat+1) 0).toNat (s.getD (i.toNat+2) 0).toNat (s.getD (i.toNat+3) 0).toNat=K at*
 obtain⟨r,l⟩:=D
 dsimp only at hD hr hl
 rcases hD with⟨rfl,hd,hx⟩|⟨rfl,hd,hx⟩|⟨rfl,hd,hx⟩|⟨rfl,hd,hx⟩|⟨rfl,hd,hx⟩
 ·left;refine⟨by omega,by omega,by omega,by omega⟩
 ·right
  refine⟨by omega,by omega,by omega,?_,λ _=>⟨by omega,by omega⟩,by omega⟩
  rw[hr,hrn,Lib.encodeRuneZ_one (by omega) (by omega)]
  rw[show((1:Nat):Int)=1 from rfl]at*
  rw[s1 (by omega)]
  simp only[toStr,List.map_cons,List.map_nil]
  rw[KU (s.getD i.toNat 0) _ (by omega)]
 ·right
  refine⟨by omega,by omega,by omega,?_,by omega,by omega⟩
  rw[hr,hrn,Lib.encodeRuneZ_two (by omega) (by omega)]
  have:=s2 (by omega)
  refine Eq.trans ?_ this.symm
  simp only[toStr,List.map_cons,List.map_nil]
  rw[KU (s.getD i.toNat 0) _ (by omega),KU (s.getD (i.toNat+1) 0) _ (by omega)]
 ·right
  refine⟨by omega,by omega,by omega,?_,by omega,by omega⟩
  rw[hr,hrn,Lib.encodeRuneZ_three (by omega)]
  have:=s3 (by omega)
  refine Eq.trans ?_ this.symm
  simp only[toStr,List.map_cons,List.map_nil]
  rw[KU (s.getD i.toNat 0) _ (by omega),KU (s.getD (i.toNat+1) 0) _ (by omega),KU (s.getD (i.toNat+2) 0) _ (by omega)]
 ·right
  refine⟨by omega,by omega,by omega,?_,by omega,by omega⟩
  rw[hr,hrn,Lib.encodeRuneZ_four (by omega) (by omega)]
  have:=s4 (by omega)
  refine Eq.trans ?_ this.symm
  simp only[toStr,List.map_cons,List.map_nil]
  rw[KU (s.getD i.toNat 0) _ (by omega),KU (s.getD (i.toNat+1) 0) _ (by omega),KU (s.getD (i.toNat+2) 0) _ (by omega),KU (s.getD (i.toNat+3) 0) _ (by omega)]
def PB(s:A1):A1:=s.dropWhile (([32,9,10,13]:A1).contains ·)
def D9(s:A1):A1:=s.dropWhile (([48,49,50,51,52,53,54,55,56,57,43,45,46,101,69]:A1).contains ·)
def HW(b:UInt8):Bool:=([48,49,50,51,52,53,54,55,56,57,43,45,46,101,69]:A1).contains b
theorem drop_take{α:Type}(p:α->Bool): ∀l:List α,l.dropWhile p=l.drop (l.takeWhile p).length
 |[]=>rfl
 |a::l=>by
  rw[List.dropWhile_cons,List.takeWhile_cons]
  split
  ·rw[List.length_cons,List.drop_succ_cons];exact drop_take p l
  ·rfl
theorem vK(b:UInt8):([32,9,10,13]:A1).contains b=HV b:=by
 unfold HV J1
 rw[Bool.eq_iff_iff]
 simp only[List.contains_cons,List.contains_nil,Bool.or_false,Bool.or_eq_true,beq_iff_eq]
 have h: ∀n:Nat,n<256->(b=UInt8.ofNat n↔(b.toNat:Int)=n):=λ n hn=>by
  rw[<-UInt8.toNat_inj];simp[Nat.mod_eq_of_lt hn];omega
 have h1:=h 32 (by omega)
 have h2:=h 9 (by omega)
 have h3:=h 10 (by omega)
 have h4:=h 13 (by omega)
 have e1:b=32↔(b.toNat:Int)=32:=h1
 have e2:b=9↔(b.toNat:Int)=9:=h2
 have e3:b=10↔(b.toNat:Int)=10:=h3
 have e4:b=13↔(b.toNat:Int)=13:=h4
 rw[e1,e2,e3,e4];omega
theorem hY(s:A1)(i:Int)(h0:0<=i):PB (A3 s i)=A3 s (BL s i):=by
 unfold PB BL
 rw[show(λ b=>([32,9,10,13]:A1).contains b)=HV from funext vK,drop_take,<-IF s i _ h0 (A4 _)]
 unfold A3 len
 rw[Int.toNat_natCast]
def runN(s:A1):A1:=Eng.sub s 0 (len s-len (D9 s))
theorem SS(s:A1):runN s=s.takeWhile HW:=by
 unfold runN D9
 rw[show(λ b=>([48,49,50,51,52,53,54,55,56,57,43,45,46,101,69]:A1).contains b)=HW from rfl,drop_take]
 have h:=(List.takeWhile_prefix HW (l:=s)).length_le
 unfold Eng.sub len
 rw[List.length_drop]
 have e:((s.length:Int)-((s.length-(s.takeWhile HW).length:Nat):Int)).toNat-Int.toNat 0=(s.takeWhile HW).length:=by omega
 rw[e]
 simp only[Int.toNat_zero,List.drop_zero]
 exact(List.prefix_iff_eq_take.1 (List.takeWhile_prefix HW)).symm
theorem vL(s:A1):0<=len (D9 s)/\len (D9 s)<=len s:=by
 have:=(List.dropWhile_sublist (([48,49,50,51,52,53,54,55,56,57,43,45,46,101,69]:A1).contains ·) (l:=s)).length_le
 unfold D9 len;omega
def BY(s:A1):A1:=(AL.find? (λ m=>Lib.hasPrefix s m)).getD []
theorem PC(s:A1):BY s=[]\/(BY s∈AL/\Lib.hasPrefix s (BY s)=true):=by
 unfold BY
 cases h:AL.find? (λ m=>Lib.hasPrefix s m)with
 |none=>left;rfl
 |some m=>right;exact⟨List.mem_of_find?_eq_some h,by simpa using List.find?_some h⟩
def hZ:Tk:=⟨0,[],B2,0⟩
def AB(s:A1):Tk×Int×Int:=
 if A2 s 0=46/\AS (A3 s 1)≠[]then(⟨3,AS (A3 s 1),B2,0⟩,1+len (AS (A3 s 1)),0)
 else if A2 s 0=46/\Lib.hasPrefix (A3 s 1) [34]=true then(⟨3,(AH (A3 s 1)).1,B2,0⟩,1+(AH (A3 s 1)).2.1,(AH (A3 s 1)).2.2)
 else if BY s≠[]then(⟨1,BY s,B2,0⟩,len (BY s),0)
 else if AS s≠[]then(⟨2,AS s,B2,0⟩,len (AS s),0)
 else if A2 s 0=34 then(⟨4,(AH s).1,B2,0⟩,(AH s).2.1,(AH s).2.2)
 else if A2 s 0=45\/BG (A2 s 0)=true then
  if(BW (runN s)).2.2≠0 then(hZ,(BW (runN s)).2.1,(BW (runN s)).2.2)
  else(⟨5,[],(BW (runN s)).1,0⟩,len (runN s),0)
 else(hZ,0,1)
def GJ(s:A1):Tk:=⟨6,[],B2,len s⟩
def JZ(f:Nat)(s:A1)(i:Int)(acc:List Tk):List Tk×Int×Int:=
 match f with
 |0=>(acc++[GJ s],0,0)
 |f+1=>
  if i<len s then
   if(AB (A3 s i)).2.2≠0 then([],i+(AB (A3 s i)).2.1,(AB (A3 s i)).2.2)
   else JZ f s (BL s (i+(AB (A3 s i)).2.1)) (acc++[{ (AB (A3 s i)).1 with pos:=i}])
  else(acc++[GJ s],0,0)
def C6(s:A1):List Tk×Int×Int:=JZ s.length s (BL s 0) []
theorem VG{f:Nat}{s:A1}{i:Int}{acc:List Tk}(hf:(len s-i).toNat<=f)(h1:i<len s):JZ f s i acc=
  if(AB (A3 s i)).2.2≠0 then([],i+(AB (A3 s i)).2.1,(AB (A3 s i)).2.2)
   else JZ (f-1) s (BL s (i+(AB (A3 s i)).2.1)) (acc++[{ (AB (A3 s i)).1 with pos:=i}]):=by
 cases f with
 |zero=>omega
 |succ f=>
    conv=>lhs;unfold JZ
    rw[if_pos h1];rfl
theorem ZA{f:Nat}{s:A1}{i:Int}{acc:List Tk}(h1: ¬i<len s):JZ f s i acc=(acc++[GJ s],0,0):=by
 cases f with
 |zero=>rfl
 |succ f=>unfold JZ;rw[if_neg h1]
theorem LY{s:A1}{i:Int}(h0:0<=i)(h1:i<=len s):i<=CE s i/\CE s i<=len s:=by
 by_cases h:i<len s
 ·by_cases hw:BS (A2 s i) (i==0)=true
  ·have:=LY (s:=s) (i:=i+1) (by omega) (by omega)
   rw[QN h0 h hw]at this;omega
  ·rw[QO h0 h (by simpa using hw)];omega
 ·rw[QP h];omega
termination_by (len s-i).toNat
theorem LZ(s:A1):len (AS s)=CE s 0:=by
 have:=LY (s:=s) (i:=0) (by omega) (A4 s)
 unfold AS;rw[FB (by omega) (by omega) (by omega)];omega
theorem OC(s:A1):0<=len (AS s)/\len (AS s)<=len s:=by
 have:=LY (s:=s) (i:=0) (by omega) (A4 s)
 rw[LZ];omega
theorem VH{α:Type}(s:List α)(i:Int)(h0:0<=i):len (A3 s i)=if i<=len s then len s-i else 0:=by
 unfold A3 len;rw[List.length_drop];split<;>omega
theorem VI(s:A1):0<=(AW s).2/\(AW s).2<=len s/\((AW s).2≠0->2<=(AW s).2):=by
 have h1:=OA s
 have h2:=OA (A3 s 6)
 have h3:=VH s 6 (by omega)
 have h4:=A4 s
 unfold AW
 repeat' split
 all_goals (dsimp only;try (split at h3);all_goals omega)
theorem SU{s:A1}{i:Int}(h0:0<=i)(h1:i<len s):1<=runeLen s i/\i+runeLen s i<=len s:=by
 have h2:=rune_le s i h1
 rcases LX h0 h1 with⟨_,_,h3,_⟩|⟨h3,h4,_⟩<;>omega
theorem VJ{f:Nat}{s:A1}{i:Int}{acc:List Int}(h0:0<=i)(h1:i<=len s):
  0<=(DL f s i acc).2.1/\(DL f s i acc).2.1<=len s/\((DL f s i acc).2.2=0->i<(DL f s i acc).2.1)/\((DL f s i acc).2.2=0\/(DL f s i acc).2.2=1):=by
 induction f generalizing i acc with
 |zero=>unfold DL;dsimp only;omega
 |succ f ih=>
  unfold DL
  split
  ·rename_i hlt
   have hf:=CO s i h0 h1
   split
   ·dsimp only;omega
   ·split
    ·have he:=VI (A3 s i)
     split
     ·dsimp only;omega
     ·have:=ih (i:=i+(AW (A3 s i)).2) (acc:=acc++Lib.encodeRuneZ (AW (A3 s i)).1) (by omega) (by omega)
      omega
    ·split
     ·dsimp only;omega
     ·have hb:=SU h0 hlt
      rw[PA s i h0]
      have:=ih (i:=i+runeLen s i) (acc:=acc++Lib.encodeRuneZ (AO (A3 s i) 0)) (by omega) (by omega)
      omega
  ·dsimp only;omega
theorem VK{s p:A1}(h:Lib.hasPrefix s p=true):len p<=len s:=by
 have:=(List.isPrefixOf_iff_prefix.1 h).length_le
 unfold len;omega
theorem N8(s:A1):0<=(AH s).2.1/\(AH s).2.1<=len s/\((AH s).2.2=0->2<=(AH s).2.1)/\((AH s).2.2=0\/(AH s).2.2=1):=by
 unfold AH
 split
 ·rename_i h
  have h1:(1:Int)<=len s:=VK h
  have:=VJ (f:=s.length) (s:=s) (i:=1) (acc:=[]) (by omega) h1
  omega
 ·have:=A4 s;dsimp only;omega
def QZ(t:Tk):A1:=
 if t.kind=3 then 46::(if ¬AS t.s=t.s\/t.s=[]then AE t.s else t.s)
 else if t.kind=4 then AE t.s
 else if t.kind=5 then CP t.c
 else t.s
def CG(s:A1):A1:=if CF s then s else J5 s
inductive PR (α:Type)where
 |ok (x:α) (j:Int)
 |er (e p:Int)
abbrev PD(T:TypeId)(e p:Int):PanicEntry:= { v:=.iface T (.agg #[i64 e,i64 p]),recovered:=false}
def i6{α:Type}(w0:World)(M0 M:Mem)(Rs:List HO)(T:TypeId)(F:α->Int->Value->Mem->World->Prop)(r:PR α):Ending->World->Prop:=λ e w'=>
 match r with
 | .ok x j=> ∃v M',e= .returned v/\F x j v M' w'/\M.le M'
 | .er ec p=> ∃M',e= .panicked [PD T ec p]/\St w0 M0 w' M' Rs/\M.le M'
section
variable {P:Program} {α:Type} {w0 w:World} {M0 M M':Mem} {Rs:List HO} {T:TypeId} {F:α->Int->Value->Mem->World->Prop} {r:PR α}
theorem i6.ok {x:α}{j:Int}{v:Value}(h:r= .ok x j)(hf:F x j v M' w)(hle:M.le M'):i6 w0 M0 M Rs T F r (.returned v) w:=by
 subst h;exact⟨v,M',rfl,hf,hle⟩
theorem Ends.p {fn:Func}{R:Ending->World->Prop}{Q:Exit->Act->World->Prop}{N:Nat}{L:Env}{ch:List PanicEntry}(E:Ends P fn R Q)(h:R (.panicked ch) w): ∀a,AJ a N L->Q (.panic ch) a w:=λ a hs=>E.all _ _ _ ⟨hs.DE,h⟩
variable {ops:Array Oper} {Q:Exit->Act->World->Prop} {N:Nat} {rest:List Oper} {L:Env} {ty:TypeId} {ps:String} {af:Array Edge} {tys:Array TypeId}
theorem RL.panic {d:Option Tmp}{x:Operand}{t:TypeId}{v:Value}(hx:A8 L true x (.iface t v))(h: ∀a,AJ a N L->Q (.panic [{ v:=.iface t v,recovered:=false}]) a w):RL P ops Q N (⟨d,.panic x,ty,ps,af,none⟩::rest) L w:=by
 intro a hs
 refine wpList_plain U λ K hK=>?_
 have key:(execOp a.eval ⟨d,.panic x,ty,ps,af,none⟩).run P w= .halt (.panic (.iface t v)) w:=by
  simp only[execOp,hx a N hs U];rw[Sem.run_bind,run_panic_iface];rfl
 simp only[Oper.wp,key,Oper.upon_panic]
 exact h a hs
end
structure Tm where
 op:Int
 many:Int
 name:A1
 s:A1
 n:Int
 c:Nd
deriving Inhabited,DecidableEq
def Tm.cells (t:Tm):List Value:=[i64 t.op,i64 t.many,str t.name,str t.s,i64 t.n,i64 t.c.kind,i64 t.c.many,str t.c.name,str t.c.s,.bool t.c.neg,i64 t.c.e]
theorem Tm.B4 (t:Tm):t.cells.length=11:=rfl
abbrev Fl:=List Tm
def BJ(o:Int):Tm:=⟨o,0,[],[],0,B2⟩
inductive Tf where
 |mk (t:Tm) (ps:List Tf)
mutual
def Tf.flat:Tf->Fl
 | .mk t ps=> { t with many:=len ps}::AM ps
def AM:List Tf->Fl
 |[]=>[]
 |x::l=>x.flat++AM l
end
instance:Inhabited Tf:=⟨.mk default []⟩
def Tf.t:Tf->Tm
 | .mk t _=>t
def Tf.ps:Tf->List Tf
 | .mk _ ps=>ps
def Tf.named (n:A1):Tf->Tf
 | .mk t ps=>.mk { t with name:=n} ps
def i7:Tf->Tf->Tf
 | .mk t [a,b],g=>if t.op=4 then .mk (BJ 4) [a,i7 b g]else .mk (BJ 4) [.mk t [a,b],g]
 |x,g=>.mk (BJ 4) [x,g]
def iA:List Tf->Tf
 |[]=>default
 |[x]=>x
 |x::y::l=>i7 x (iA (y::l))
structure Sp where
 part:Bool
 name:A1
 n:Int
deriving Inhabited,DecidableEq
def Sp.cells (x:Sp):List Value:=[.bool x.part,str x.name,i64 x.n]
def OD(s:A1):Bool:=s != []&&AS s==s
def FE(q:A1->A1)(x:Sp):A1:=
 if x.part then [91]++Lib.itoa x.n++[93]else if OD x.name then [46]++x.name else [46]++q x.name
def FP(q:A1->A1)(p:List Sp):A1:=(if p=[]\/(at' p 0).part=true then [46]else [])++(p.map (FE q)).flatten
def AG(l:List Tk)(i:Int)(m:A1):Bool:=(at' l i).kind==1&&(at' l i).s==m
def Am1(l:List Tk)(i:Int)(w:A1):Bool:=(at' l i).kind==2&&(at' l i).s==w
def D0{α:Type}(l:List Tk)(i e:Int):PR α:=.er e (at' l i).pos
def PR.bind {α β:Type}(r:PR α)(k:α->Int->PR β):PR β:=match r with
 | .er c p=>.er c p
 | .ok x j=>k x j
def B6(l:List Tk)(i:Int)(m:A1):PR Unit:=if AG l i m then .ok () (i+1)else D0 l i 1
def EA(l:List Tk)(d i:Int)(m:A1):PR Unit:=if AG l i m&&decide (64<=d)then D0 l i 3 else B6 l i m
def OE(s:A1):Int:=s.foldl (λ n c=>10*n+((c.toNat:Int)-48)) 0
def IG(t:Tk):Int:=OE (t.c.s++List.replicate t.c.e.toNat 48)
def EZ(l:List Tk)(i:Int):PR Int:=
 if(at' l i).kind≠5\/(at' l i).c.neg=true\/(at' l i).c.e<0\/7<len (at' l i).c.s+(at' l i).c.e then D0 l i 1
 else if 1000000<IG (at' l i)then D0 l i 1 else .ok (IG (at' l i)) (i+1)
def vM(l:List Tk)(i:Int):PR Tf:=
 if(at' l i).kind=3 then .ok (.mk { BJ 1 with s:=(at' l i).s} []) (i+1)
 else(EZ l (i+1)).bind λ n j=>
  if AG l j [58]then(B6 l (j+1) [93]).bind λ _ k=>.ok (.mk { BJ 3 with n:=n} []) k
  else(B6 l j [93]).bind λ _ k=>.ok (.mk { BJ 2 with n:=n} []) k
def vN:Nat->List Tk->List Tf->Int->PR Tf
 |0,l,_,i=>D0 l i 1
 |f+1,l,xs,i=>if(at' l i).kind=3\/AG l i [91]=true then(vM l i).bind λ x j=>vN f l (xs++[x]) j else .ok (iA xs) i
def EV(dot:Bool):Nat->List Tk->List Sp->Int->PR (List Sp)
 |0,l,_,i=>D0 l i 1
 |f+1,l,xs,i=>
  if AG l i [91]=true\/(at' l i).kind=3/\(dot=false\/xs≠[])then
   if len xs=20 then D0 l i 1
   else if(at' l i).kind=1 then(EZ l (i+1)).bind λ n j=>(B6 l j [93]).bind λ _ k=>EV dot f l (xs++[⟨true,[],n⟩]) k
   else EV dot f l (xs++[⟨false,(at' l i).s,0⟩]) (i+1)
  else .ok xs i
def OF(q:A1->A1)(l:List Tk)(i:Int):PR A1:=
 if AG l i [46]then(EV true l.length l [] (i+1)).bind λ xs j=>.ok (FP q xs) j
 else if(at' l i).kind≠3 then D0 l i 1 else(EV false l.length l [] i).bind λ xs j=>.ok (FP q xs) j
def K0:A1:=[116,114,117,101]
def K1:A1:=[102,97,108,115,101]
def K2:A1:=[110,117,108,108]
def GK(l:List Tk)(i:Int):PR Nd:=
 if(at' l i).kind=5 then .ok (at' l i).c (i+1)
 else if(at' l i).kind=4 then .ok ⟨4,0,[],(at' l i).s,false,0⟩ (i+1)
 else if(at' l i).kind=2/\(at' l i).s∈[K2,K1,K0]then .ok ⟨([K2,K1,K0].idxOf (at' l i).s:Nat),0,[],[],false,0⟩ (i+1)
 else D0 l i 1
def CJ:List A1:=[[61,61],[33,61],[60],[60,61],[62],[62,61]]
def vO:A1:=[111,114]
def vP:A1:=[97,110,100]
def vQ:A1:=[110,111,116]
def vR:A1:=[116,111,95,101,110,116,114,105,101,115]
def vS:A1:=[102,114,111,109,95,101,110,116,114,105,101,115]
def vT:A1:=[114,101,118,101,114,115,101]
end Go.Eng
set_option maxRecDepth 100000
namespace Go.Proofs.YtmjpjbmeamnfpaaGreatDoor
open Go.Proofs.Tryz
open Go.Eng
theorem iB:prog.underlying 48=some (.struct (prog.fieldsOf 48)):=by kernel_rfl
theorem vU:(prog.fieldsOf 48).toList=[⟨"Kind",3,0,false,"","",0⟩,⟨"Many",3,1,false,"","",8⟩,⟨"Name",9,2,false,"","",16⟩,⟨"S",9,3,false,"","",32⟩,⟨"N",3,4,false,"","",48⟩,⟨"C",46,5,false,"","",56⟩]:=by kernel_rfl
theorem iC(d:Nat)(a b:Tm)(w:World):(Op.equalIn (d+1+1+1) 48 (.agg (Tm.cells a).toArray) (.agg (Tm.cells b).toArray)).run prog w= .ok (decide (a=b)) w:=by
 rw[run_equalIn_agg w _ _ _ _ iB Tryz.stoodInHeld48,vU]
 rw[JU (P:=prog) (w:=w) (xs:=(Tm.cells a).toArray) (ys:=(Tm.cells b).toArray) (f:=⟨"Kind",3,0,false,"","",0⟩) (by decide) (show(part 3 (Tm.cells a).toArray 0).run prog w= .ok (i64 ((a).op)) w by kernel_rfl) (show(part 3 (Tm.cells b).toArray 0).run prog w= .ok (i64 ((b).op)) w by kernel_rfl) (QL underlying3 w (d+1) ((a).op) ((b).op))]
 rw[JU (P:=prog) (w:=w) (xs:=(Tm.cells a).toArray) (ys:=(Tm.cells b).toArray) (f:=⟨"Many",3,1,false,"","",8⟩) (by decide) (show(part 3 (Tm.cells a).toArray 1).run prog w= .ok (i64 ((a).many)) w by kernel_rfl) (show(part 3 (Tm.cells b).toArray 1).run prog w= .ok (i64 ((b).many)) w by kernel_rfl) (QL underlying3 w (d+1) ((a).many) ((b).many))]
 rw[JU (P:=prog) (w:=w) (xs:=(Tm.cells a).toArray) (ys:=(Tm.cells b).toArray) (f:=⟨"Name",9,2,false,"","",16⟩) (by decide) (show(part 9 (Tm.cells a).toArray 2).run prog w= .ok (str ((a).name)) w by kernel_rfl) (show(part 9 (Tm.cells b).toArray 2).run prog w= .ok (str ((b).name)) w by kernel_rfl) (UT underlying9 w (d+1) ((a).name) ((b).name))]
 rw[JU (P:=prog) (w:=w) (xs:=(Tm.cells a).toArray) (ys:=(Tm.cells b).toArray) (f:=⟨"S",9,3,false,"","",32⟩) (by decide) (show(part 9 (Tm.cells a).toArray 3).run prog w= .ok (str ((a).s)) w by kernel_rfl) (show(part 9 (Tm.cells b).toArray 3).run prog w= .ok (str ((b).s)) w by kernel_rfl) (UT underlying9 w (d+1) ((a).s) ((b).s))]
 rw[JU (P:=prog) (w:=w) (xs:=(Tm.cells a).toArray) (ys:=(Tm.cells b).toArray) (f:=⟨"N",3,4,false,"","",48⟩) (by decide) (show(part 3 (Tm.cells a).toArray 4).run prog w= .ok (i64 ((a).n)) w by kernel_rfl) (show(part 3 (Tm.cells b).toArray 4).run prog w= .ok (i64 ((b).n)) w by kernel_rfl) (QL underlying3 w (d+1) ((a).n) ((b).n))]
 rw[JU (P:=prog) (w:=w) (xs:=(Tm.cells a).toArray) (ys:=(Tm.cells b).toArray) (f:=⟨"C",46,5,false,"","",56⟩) (by decide) (show(part 46 (Tm.cells a).toArray 5).run prog w= .ok (.agg (Nd.cells ((a).c)).toArray) w by kernel_rfl) (show(part 46 (Tm.cells b).toArray 5).run prog w= .ok (.agg (Nd.cells ((b).c)).toArray) w by kernel_rfl) (gB d ((a).c) ((b).c) w)]
 have ht:(.ok true w:Result Bool)= .ok (decide True) w:=rfl
 rw[eZ,ht]
 simp only[fA]
 have hp:((a).op=(b).op/\(a).many=(b).many/\(a).name=(b).name/\(a).s=(b).s/\(a).n=(b).n/\(a).c=(b).c/\True)↔a=b:=by cases a;cases b;simp
 rw[decide_eq_decide.2 hp]
theorem OG(x y:Operand)(a b:Tm)(w:World):(do eqGuard .eql 48 x y (.agg (Tm.cells a).toArray) (.agg (Tm.cells b).toArray);binOp .eql 48 (.agg (Tm.cells a).toArray) (.agg (Tm.cells b).toArray):Sem Value).run prog w= .ok (.bool (decide (a=b))) w:=fB x y w eqGuardType48 (iC 9997 a b w)
theorem vV(x y:Operand)(a b:Tm)(w:World):(do eqGuard .neq 48 x y (.agg (Tm.cells a).toArray) (.agg (Tm.cells b).toArray);binOp .neq 48 (.agg (Tm.cells a).toArray) (.agg (Tm.cells b).toArray):Sem Value).run prog w= .ok (.bool (!(decide (a=b)))) w:=sR x y w eqGuardType48 (iC 9997 a b w)
open Go.ChangeShapes Go.WideShapes Go.ChangeAt Go.RowKit Go.Eng Go.Deep
def VL(W:World):Mem:=λ b o=>W.cell? ⟨b,o,none⟩
theorem vW(W:World):Sat W (VL W):=⟨λ _ _ _ h=>h⟩
theorem laidOut:laidOutB prog=true:=by kernel_rfl
section
variable {H:Type} {enc:TypeId×Value->H} {w:World} {base:Nat} {sp:Nat->Bool} {hd:Bool}
theorem K3{fs:Array Field}{n:Nat}{cs:List Value}{xs:List (DataW H×List MemPlace)}(hf: ∀(i:Nat) (f:Field),fs[i]? =some f->DataW.trod enc prog w base sp hd n f.type ((cs.drop f.offset).take (prog.cellsOf f.type))=xs[i]?)(hx:xs.length=fs.size)
  {i t o c:Nat} (h:(fs[i]?).map (λ f=>(f.type,f.offset,prog.cellsOf f.type))=some (t,o,c)): ∃x,DataW.trod enc prog w base sp hd n t ((cs.drop o).take c)=some x:=by
 obtain⟨f,h1,h2⟩:=Option.map_eq_some_iff.1 h
 have h3:=hf i f h1
 have hlt:i<xs.length:=by rw[hx];exact(Array.getElem?_eq_some_iff.1 h1).1
 rw[List.getElem?_eq_getElem hlt]at h3
 simp only[Prod.mk.injEq]at h2
 obtain⟨e1,e2,e3⟩:=h2
 rw[e3,e2,e1]at h3
 exact⟨_,h3⟩
theorem R0{n:Nat}{cs:List Value}{c:Value}(hc:cs=[c])(h: ∃x,DataW.trod enc prog w base sp hd n 3 cs=some x): ∃z,c=i64 z:=by
 obtain⟨x,h⟩:=h
 obtain⟨z,h1,_⟩:=DataW.trod_int underlying3 h
 rw[hc]at h1
 exact⟨z,(List.cons.inj h1).1⟩
theorem VM{n:Nat}{cs:List Value}{c:Value}(hc:cs=[c])(h: ∃x,DataW.trod enc prog w base sp hd n 9 cs=some x): ∃s:A1,c=str s/\len s<=9223372036854775807:=by
 obtain⟨x,h⟩:=h
 obtain⟨s,h1,_,h2⟩:=DataW.trod_string underlying9 h
 rw[hc]at h1
 refine⟨s.data.toList,(List.cons.inj h1).1,?_⟩
 unfold len
 have:s.data.toList.length=s.size:=Array.length_toList
 have h3:s.size<=9223372036854775807:=h2
 rw[this];omega
theorem vX{n:Nat}{cs:List Value}{c:Value}(hc:cs=[c])(h: ∃x,DataW.trod enc prog w base sp hd n 4 cs=some x): ∃b,c= .bool b:=by
 obtain⟨x,h⟩:=h
 obtain⟨b,h1,_⟩:=DataW.trod_bool underlying4 h
 rw[hc]at h1
 exact⟨b,(List.cons.inj h1).1⟩
theorem vY{n:Nat}{cs:List Value}(h: ∃x,DataW.trod enc prog w base sp hd n 46 cs=some x): ∃nd:Nd,cs=nd.cells/\len nd.s<=9223372036854775807:=by
 obtain⟨x,h⟩:=h
 obtain⟨xs,k,_,_,hl,hxl,hf⟩:=DataW.trod_struct gA h
 have hl6:cs.length=6:=hl.trans (by kernel_rfl)
 match cs,hl6 with
 |[c0,c1,c2,c3,c4,c5],_=>
  obtain⟨z0,rfl⟩:=R0 (c:=c0) rfl (K3 hf hxl (i:=0) (t:=3) (o:=0) (c:=1) (by kernel_rfl))
  obtain⟨z1,rfl⟩:=R0 (c:=c1) rfl (K3 hf hxl (i:=1) (t:=3) (o:=1) (c:=1) (by kernel_rfl))
  obtain⟨s2,rfl,_⟩:=VM (c:=c2) rfl (K3 hf hxl (i:=2) (t:=9) (o:=2) (c:=1) (by kernel_rfl))
  obtain⟨s3,rfl,h3⟩:=VM (c:=c3) rfl (K3 hf hxl (i:=3) (t:=9) (o:=3) (c:=1) (by kernel_rfl))
  obtain⟨b4,rfl⟩:=vX (c:=c4) rfl (K3 hf hxl (i:=4) (t:=4) (o:=4) (c:=1) (by kernel_rfl))
  obtain⟨z5,rfl⟩:=R0 (c:=c5) rfl (K3 hf hxl (i:=5) (t:=3) (o:=5) (c:=1) (by kernel_rfl))
  exact⟨⟨z0,z1,s2,s3,b4,z5⟩,rfl,h3⟩
end
section
variable {H:Type} {enc:TypeId×Value->H} {w:World} {base:Nat} {sp:Nat->Bool} {hd:Bool}
theorem vZ{n:Nat}{cs:List Value}(h: ∃x,DataW.trod enc prog w base sp hd n 48 cs=some x): ∃t:Tm,cs=t.cells:=by
 obtain⟨x,h⟩:=h
 obtain⟨xs,k,_,_,hl,hxl,hf⟩:=DataW.trod_struct iB h
 have hl11:cs.length=11:=hl.trans (by kernel_rfl)
 match cs,hl11 with
 |[c0,c1,c2,c3,c4,c5,c6,c7,c8,c9,c10],_=>
  obtain⟨z0,rfl⟩:=R0 (c:=c0) rfl (K3 hf hxl (i:=0) (t:=3) (o:=0) (c:=1) (by kernel_rfl))
  obtain⟨z1,rfl⟩:=R0 (c:=c1) rfl (K3 hf hxl (i:=1) (t:=3) (o:=1) (c:=1) (by kernel_rfl))
  obtain⟨s2,rfl,_⟩:=VM (c:=c2) rfl (K3 hf hxl (i:=2) (t:=9) (o:=2) (c:=1) (by kernel_rfl))
  obtain⟨s3,rfl,_⟩:=VM (c:=c3) rfl (K3 hf hxl (i:=3) (t:=9) (o:=3) (c:=1) (by kernel_rfl))
  obtain⟨z4,rfl⟩:=R0 (c:=c4) rfl (K3 hf hxl (i:=4) (t:=3) (o:=4) (c:=1) (by kernel_rfl))
  obtain⟨nd,hn,_⟩:=vY (K3 hf hxl (i:=5) (t:=46) (o:=5) (c:=6) (by kernel_rfl))
  refine⟨⟨z0,z1,s2,s3,z4,nd⟩,?_⟩
  have hn':[c5,c6,c7,c8,c9,c10]=nd.cells:=hn
  unfold Nd.cells at hn'
  unfold Tm.cells
  simp only[List.cons.injEq,and_true]at hn' ⊢
  obtain⟨rfl,rfl,rfl,rfl,rfl,rfl⟩:=hn'
  simp
end
theorem wA{H:Type}{enc:TypeId×Value->H}{W:World}{r:Reach}{b0:Nat}{v:Value}{d:DataW H}{ps:List MemPlace}(hval:Value.okWide prog W r b0 36 v)(h:DataW.Trod enc prog W 0 (λ _=>true) true 36 v d ps):
  ∃l:Fl,Sl (VL W) 11 l.length v (l.flatMap Tm.cells):=by
 obtain⟨a0,n0,c0,rfl⟩:=okWide_slice underlying36 hval
 obtain⟨fuel,h⟩:=h
 rcases open_slice underlying36 h with⟨h1,_⟩|⟨a,ln,cap,m,n,D,Pl,h1,_,hl,hm,hmm,_,hx⟩
 ·simp only[Value.cells,List.cons.injEq,Value.slice.injEq,and_true]at h1
  obtain⟨rfl,rfl,rfl⟩:=h1
  exact⟨[],Sl.nil _ 11⟩
 ·simp only[Value.cells,List.cons.injEq,Value.slice.injEq,and_true]at h1
  obtain⟨rfl,rfl,rfl⟩:=h1
  have ce:prog.cellsOf 48=11:=by kernel_rfl
  have each: ∀i,i<n0-> ∃t:Tm,∀j,j<11->W.cell? ((a.add (i*11)).add j)=t.cells[j]?:=by
   intro i hi
   have him:i<m:=by rw[hmm,if_pos U];omega
   obtain⟨cs',h2,h3⟩:=hx i him
   rw[ce]at h2
   obtain⟨_,_,hcell⟩:=World.cells?_some h2
   obtain⟨t,rfl⟩:=vZ ⟨_,h3⟩
   exact⟨t,hcell⟩
  obtain⟨q,hq⟩:=choose_lt each
  have hlen:((List.range n0).map q).length=n0:=by simp
  refine⟨(List.range n0).map q,by rw[DQ Tm.cells 11 Tm.B4],some a,c0,by rw[hlen],by rw[hlen];exact hl,hm,λ hn=>?_⟩
  ·rw[hlen]at hn
   have hsp:a.spot=none:=by
    have h0:=hq 0 hn 0 (by omega)
    rw[Nat.zero_mul]at h0
    have e:(a.add 0).add 0=a:=rfl
    rw[e]at h0
    cases hs:a.spot with
    |none=>rfl
    |some x=>
     unfold World.cell? at h0
     rw[hs]at h0
     split at h0<;>simp[Tm.cells]at h0
   obtain⟨b,o,spot⟩:=a
   have hsp:spot=none:=hsp
   subst hsp
   refine⟨b,o,rfl,λ j hj=>?_⟩
   rw[DQ Tm.cells 11 Tm.B4,hlen]at hj
   have hi:j/11<n0:=by omega
   have hr:j%11<11:=by omega
   have h1:=hq (j/11) hi (j%11) hr
   rw[H8,H8]at h1
   have hj':o+j/11*11+j%11=o+j:=by omega
   rw[hj']at h1
   have h2:=UQ Tm.cells 11 Tm.B4 ((List.range n0).map q) (j/11) (j%11) (by rw[hlen];exact hi) hr
   rw[show j/11*11+j%11=j from by omega]at h2
   unfold VL
   rw[h1,h2]
   simp
end Go.Proofs.YtmjpjbmeamnfpaaGreatDoor
namespace Go.Eng
open Go.RowKit
structure Kn:Type 1 where
 {α:Type}
 [inh:Inhabited α]
 v:Value
 sz:Nat
 l:List α
 f:α->List Value
 g:Mem->Prop
 hg: ∀M M',M.le M'->g M->g M'
abbrev kn{α:Type}[Inhabited α](v:Value)(sz:Nat)(l:List α)(f:α->List Value):Kn:=⟨v,sz,l,f,λ _=>True,λ _ _ _ _=>trivial⟩
structure Kn.ok (M:Mem) (k:Kn):Prop where
 sl:Sl M k.sz k.l.length k.v (k.l.flatMap k.f)
 sz: ∀x,(k.f x).length=k.sz
 more:k.g M
theorem Kn.ok.mono {M M':Mem}{k:Kn}(h:k.ok M)(hm:M.le M'):k.ok M':=⟨h.sl.mono hm,h.sz,k.hg _ _ hm h.more⟩
inductive XV where
 |v (x:Value)
 |sl (k:Nat) (x:Value)
 |el (k:Nat) (x:Value) (sz:Nat) (i:Int) (j:Nat)
 |bx (k b o:Nat)
 |ag (cs:List XV)
 |tu (vs:List XV)
def XV.d0:XV->Value
 | .v x=>x
 | .sl _ x=>x
 | .el _ x sz i j=>.pointer (some ⟨sb x,so x+i.toNat*sz+j,none⟩)
 | .bx _ b o=>.pointer (some ⟨b,o,none⟩)
 |_=>undef
def XV.d1:XV->Value
 | .ag cs=>.agg (cs.map XV.d0).toArray
 |x=>x.d0
def XV.d:XV->Value
 | .tu vs=>.tuple (vs.map XV.d1).toArray
 |x=>x.d1
inductive Gd where
 |t
 |g (b:Bool)
def Gd.d:Gd->Bool
 | .t=>true
 | .g b=>b
abbrev XE:=List (Nat×Gd×XV)
def XE.d (L:XE):Env:=L.map λ x=>(x.1,x.2.1.d,x.2.2.d)
def BE:XE->Nat->Option (Gd×XV)
 |[],_=>none
 |(t,g,v)::L,k=>match Nat.beq t k with
  |true=>some (g,v)
  |false=>BE L k
theorem HC: ∀ {L:XE} {k:Nat} {g:Gd} {v:XV},BE L k=some (g,v)->look L.d k=some (g.d,v.d)
 |[],_,_,_,h=>by cases h
 |(t,g',v')::L,k,g,v,h=>by
  unfold BE at h
  show look ((t,g'.d,v'.d)::XE.d L) k=_
  unfold look
  split at h<;>rename_i e<;>rw[e]
  ·cases h;rfl
  ·exact HC h
inductive Ck where
 |b (x y:Bool)
 |n (x y:Nat)
 |v (x y:Value)
def Ck.holds:Ck->Prop
 | .b x y=>x=true->y=true
 | .n x y=>x=y
 | .v x y=>x=y
def Ck.diag:Ck->Ck
 | .b x _=>.b x x
 | .n x _=>.n x x
 | .v x _=>.v x x
abbrev AD(E:List Ck):Prop:= ∀c∈E,c.holds
theorem A0{E:List Ck}(h:E.map Ck.diag=E):AD E:=by
 intro c hc
 obtain⟨i,hi⟩:=List.getElem?_of_mem hc
 have h2:(E.map Ck.diag)[i]? =some c:=by rw[h];exact hi
 rw[List.getElem?_map,hi]at h2
 simp only[Option.map_some,Option.some.injEq]at h2
 cases c with
 |b x y=>simp only[Ck.diag,Ck.b.injEq,true_and]at h2;subst h2;exact id
 |n x y=>simp only[Ck.diag,Ck.n.injEq,true_and]at h2;subst h2;rfl
 |v x y=>simp only[Ck.diag,Ck.v.injEq,true_and]at h2;subst h2;rfl
inductive TK where
 |str|bool|int (k:IntKind)|row (e:TypeId) (esz:Nat)|st (fs:List (Nat×Nat×Bool)) (zs:List Value)|any
structure TD where
 k:TK
 sz:Nat
 agg:Bool
def M5(fs:List (Nat×Nat×Bool)):List Value->List (Nat×Value)->Option (List Value)
 |cs,[]=>some cs
 |cs,(i,v)::ps=>match fs[i]? with
  |some (off,n,_)=>if v.cells.toList.length=n/\off+n<=cs.length then M5 fs (GH cs off v.cells.toList) ps else none
  |none=>none
def TK.ok (P:Program)(t:TypeId)(sz:Nat):TK->Prop
 | .str=>P.underlying t=some .string
 | .bool=>P.underlying t=some .bool
 | .int k=>P.underlying t=some (.int k)
 | .row e esz=>P.underlying t=some (.slice e)/\ ∀w,(sizeOf e).run P w= .ok esz w
 | .st fs zs=>(∀(ps:List (Nat×Value)) (cs:List Value) w,M5 fs zs ps=some cs->(Instr.build t ps.toArray).run P w= .ok (.agg cs.toArray) w)/\ ∀i off n g,fs[i]? =some (off,n,g)->
  (∀b o w,(Instr.fieldAt t (.pointer (some ⟨b,o,none⟩)) i).run P w= .ok (.pointer (some ⟨b,o+off,none⟩)) w)/\
  (∀(cs:List Value) w,cs.length=sz->off+n<=sz/\(Instr.field t (.agg cs.toArray) i).run P w= .ok (if g then .agg ((cs.drop off).take n).toArray else cs.getD off undef) w)
 | .any=>True
structure TD.ok (P:Program) (t:TypeId) (d:TD):Prop where
 agg: ∀w,(isAgg t).run P w= .ok d.agg w
 size: ∀w,(sizeOf t).run P w= .ok d.sz w
 kind:d.k.ok P t d.sz
abbrev TT:=List (Nat×TD)
def HY:TT->Nat->Option TD
 |[],_=>none
 |(t,d)::T,k=>match Nat.beq t k with
  |true=>some d
  |false=>HY T k
def KW:List (Nat×Kn)->Nat->Option Kn
 |[],_=>none
 |(t,d)::F,k=>match Nat.beq t k with
  |true=>some d
  |false=>KW F k
theorem iD: ∀ {F:List (Nat×Kn)} {k:Nat} {x:Kn},KW F k=some x-> ∃i,(i,x)∈F
 |[],_,_,h=>by cases h
 |(t,d)::F,k,x,h=>by
  unfold KW at h
  split at h
  ·cases h;exact⟨t,.head _⟩
  ·obtain⟨i,hi⟩:=iD h;exact⟨i,.tail _ hi⟩
inductive HX:Type 1 where
 |box (b:Nat) (cs:List XV) (t:TypeId)
 |pv (e:TypeId) (K:Kn) (h: ∀x,(K.f x).length=K.sz)
 |ho (x:HO)
def HX.d:HX->HO
 | .box b cs t=>.box b (cs.map XV.d0) t
 | .pv e (@Kn.mk α inh v sz l f _ _) _=>.priv e sz v l.length (l.flatMap f)
 | .ho x=>x
def GL:List (Nat×HX)->Nat->Option HX
 |[],_=>none
 |(t,d)::H,k=>match Nat.beq t k with
  |true=>some d
  |false=>GL H k
def EG:List (Nat×HX)->Nat->HX->List (Nat×HX)
 |[],_,_=>[]
 |(t,d)::H,k,x=>match Nat.beq t k with
  |true=>(t,x)::H
  |false=>(t,d)::EG H k x
def HD(H:List (Nat×HX)):List HO:=H.map λ x=>x.2.d
theorem iE: ∀ {H:List (Nat×HX)} {k:Nat} {x:HX},GL H k=some x-> ∃i:Nat,(HD H)[i]? =some x.d/\ ∀y,HD (EG H k y)=(HD H).set i y.d
 |[],_,_,h=>by cases h
 |(t,d)::H,k,x,h=>by
  unfold GL at h
  split at h<;>rename_i e
  ·cases h
   refine⟨0,rfl,λ y=>?_⟩
   simp only[EG,e];rfl
  ·obtain⟨i,h1,h2⟩:=iE h
   refine⟨i+1,by simpa[HD]using h1,λ y=>?_⟩
   simp only[EG,e]
   show d.d::HD (EG H k y)=_
   rw[h2 y];rfl
def nth{α:Type}:List α->Nat->Option α
 |[],_=>none
 |x::_,0=>some x
 |_::l,n+1=>nth l n
theorem HE{α:Type}: ∀(l:List α) (n:Nat),nth l n=l[n]?
 |[],_=>by simp[nth]
 |_::_,0=>by simp[nth]
 |_::l,n+1=>by simp[nth,HE l n]
def K4{α:Type}:List α->Nat->Nat->Option (List α)
 |_,0,0=>some []
 |[],_,_=>none
 |x::l,0,n+1=>match K4 l 0 n with
  |some r=>some (x::r)
  |none=>none
 |_::l,o+1,n=>K4 l o n
theorem SW{α:Type}: ∀(l:List α) (o n:Nat) (r:List α),K4 l o n=some r->r=(l.drop o).take n/\r.length=n/\o+n<=l.length
 |l,0,0,r,h=>by unfold K4 at h;cases h;simp
 |[],o+1,n,r,h=>by simp[K4]at h
 |[],0,n+1,r,h=>by simp[K4]at h
 |x::l,0,n+1,r,h=>by
  unfold K4 at h
  split at h
  ·rename_i r' hr
   cases h
   obtain⟨h1,h2,h3⟩:=SW l 0 n r' hr
   refine⟨by rw[h1];simp,by simp[h2],by simp at h3 ⊢;omega⟩
  ·cases h
 |x::l,o+1,n,r,h=>by
  have h':K4 l o n=some r:=by unfold K4 at h;exact h
  obtain⟨h1,h2,h3⟩:=SW l o n r h'
  exact⟨by rw[h1];simp,h2,by simp;omega⟩
def K5{α:Type}:List α->Nat->List α->Option (List α)
 |l,0,[]=>some l
 |[],_,_=>none
 |_::l,0,v::vs=>match K5 l 0 vs with
  |some r=>some (v::r)
  |none=>none
 |x::l,o+1,vs=>match K5 l o vs with
  |some r=>some (x::r)
  |none=>none
theorem put_eq{α:Type}: ∀(l:List α) (o:Nat) (vs r:List α),K5 l o vs=some r->r=l.take o++vs++l.drop (o+vs.length)/\o+vs.length<=l.length
 |l,0,[],r,h=>by unfold K5 at h;cases h;simp
 |[],o+1,vs,r,h=>by simp[K5]at h
 |[],0,v::vs,r,h=>by simp[K5]at h
 |x::l,0,v::vs,r,h=>by
  unfold K5 at h
  split at h
  ·rename_i r' hr
   cases h
   obtain⟨h1,h2⟩:=put_eq l 0 vs r' hr
   simp at h1 h2
   exact⟨by rw[h1];simp,by simp;omega⟩
  ·cases h
 |x::l,o+1,vs,r,h=>by
  unfold K5 at h
  split at h
  ·rename_i r' hr
   cases h
   obtain⟨h1,h2⟩:=put_eq l o vs r' hr
   refine⟨?_,by simp;omega⟩
   rw[h1,show o+1+vs.length=(o+vs.length)+1 from by omega];simp
  ·cases h
def K6:List Value->List XV
 |[]=>[]
 |x::l=>.v x::K6 l
def R1:List Value->Option (List XV)
 |[]=>some []
 |x::l=>match R1 l with
  |some r=>some (.v x::r)
  |none=>none
theorem VN: ∀(l:List Value) (r:List XV),R1 l=some r->r.map XV.d0=l
 |[],r,h=>by cases h;rfl
 |x::l,r,h=>by
  unfold R1 at h
  split at h
  ·rename_i r' hr;cases h;simp[VN l r' hr,XV.d0]
  ·cases h
def BZ(L:XE)(W:Gd):Operand->Option (XV×List Ck)
 | .tmp k=>match BE L k with
  |some (.t,v)=>some (v,[])
  |some (.g b,v)=>match W with
   | .t=>some (v,[.b true b])
   | .g a=>some (v,[.b a b])
  |none=>none
 | .const v=>some (.v v,[])
 | .global k=>some (.v (.pointer (some ⟨k,0,none⟩)),[])
 | .func f=>some (.v (.func (.func f) #[] #[]),[])
theorem AN{L:XE}{W:Gd}{x:Operand}{v:XV}{E:List Ck}(h:BZ L W x=some (v,E))(hE:AD E):A8 L.d W.d x v.d:=by
 cases x with
 |tmp k=>
  simp only[BZ]at h
  split at h
  ·rename_i v' e;simp only[Option.some.injEq,Prod.mk.injEq]at h;obtain⟨rfl,rfl⟩:=h;exact .t (HC e)
  ·rename_i b v' e
   cases W with
   |t=>simp only[Option.some.injEq,Prod.mk.injEq]at h;obtain⟨rfl,rfl⟩:=h;exact .g (HC e) (hE _ (.head _))
   |g a=>simp only[Option.some.injEq,Prod.mk.injEq]at h;obtain⟨rfl,rfl⟩:=h;exact .g (HC e) (hE _ (.head _))
  ·cases h
 |const v'=>simp only[BZ,Option.some.injEq,Prod.mk.injEq]at h;obtain⟨rfl,rfl⟩:=h;exact .c
 |global k=>simp only[BZ,Option.some.injEq,Prod.mk.injEq]at h;obtain⟨rfl,rfl⟩:=h;exact .gl
 |func f=>simp only[BZ,Option.some.injEq,Prod.mk.injEq]at h;obtain⟨rfl,rfl⟩:=h;exact .f
theorem AD.app {E E':List Ck}(h:AD (E++E')):AD E/\AD E':=⟨λ c hc=>h c (List.mem_append_left _ hc),λ c hc=>h c (List.mem_append_right _ hc)⟩
abbrev R4:=Option (XV×List Prop×List Ck)
def PE(k:IntKind)(r:Int):List Prop:=match k with
 | .i64=>[-9223372036854775808<=r/\r<=9223372036854775807]
 | .u8=>[0<=r/\r<=255]
 | .i32=>[-2147483648<=r/\r<=2147483647]
 | .u32=>[0<=r/\r<=4294967295]
 | .u64=>[0<=r/\r<=18446744073709551615]
 |k=>[k.wrap r=r]
def HZ:List Prop->Prop
 |[]=>True
 |p::ps=>p/\HZ ps
theorem SX{k:IntKind}{r:Int}(h:HZ (PE k r)):k.wrap r=r:=by
 cases k<;>simp only[PE,HZ,and_true]at h<;>first|exact h|(simp[IntKind.wrap,IntKind.signed,IntKind.bits];omega)
def arith(op:BinOp)(k:IntKind)(a b:Int):Option (Int×List Prop):=
 match op with
 | .add=>some (a+b,PE k (a+b))
 | .sub=>some (a-b,PE k (a-b))
 | .mul=>some (a*b,PE k (a*b))
 | .quo=>match k with
  | .i64=>some (a/b,[0<=a/\a<=9223372036854775807/\0<b])
  |_=>none
 | .rem=>match k with
  | .i64=>some (a%b,[0<=a/\0<b])
  |_=>none
 |_=>none
def iF(op:BinOp)(a b:Int):Option Bool:=
 match op with
 | .lss=>some (decide (a<b))
 | .leq=>some (decide (a<=b))
 | .gtr=>some (decide (b<a))
 | .geq=>some (decide (b<=a))
 | .eql=>some (a==b)
 | .neq=>some (a != b)
 |_=>none
def iG(op:BinOp)(a b:A1):Option Bool:=
 match op with
 | .lss=>some (Op.bytesLess a b)
 | .leq=>some (Op.bytesLess a b||a==b)
 | .gtr=>some (!(Op.bytesLess a b||a==b))
 | .geq=>some (!Op.bytesLess a b)
 | .eql=>some (a==b)
 | .neq=>some (!(a==b))
 |_=>none
def SY:IntKind->IntKind->Bool
 | .i64,.i64=>true
 | .u8,.u8=>true
 | .i32,.i32=>true
 | .u32,.u32=>true
 | .u64,.u64=>true
 | .i8,.i8=>true
 | .i16,.i16=>true
 | .u16,.u16=>true
 |_,_=>false
theorem VO{a b:IntKind}(h:SY a b=true):a=b:=by cases a<;>cases b<;>first|rfl|(exact absurd h (by decide))|cases h
def ZB(op:BinOp):XV->XV->Option (XV×List Prop)
 | .v (
    .int k a),.v (.int k' b)=>match SY k k' with
  |true=>match iF op a b with
   |some r=>some (.v (.bool r),[])
   |none=>match arith op k a b with
    |some (r,p)=>some (.v (.int k r),p)
    |none=>none
  |false=>none
 | .v (.string ⟨⟨a⟩⟩),.v (.string ⟨⟨b⟩⟩)=>match iG op a b with
  |some r=>some (.v (.bool r),[])
  |none=>match op with
   | .add=>some (.v (.string ⟨⟨a++b⟩⟩),[len a+len b<=9223372036854775807])
   |_=>none
 |_,_=>none
section
variable {P:Program} {C:World->Prop} {L:Env} {W:Bool} {d:Option Tmp} {ty:TypeId} {ps:String} {af:Array Edge} {gd:Option (Nat×Bool)}
theorem wB{op:BinOp}{t t':TypeId}{x y:Operand}{a b v:XV}{p:List Prop}(h:ZB op a b=some (v,p))(hx:A8 L W x a.d)(hy:A8 L W y b.d)(hp:W=true->HZ p):PV P C L W ⟨d,.binOp op t x y t',ty,ps,af,gd⟩ v.d:=by
 unfold ZB at h
 split at h
 ·rename_i k a' k' b'
  split at h
  ·rename_i hk
   have:=VO hk;subst this
   split at h
   ·rename_i r hr
    simp only[Option.some.injEq,Prod.mk.injEq]at h;obtain⟨rfl,rfl⟩:=h
    cases op<;>simp only[iF,Option.some.injEq,reduceCtorEq]at hr<;>subst hr
    ·exact .eql hx hy
    ·exact .neq hx hy
    ·exact .lss hx hy
    ·exact .leq hx hy
    ·exact .gtr hx hy
    ·exact .geq hx hy
   ·split at h
    ·rename_i r p' hr
     simp only[Option.some.injEq,Prod.mk.injEq]at h;obtain⟨rfl,rfl⟩:=h
     cases op<;>simp only[arith,Option.some.injEq,Prod.mk.injEq,reduceCtorEq]at hr
     ·obtain⟨rfl,rfl⟩:=hr;exact .SE hx hy λ hW=>SX (hp hW)
     ·obtain⟨rfl,rfl⟩:=hr;exact .UL hx hy λ hW=>SX (hp hW)
     ·obtain⟨rfl,rfl⟩:=hr;exact .UM hx hy λ hW=>SX (hp hW)
     ·split at hr<;>simp only[Option.some.injEq,Prod.mk.injEq,reduceCtorEq]at hr
      obtain⟨rfl,rfl⟩:=hr;exact .quo hx hy λ hW=>(hp hW).1
     ·split at hr<;>simp only[Option.some.injEq,Prod.mk.injEq,reduceCtorEq]at hr
      obtain⟨rfl,rfl⟩:=hr;exact .rem hx hy λ hW=>(hp hW).1
    ·cases h
  ·cases h
 ·rename_i a' b'
  split at h
  ·rename_i r hr
   simp only[Option.some.injEq,Prod.mk.injEq]at h;obtain⟨rfl,rfl⟩:=h
   cases op<;>simp only[iG,Option.some.injEq,reduceCtorEq]at hr<;>subst hr
   ·exact .O1 hx hy
   ·exact .N1 hx hy
   ·exact .sA hx hy
   ·exact .sB hx hy
   ·exact .sC hx hy
   ·exact .sD hx hy
  ·split at h
   ·simp only[Option.some.injEq,Prod.mk.injEq]at h;obtain⟨rfl,rfl⟩:=h
    exact .E8 hx hy λ hW=>(hp hW).1
   ·cases h
 ·cases h
end
end Go.Eng
