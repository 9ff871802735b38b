/-
  Parts Ps R3, put together and made short by wip/py/merge.py (mini.py).
-/
import Derived.Test.YtmjpjbmeamnfpaaGreatDoorZc7
import Derived.Test.YtmjpjbmeamnfpaaGreatDoorZc14
import Derived.Test.YtmjpjbmeamnfpaaGreatDoorZc23
import Derived.Test.YtmjpjbmeamnfpaaGreatDoorZc4
import Derived.Laws.BitsLemmas
import Derived.Test.YtmjpjbmeamnfpaaGreatDoorZc3
import Derived.Test.YtmjpjbmeamnfpaaGreatDoorProg
import Derived.Test.YtmjpjbmeamnfpaaGreatDoorZc5
import Derived.Test.YtmjpjbmeamnfpaaGreatDoorZc6
import Derived.Test.YtmjpjbmeamnfpaaGreatDoorZc0
set_option linter.unusedVariables false
set_option linter.unusedSimpArgs false
namespace Go.Eng
open Go.RowKit
def EE(s:A1)(i:Int):A1:=((A4 s i).takeWhile C7).take 7
def H7(s:A1)(i:Int):Int×Int:=
 if EE s i=[]\/(A3 s i=48/\1<len (EE s i))\/1000000<BE (EE s i)then(-1,i)else(BE (EE s i),i+len (EE s i))
def O8:Sp:=⟨false,[],0⟩
def O9(s:A1)(i j:Int):Sp×Int:=
 if len s<=j\/A3 s j≠91 then(O8,i)
 else if(H7 s (j+1)).1<0\/len s<=(H7 s (j+1)).2\/A3 s (H7 s (j+1)).2≠93 then(O8,i)
 else(⟨true,[],(H7 s (j+1)).1⟩,(H7 s (j+1)).2+1)
def DL(s:A1)(i:Int)(first:Bool):Sp×Int:=
 if i<len s/\A3 s i=46 then
  if AY (A4 s (i+1))≠[]then(⟨false,AY (A4 s (i+1)),0⟩,i+1+len (AY (A4 s (i+1))))
  else if(AS (A4 s (i+1))).2.2=0/\D7 (AS (A4 s (i+1))).1=false/\IU (AS (A4 s (i+1))).1=Eng.sub s (i+1) (i+1+(AS (A4 s (i+1))).2.1)then(⟨false,(AS (A4 s (i+1))).1,0⟩,i+1+(AS (A4 s (i+1))).2.1)
  else if first=false then(O8,i)else O9 s i (i+1)
 else if first then(O8,i)else O9 s i i
def GP:Nat->A1->List Sp->Int->List Sp×Int
 |0,_,p,i=>(p,i)
 |f+1,s,p,i=>if(DL s i (p.isEmpty)).2=i then(p,i)else GP f s (p++[(DL s i (p.isEmpty)).1]) (DL s i (p.isEmpty)).2
def EZ(s:A1)(i:Int):List Sp×Int:=if(GP 20 s [] i).1=[]/\i<len s/\A3 s i=46 then([],i+1)else GP 20 s [] i
def EF(s:A1):List Sp×Int×Int:=
 if s=[46]then((EZ s 0).1,0,0)else if(EZ s 0).1=[]then([],0,1)else if(EZ s 0).2<len s then([],(EZ s 0).2,1)else((EZ s 0).1,0,0)
def K0(s:A1):Bool:=(EF s).2.2==0
def Sp.BP (x:Sp):Prop:=(x.part=true->x.name=[]/\0<=x.n/\x.n<=1000000)/\(x.part=false->x.n=0/\E6 x.name=true)
def Sp.KW (x:Sp):A1:=if x.part then [91]++Lib.itoa x.n++[93]else [46]++DE x.name
def K1(p:List Sp):A1:=(if p=[]\/(A2 p 0).part=true then [46]else [])++(p.map Sp.KW).flatten
theorem zY{s:A1}:D7 s=PW s:=by
 unfold PW
 by_cases h:s=[]
 ·subst h;decide+kernel
 ·by_cases hw:D7 s=true
  ·rw[hw]
   have:=bT hw (r:=[]) (.inl U)
   rw[List.append_nil]at this
   rw[this];simp[h]
  ·rw[Bool.eq_false_iff.2 hw]
   symm
   rw[Bool.and_eq_false_iff];right
   rw[beq_eq_false_iff_ne]
   intro e
   exact hw (by rw[<-e];exact WL (by rw[e];exact h))
theorem zZ{x:Sp}(h:x.BP):FK A9 x=x.KW:=by
 unfold FK Sp.KW DE
 split
 ·rfl
 ·rename_i hp
  rw[<-zY]
  split
  ·rfl
  ·rw[a8 (h.2 (by simpa using hp)).2]
theorem lF{p:List Sp}(h: ∀x∈p,x.BP):JJ A9 p=K1 p:=by
 unfold JJ K1
 congr 1
 congr 1
 exact List.map_congr_left λ x hx=>zZ (h x hx)
theorem P2(a:A1)(c:UInt8):BE (a++[c])=BE a*10+((c.toNat:Int)-48):=by unfold BE;rw[List.foldl_append];rfl
theorem WN{α:Type}{p:List α->Prop}(h0:p [])(hs: ∀a c,p a->p (a++[c]))(l:List α):p l:=by
 rw[<-List.reverse_reverse l]
 induction l.reverse with
 |nil=>exact h0
 |cons c a ih=>rw[List.reverse_cons];exact hs _ _ ih
theorem lG{g:A1}(h:CJ g):0<=BE g:=by
 induction g using WN with
 |h0=>exact Int.le_refl _
 |hs a c ih=>
  rw[P2]
  have:=ih λ b hb=>h b (by simp[hb])
  have hc:=h c (by simp)
  unfold C7 BM at hc
  simp only[Bool.and_eq_true,decide_eq_true_eq]at hc
  omega
theorem AA0{g:A1}(h:CJ g)(hn:g≠[])(hz: ¬(A3 g 0=48/\1<len g)):Lib.itoa (BE g)=g:=by
 induction g using WN with
 |h0=>exact absurd U hn
 |hs a c ih=>
  have hc:=h c (by simp)
  unfold C7 BM at hc
  simp only[Bool.and_eq_true,decide_eq_true_eq]at hc
  have ha:CJ a:=λ b hb=>h b (by simp[hb])
  have h0:=lG ha
  rw[OL (by rw[P2];omega),P2]
  have hcc:toStr [48+(BE a*10+((c.toNat:Int)-48))%10]=[c]:=by
   have:48+(BE a*10+((c.toNat:Int)-48))%10=(c.toNat:Int):=by omega
   rw[this,RT _ c.toNat (by omega),UInt8.ofNat_toNat]
  rw[hcc]
  congr 1
  by_cases he:a=[]
  ·subst he
   have:BE []=0:=rfl
   rw[if_neg (by omega)]
  ·have hl:=HC he
   have hz2: ¬A3 a 0=48:=λ e=>hz ⟨by rw[H6 (Int.le_refl 0) hl];exact e,by rw[A5];have:len [c]=1:=rfl;omega⟩
   have h1:=ih ha he (λ e=>hz2 e.1)
   have hpos:0<BE a:=by
    rcases Int.lt_or_eq_of_le h0 with h2|h2
    ·exact h2
    ·exfalso
     rw[<-h2]at h1
     have:Lib.itoa 0=[48]:=by decide+kernel
     rw[this]at h1
     rw[<-h1]at hz2
     exact hz2 U
   rw[if_pos (by omega),show(BE a*10+((c.toNat:Int)-48))/10=BE a by omega,h1]
theorem AA1(s:A1)(i:Int):CJ (EE s i):=λ b hb=>by
 unfold EE at hb
 have:=List.mem_of_mem_take hb
 exact List.all_eq_true.1 List.all_takeWhile b this
theorem lH(s:A1)(i:Int): ∃r,A4 s i=EE s i++r:=by
 have h1:=List.takeWhile_prefix C7 (l:=A4 s i)
 have h2:=List.take_prefix 7 ((A4 s i).takeWhile C7)
 obtain⟨r,hr⟩:=h2.trans h1
 exact⟨r,hr.symm⟩
theorem lI{s:A1}{i j:Int}{x:Sp}{zz:Int}(h0:0<=i)(hj:i<=j)(h:O9 s i j=(x,zz))(hne:zz≠i):x.BP/\x.part=true/\A4 s j=x.KW++A4 s zz/\j<zz/\zz<=len s:=by
 unfold O9 at h
 split at h
 ·simp only[Prod.mk.injEq]at h;omega
 ·rename_i h1
  split at h
  ·simp only[Prod.mk.injEq]at h;omega
  ·rename_i h2
   simp only[Prod.mk.injEq]at h
   obtain⟨rfl,rfl⟩:=h
   have hf: ¬(EE s (j+1)=[]\/(A3 s (j+1)=48/\1<len (EE s (j+1)))\/1000000<BE (EE s (j+1))):=by
    intro hc
    unfold H7 at h2
    rw[if_pos hc]at h2
    exact h2 (.inl (by show(-1:Int)<0;omega))
   unfold H7 at h2 ⊢
   rw[if_neg hf]at h2 ⊢
   dsimp only at h2 ⊢
   have ha:=AA1 s (j+1)
   obtain⟨r,hr⟩:=lH s (j+1)
   have hg0:EE s (j+1)≠[]:=λ e=>hf (.inl e)
   have hgl:=HC hg0
   have hb:A3 (EE s (j+1)) 0=A3 s (j+1):=by
    have h3:A3 (A4 s (j+1)) 0=A3 s (j+1+0):=NP s (j+1) 0 (by omega) (Int.le_refl 0)
    rw[hr,H6 (Int.le_refl 0) hgl,Int.add_zero]at h3;exact h3
   have hi:=AA0 ha hg0 (λ e=>hf (.inr (.inl ⟨by rw[<-hb];exact e.1,e.2⟩)))
   have hd:=lG ha
   have hlt:j+1+len (EE s (j+1))<len s:=by omega
   refine⟨⟨λ _=>⟨rfl,hd,by show BE _<=_;omega⟩,(λ e=>by cases e)⟩,rfl,?_,by omega,by omega⟩
   show _=[91]++Lib.itoa (BE (EE s (j+1)))++[93]++_
   rw[hi]
   obtain⟨b1,e1,e2⟩:=IS s j (by omega) (by omega)
   obtain⟨b2,e3,e4⟩:=IS s (j+1+len (EE s (j+1))) (by omega) hlt
   have hb1:b1=91:=UInt8.toNat_inj.1 (by have:(91:UInt8).toNat=91:=rfl;omega)
   have hb2:b2=93:=UInt8.toNat_inj.1 (by have:(93:UInt8).toNat=93:=rfl;omega)
   have hr2:r=A4 s (j+1+len (EE s (j+1))):=by
    rw[<-KH s (j+1) _ (by omega) (by omega),hr,b9]
   rw[e1,hb1,hr,hr2,e3,hb2]
   simp
theorem AA2(s:A1):s=AY s++A4 s (len (AY s)):=by
 have hb:=NR s
 have:=kH (s:=s) (n:=len (AY s)) hb.1 hb.2
 have e:Eng.sub s 0 (len (AY s))=AY s:=by rw[LC];rfl
 rw[e]at this;exact this.1
theorem lJ{s:A1}{i:Int}{first:Bool}{x:Sp}{zz:Int}(h0:0<=i)(h:DL s i first=(x,zz))(hne:zz≠i):
  x.BP/\A4 s i=(if first&&x.part then [46]else [])++(x.KW++A4 s zz)/\i<zz/\zz<=len s:=by
 unfold DL at h
 split at h
 ·rename_i h1
  obtain⟨b1,e1,e2⟩:=IS s i h0 h1.1
  have hb1:b1=46:=UInt8.toNat_inj.1 (by have:(46:UInt8).toNat=46:=rfl;omega)
  subst hb1
  have hl:=DV s (i+1) (by omega) (by omega)
  split at h
  ·rename_i h2
   simp only[Prod.mk.injEq]at h
   obtain⟨rfl,rfl⟩:=h
   have hb:=NR (A4 s (i+1))
   refine⟨⟨(λ e=>by cases e),λ _=>⟨rfl,lC _⟩⟩,?_,by omega,by omega⟩
   show _=(if first&&false then [46]else [])++(([46]++DE (AY (A4 s (i+1))))++_)
   rw[Bool.and_false,if_neg (by decide)]
   unfold DE
   rw[if_pos (WL h2),e1,<-KH s (i+1) _ (by omega) hb.1]
   conv=>lhs;rw[AA2 (A4 s (i+1))]
   simp
  ·split at h
   ·rename_i h3
    simp only[Prod.mk.injEq]at h
    obtain⟨rfl,rfl⟩:=h
    have hb:=MN (A4 s (i+1))
    have h2:=hb.2.2.1 h3.1
    refine⟨⟨(λ e=>by cases e),λ _=>⟨rfl,bS _⟩⟩,?_,by omega,by omega⟩
    show _=(if first&&false then [46]else [])++(([46]++DE (AS (A4 s (i+1))).1)++_)
    rw[Bool.and_false,if_neg (by decide)]
    unfold DE
    rw[h3.2.1,if_neg (by decide),h3.2.2,e1]
    have hsp:=O0 s (i+1) (i+1+(AS (A4 s (i+1))).2.1) (by omega) (by omega)
    generalize (AS (A4 s (i+1))).2.1=m at hsp ⊢
    conv=>lhs;rw[hsp]
    simp
   ·split at h
    ·simp only[Prod.mk.injEq]at h;omega
    ·rename_i hf
     have hf:first=true:=by simpa using hf
     subst hf
     obtain⟨g1,g2,g3,g4,g5⟩:=lI h0 (by omega) h hne
     refine⟨g1,?_,by omega,g5⟩
     rw[g2,e1,g3];rfl
 ·split at h
  ·simp only[Prod.mk.injEq]at h;omega
  ·rename_i hf
   obtain⟨g1,g2,g3,g4,g5⟩:=lI h0 (Int.le_refl i) h hne
   refine⟨g1,?_,g4,g5⟩
   rw[g3]
   have hf:first=false:=by simpa using hf
   rw[hf];rfl
theorem AA3(p:List Sp)(x:Sp):K1 (p++[x])=if p=[]then(if x.part then [46]else [])++x.KW else K1 p++x.KW:=by
 unfold K1
 cases p with
 |nil=>simp[A2]
 |cons a p=>simp[A2]
theorem lK{s:A1}: ∀(f:Nat) (p:List Sp) (i:Int) (p2:List Sp) (i2:Int),0<=i->i<=len s->GP f s p i=(p2,i2)->(∀x∈p,x.BP)->(p≠[]->s=K1 p++A4 s i)->(p=[]->i=0)->
  (∀x∈p2,x.BP)/\p2.length<=p.length+f/\0<=i2/\i2<=len s/\(p2≠[]->s=K1 p2++A4 s i2)/\(p2=[]->i2=0)
 |0,p,i,p2,i2,h0,h1,h,hp,hs,hi=>by
  rw[GP]at h
  simp only[Prod.mk.injEq]at h;obtain⟨rfl,rfl⟩:=h
  exact⟨hp,by omega,h0,h1,hs,hi⟩
 |f+1,p,i,p2,i2,h0,h1,h,hp,hs,hi=>by
  rw[GP]at h
  split at h
  ·simp only[Prod.mk.injEq]at h;obtain⟨rfl,rfl⟩:=h
   exact⟨hp,by omega,h0,h1,hs,hi⟩
  ·rename_i hne
   obtain⟨g1,g2,g3,g4⟩:=lJ h0 (x:=(DL s i p.isEmpty).1) (zz:=(DL s i p.isEmpty).2) rfl hne
   have:=lK f _ _ p2 i2 (by omega) g4 h (λ x hx=>by
    rcases List.mem_append.1 hx with hx|hx
    ·exact hp x hx
    ·rw[List.mem_singleton.1 hx];exact g1) (λ _=>by
     rw[AA3]
     by_cases hpe:p=[]
     ·subst hpe
      have:=hi U
      subst this
      rw[if_pos U,List.append_assoc]
      exact g2
     ·rw[if_neg hpe,List.append_assoc]
      have he:p.isEmpty=false:=by cases p with|nil=>exact absurd rfl hpe|cons a p=>rfl
      rw[he]at g2 ⊢
      have:=hs hpe
      rw[g2]at this
      exact this) (λ e=>by simp at e)
   refine⟨this.1,?_,this.2.2⟩
   have h2:=this.2.1
   rw[List.length_append,List.length_singleton]at h2;omega
theorem QT{s:A1}(h:K0 s=true): ∃p:List Sp,p.length<=20/\(∀x∈p,x.BP)/\s=K1 p/\(EF s).1=p:=by
 unfold K0 EF at h
 unfold EF
 obtain⟨g1,g2,g3,g4,g5,g6⟩:=lK (s:=s) 20 [] 0 (GP 20 s [] 0).1 (GP 20 s [] 0).2 (Int.le_refl 0) (AA s) rfl (λ x hx=>by cases hx) (λ e=>absurd rfl e) (λ _=>rfl)
 have hp:(EZ s 0).1=(GP 20 s [] 0).1:=by
  unfold EZ
  split
  ·rename_i h1;exact h1.1.symm
  ·rfl
 split at h
 ·rename_i h1
  subst h1
  rw[if_pos U]
  exact⟨[],by decide,(λ x hx=>by cases hx),by decide,by decide+kernel⟩
 ·rename_i h1
  rw[if_neg h1]
  split at h
  ·exact absurd h (show ¬((1:Int)==0)=true by decide)
  ·rename_i h2
   rw[if_neg h2]
   split at h
   ·exact absurd h (show ¬((1:Int)==0)=true by decide)
   ·rename_i h3
    rw[if_neg h3]
    rw[hp]at h2 ⊢
    have hb:EZ s 0=GP 20 s [] 0:=by
     unfold EZ
     rw[if_neg (λ e=>h2 e.1)]
    rw[hb]at h3
    refine⟨_,by simpa using g2,g1,?_,rfl⟩
    have:=g5 h2
    rw[OJ _ _ (by omega),List.append_nil]at this
    exact this
end Go.Eng
set_option maxRecDepth 100000
namespace Go.Proofs.YtmjpjbmeamnfpaaGreatDoor
open Go.Eng
theorem lL(n:Int)(w:World)(h:0<=n/\n<=15):
  Calls Tryz.prog 132 [(i64 n)].toArray w λ e w'=>e= .returned (str (KG n))/\w'=w:=by
 refine CW.BN Tryz.func132 U Tryz.ntmps132 (Nat.le_of_ble_eq_true U) λ Q hE=>?_
 refine CW.weaken [0] (L':=[Y 0 (i64 n)]) ?_ U
 refine CW.sr (RL.u (.assign .c) U (RL.nil (CW.id (CW.sr ?_))))
 refine RL.m U U (RL.m U U (RL.u (.add (.t U) .c (λ _=>by first|omega|(simp only[A7,len_nil];omega))) U (RL.u (.K7 .c (.t U) (.t U) Tryz.underlying9 (λ _=>by first|omega|(simp only[A7,len_nil];omega))) U (RL.a U U (RL.nil (CW.id ?_))))))
 refine CW.ret (hE.r1 U U ?_)
 exact⟨rfl,rfl⟩
theorem AA4(c:Int)(w:World)(h:0<=c/\c<=255):
  Calls Tryz.prog 85 [(.int .u8 c)].toArray w λ e w'=>e= .returned (str (G3 c))/\Ext w w':=by
 refine CW.BN Tryz.func85 U Tryz.ntmps85 (Nat.le_of_ble_eq_true U) λ Q hE=>?_
 have hS:St w nM w nM []:=St.start ⟨λ _ _ _ h=>by cases h⟩
 refine CW.weaken [0] (L':=[Y 0 (.int .u8 c)]) ?_ U
 refine CW.sr (RL.u (.assign .c) U (RL.nil (CW.id (CW.seq ?_))))
 refine CW.sr (RL.m U U (RL.nil (CW.id (CW.block ?_))))
 refine CW.sr (RL.u (.eql (.t U) .c) U (RL.a U U (RL.nil (CW.id ?_))))
 refine CW.cond rfl ?_ ?_<;>intro hb1<;>try simp only[zb]at hb1
 ·refine CW.sr (RL.u (.assign .c) U (RL.nil (CW.id (CW.ret (hE.r1 U U ?_)))))
  clear hE
  refine⟨congrArg (λ x=>Ending.returned (str x)) ?_,hS.low⟩
  unfold G3;simp_all
  try (intro h;omega)
 ·refine CW.sr (RL.u (.eql (.t U) .c) U (RL.a U U (RL.nil (CW.id ?_))))
  refine CW.cond rfl ?_ ?_<;>intro hb2<;>try simp only[zb]at hb2
  ·refine CW.sr (RL.u (.assign .c) U (RL.nil (CW.id (CW.ret (hE.r1 U U ?_)))))
   clear hE
   refine⟨congrArg (λ x=>Ending.returned (str x)) ?_,hS.low⟩
   unfold G3;simp_all
   try (intro h;omega)
  ·refine CW.sr (RL.u (.eql (.t U) .c) U (RL.a U U (RL.nil (CW.id ?_))))
   refine CW.cond rfl ?_ ?_<;>intro hb3<;>try simp only[zb]at hb3
   ·refine CW.sr (RL.u (.assign .c) U (RL.nil (CW.id (CW.ret (hE.r1 U U ?_)))))
    clear hE
    refine⟨congrArg (λ x=>Ending.returned (str x)) ?_,hS.low⟩
    unfold G3;simp_all
    try (intro h;omega)
   ·refine CW.sr (RL.u (.eql (.t U) .c) U (RL.a U U (RL.nil (CW.id ?_))))
    refine CW.cond rfl ?_ ?_<;>intro hb4<;>try simp only[zb]at hb4
    ·refine CW.sr (RL.u (.assign .c) U (RL.nil (CW.id (CW.ret (hE.r1 U U ?_)))))
     clear hE
     refine⟨congrArg (λ x=>Ending.returned (str x)) ?_,hS.low⟩
     unfold G3;simp_all
     try (intro h;omega)
    ·refine CW.sr (RL.u (.eql (.t U) .c) U (RL.a U U (RL.nil (CW.id ?_))))
     refine CW.cond rfl ?_ ?_<;>intro hb5<;>try simp only[zb]at hb5
     ·refine CW.sr (RL.u (.assign .c) U (RL.nil (CW.id (CW.ret (hE.r1 U U ?_)))))
      clear hE
      refine⟨congrArg (λ x=>Ending.returned (str x)) ?_,hS.low⟩
      unfold G3;simp_all
      try (intro h;omega)
     ·refine CW.sr (RL.u (.eql (.t U) .c) U (RL.a U U (RL.nil (CW.id ?_))))
      refine CW.cond rfl ?_ ?_<;>intro hb6<;>try simp only[zb]at hb6
      ·refine CW.sr (RL.u (.assign .c) U (RL.nil (CW.id (CW.ret (hE.r1 U U ?_)))))
       clear hE
       refine⟨congrArg (λ x=>Ending.returned (str x)) ?_,hS.low⟩
       unfold G3;simp_all
       try (intro h;omega)
      ·refine CW.sr (RL.u (.eql (.t U) .c) U (RL.a U U (RL.nil (CW.id ?_))))
       refine CW.cond rfl ?_ ?_<;>intro hb7<;>try simp only[zb]at hb7
       ·refine CW.sr (RL.u (.assign .c) U (RL.nil (CW.id (CW.ret (hE.r1 U U ?_)))))
        clear hE
        refine⟨congrArg (λ x=>Ending.returned (str x)) ?_,hS.low⟩
        unfold G3;simp_all
        try (intro h;omega)
       ·refine CW.skip (CW.id (CW.seq (CW.sr (RL.m U U (RL.u (.lss (.t U) .c) U (RL.nil (CW.id ?_)))))))
        refine CW.cond rfl ?_ ?_<;>intro hb8<;>try simp only[zb]at hb8
        ·refine CW.sr (RL.m U U (RL.u (.BH (r:=c) (.t U) Tryz.underlying5 Tryz.underlying3 (λ _=>by exact Eng.wrap_i64 (by omega))) U (RL.u (.quo (.t U) .c (λ _=>by omega)) U ?_)))
         refine RL.DC .none Tryz.call132 (.cons (.t U) .nil) (λ _=>(lL (c/16) _ (by omega))) U ?_
         refine RL.u (.EA .c (.t U) (λ _=>by first|omega|(simp only[KG,A5,A7,len_nil];have:=GV ([48,49,50,51,52,53,54,55,56,57,97,98,99,100,101,102]:A1) (c/16) (c/16+1);have:=GV ([48,49,50,51,52,53,54,55,56,57,97,98,99,100,101,102]:A1) (c%16) (c%16+1);simp only[A7,len_nil]at*;omega))) U (RL.m U U (RL.u (.BH (r:=c) (.t U) Tryz.underlying5 Tryz.underlying3 (λ _=>by exact Eng.wrap_i64 (by omega))) U (RL.u (.rem (.t U) .c (λ _=>by first|omega|(simp only[KG,A5,A7,len_nil];have:=GV ([48,49,50,51,52,53,54,55,56,57,97,98,99,100,101,102]:A1) (c/16) (c/16+1);have:=GV ([48,49,50,51,52,53,54,55,56,57,97,98,99,100,101,102]:A1) (c%16) (c%16+1);simp only[A7,len_nil]at*;omega))) U ?_)))
         refine RL.DC .none Tryz.call132 (.cons (.t U) .nil) (λ _=>(lL (c%16) _ (by omega))) U ?_
         refine RL.u (.EA (.t U) (.t U) (λ _=>by first|omega|(simp only[KG,A5,A7,len_nil];have:=GV ([48,49,50,51,52,53,54,55,56,57,97,98,99,100,101,102]:A1) (c/16) (c/16+1);have:=GV ([48,49,50,51,52,53,54,55,56,57,97,98,99,100,101,102]:A1) (c%16) (c%16+1);simp only[A7,len_nil]at*;omega))) U (RL.a U U ?_)
         refine RL.nil (CW.at [Y 2 (str (([92,117,48,48]++(KG (c/16)))++(KG (c%16))))] U (CW.ret (hE.r1 U U ?_)))
         clear hE
         refine⟨congrArg (λ x=>Ending.returned (str x)) ?_,hS.low⟩
         unfold G3;simp_all
         try (intro h;omega)
        ·refine CW.skip (CW.id (CW.sr (RL.m U U ?_)))
         refine RL.buildSlice (n:=1) (sz:=1) (e:=5) (vs:=[(0,(.int .u8 c))]) (cs:=[(.int .u8 c)]) hS (.cons (.t U) .nil) U U (λ w=>by kernel_rfl) U (λ v1 w2 M3 hS4 hle5=>?_)
         replace hS4:St w nM w2 M3 [.own 5 1 v1 (([c]:List Int)).length ((([c]:List Int)).flatMap AV)]:=hS4
         refine RL.u (.KB hS4 AX (hS4.sl (i:=0) U) (.t U) Tryz.underlying110 Tryz.underlying5 Tryz.underlying9) U (RL.a U U (RL.nil (CW.id ?_)))
         refine CW.ret (hE.r1 U U ?_)
         clear hE
         refine⟨congrArg (λ x=>Ending.returned (str x)) ?_,hS4.low⟩
         unfold G3;simp_all
         try (intro h;omega)
theorem WO(s:A1)(w:World)(hb:len s<=1099511627776):
  Calls Tryz.prog 53 [(str s)].toArray w λ e w'=>e= .returned (str (IU s))/\Ext w w':=by
 refine CW.BN Tryz.func53 U Tryz.ntmps53 (Nat.le_of_ble_eq_true U) λ Q hE=>?_
 have:=AA s
 have hS:St w nM w nM []:=St.start ⟨λ _ _ _ h=>by cases h⟩
 refine CW.weaken [0] (L':=[Y 0 (str s)]) ?_ U
 refine CW.sr (RL.u (.assign .c) U (RL.nil (CW.id (CW.sr ?_))))
 refine RL.u (.assign .c) U (RL.nil (CW.id ?_))
 refine CW.seq (CW.sr (RL.u (.assign .c) U (RL.nil (CW.id ?_))))
 refine CW.block ?_
 refine CW.loop (σ:=Int×A1) (λ(k,o)=>[Y 0 (str s),Y 3 (str o),Y 4 (i64 k)]) (λ(k,o) wl=>St w nM wl nM []/\0<=k/\k<=len s/\o=34::(Eng.sub s 0 k).flatMap I6/\len o<=6*k+1) (λ(k,o)=>(len s-k).toNat) ((0,[34])) [0,3,4] U ?_ ?_
 ·refine⟨hS,?_⟩;exact⟨by omega,by omega,rfl,by decide⟩
 ·rintro⟨k,o⟩ wl ⟨hS1,hk0,hk1,hkF,hlen⟩
  have hwl:=fL (A3 s k)
  have hby:=L4 s k
  have ho:=AA o
  refine CW.seq (CW.sr (RL.m U U (RL.m U U (RL.u (.BZ (.t U) Tryz.underlying9) U (RL.u (.lss (.t U) (.t U)) U (RL.nil (CW.id ?_)))))))
  refine CW.cond rfl ?_ ?_<;>intro hb1<;>try simp only[zb]at hb1
  ·refine CW.skip (CW.id (CW.seq (CW.block ?_)))
   refine CW.region (RL.m U U (RL.m U U (RL.m U U (RL.u (.C4 (.t U) (.t U) Tryz.underlying9 (λ _=>by omega)) U ?_))))
   refine RL.D5 hS1 .none Tryz.call85 (.cons (.t U) .nil) (λ _=>(AA4 (A3 s k) _ (by omega))) U (λ w2 hS3=>?_)
   refine RL.u (.EA (.t U) (.t U) (λ _=>by omega)) U (RL.a U U ?_)
   refine RL.nil (CW.at [Y 0 (str s),Y 3 (str (o++(G3 (A3 s k)))),Y 4 (i64 k)] U ?_)
   refine CW.region (RL.m U U (RL.u (.add (.t U) .c (λ _=>by omega)) U (RL.a U U ?_)))
   refine RL.nil λ a hs=>Exists.intro ((k+1,o++G3 (A3 s k))) ⟨hs.BG [0,3,4],?_,?_⟩
   ·refine⟨hS3,?_⟩
    exact⟨by omega,by omega,sI hk0 hb1 hkF,by rw[A5];omega⟩
   ·show Int.toNat _<Int.toNat _;omega
  ·refine CW.exit (CW.at [Y 3 (str o)] U ?_)
   refine CW.sr (RL.m U U (RL.u (.EA (.t U) .c (λ _=>by first|omega|(simp only[A5,A7,len_nil];omega))) U (RL.a U U (RL.nil (CW.id (CW.ret (hE.r1 U U ?_)))))))
   exact⟨by unfold IU;rw[hkF,IP _ _ (by omega)],hS1.low⟩
theorem lM(n:Int)(w:World)(h:0<=n/\n<=1114111)(hs:n<55296\/57343<n):
  Calls Tryz.prog 279 [(i64 n)].toArray w λ e w'=>e= .returned (str (toStr (Lib.encodeRuneZ n)))/\Ext w w':=by
 refine CW.BN Tryz.func279 U Tryz.ntmps279 (Nat.le_of_ble_eq_true U) λ Q hE=>?_
 have hS:St w nM w nM []:=St.start ⟨λ _ _ _ h=>by cases h⟩
 refine CW.weaken [0] (L':=[Y 0 (i64 n)]) ?_ U
 refine CW.sr (RL.u (.assign .c) U (RL.nil (CW.id (CW.seq ?_))))
 refine CW.sr (RL.m U U (RL.u (.lss (.t U) .c) U (RL.nil (CW.id ?_))))
 refine CW.cond rfl ?_ ?_<;>intro hb1<;>try simp only[zb]at hb1
 ·refine CW.sr (RL.m U U (RL.u (.BH (r:=n) (.t U) Tryz.underlying3 Tryz.underlying5 (λ _=>by exact Eng.wrap_u8 (by omega))) U ?_))
  refine RL.buildSlice (n:=1) (sz:=1) (e:=5) (vs:=[(0,(.int .u8 n))]) (cs:=[(.int .u8 n)]) hS (.cons (.t U) .nil) U U (λ w=>by kernel_rfl) U (λ v1 w2 M3 hS4 hle5=>?_)
  replace hS4:St w nM w2 M3 [.own 5 1 v1 (([n]:List Int)).length ((([n]:List Int)).flatMap AV)]:=hS4
  refine RL.u (.KB hS4 AX (hS4.sl (i:=0) U) (.t U) Tryz.underlying110 Tryz.underlying5 Tryz.underlying9) U (RL.a U U (RL.nil (CW.id ?_)))
  refine CW.ret (hE.r1 U U ?_)
  refine⟨?_,hS4.low⟩
  rw[show Lib.encodeRuneZ n=_ from Lib.encodeRuneZ_one (by omega) (by omega)]
 ·refine CW.skip (CW.id (CW.seq (CW.sr (RL.m U U (RL.u (.lss (.t U) .c) U (RL.nil (CW.id ?_)))))))
  refine CW.cond rfl ?_ ?_<;>intro hb2<;>try simp only[zb]at hb2
  ·refine CW.sr (RL.m U U (RL.u (.quo (.t U) .c (λ _=>by omega)) U (RL.u (.add .c (.t U) (λ _=>by omega)) U (RL.u (.BH (r:=192+(n/64)) (.t U) Tryz.underlying3 Tryz.underlying5 (λ _=>by exact Eng.wrap_u8 (by omega))) U (RL.m U U (RL.u (.rem (.t U) .c (λ _=>by omega)) U (RL.u (.add .c (.t U) (λ _=>by omega)) U (RL.u (.BH (r:=128+(n%64)) (.t U) Tryz.underlying3 Tryz.underlying5 (λ _=>by exact Eng.wrap_u8 (by omega))) U ?_))))))))
   refine RL.buildSlice (n:=2) (sz:=1) (e:=5) (vs:=[(0,(.int .u8 (192+(n/64)))),(1,(.int .u8 (128+(n%64))))]) (cs:=[(.int .u8 (192+(n/64))),(.int .u8 (128+(n%64)))]) hS (.cons (.t U) (.cons (.t U) .nil)) U U (λ w=>by kernel_rfl) U (λ v6 w7 M8 hS9 hle10=>?_)
   replace hS9:St w nM w7 M8 [.own 5 1 v6 (([192+(n/64),128+(n%64)]:List Int)).length ((([192+(n/64),128+(n%64)]:List Int)).flatMap AV)]:=hS9
   refine RL.u (.KB hS9 AX (hS9.sl (i:=0) U) (.t U) Tryz.underlying110 Tryz.underlying5 Tryz.underlying9) U (RL.a U U (RL.nil (CW.id ?_)))
   refine CW.ret (hE.r1 U U ?_)
   refine⟨?_,hS9.low⟩
   rw[show Lib.encodeRuneZ n=_ from Lib.encodeRuneZ_two (by omega) (by omega)]
  ·refine CW.skip (CW.id (CW.seq (CW.sr (RL.m U U (RL.u (.lss (.t U) .c) U (RL.nil (CW.id ?_)))))))
   refine CW.cond rfl ?_ ?_<;>intro hb3<;>try simp only[zb]at hb3
   ·refine CW.sr (RL.m U U (RL.u (.quo (.t U) .c (λ _=>by omega)) U (RL.u (.add .c (.t U) (λ _=>by omega)) U (RL.u (.BH (r:=224+(n/4096)) (.t U) Tryz.underlying3 Tryz.underlying5 (λ _=>by exact Eng.wrap_u8 (by omega))) U (RL.m U U (RL.u (.quo (.t U) .c (λ _=>by omega)) U (RL.u (.rem (.t U) .c (λ _=>by omega)) U (RL.u (.add .c (.t U) (λ _=>by omega)) U (RL.u (.BH (r:=128+((n/64)%64)) (.t U) Tryz.underlying3 Tryz.underlying5 (λ _=>by exact Eng.wrap_u8 (by omega))) U (RL.m U U (RL.u (.rem (.t U) .c (λ _=>by omega)) U (RL.u (.add .c (.t U) (λ _=>by omega)) U (RL.u (.BH (r:=128+(n%64)) (.t U) Tryz.underlying3 Tryz.underlying5 (λ _=>by exact Eng.wrap_u8 (by omega))) U ?_)))))))))))))
    refine RL.buildSlice (n:=3) (sz:=1) (e:=5) (vs:=[(0,(.int .u8 (224+(n/4096)))),(1,(.int .u8 (128+((n/64)%64)))),(2,(.int .u8 (128+(n%64))))]) (cs:=[(.int .u8 (224+(n/4096))),(.int .u8 (128+((n/64)%64))),(.int .u8 (128+(n%64)))]) hS (.cons (.t U) (.cons (.t U) (.cons (.t U) .nil))) U U (λ w=>by kernel_rfl) U (λ v11 w12 M13 hS14 hle15=>?_)
    replace hS14:St w nM w12 M13 [.own 5 1 v11 (([224+(n/4096),128+((n/64)%64),128+(n%64)]:List Int)).length ((([224+(n/4096),128+((n/64)%64),128+(n%64)]:List Int)).flatMap AV)]:=hS14
    refine RL.u (.KB hS14 AX (hS14.sl (i:=0) U) (.t U) Tryz.underlying110 Tryz.underlying5 Tryz.underlying9) U (RL.a U U (RL.nil (CW.id ?_)))
    refine CW.ret (hE.r1 U U ?_)
    refine⟨?_,hS14.low⟩
    rw[show Lib.encodeRuneZ n=_ from Lib.encodeRuneZ_three (by omega)]
   ·refine CW.skip (CW.id (CW.sr (RL.m U U (RL.u (.quo (.t U) .c (λ _=>by omega)) U (RL.u (.add .c (.t U) (λ _=>by omega)) U (RL.u (.BH (r:=240+(n/262144)) (.t U) Tryz.underlying3 Tryz.underlying5 (λ _=>by exact Eng.wrap_u8 (by omega))) U (RL.m U U (RL.u (.quo (.t U) .c (λ _=>by omega)) U (RL.u (.rem (.t U) .c (λ _=>by omega)) U (RL.u (.add .c (.t U) (λ _=>by omega)) U (RL.u (.BH (r:=128+((n/4096)%64)) (.t U) Tryz.underlying3 Tryz.underlying5 (λ _=>by exact Eng.wrap_u8 (by omega))) U (RL.m U U (RL.u (.quo (.t U) .c (λ _=>by omega)) U (RL.u (.rem (.t U) .c (λ _=>by omega)) U ?_))))))))))))))
    refine RL.u (.add .c (.t U) (λ _=>by omega)) U (RL.u (.BH (r:=128+((n/64)%64)) (.t U) Tryz.underlying3 Tryz.underlying5 (λ _=>by exact Eng.wrap_u8 (by omega))) U (RL.m U U (RL.u (.rem (.t U) .c (λ _=>by omega)) U (RL.u (.add .c (.t U) (λ _=>by omega)) U (RL.u (.BH (r:=128+(n%64)) (.t U) Tryz.underlying3 Tryz.underlying5 (λ _=>by exact Eng.wrap_u8 (by omega))) U ?_)))))
    refine RL.buildSlice (n:=4) (sz:=1) (e:=5) (vs:=[(0,(.int .u8 (240+(n/262144)))),(1,(.int .u8 (128+((n/4096)%64)))),(2,(.int .u8 (128+((n/64)%64)))),(3,(.int .u8 (128+(n%64))))]) (cs:=[(.int .u8 (240+(n/262144))),(.int .u8 (128+((n/4096)%64))),(.int .u8 (128+((n/64)%64))),(.int .u8 (128+(n%64)))]) hS (.cons (.t U) (.cons (.t U) (.cons (.t U) (.cons (.t U) .nil)))) U U (λ w=>by kernel_rfl) U (λ v16 w17 M18 hS19 hle20=>?_)
    replace hS19:St w nM w17 M18 [.own 5 1 v16 (([240+(n/262144),128+((n/4096)%64),128+((n/64)%64),128+(n%64)]:List Int)).length ((([240+(n/262144),128+((n/4096)%64),128+((n/64)%64),128+(n%64)]:List Int)).flatMap AV)]:=hS19
    refine RL.u (.KB hS19 AX (hS19.sl (i:=0) U) (.t U) Tryz.underlying110 Tryz.underlying5 Tryz.underlying9) U (RL.a U U (RL.nil (CW.id ?_)))
    refine CW.ret (hE.r1 U U ?_)
    refine⟨?_,hS19.low⟩
    rw[show Lib.encodeRuneZ n=_ from Lib.encodeRuneZ_four (by omega) (by omega)]
end Go.Proofs.YtmjpjbmeamnfpaaGreatDoor
