/-
  Parts Nst Ls Ft Nsp Fp, put together and made short by wip/py/merge.py (mini.py).
-/
import Derived.Test.YtmjpjbmeamnfpaaGreatDoorZc23
import Derived.Test.YtmjpjbmeamnfpaaGreatDoorZc28
import Derived.Test.YtmjpjbmeamnfpaaGreatDoorZc7
import Derived.Test.YtmjpjbmeamnfpaaGreatDoorZc24
import Derived.Test.YtmjpjbmeamnfpaaGreatDoorZc27
import Derived.Test.YtmjpjbmeamnfpaaGreatDoorZc0
set_option linter.unusedVariables false
set_option linter.unusedSimpArgs false
namespace Go.Eng
open Go.RowKit
def OC(m:A1)(i:Int):Tk:=⟨1,m,AO,i⟩
def TH(m:A1)(i:Int):Tk:=⟨2,m,AO,i⟩
def WQ(r:A1):Prop:= ∀c r',r=c::r'->GW c=false/\C0 (c.toNat:Int) false=false/\c≠34
theorem WQ.stop {r:A1}(h:WQ r):P3 r:=λ c r' e=>(h c r' e).1
theorem mJ{c:UInt8}(hc:c∈([40,41,91,93,123,125,58,44,124]:A1))(u:A1):AB (c::u)=(⟨1,[c],AO,0⟩,1,0):=by
 have key: ∀c∈([40,41,91,93,123,125,58,44,124]:A1),(c.toNat:Int)≠46/\BX (c::u)=[c]:=by
  intro c hc
  simp only[List.mem_cons,List.not_mem_nil,or_false]at hc
  rcases hc with rfl|rfl|rfl|rfl|rfl|rfl|rfl|rfl|rfl<;>exact⟨by decide,rfl⟩
 obtain⟨h1,h2⟩:=key c hc
 unfold AB
 rw[EI,if_neg (λ h=>h1 h.1),if_neg (λ h=>h1 h.1),h2,if_pos (by simp)]
 rfl
theorem mK{u:A1}(h: ∀c r,u=c::r->EB (c.toNat:Int)=false):AY u=[]:=by
 cases u with
 |nil=>exact HU (by rw[yZ];decide)
 |cons c r=>exact HU (by rw[EI];exact h c r U)
theorem AF8{u:A1}(hu:WQ u):AB (46::u)=(⟨1,[46],AO,0⟩,1,0):=by
 have hw:AY u=[]:=mK λ c r e=>by
  have:=(hu c r e).2.1
  unfold C0 at this
  simp only[Bool.or_eq_false_iff]at this;exact this.1
 have hq:Lib.hasPrefix u [34]=false:=by
  cases u with
  |nil=>rfl
  |cons c r=>
   have:=(hu c r U).2.2
   unfold Lib.hasPrefix
   simp[List.isPrefixOf,Ne.symm this]
 have hm:BX (46::u)=[46]:=rfl
 unfold AB
 rw[EI,P0,if_neg (λ h=>h.2 hw),if_neg (λ h=>by rw[hq]at h;exact absurd h.2 (by decide)),hm,if_pos (by simp)]
 rfl
theorem mL{w u:A1}(hw:w≠[])(h0: ∀j:Int,0<=j->j<len w->C0 (A3 w j) (j==0)=true)(hu: ∀c r,u=c::r->C0 (c.toNat:Int) false=false):AY (w++u)=w:=by
 have hl:=HC hw
 have hlu:=AA u
 have e:D6 (w++u) 0=len w:=by
  refine WB (n:=len w) (by rw[A5];omega) (λ j h1 h2=>by rw[H6 h1 h2];exact h0 j h1 h2) (λ h=>?_) 0 (Int.le_refl _) (by omega)
  rw[yY (Int.le_refl _),Int.sub_self]
  cases u with
  |nil=>rw[A5,len_nil]at h;omega
  |cons c r=>rw[EI];rw[show(len w==0)=false from by simpa using(by omega:len w≠0)];exact hu c r U
 unfold AY
 rw[e,T6]
theorem AF9{c:UInt8}{w u:A1}(h0: ∀j:Int,0<=j->j<len (c::w)->C0 (A3 (c::w) j) (j==0)=true)(hu: ∀c r,u=c::r->C0 (c.toNat:Int) false=false):AB (c::w++u)=(⟨2,c::w,AO,0⟩,len (c::w),0):=by
 have hw:=mL (u:=u) (List.cons_ne_nil c w) h0 hu
 have hl:EB (c.toNat:Int)=true:=by
  have:=h0 0 (Int.le_refl _) (by rw[A7];have:=AA w;omega)
  rw[EI]at this
  unfold C0 at this;simpa using this
 have hb:=bH hl
 have hm:BX (c::(w++u))=[]:=N9 hb
 have h46: ¬(c.toNat:Int)=46:=by
  intro e
  have:c=46:=UInt8.toNat_inj.1 (by rw[show(46:UInt8).toNat=46 from rfl];omega)
  subst this;exact absurd hb (by decide)
 unfold AB
 rw[List.cons_append,EI,if_neg (λ h=>h46 h.1),if_neg (λ h=>h46 h.1),hm,if_neg (by simp)]
 rw[<-List.cons_append,hw,if_pos (by simp)]
theorem Lx.at {s:A1}{i:Int}{u r:A1}{t:Tk}{l:List Tk}(h:At s i (u++r))(hu:u≠[])(ht:AB (u++r)=(t,len u,0))(hl:Lx s (DD s (i+len u)) l):Lx s i ({ t with pos:=i}::l):=by
 have h1:=(At.add h).2.1
 have h2:=HC hu
 have h3:=h.1
 refine .step (n:=len u) h3 (by omega) ?_ hl
 rw[h.2.2];exact ht
theorem Lx.mark {s:A1}{i:Int}{c:UInt8}{b r:A1}{l:List Tk}(h:At s i (c::(b++r)))(hc:c∈([40,41,91,93,123,125,58,44,124]:A1))(hb: ∀c∈b,GW c=true)(hr:P3 r)(hl:Lx s (i+1+len b) l):Lx s i (OC [c] i::l):=by
 have:=Lx.at (u:=[c]) (t:=⟨1,[c],AO,0⟩) h (by simp) (mJ hc _) (by rw[show len [c]=1 from rfl,At.blank (At.one h) hb hr];exact hl)
 exact this
theorem Lx.word {s:A1}{i:Int}{c:UInt8}{w b r:A1}{l:List Tk}(h:At s i (c::w++(b++r)))(h0: ∀j:Int,0<=j->j<len (c::w)->C0 (A3 (c::w) j) (j==0)=true)(hu: ∀c r',b++r=c::r'->C0 (c.toNat:Int) false=false)(hb: ∀c∈b,GW c=true)(hr:P3 r)(hl:Lx s (i+len (c::w)+len b) l):Lx s i (TH (c::w) i::l):=by
 have:=Lx.at (t:=⟨2,c::w,AO,0⟩) h (by simp) (AF9 h0 hu) (by rw[At.blank (At.add h) hb hr];exact hl)
 exact this
theorem Lx.dot {s:A1}{i:Int}{r:A1}{l:List Tk}(h:At s i (46::r))(hr:WQ r)(hl:Lx s (i+1) l):Lx s i (OC [46] i::l):=by
 have:=Lx.at (u:=[46]) (t:=⟨1,[46],AO,0⟩) h (by simp) (AF8 hr) (by rw[show len [(46:UInt8)]=1 from rfl,At.mI (At.one h) hr.stop];exact hl)
 exact this
end Go.Eng
namespace Go.Eng
open Go.RowKit
inductive LS:A1->List Tk->Prop
 |nil:LS [] []
 |blank {c:UInt8} {r:A1} {u:List Tk}:GW c=true->LS r u->LS (c::r) u
 |tok {w r:A1} {t:Tk} {u:List Tk}:w≠[]->AB (w++r)=(t,len w,0)->LS r u->LS (w++r) (t::u)
theorem AG0{s:A1}{t:Tk}{n e:Int}(h:AB s=(t,n,e)):t.pos=0:=by
 unfold AB at h
 repeat' split at h
 all_goals (simp only[Prod.mk.injEq]at h;obtain⟨rfl,_⟩:=h;rfl)
theorem LS.lx {v:A1}{u:List Tk}(h:LS v u): ∀ {s:A1} {i:Int},At s i v-> ∃l,Lx s (DD s i) l/\l.map (strip false)=u:=by
 induction h with
 |nil=>
  intro s i h
  have hl:=DV s i h.1 h.2.1
  rw[h.2.2,len_nil]at hl
  exact⟨[],by rw[sH (by omega)];exact .done h.1 (by omega),rfl⟩
 | @blank c r u hb _ ih=>
  intro s i h
  obtain⟨l,h1,h2⟩:=ih (At.one h)
  refine⟨l,?_,h2⟩
  rw[<-sG h.1 h.lt (by rw[h.byte];exact hb)];exact h1
 | @tok w r t u hw ht _ ih=>
  intro s i h
  obtain⟨l,h1,h2⟩:=ih (At.add h)
  have hl:=HC hw
  have hnb:=zN (s:=w++r) (by rw[A5];have:=AA r;omega) ht
  have hst:P3 (w++r):=λ c r' e=>by rw[e,EI]at hnb;exact hnb
  rw[At.mI h hst]
  refine⟨_,Lx.at h hw ht h1,?_⟩
  rw[List.map_cons,h2]
  congr 1
  have:=AG0 ht
  cases t;simp only at this;subst this;rfl
theorem LS.lex {s:A1}{u:List Tk}(h:LS s u): ∃l,CF s=(l++[G4 s],0,0)/\l.map (strip false)=u:=by
 obtain⟨l,h1,h2⟩:=h.lx (s:=s) (i:=0) ⟨Int.le_refl 0,AA s,rfl⟩
 exact⟨l,h1.lex,h2⟩
def FY(r:A1):Prop:=r=[]\/ ∃c r',r=c::r'/\M6 (c.toNat:Int)=true
theorem FY.stop {r:A1}(h:FY r):Stop [] r:=by
 rcases h with h|⟨c,r',rfl,h⟩
 ·exact .inl h
 ·exact .inr (.inl ⟨by simp,by rw[EI];exact h⟩)
theorem DR{c:UInt8}{r:A1}(h:M6 (c.toNat:Int)=true):FY (c::r):=.inr ⟨c,r,rfl,h⟩
theorem LS.of {t:Tk}(h:F1 t=true)(hp:t.pos=0){r:A1}{u:List Tk}(hr:FY r)(hl:LS r u):LS (PU t++r) (t::u):=by
 obtain⟨h1,h2⟩:=zU h (r:=[]) (.inl rfl)
 have:=kN (v':=r) h2 h1 hr.stop
 have e: { t with pos:=0}=t:=by cases t;simp only at hp;subst hp;rfl
 rw[e]at this
 exact .tok h2 this hl
theorem LS.mark {c:UInt8}(hc:c∈([40,41,91,93,123,125,58,44,124]:A1)){r:A1}{u:List Tk}(hl:LS r u):LS (c::r) (OC [c] 0::u):=
 .tok (w:=[c]) (by simp) (mJ hc r) hl
theorem LS.bl {r:A1}{u:List Tk}(hl:LS r u):LS (32::r) u:=.blank U hl
def cB(r:A1):Prop:= ∀c r',r=c::r'->C0 (c.toNat:Int) false=false/\c≠34
theorem AG1{u:A1}(hu:cB u):AB (46::u)=(⟨1,[46],AO,0⟩,1,0):=by
 have hw:AY u=[]:=mK λ c r e=>by
  have:=(hu c r e).1
  unfold C0 at this
  simp only[Bool.or_eq_false_iff]at this;exact this.1
 have hq:Lib.hasPrefix u [34]=false:=by
  cases u with
  |nil=>rfl
  |cons c r=>
   have:=(hu c r U).2
   unfold Lib.hasPrefix
   simp[List.isPrefixOf,Ne.symm this]
 have hm:BX (46::u)=[46]:=rfl
 unfold AB
 rw[EI,P0,if_neg (λ h=>h.2 hw),if_neg (λ h=>by rw[hq]at h;exact absurd h.2 (by decide)),hm,if_pos (by simp)]
 rfl
theorem FY.nw {r:A1}(h:FY r):cB r:=by
 intro c r' e
 rcases h with h|⟨c2,r2,rfl,h⟩
 ·rw[h]at e;cases e
 ·obtain⟨rfl,rfl⟩:=List.cons.inj e
  have:=bJ h
  refine⟨kK h,λ e=>?_⟩
  subst e;exact this.2 rfl
theorem LS.dot {r:A1}{u:List Tk}(hr:cB r)(hl:LS r u):LS (46::r) (OC [46] 0::u):=.tok (w:=[46]) (by simp) (AG1 hr) hl
def P4(s:A1):Tk:=⟨3,s,AO,0⟩
theorem AG2{s:A1}(h:D7 s=true):s≠[]/\ ∀j:Int,0<=j->j<len s->C0 (A3 s j) (j==0)=true:=QN.1 h
theorem LS.field {s r:A1}{u:List Tk}(hs:E6 s=true)(hr: ∀c r',r=c::r'->C0 (c.toNat:Int) false=false)(hl:LS r u):LS ((46::DE s)++r) (P4 s::u):=by
 refine .tok (by simp) ?_ hl
 unfold DE
 by_cases h:D7 s=true
 ·rw[if_pos h]
  obtain⟨h1,h2⟩:=AG2 h
  have hw:=mL h1 h2 hr
  unfold AB
  rw[List.cons_append,EI,P0,hw,if_pos ⟨rfl,h1⟩,A7,Int.add_comm];rfl
 ·rw[if_neg h,<-a8 hs]
  have hq:=l6 hs r
  obtain⟨q,hqe⟩:=lE s
  have hw:AY (A9 s++r)=[]:=by rw[hqe];exact HU (by rw[List.cons_append,EI];rfl)
  have hpre:Lib.hasPrefix (A9 s++r) [34]=true:=by rw[hqe];rfl
  unfold AB
  rw[List.cons_append,EI,P0,hw,if_neg (λ x=>x.2 U),if_pos ⟨rfl,hpre⟩,hq,A7,Int.add_comm];rfl
theorem LS.text {s r:A1}{u:List Tk}(hs:E6 s=true)(hr:FY r)(hl:LS r u):LS (IU s++r) (⟨4,s,AO,0⟩::u):=by
 have:=LS.of (t:=⟨4,s,AO,0⟩) (by unfold F1;simp[hs]) U hr hl
 rw[show PU ⟨4,s,AO,0⟩=A9 s from rfl,a8 hs]at this;exact this
theorem LS.num {c:Nd}{r:A1}{u:List Tk}(hc:GK c=true)(hr:FY r)(hl:LS r u):LS (CP c++r) (⟨5,[],c,0⟩::u):=by
 have:=LS.of (t:=⟨5,[],c,0⟩) (by unfold F1;simp[hc]) U hr hl
 exact this
theorem LS.word {s r:A1}{u:List Tk}(hs:D7 s=true)(hr:FY r)(hl:LS r u):LS (s++r) (TH s 0::u):=by
 have:=LS.of (t:=TH s 0) (by unfold F1 TH;simp[hs]) U hr hl
 exact this
theorem LS.sign {s r:A1}{u:List Tk}(hs:s∈CH)(hr:FY r)(hl:LS r u):LS (s++r) (OC s 0::u):=by
 have key: ∀s∈CH,F1 (OC s 0)=true:=by decide+kernel
 have:=LS.of (t:=OC s 0) (key s hs) U hr hl
 exact this
theorem AG3(s:A1):NT s=BE s:=by
 unfold NT BE
 congr 1
 funext n c
 rw[Int.mul_comm]
theorem mM: ∀(n:Int),0<=n->BE (Lib.itoa n)=n/\CJ (Lib.itoa n)/\Lib.itoa n≠[]/\(0<n->A3 (Lib.itoa n) 0≠48)/\(n<10->len (Lib.itoa n)=1):=by
 intro n
 induction h:n.toNat using Nat.strongRecOn generalizing n with
 |_ m ih=>
  intro h0
  have hs:=OL h0
  have hd:toStr [48+n%10]=[UInt8.ofNat (48+n%10).toNat]:=RT _ _ U
  have hb:((UInt8.ofNat (48+n%10).toNat).toNat:Int)=48+n%10:=JZ (by omega) (by omega)
  have hf:C7 (UInt8.ofNat (48+n%10).toNat)=true:=by unfold C7 BM;rw[hb];simp;omega
  rw[hd]at hs
  by_cases h10:10<=n
  ·rw[if_pos h10]at hs
   obtain⟨g1,g2,g3,g4,g5⟩:=ih (n/10).toNat (by omega) (n/10) rfl (by omega)
   rw[hs]
   refine⟨?_,g2.app (λ b hb2=>by rw[List.mem_singleton.1 hb2];exact hf),by simp,λ _=>?_,λ h=>by omega⟩
   ·rw[P2,g1,hb];omega
   ·rw[H6 (Int.le_refl 0) (HC g3)];exact g4 (by omega)
  ·rw[if_neg h10,List.nil_append]at hs
   rw[hs]
   refine⟨?_,λ b hb2=>by rw[List.mem_singleton.1 hb2];exact hf,by simp,λ hp=>?_,λ _=>rfl⟩
   ·show BE ([]++[_])=n
    rw[P2,hb,show BE []=0 from rfl];omega
   ·rw[EI,hb];omega
theorem cC{n:Int}(h0:0<=n)(h1:n<=1000000):len (Lib.itoa n)<=7:=by
 have step: ∀k:Int,0<=k->len (Lib.itoa k)=(if 10<=k then len (Lib.itoa (k/10))else 0)+1:=λ k hk=>by
  rw[OL hk,A5]
  have:len (toStr [48+k%10])=1:=rfl
  rw[this];split<;>rfl
 rw[step n h0];split
 ·rw[step _ (by omega)];split
  ·rw[step _ (by omega)];split
   ·rw[step _ (by omega)];split
    ·rw[step _ (by omega)];split
     ·rw[step _ (by omega)];split
      ·rw[step _ (by omega)];split
       ·omega
       ·omega
      ·omega
     ·omega
    ·omega
   ·omega
  ·omega
 ·omega
def JA(n:Int):Nd:=(C3 (Lib.itoa n)).1
theorem AG4: ∀(g:A1),g≠[]->A3 g 0≠48-> ∃s k,0<=k/\g=s++BF k/\s≠[]/\A3 s (len s-1)≠48:=by
 intro g
 induction g using WN with
 |h0=>intro h _;exact absurd rfl h
 |hs a c ih=>
  intro _ h0
  by_cases hc:c=48
  ·by_cases ha:a=[]
   ·subst ha;subst hc;exact absurd rfl h0
   ·rw[H6 (Int.le_refl 0) (HC ha)]at h0
    obtain⟨s,k,hk,e1,e2,e3⟩:=ih ha h0
    exact⟨s,k+1,by omega,by rw[e1,hc,ZT hk,List.append_assoc],e2,e3⟩
  ·refine⟨a++[c],0,Int.le_refl _,by simp[BF],by simp,λ e=>hc ?_⟩
   rw[A5,show len [c]=1 from rfl,show len a+1-1=len a by omega]at e
   have:=W9 (u:=a) (v:=[c]) (k:=0) (Int.le_refl 0)
   rw[Int.add_zero,EI]at this
   exact UInt8.toNat_inj.1 (by have:(48:UInt8).toNat=48:=rfl;omega)
theorem mN{n:Int}(h0:0<=n)(h1:n<=1000000):C3 (Lib.itoa n)=(JA n,0,0)/\(JA n).neg=false/\0<=(JA n).e/\len (JA n).s+(JA n).e<=7/\NT ((JA n).s++List.replicate (JA n).e.toNat 48)=n:=by
 obtain⟨g1,g2,g3,g4,g5⟩:=mM n h0
 have hr:=kT (s:=Lib.itoa n) (w:=Lib.itoa n) (neg:=false) U g2 g3 (λ h=>by
  rcases Int.lt_or_eq_of_le h0 with h2|h2
  ·exact g4 h2 h.2
  ·subst h2;have:=g5 (by omega);omega)
 rcases Int.lt_or_eq_of_le h0 with h2|h2
 ·obtain⟨s,k,hk,e1,e2,e3⟩:=AG4 _ g3 (g4 h2)
  have hl:=cC h0 h1
  have hlz:len (BF k)=k:=by unfold BF len;rw[List.length_replicate];omega
  have hls:=A5 s (BF k)
  rw[<-e1,hlz]at hls
  have hsl:=AA s
  have hd:AZ (Lib.itoa n)=s++BF k:=by rw[WH (g4 h2),e1]
  have hm:=WI (neg:=false) (e0:=0) (e:=k) g2 hd hk e2 e3 (by omega) (by omega) (by omega) (by omega) (by omega)
  have hfn:C3 (Lib.itoa n)=(⟨3,0,[],s,false,k⟩,0,0):=by
   rw[hr];unfold FT
   rw[if_neg (by decide),show(0:Int)+1*BE (AZ [])=0 from rfl,hm]
  have hnd:JA n=⟨3,0,[],s,false,k⟩:=by unfold JA;rw[hfn]
  rw[hnd]
  refine⟨hfn,rfl,hk,by show len s+k<=7;omega,?_⟩
  show NT (s++BF k)=n
  rw[<-e1,AG3,g1]
 ·subst h2
  have:Lib.itoa 0=[48]:=by decide+kernel
  unfold JA
  rw[this]
  exact⟨by decide+kernel,by decide+kernel,by decide+kernel,by decide+kernel,by decide+kernel⟩
theorem LS.int {n:Int}(h0:0<=n)(h1:n<=1000000){r:A1}{u:List Tk}(hr:FY r)(hl:LS r u):LS (Lib.itoa n++r) (⟨5,[],JA n,0⟩::u):=by
 obtain⟨g1,g2,g3,g4,g5⟩:=mM n h0
 have hs:=(mN h0 h1).1
 refine .tok g3 ?_ hl
 obtain⟨a,q,e⟩:=List.exists_cons_of_ne_nil g3
 have ha:=g2 a (by rw[e];simp)
 have hfig:BM (a.toNat:Int)=true:=ha
 have hm:=bI (a:=a) (.inr hfig)
 have h46: ¬(a.toNat:Int)=46/\ ¬(a.toNat:Int)=34:=by unfold BM at hfig;simp only[Bool.and_eq_true,decide_eq_true_eq]at hfig;omega
 have hrun:runN (Lib.itoa n++r)=Lib.itoa n:=by
  refine bG (v:=[]) ?_ hr.stop
  rw[List.append_nil,RW]
  refine bB λ b hb=>?_
  have:=g2 b hb
  unfold C7 BM at this
  simp only[Bool.and_eq_true,decide_eq_true_eq]at this
  rw[VS];omega
 unfold AB
 have hb0:A3 (Lib.itoa n++r) 0=(a.toNat:Int):=by rw[e];exact EI a _
 rw[hb0,if_neg (λ x=>h46.1 x.1),if_neg (λ x=>h46.1 x.1)]
 rw[show BX (Lib.itoa n++r)=[]from by rw[e];exact N9 hm.1,if_neg (by simp),HU (by rw[hb0];exact hm.2),if_neg (by simp),if_neg h46.2,if_pos (.inr hfig),hrun,hs,if_neg (by simp)]
end Go.Eng
namespace Go.Eng
open Go.RowKit
inductive D4:Tm->List Tf->Prop
 |id (n:A1):D4 ⟨0,0,n,[],0,AO⟩ []
 |field (n s:A1):E6 s=true->D4 ⟨1,0,n,s,0,AO⟩ []
 |part (n:A1) (k:Int):0<=k->k<=1000000->D4 ⟨2,0,n,[],k,AO⟩ []
 |tail (n:A1) (k:Int):0<=k->k<=1000000->D4 ⟨3,0,n,[],k,AO⟩ []
 |pipe (n:A1) (a b:Tf):D4 ⟨4,0,n,[],0,AO⟩ [a,b]
 |map (n:A1) (a:Tf):D4 ⟨5,0,n,[],0,AO⟩ [a]
 |vals (n:A1) (a:Tf):D4 ⟨6,0,n,[],0,AO⟩ [a]
 |wher (n:A1) (a:Tf):D4 ⟨7,0,n,[],0,AO⟩ [a]
 |obj (n:A1) (ps:List Tf):D4 ⟨8,0,n,[],0,AO⟩ ps
 |tup (n:A1) (ps:List Tf):D4 ⟨9,0,n,[],0,AO⟩ ps
 |OY (n:A1):D4 ⟨10,0,n,[],0,AO⟩ []
 |fromE (n:A1):D4 ⟨11,0,n,[],0,AO⟩ []
 |group (n s:A1):K0 s=true->D4 ⟨12,0,n,s,0,AO⟩ []
 |sort (n s:A1):K0 s=true->D4 ⟨13,0,n,s,0,AO⟩ []
 |rev (n:A1):D4 ⟨14,0,n,[],0,AO⟩ []
 |del (n s:A1):K0 s=true->D4 ⟨15,0,n,s,0,AO⟩ []
 |cmp (n s:A1) (k:Int) (c:Nd):K0 s=true->0<=k->k<=5->J9 c=true->D4 ⟨16,0,n,s,k,c⟩ []
 |and (n:A1) (a b:Tf):D4 ⟨17,0,n,[],0,AO⟩ [a,b]
 |or (n:A1) (a b:Tf):D4 ⟨18,0,n,[],0,AO⟩ [a,b]
 |not (n:A1) (a:Tf):D4 ⟨19,0,n,[],0,AO⟩ [a]
theorem TI{α:Type}{l:List α}(h:len l=0):l=[]:=by
 cases l with
 |nil=>rfl
 |cons a l=>rw[A7]at h;have:=AA l;omega
theorem cE{α:Type}{l:List α}(h:len l=1): ∃a,l=[a]:=by
 match l,h with
 |[],h=>cases h
 |[a],_=>exact⟨a,rfl⟩
 |a::b::r,h=>rw[A7,A7]at h;have:=AA r;omega
theorem AG5{α:Type}{l:List α}(h:len l=2): ∃a b,l=[a,b]:=by
 match l,h with
 |[],h=>cases h
 |[a],h=>cases h
 |[a,b],_=>exact⟨a,b,rfl⟩
 |a::b::c::r,h=>rw[A7,A7,A7]at h;have:=AA r;omega
theorem K3{x:Tf}(h:x.BP):D4 x.t x.ps:=by
 have hp:=h.plain
 obtain⟨⟨op,many,name,s,n,c⟩,ps⟩:=x
 have hz:=h.zm
 rw[Tf.zm]at hz
 have hm:many=0:=hz.1
 subst hm
 unfold Tf.node Tf.t Tf.ps EP EJ at hp
 dsimp only at hp
 show D4 ⟨op,0,name,s,n,c⟩ ps
 split at hp
 ·rename_i ho
  simp only[Bool.and_eq_true,decide_eq_true_eq,Tm.mk.injEq,true_and]at hp
  obtain⟨⟨rfl,rfl,rfl⟩,hl⟩:=hp
  rw[TI hl]
  rcases ho with rfl|rfl|rfl|rfl
  ·exact .id _
  ·exact .OY _
  ·exact .fromE _
  ·exact .rev _
 split at hp
 ·rename_i ho
  simp only[Bool.and_eq_true,decide_eq_true_eq,Tm.mk.injEq,true_and]at hp
  obtain⟨⟨⟨rfl,rfl⟩,hl⟩,hu⟩:=hp
  rw[TI hl,ho]
  exact .field _ _ hu
 split at hp
 ·rename_i ho
  simp only[Bool.and_eq_true,decide_eq_true_eq,Tm.mk.injEq,true_and]at hp
  obtain⟨⟨⟨⟨rfl,rfl⟩,hl⟩,h0⟩,h1⟩:=hp
  rw[TI hl]
  rcases ho with rfl|rfl
  ·exact .part _ _ h0 h1
  ·exact .tail _ _ h0 h1
 split at hp
 ·rename_i ho
  simp only[Bool.and_eq_true,decide_eq_true_eq,Tm.mk.injEq,true_and]at hp
  obtain⟨⟨rfl,rfl,rfl⟩,hl⟩:=hp
  obtain⟨a,b,rfl⟩:=AG5 hl
  rcases ho with rfl|rfl|rfl
  ·exact .pipe _ _ _
  ·exact .and _ _ _
  ·exact .or _ _ _
 split at hp
 ·rename_i ho
  simp only[Bool.and_eq_true,decide_eq_true_eq,Tm.mk.injEq,true_and]at hp
  obtain⟨⟨rfl,rfl,rfl⟩,hl⟩:=hp
  obtain⟨a,rfl⟩:=cE hl
  rcases ho with rfl|rfl|rfl|rfl
  ·exact .map _ _
  ·exact .vals _ _
  ·exact .wher _ _
  ·exact .not _ _
 split at hp
 ·rename_i ho
  simp only[Bool.and_eq_true,decide_eq_true_eq,Tm.mk.injEq,true_and]at hp
  obtain⟨⟨rfl,rfl,rfl⟩,hl⟩:=hp
  rcases ho with rfl|rfl
  ·exact .obj _ _
  ·exact .tup _ _
 split at hp
 ·rename_i ho
  simp only[Bool.and_eq_true,decide_eq_true_eq,Tm.mk.injEq,true_and]at hp
  obtain⟨⟨⟨rfl,rfl⟩,hl⟩,hu⟩:=hp
  rw[TI hl]
  rcases ho with rfl|rfl|rfl
  ·exact .group _ _ hu
  ·exact .sort _ _ hu
  ·exact .del _ _ hu
 split at hp
 ·rename_i ho
  simp only[Bool.and_eq_true,decide_eq_true_eq,Tm.mk.injEq,true_and]at hp
  obtain⟨⟨⟨⟨hl,hu⟩,h0⟩,h1⟩,hc⟩:=hp
  rw[TI hl,ho]
  exact .cmp _ _ _ _ hu h0 h1 hc
 ·cases hp
abbrev A6(m:A1):Tk:=OC m 0
abbrev BQ(m:A1):Tk:=TH m 0
def NB(s:A1):Tk:=if D7 s then BQ s else⟨4,s,AO,0⟩
def NC(n:Int):Tk:=⟨5,[],JA n,0⟩
def HV(x:Sp):List Tk:=if x.part then [A6 [91],NC x.n,A6 [93]]else [P4 x.name]
def ET(p:List Sp):List Tk:=(if p=[]\/(A2 p 0).part=true then [A6 [46]]else [])++(p.map HV).flatten
def MC(c:Nd):Tk:=if c.kind=0 then BQ LG else if c.kind=1 then BQ LF else if c.kind=2 then BQ LD else if c.kind=3 then⟨5,[],c,0⟩else⟨4,c.s,AO,0⟩
def CO(o:Int)(l:List Tk):List Tk:=if GR o then [A6 [40]]++l++[A6 [41]]else l
mutual
def AN:Tf->List Tk
 | .mk t ps=>
  if t.op=0 then [A6 [46]]
  else if t.op=1 then [P4 t.s]
  else if t.op=2 then [A6 [46],A6 [91],NC t.n,A6 [93]]
  else if t.op=3 then [A6 [46],A6 [91],NC t.n,A6 [58],A6 [93]]
  else if t.op=4 then tkP [A6 [124]] ps
  else if t.op=8 then [A6 [123]]++C8 true [A6 [44]] true ps++[A6 [125]]
  else if t.op=9 then [A6 [91]]++C8 false [A6 [44]] true ps++[A6 [93]]
  else if t.op=10 then [BQ I8]
  else if t.op=11 then [BQ IY]
  else if t.op=14 then [BQ JK]
  else if t.op=16 then ET (EF t.s).1++[A6 (A2 CH t.n),MC t.c]
  else if t.op=17 then C8 false [BQ IX] true ps
  else if t.op=18 then C8 false [BQ IW] true ps
  else if t.op=19 then [A6 [40]]++mO ps++[A6 [124],BQ HL,A6 [41]]
  else [BQ (C6 t.op),A6 [40]]++(if len ps=1 then mO ps else ET (EF t.s).1)++[A6 [41]]
def C8:Bool->List Tk->Bool->List Tf->List Tk
 |_,_,_,[]=>[]
 |nm,bt,fst,x::l=>(if fst then []else bt)++(if nm then [NB x.t.name,A6 [58]]else [])++CO x.t.op (AN x)++C8 nm bt false l
def mO:List Tf->List Tk
 |[]=>[]
 |x::_=>AN x
def tkP:List Tk->List Tf->List Tk
 |_,[]=>[]
 |bt,x::l=>CO x.t.op (AN x)++bt++tk1 l
def tk1:List Tf->List Tk
 |[]=>[]
 |x::_=>AN x
end
theorem R0: ∀o∈([5,6,7,12,13,15]:List Int),D7 (C6 o)=true:=by decide+kernel
theorem mP:D7 I8=true/\D7 IY=true/\D7 JK=true/\D7 IX=true/\D7 IW=true/\D7 HL=true/\D7 LG=true/\D7 LF=true/\D7 LD=true:=by decide+kernel
theorem LS.path {p:List Sp}(hp: ∀x∈p,x.BP){r:A1}{u:List Tk}(hr:FY r)(hl:LS r u):LS (K1 p++r) (ET p++u):=by
 have steps: ∀p:List Sp,(∀x∈p,x.BP)->LS ((p.map Sp.KW).flatten++r) ((p.map HV).flatten++u)/\(∀c r',(p.map Sp.KW).flatten++r=c::r'->C0 (c.toNat:Int) false=false):=by
  intro p
  induction p with
  |nil=>intro _;exact⟨hl,λ c r' e=>(hr.nw c r' e).1⟩
  |cons x p ih=>
   intro hp
   obtain⟨h1,h2⟩:=ih λ y hy=>hp y (List.mem_cons_of_mem _ hy)
   have hx:=hp x List.mem_cons_self
   rw[List.map_cons,List.map_cons,List.flatten_cons,List.flatten_cons,List.append_assoc,List.append_assoc]
   unfold Sp.KW HV
   by_cases hpt:x.part=true
   ·rw[if_pos hpt,if_pos hpt]
    obtain⟨_,h3,h4⟩:=hx.1 hpt
    refine⟨?_,λ c r' e=>?_⟩
    ·rw[List.append_assoc,List.append_assoc]
     exact .mark (by decide) (.int h3 h4 (DR U) (.mark (by decide) h1))
    ·rw[<-(List.cons.inj e).1];rfl
   ·rw[if_neg hpt,if_neg hpt]
    refine⟨?_,λ c r' e=>?_⟩
    ·exact LS.field (hx.2 (by simpa using hpt)).2 h2 h1
    ·rw[<-(List.cons.inj e).1];rfl
 obtain⟨h1,h2⟩:=steps p hp
 unfold K1 ET
 rw[List.append_assoc,List.append_assoc]
 split
 ·rename_i hc
  refine LS.dot ?_ h1
  rcases hc with rfl|hc
  ·exact hr.nw
  ·cases p with
   |nil=>exact hr.nw
   |cons x p=>
    have hpt:x.part=true:=hc
    intro c r' e
    rw[List.map_cons,List.flatten_cons]at e
    unfold Sp.KW at e
    rw[if_pos hpt]at e
    rw[<-(List.cons.inj e).1];decide
 ·exact h1
theorem cF{c:Nd}(h:J9 c=true):c=⟨0,0,[],[],false,0⟩\/c=⟨1,0,[],[],false,0⟩\/c=⟨2,0,[],[],false,0⟩\/(c.kind=3/\GK c=true)\/(∃s,c=⟨4,0,[],s,false,0⟩/\E6 s=true):=by
 unfold J9 at h
 simp only[Bool.and_eq_true,decide_eq_true_eq]at h
 obtain⟨hk,⟨hn,hm⟩,hpl⟩:=h
 have hbare:J8 c=c:=by unfold J8;cases c;simp only at hn;subst hn;rfl
 unfold II at hpl
 rw[hbare]at hpl
 split at hpl
 ·rename_i h3
  have hc:=of_decide_eq_true hpl
  rcases h3 with h3|h3|h3<;>rw[h3]at hc
  ·exact .inl hc
  ·exact .inr (.inl hc)
  ·exact .inr (.inr (.inl hc))
 split at hpl
 ·rename_i h3;exact .inr (.inr (.inr (.inl ⟨h3,hpl⟩)))
 split at hpl
 ·rename_i h3
  rw[Bool.and_eq_true]at hpl
  have hc:=of_decide_eq_true hpl.2
  rw[h3]at hc
  exact .inr (.inr (.inr (.inr ⟨c.s,hc,hpl.1⟩)))
 split at hpl
 ·omega
 ·cases hpl
theorem LS.AG8 {c:Nd}(h:J9 c=true){r:A1}{u:List Tk}(hr:FY r)(hl:LS r u):LS (H9 c++r) (MC c::u):=by
 obtain⟨_,_,_,_,_,_,w1,w2,w3⟩:=mP
 rcases cF h with rfl|rfl|rfl|⟨h3,h4⟩|⟨s,rfl,hu⟩
 ·exact LS.word w1 hr hl
 ·exact LS.word w2 hr hl
 ·exact LS.word w3 hr hl
 ·unfold H9 MC
  rw[h3]
  exact LS.num h4 hr hl
 ·exact LS.text hu hr hl
theorem LS.nm {s:A1}(h:E6 s=true){r:A1}{u:List Tk}(hr:FY r)(hl:LS r u):LS (DE s++r) (NB s::u):=by
 unfold DE NB
 split
 ·rename_i hw;exact LS.word hw hr hl
 ·exact LS.text h hr hl
def L0(x:Tf):Prop:= ∀r u,FY r->LS r u->LS (B4 x++r) (AN x++u)
theorem L0.in {x:Tf}(h:L0 x){o:Int}{r:A1}{u:List Tk}(hr:FY r)(hl:LS r u):LS (FW o (B4 x)++r) (CO o (AN x)++u):=by
 unfold FW CO
 split
 ·rw[List.append_assoc,List.append_assoc,List.append_assoc,List.append_assoc]
  exact .mark (by decide) (h _ _ (DR U) (.mark (by decide) hl))
 ·exact h r u hr hl
theorem L0.join {nm:Bool}{bt:A1}{btK:List Tk}(hb: ∀r u,LS r u->LS (bt++r) (btK++u))(hs: ∀r,FY (bt++r)){r:A1}{u:List Tk}(hr:FY r)(hl:LS r u): ∀(l:List Tf) (fst:Bool),(∀x∈l,L0 x)->(nm=true-> ∀x∈l,E6 x.t.name=true)->
  LS (D3 nm bt fst l++r) (C8 nm btK fst l++u)/\(fst=false->FY (D3 nm bt fst l++r))
 |[],fst,_,_=>by rw[D3,C8];exact⟨hl,λ _=>hr⟩
 |x::l,fst,hx,hn=>by
  obtain⟨h1,h2⟩:=L0.join hb hs hr hl l false (λ y hy=>hx y (List.mem_cons_of_mem _ hy)) (λ e y hy=>hn e y (List.mem_cons_of_mem _ hy))
  have hin:=(hx x List.mem_cons_self).in (o:=x.t.op) (h2 U) h1
  have hnm:LS ((if nm=true then DE x.t.name++[58,32]else [])++(FW x.t.op (B4 x)++(D3 nm bt false l++r))) ((if nm=true then [NB x.t.name,A6 [58]]else [])++(CO x.t.op (AN x)++(C8 nm btK false l++u))):=by
   split
   ·rename_i e
    rw[List.append_assoc]
    exact LS.nm (hn e x List.mem_cons_self) (DR U) (.mark (by decide) (.bl hin))
   ·exact hin
  rw[D3,C8]
  refine⟨?_,λ e=>?_⟩
  ·simp only[List.append_assoc]
   split
   ·exact hnm
   ·exact hb _ _ hnm
  ·subst e
   simp only[List.append_assoc]
   exact hs _
theorem AG9: ∀(n:Nat) (x:Tf),x.size<=n->x.BP->L0 x:=by
 intro n
 induction n with
 |zero=>intro x h;have:=x.size_pos;omega
 |succ n ih=>
  intro x hn hg
  have hk:=hg.kids
  have hd:=hg.IK
  have hv:=K3 hg
  obtain⟨t,ps⟩:=x
  have hsz: ∀y∈ps,y.size<=n:=λ y hy=>by have:=MB hy;rw[Tf.size]at hn;omega
  have hL: ∀y∈ps,L0 y:=λ y hy=>ih y (hsz y hy) (hk y hy)
  obtain⟨w1,w2,w3,w4,w5,w6,_,_,_⟩:=mP
  intro r u hr hl
  have hv:D4 t ps:=hv
  cases hv with
  |id nm=>exact LS.dot hr.nw hl
  |field nm s hu=>exact LS.field hu (λ c r' e=>(hr.nw c r' e).1) hl
  |part nm k h0 h1=>
   refine LS.dot (λ c r' e=>by rw[<-(List.cons.inj e).1];decide) (.mark (by decide) ?_)
   show LS (Lib.itoa k++[93]++r) _
   rw[List.append_assoc]
   exact .int h0 h1 (DR U) (.mark (by decide) hl)
  |tail nm k h0 h1=>
   refine LS.dot (λ c r' e=>by rw[<-(List.cons.inj e).1];decide) (.mark (by decide) ?_)
   show LS (Lib.itoa k++[58,93]++r) _
   rw[List.append_assoc]
   exact .int h0 h1 (DR U) (.mark (by decide) (.mark (by decide) hl))
  |pipe nm a b=>
   show LS (FW a.t.op (B4 a)++[32,124,32]++B4 b++r) (CO a.t.op (AN a)++[A6 [124]]++AN b++u)
   rw[List.append_assoc,List.append_assoc,List.append_assoc,List.append_assoc]
   exact(hL a (by simp)).in (DR U) (.bl (.mark (by decide) (.bl (hL b (by simp) r u hr hl))))
  |map nm a=>
   show LS (C6 5++[40]++B4 a++[41]++r) ([BQ (C6 5),A6 [40]]++AN a++[A6 [41]]++u)
   simp only[List.append_assoc]
   exact .word (R0 5 (by decide)) (DR U) (.mark (by decide) (hL a (by simp) _ _ (DR U) (.mark (by decide) hl)))
  |vals nm a=>
   show LS (C6 6++[40]++B4 a++[41]++r) ([BQ (C6 6),A6 [40]]++AN a++[A6 [41]]++u)
   simp only[List.append_assoc]
   exact .word (R0 6 (by decide)) (DR U) (.mark (by decide) (hL a (by simp) _ _ (DR U) (.mark (by decide) hl)))
  |wher nm a=>
   show LS (C6 7++[40]++B4 a++[41]++r) ([BQ (C6 7),A6 [40]]++AN a++[A6 [41]]++u)
   simp only[List.append_assoc]
   exact .word (R0 7 (by decide)) (DR U) (.mark (by decide) (hL a (by simp) _ _ (DR U) (.mark (by decide) hl)))
  |obj nm ps=>
   show LS ([123]++D3 true [44,32] true ps++[125]++r) ([A6 [123]]++C8 true [A6 [44]] true ps++[A6 [125]]++u)
   simp only[List.append_assoc]
   refine .mark (by decide) (L0.join (λ r u h=>.mark (by decide) (.bl h)) (λ r=>DR U) (DR U) (.mark (by decide) hl) ps true hL (λ _ y hy=>?_)).1
   obtain⟨a,b,e⟩:=List.append_of_mem hy
   exact(hd a y b e).u U
  |tup nm ps=>
   show LS ([91]++D3 false [44,32] true ps++[93]++r) ([A6 [91]]++C8 false [A6 [44]] true ps++[A6 [93]]++u)
   simp only[List.append_assoc]
   exact .mark (by decide) (L0.join (λ r u h=>.mark (by decide) (.bl h)) (λ r=>DR rfl) (DR rfl) (.mark (by decide) hl) ps true hL (λ e=>by cases e)).1
  |OY nm=>exact .word w1 hr hl
  |fromE nm=>exact .word w2 hr hl
  |rev nm=>exact .word w3 hr hl
  |group nm s hp=>
   obtain⟨p,_,hpg,hs,hpe⟩:=QT hp
   show LS (C6 12++[40]++s++[41]++r) ([BQ (C6 12),A6 [40]]++ET (EF s).1++[A6 [41]]++u)
   rw[hpe,hs]
   simp only[List.append_assoc]
   exact .word (R0 12 (by decide)) (DR U) (.mark (by decide) (.path hpg (DR U) (.mark (by decide) hl)))
  |sort nm s hp=>
   obtain⟨p,_,hpg,hs,hpe⟩:=QT hp
   show LS (C6 13++[40]++s++[41]++r) ([BQ (C6 13),A6 [40]]++ET (EF s).1++[A6 [41]]++u)
   rw[hpe,hs]
   simp only[List.append_assoc]
   exact .word (R0 13 (by decide)) (DR U) (.mark (by decide) (.path hpg (DR U) (.mark (by decide) hl)))
  |del nm s hp=>
   obtain⟨p,_,hpg,hs,hpe⟩:=QT hp
   show LS (C6 15++[40]++s++[41]++r) ([BQ (C6 15),A6 [40]]++ET (EF s).1++[A6 [41]]++u)
   rw[hpe,hs]
   simp only[List.append_assoc]
   exact .word (R0 15 (by decide)) (DR U) (.mark (by decide) (.path hpg (DR U) (.mark (by decide) hl)))
  |cmp nm s k c hp h0 h5 hc=>
   obtain⟨p,_,hpg,hs,hpe⟩:=QT hp
   show LS (s++[32]++A2 CH k++[32]++H9 c++r) (ET (EF s).1++[A6 (A2 CH k),MC c]++u)
   rw[hpe,hs]
   simp only[List.append_assoc]
   have hm:A2 CH k∈CH:=by
    have:k=0\/k=1\/k=2\/k=3\/k=4\/k=5:=by omega
    rcases this with rfl|rfl|rfl|rfl|rfl|rfl<;>decide
   exact .path hpg (DR U) (.bl (.sign hm (DR U) (.bl (.AG8 hc hr hl))))
  |and nm a b=>
   exact(L0.join (bt:=[32,97,110,100,32]) (btK:=[BQ IX]) (λ r u h=>.bl (LS.word (s:=IX) (r:=32::r) w4 (DR rfl) (.bl h))) (λ r=>DR rfl) hr hl [a,b] true hL (λ e=>by cases e)).1
  |or nm a b=>
   exact(L0.join (bt:=[32,111,114,32]) (btK:=[BQ IW]) (λ r u h=>.bl (LS.word (s:=IW) (r:=32::r) w5 (DR rfl) (.bl h))) (λ r=>DR rfl) hr hl [a,b] true hL (λ e=>by cases e)).1
  |not nm a=>
   show LS ([40]++B4 a++[32,124,32,110,111,116,41]++r) ([A6 [40]]++AN a++[A6 [124],BQ HL,A6 [41]]++u)
   simp only[List.append_assoc]
   exact .mark (by decide) (hL a (by simp) _ _ (DR U) (.bl (.mark (by decide) (.bl (LS.word (s:=HL) (r:=41::r) w6 (DR U) (.mark (by decide) hl))))))
theorem AH0{x:Tf}(h:x.BP): ∃l,CF (B4 x)=(l++[G4 (B4 x)],0,0)/\l.map (strip false)=AN x:=by
 have:=AG9 x.size x (Nat.le_refl _) h [] [] (.inl U) .nil
 rw[List.append_nil,List.append_nil]at this
 exact this.lex
end Go.Eng
namespace Go.Eng
open Go.RowKit
def TA(l:List Tk)(j:Int)(u:List Tk):Prop:=0<=j/\A4 l j=u
theorem TA.add {l:List Tk}{j:Int}{u r:List Tk}(h:TA l j (u++r)):TA l (j+len u) r:=by
 obtain⟨h0,h2⟩:=h
 have h3:=AA u
 refine⟨by omega,?_⟩
 rw[<-KH l j (len u) h0 h3,h2]
 unfold A4 len;simp
theorem TA.one {l:List Tk}{j:Int}{t:Tk}{r:List Tk}(h:TA l j (t::r)):TA l (j+1) r:=TA.add (u:=[t]) h
theorem TA.at {l:List Tk}{j:Int}{t:Tk}{r:List Tk}(h:TA l j (t::r)):A2 l j=t:=by
 obtain⟨h0,h1⟩:=h
 unfold A2
 have h2:(l.drop j.toNat)[0]? =some t:=by
  have:A4 l j=l.drop j.toNat:=rfl
  rw[<-this,h1];rfl
 rw[List.getElem?_drop,Nat.add_zero]at h2
 rw[List.getD_eq_getElem?_getD,h2];rfl
theorem TA.AL {l:List Tk}{j:Int}{t:Tk}{r:List Tk}(h:TA l j (t::r))(m:A1):AL l j m=(t.kind==1&&t.s==m):=by unfold Eng.AL;rw[h.at]
theorem TA.DF {l:List Tk}{j:Int}{t:Tk}{r:List Tk}(h:TA l j (t::r))(m:A1):DF l j m=(t.kind==2&&t.s==m):=by unfold Eng.DF;rw[h.at]
theorem TA.pos {l:List Tk}{j:Int}{t:Tk}{r:List Tk}(h:TA l j (t::r)):(A2 l j).pos=t.pos:=by rw[h.at]
theorem TA.lt {l:List Tk}{j:Int}{t:Tk}{r:List Tk}(h:TA l j (t::r)):j<len l:=by
 obtain⟨h0,h1⟩:=h
 rcases Int.lt_or_le j (len l)with h|h
 ·exact h
 ·exfalso
  have:A4 l j=l.drop j.toNat:=rfl
  rw[this,List.drop_eq_nil_of_le (by unfold len at h;omega)]at h1;cases h1
def mQ(t:Tk):Prop:=t.kind=6\/t.kind=1/\(t.s=[41]\/t.s=[93]\/t.s=[125])
theorem mQ.no {t:Tk}(h:mQ t):t.kind≠3/\(t.kind==1&&t.s==[91])=false/\(t.kind==1&&t.s==[124])=false:=by
 rcases h with h|⟨h,h2⟩
 ·rw[h];exact⟨by decide,rfl,rfl⟩
 ·rw[h]
  rcases h2 with h2|h2|h2<;>rw[h2]<;>exact⟨by decide,rfl,rfl⟩
end Go.Eng
namespace Go.Eng
open Go.RowKit
def TS(l:List Tk)(j:Int)(u:List Tk):Prop:=0<=j/\(A4 l j).map (strip false)=u
theorem TS.add {l:List Tk}{j:Int}{u r:List Tk}(h:TS l j (u++r)):TS l (j+len u) r:=by
 obtain⟨h0,h2⟩:=h
 have h3:=AA u
 refine⟨by omega,?_⟩
 rw[<-KH l j (len u) h0 h3]
 unfold A4 len at*
 rw[List.map_drop,h2];simp
theorem TS.one {l:List Tk}{j:Int}{t:Tk}{r:List Tk}(h:TS l j (t::r)):TS l (j+1) r:=TS.add (u:=[t]) h
theorem TS.at {l:List Tk}{j:Int}{t:Tk}{r:List Tk}(h:TS l j (t::r)):(A2 l j).kind=t.kind/\(A2 l j).s=t.s/\(A2 l j).c=t.c/\j<len l:=by
 obtain⟨h0,h1⟩:=h
 have hd:A4 l j=l.drop j.toNat:=rfl
 cases hf:A4 l j with
 |nil=>rw[hf]at h1;cases h1
 |cons a q=>
  rw[hf,List.map_cons]at h1
  have ha:strip false a=t:=(List.cons.inj h1).1
  have h2:(l.drop j.toNat)[0]? =some a:=by rw[<-hd,hf];rfl
  rw[List.getElem?_drop,Nat.add_zero]at h2
  have e:A2 l j=a:=by unfold A2;rw[List.getD_eq_getElem?_getD,h2];rfl
  have hl:=(List.getElem?_eq_some_iff.1 h2).1
  rw[e,<-ha]
  exact⟨rfl,rfl,rfl,by unfold len;omega⟩
theorem TS.AL {l:List Tk}{j:Int}{t:Tk}{r:List Tk}(h:TS l j (t::r))(m:A1):AL l j m=(t.kind==1&&t.s==m):=by unfold Eng.AL;rw[h.at.1,h.at.2.1]
theorem TS.DF {l:List Tk}{j:Int}{t:Tk}{r:List Tk}(h:TS l j (t::r))(m:A1):DF l j m=(t.kind==2&&t.s==m):=by unfold Eng.DF;rw[h.at.1,h.at.2.1]
theorem TS.lt {l:List Tk}{j:Int}{t:Tk}{r:List Tk}(h:TS l j (t::r)):j<len l:=h.at.2.2.2
theorem TS.ND {l:List Tk}{j:Int}{m:A1}{r:List Tk}(h:TS l j (A6 m::r)):BV l j m= .ok () (j+1):=by
 unfold BV;rw[h.AL,if_pos (by show((1:Int)==1&&m==m)=true;simp)]
theorem TS.open {l:List Tk}{d j:Int}{m:A1}{r:List Tk}(h:TS l j (A6 m::r))(hd:d<64):F2 l d j m= .ok () (j+1):=by
 unfold F2;rw[h.AL,if_neg (by simp;omega)];exact h.ND
theorem TS.call {α:Type}{l:List Tk}{d j k:Int}{x:α}{X:Int->PR α}{r r2:List Tk}(h:TS l j (A6 [40]::r))(hd:d<64)(hx:X (j+1)= .ok x k)(h2:TS l k (A6 [41]::r2)):D1 l d j X= .ok x (k+1):=by
 unfold D1;rw[h.open hd]
 show(X (j+1)).bind _=_
 rw[hx]
 show(BV l k [41]).bind _=_
 rw[h2.ND];rfl
def F7(t:Tk):Prop:=t.kind≠3/\(t.kind==1&&t.s==[91])=false
def R1(t:Tk):Prop:=F7 t/\(t.kind==1&&t.s==[124])=false
def WR(t:Tk):Prop:=(t.kind==2&&t.s==IW)=false/\(t.kind==2&&t.s==IX)=false
theorem cG{l:List Tk}{j n:Int}{r:List Tk}(h:TS l j (NC n::r))(h0:0<=n)(h1:n<=1000000):FL l j= .ok n (j+1):=by
 obtain⟨_,g1,g2,g3,g4⟩:=mN h0 h1
 obtain⟨a1,a2,a3,_⟩:=h.at
 have a3:(A2 l j).c=JA n:=a3
 have a1:(A2 l j).kind=5:=a1
 have hw:KJ (A2 l j)=n:=by unfold KJ;rw[a3,g4]
 unfold FL
 rw[a3,a1,g1,hw,if_neg (by rintro(h|h|h|h);exact h rfl;cases h;omega;omega),if_neg (by omega)]
theorem AH1{l:List Tk}{j n:Int}{r:List Tk}(h:TS l j (A6 [91]::NC n::A6 [93]::r))(h0:0<=n)(h1:n<=1000000):HK l j= .ok (.mk { AH 2 with n:=n} []) (j+3):=by
 unfold HK
 rw[h.at.1,if_neg (by show ¬(1:Int)=3;decide),cG h.one h0 h1]
 show(if Eng.AL l (j+1+1) [58]=true then _ else _)=_
 rw[h.one.one.AL,if_neg (by show ¬((1:Int)==1&&([93]:A1)==[58])=true;decide),h.one.one.ND]
 show PR.ok _ (j+1+1+1)=_
 rw[show j+1+1+1=j+3 by omega]
theorem AH2{l:List Tk}{j n:Int}{r:List Tk}(h:TS l j (A6 [91]::NC n::A6 [58]::A6 [93]::r))(h0:0<=n)(h1:n<=1000000):HK l j= .ok (.mk { AH 3 with n:=n} []) (j+4):=by
 unfold HK
 rw[h.at.1,if_neg (by show ¬(1:Int)=3;decide),cG h.one h0 h1]
 show(if Eng.AL l (j+1+1) [58]=true then _ else _)=_
 rw[h.one.one.AL,if_pos (by rfl),h.one.one.one.ND]
 show PR.ok _ (j+1+1+1+1)=_
 rw[show j+1+1+1+1=j+4 by omega]
theorem WS{l:List Tk}{t:Tk}{r:List Tk}{dot:Bool}(ht:F7 t): ∀(p:List Sp) (xs:List Sp) (j:Int) (f:Nat),(∀x∈p,x.BP)->TS l j ((p.map HV).flatten++t::r)->len xs+len p<=20->
  (dot=false\/xs≠[]\/ ∀y q,p=y::q->y.part=true)->p.length+1<=f->GX dot f l xs j= .ok (xs++p) (j+len (p.map HV).flatten)
 |[],xs,j,f+1,_,h,_,_,_=>by
  rw[GX,h.AL,h.at.1,if_neg (by rintro(h1|h1);rw[ht.2]at h1;cases h1;exact ht.1 h1.1)]
  simp[len]
 |x::p,xs,j,f+1,hp,h,hl,hd,hf=>by
  rw[List.map_cons,List.flatten_cons,List.append_assoc]at h
  have hx:=hp x List.mem_cons_self
  have hlp:=AA p
  rw[A7]at hl
  have hl2:len (xs++[x])+len p<=20:=by rw[A5];show len xs+1+len p<=20;omega
  have hd2:dot=false\/xs++[x]≠[]\/ ∀y q,p=y::q->y.part=true:=.inr (.inl (by simp))
  have hf2:p.length+1<=f:=by simpa using hf
  unfold HV at h
  by_cases hpt:x.part=true
  ·rw[if_pos hpt]at h
   obtain⟨g1,g2,g3⟩:=hx.1 hpt
   have hxe:(⟨true,[],x.n⟩:Sp)=x:=by cases x;simp only at g1 hpt;subst g1;subst hpt;rfl
   have ih:=WS ht p (xs++[x]) (j+3) f (λ y hy=>hp y (List.mem_cons_of_mem _ hy)) (by have:=TS.add h;exact this) hl2 hd2 hf2
   rw[GX,TS.AL h,if_pos (.inl (by rfl)),if_neg (by omega),(TS.at h).1,if_pos (by rfl),cG (TS.one h) g2 g3]
   show(BV l (j+1+1) [93]).bind _=_
   rw[(TS.one (TS.one h)).ND]
   show GX dot f l (xs++[⟨true,[],x.n⟩]) (j+1+1+1)=_
   rw[hxe,show j+1+1+1=j+3 by omega,ih,List.map_cons,List.flatten_cons,A5]
   unfold HV
   rw[if_pos hpt,List.append_assoc,show len [A6 [91],NC x.n,A6 [93]]=3 from rfl]
   show PR.ok (xs++(x::p)) _=_
   congr 1;omega
  ·rw[if_neg hpt]at h
   have hpf:x.part=false:=by simpa using hpt
   obtain⟨g1,g2⟩:=hx.2 hpf
   have hxe:(⟨false,x.name,0⟩:Sp)=x:=by cases x;simp only at g1 hpf;subst g1;subst hpf;rfl
   have ih:=WS ht p (xs++[x]) (j+1) f (λ y hy=>hp y (List.mem_cons_of_mem _ hy)) (by have:=TS.add h;exact this) hl2 hd2 hf2
   have hdd:dot=false\/xs≠[]:=by
    rcases hd with hd|hd|hd
    ·exact .inl hd
    ·exact .inr hd
    ·exact absurd (hd x p U) hpt
   rw[GX,TS.AL h,(TS.at h).1,(TS.at h).2.1,if_pos (.inr ⟨rfl,hdd⟩),if_neg (by omega),if_neg (by show ¬(3:Int)=1;decide)]
   show GX dot f l (xs++[⟨false,x.name,0⟩]) (j+1)=_
   rw[hxe,ih,List.map_cons,List.flatten_cons,A5]
   unfold HV
   rw[if_neg hpt,List.append_assoc,show len [P4 x.name]=1 from rfl]
   show PR.ok (xs++(x::p)) _=_
   congr 1;omega
theorem AH3(p:List Sp):p.length<=((p.map HV).flatten).length:=by
 induction p with
 |nil=>exact Nat.le_refl _
 |cons x p ih=>
  rw[List.map_cons,List.flatten_cons,List.length_append,List.length_cons]
  have:1<=(HV x).length:=by unfold HV;split<;>simp
  omega
theorem TS.le {l:List Tk}{j:Int}{u r:List Tk}(h:TS l j (u++r)):0<=j/\j+len u+len r<=len l\/u++r=[]:=by
 obtain⟨h0,h1⟩:=h
 by_cases e:u++r=[]
 ·exact .inr e
 left
 have h2:=congrArg List.length h1
 unfold A4 at h2
 rw[List.length_map,List.length_drop,List.length_append]at h2
 have h3:(u++r).length≠0:=λ h=>e (List.eq_nil_of_length_eq_zero h)
 rw[List.length_append]at h3
 unfold len;omega
theorem mR{l:List Tk}{j:Int}{p:List Sp}{t:Tk}{r:List Tk}(hp: ∀x∈p,x.BP)(hl:p.length<=20)(ht:F7 t)(h:TS l j (ET p++t::r)):G5 A9 l j= .ok (K1 p) (j+len (ET p)):=by
 have hle:len p<=20:=by unfold len;omega
 have hll:=TS.le h
 rcases hll with⟨hj,hll⟩|e
 case inr=>simp at e
 have hpk:=AH3 p
 rw[A7]at hll
 have hrn:=AA r
 unfold ET at h hll ⊢
 by_cases hc:p=[]\/(A2 p 0).part=true
 ·rw[if_pos hc]at h hll ⊢
  rw[A5]at hll
  have h:=h
  rw[List.append_assoc]at h
  unfold G5
  rw[TS.AL h,if_pos (by rfl),WS (dot:=true) ht p [] (j+1) l.length hp (TS.one h) (by rw[len_nil];omega) (.inr (.inr λ y q e=>?_)) (by unfold len at*;simp only[List.length_cons,List.length_nil]at hll;omega)]
  ·show PR.ok (JJ A9 ([]++p)) _=_
   rw[List.nil_append,lF hp,A5,show len [A6 [46]]=1 from rfl]
   congr 1;omega
  ·rcases hc with hc|hc
   ·rw[hc]at e;cases e
   ·rw[e]at hc;exact hc
 ·rw[if_neg hc]at h hll ⊢
  rw[List.nil_append]at h hll ⊢
  cases p with
  |nil=>exact absurd (.inl U) hc
  |cons x p=>
   have hpt: ¬x.part=true:=λ e=>hc (.inr e)
   have h2:=h
   rw[List.map_cons,List.flatten_cons,List.append_assoc]at h2
   have hk:HV x=[P4 x.name]:=by unfold HV;rw[if_neg hpt]
   rw[hk]at h2
   unfold G5
   rw[TS.AL h2,if_neg (by show ¬((3:Int)==1&&_)=true;simp),(TS.at h2).1,if_neg (by show ¬(3:Int)≠3;simp),WS (dot:=false) ht (x::p) [] j l.length hp h (by rw[len_nil];omega) (.inl U) (by unfold len at*;omega)]
   show PR.ok (JJ A9 ([]++(x::p))) _=_
   rw[List.nil_append,lF hp]
theorem AH4{l:List Tk}{j:Int}{c:Nd}{r:List Tk}(hc:J9 c=true)(h:TS l j (MC c::r)):GY l j= .ok c (j+1):=by
 obtain⟨a1,a2,a3,_⟩:=h.at
 unfold GY
 rw[a1,a2,a3]
 rcases cF hc with rfl|rfl|rfl|⟨h3,h4⟩|⟨s,rfl,hu⟩
 ·rfl
 ·rfl
 ·rfl
 ·unfold MC
  rw[h3];rfl
 ·rfl
theorem AH5{l:List Tk}{j:Int}{s n:A1}{k:Int}{c:Nd}{r:List Tk}(hs:K0 s=true)(h0:0<=k)(h5:k<=5)(hc:J9 c=true)(h:TS l j (AN (.mk ⟨16,0,n,s,k,c⟩ [])++r)):
  MO A9 l j= .ok (.mk ⟨16,0,[],s,k,c⟩ []) (j+len (AN (.mk ⟨16,0,n,s,k,c⟩ []))):=by
 obtain⟨p,hpl,hpg,hse,hpe⟩:=QT hs
 have hk:AN (.mk ⟨16,0,n,s,k,c⟩ [])=ET p++[A6 (A2 CH k),MC c]:=by rw[<-hpe];rfl
 rw[hk]at h ⊢
 rw[List.append_assoc]at h
 have hm:A2 CH k∈CH/\(CH.idxOf (A2 CH k):Int)=k/\F7 (A6 (A2 CH k)):=by
  have:k=0\/k=1\/k=2\/k=3\/k=4\/k=5:=by omega
  rcases this with rfl|rfl|rfl|rfl|rfl|rfl<;>exact⟨by decide,by decide,by unfold F7;decide⟩
 have h2:=TS.add h
 unfold MO
 rw[mR hpg hpl hm.2.2 h]
 show(if(A2 l (j+len (ET p))).kind=1/\(A2 l (j+len (ET p))).s∈CH then _ else _)=_
 rw[(TS.at h2).1,(TS.at h2).2.1,if_pos ⟨rfl,hm.1⟩,AH4 hc (TS.one h2)]
 show PR.ok (Tf.mk ⟨16,0,[],K1 p,(CH.idxOf (A2 CH k):Nat),c⟩ []) _=_
 rw[hm.2.1,<-hse,A5,show len [A6 (A2 CH k),MC c]=2 from rfl]
 congr 1;omega
theorem K4{q:A1->A1}{f:Nat}{l:List Tk}{d j k:Int}{y:Tf}{t:Tk}{r:List Tk}(hx:GZ q f l d j= .ok y k)(h:TS l k (t::r))(ht:F7 t):EC q (f+1) l d j= .ok y k:=by
 have hl:=h.lt
 have h0:=h.1
 obtain⟨n,hn⟩: ∃n,l.length=n+1:=⟨l.length-1,by unfold len at hl;omega⟩
 rw[EC,hx]
 show I7 l.length l (if Eng.AL l j [46]&&Eng.AL l k [91]then []else [y]) k=_
 rw[h.AL,ht.2,Bool.and_false,if_neg (by decide),hn,I7,h.at.1,h.AL,if_neg (by rw[ht.2];rintro(h|h);exact ht.1 h;cases h)];rfl
def spine:Tf->List Tf
 | .mk t ps=>match ps with
  |[a,b]=>if t.op=4 then a.named []::spine b else [.mk { t with name:=[]} [a,b]]
  |ps=>[.mk { t with name:=[]} ps]
theorem mS{x:Tf}(h:x.t.op≠4):spine x=[x.named []]:=by
 obtain⟨t,ps⟩:=x
 have h:t.op≠4:=h
 match ps with
 |[]=>rw[spine];rfl;intro a b e;cases e
 |[a]=>rw[spine];rfl;intro a b e;cases e
 |[a,b]=>rw[spine,if_neg (show ¬t.op=4 from h)];rfl
 |a::b::c::r=>rw[spine];rfl;intro a b e;cases e
theorem mT(n:A1)(a b:Tf):spine (.mk ⟨4,0,n,[],0,AO⟩ [a,b])=a.named []::spine b:=by rw[spine,if_pos (by rfl)]
theorem AH6(x:Tf):spine x≠[]:=by
 obtain⟨t,ps⟩:=x
 match ps with
 |[]=>rw[spine];simp;intro a b e;cases e
 |[a]=>rw[spine];simp;intro a b e;cases e
 |[a,b]=>rw[spine];split<;>simp
 |a::b::c::r=>rw[spine];simp;intro a b e;cases e
theorem AH7{x:Tf}{l:List Tf}(hl:l≠[]):DW (x::l)=EL x (DW l):=by
 cases l with
 |nil=>exact absurd U hl
 |cons y l=>rw[DW]
theorem Tf.cH (n:A1)(x:Tf):(x.named n).t= { x.t with name:=n}:=by cases x;rfl
theorem Tf.K5 {x:Tf}(h:x.t.name=[]):x.named []=x:=Tf.aY h
theorem WT{t:Tm}{ps:List Tf}(h:D4 t ps)(e:t.op=4): ∃nm a b,t=⟨4,0,nm,[],0,AO⟩/\ps=[a,b]:=by
 cases h<;>first|exact⟨_,_,_,rfl,rfl⟩|(exact absurd e (λ x=>by cases x))
theorem AH8: ∀(n:Nat) (x:Tf),x.size<=n->x.BP->DW (spine x)=x.named []:=by
 intro n
 induction n with
 |zero=>intro x h;have:=x.size_pos;omega
 |succ n ih=>
  intro x hn hg
  by_cases h4:x.t.op=4
  ·have hk:=hg.kids
   have hd:=hg.IK
   obtain⟨nm,a,b,e1,e2⟩:=WT (K3 hg) h4
   obtain⟨t,ps⟩:=x
   have e1:t=⟨4,0,nm,[],0,AO⟩:=e1
   have e2:ps=[a,b]:=e2
   subst e1 e2
   have hda:=hd [] a [b] U
   have hdb:=hd [a] b [] U
   have h8: ¬(4:Int)=8:=by decide
   have hsz:b.size<=n:=by rw[Tf.size,AQ,AQ,AQ]at hn;omega
   have e3:=hda.p h4 U
   have e4:=hda.n h8
   have e5:=hdb.n h8
   have e6:=hk b (show b∈[a,b] by simp)
   rw[mT,AH7 (AH6 b),ih b hsz e6,VZ (by rw[Tf.cH];exact e3),Tf.K5 e4,Tf.K5 e5]
   rfl
  ·rw[mS h4];rfl
def AH9(t:Tk):Prop:=t.kind=2\/t.kind=3\/(t.kind=1/\t.s∈([[46],[40],[91],[123]]:List A1))
def FD(u:List Tk):Prop:= ∃t r,u=t::r/\AH9 t
theorem FD.app {u v:List Tk}(h:FD u):FD (u++v):=by
 obtain⟨t,r,rfl,ht⟩:=h;exact⟨t,r++v,rfl,ht⟩
theorem FD.CO {u:List Tk}{o:Int}(h:FD u):FD (CO o u):=by
 unfold Eng.CO;split
 ·exact⟨_,_,rfl,.inr (.inr ⟨rfl,by decide⟩)⟩
 ·exact h
theorem FD.not {l:List Tk}{j:Int}{u r:List Tk}(h:FD u)(hs:TS l j (u++r)){m:A1}(hm:m ∉ ([[46],[40],[91],[123]]:List A1)):AL l j m=false:=by
 obtain⟨t,q,rfl,ht⟩:=h
 rw[TS.AL hs]
 rcases ht with ht|ht|⟨ht,h2⟩
 ·rw[ht];rfl
 ·rw[ht];rfl
 ·rw[Bool.and_eq_false_iff];right
  rw[beq_eq_false_iff_ne];intro e;rw[e]at h2;exact hm h2
theorem AI0(p:List Sp):FD (ET p):=by
 unfold ET
 split
 ·exact⟨_,_,rfl,.inr (.inr ⟨rfl,by decide⟩)⟩
 ·rename_i hc
  cases p with
  |nil=>exact absurd (.inl U) hc
  |cons x p=>
   have hpt: ¬x.part=true:=λ e=>hc (.inr e)
   rw[List.map_cons,List.flatten_cons]
   unfold HV
   rw[if_neg hpt]
   exact⟨_,_,rfl,.inr (.inl U)⟩
theorem AI1: ∀(n:Nat) (x:Tf),x.size<=n->x.BP->FD (AN x):=by
 intro n
 induction n with
 |zero=>intro x h;have:=x.size_pos;omega
 |succ n ih=>
  intro x hn hg
  have hk:=hg.kids
  have hv:=K3 hg
  obtain⟨t,ps⟩:=x
  have hv:D4 t ps:=hv
  have hin: ∀(a:Tf) (o:Int),a∈ps->FD (CO o (AN a)):=λ a o ha=>
   (ih a (by have:=MB ha;rw[Tf.size]at hn;omega) (hk a ha)).CO
  have wd: ∀(s:A1) (r:List Tk),FD (BQ s::r):=λ s r=>⟨_,_,rfl,.inl U⟩
  have mk: ∀(s:A1) (r:List Tk),s∈([[46],[40],[91],[123]]:List A1)->FD (A6 s::r):=λ s r h=>⟨_,_,rfl,.inr (.inr ⟨rfl,h⟩)⟩
  cases hv with
  |pipe nm a b=>
   show FD (CO a.t.op (AN a)++[A6 [124]]++AN b)
   exact(hin a _ (by simp)).app.app
  |and nm a b=>
   show FD (C8 false [BQ IX] true [a,b])
   rw[C8]
   exact(hin a _ (by simp)).app
  |or nm a b=>
   show FD (C8 false [BQ IW] true [a,b])
   rw[C8]
   exact(hin a _ (by simp)).app
  |cmp nm s k c hp h0 h5 hc=>
   show FD (ET (EF s).1++[A6 (A2 CH k),MC c])
   exact(AI0 _).app
  |obj nm ps=>exact mk _ _ (by decide)
  |tup nm ps=>exact mk _ _ (by decide)
  |map nm a=>exact wd _ _
  |vals nm a=>exact wd _ _
  |wher nm a=>exact wd _ _
  |not nm a=>exact mk _ _ (by decide)
  |group nm s hp=>exact wd _ _
  |sort nm s hp=>exact wd _ _
  |del nm s hp=>exact wd _ _
  |id nm=>exact mk _ _ (by decide)
  |field nm s hu=>exact⟨_,_,rfl,.inr (.inl U)⟩
  |part nm k h0 h1=>exact mk _ _ (by decide)
  |tail nm k h0 h1=>exact mk _ _ (by decide)
  |OY nm=>exact wd _ _
  |fromE nm=>exact wd _ _
  |rev nm=>exact wd _ _
theorem FD.pos {u:List Tk}(h:FD u):1<=u.length:=by obtain⟨t,r,rfl,_⟩:=h;simp
theorem Tf.BP.start {x:Tf}(h:x.BP):FD (AN x):=AI1 x.size x (Nat.le_refl _) h
end Go.Eng
