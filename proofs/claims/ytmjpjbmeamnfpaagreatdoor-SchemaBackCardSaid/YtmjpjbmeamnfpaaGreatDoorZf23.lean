/- Lemmas for the card. -/
import Derived.Test.YtmjpjbmeamnfpaaGreatDoorZf22
set_option linter.unusedVariables false
set_option linter.unusedSimpArgs false
set_option maxRecDepth 100000
namespace Go.Eng
open Go.RowKit
theorem UJ(a:Tf):C1 false true [a]=DA a:=by rw[C1,C1];simp
theorem SD{rt:Tf->Bool}{l:List Tk}{d j:Int}{w:A1}{r:List Tk}{f:Nat}(h:TS l j (DJ w::r)):C3 AE rt (f+1) l d j=JE AE rt f l d j:=by
 have e1:(at' l j).kind=2:=h.at.1
 rw[C3,if_pos e1]
theorem Ag8{rt:Tf->Bool}(hrt:YE rt){n:Nat}(hp:UI rt n):UI rt (n+1):=by
 intro x ha hz h9 hn l d j t r f h ht hf h0 hd
 have hv:=eJ ha hz h9
 have hpath:=eE ha
 have hled:=hrt x
 obtain⟨a1,a2,a3,a4⟩:=KK ha
 have hko:=SB a2
 have hkn:=YD a2
 have hzk:=(Tf.eI hz).2
 have hxs:=Tf.size_eq x
 have hsz: ∀y∈x.ps,y.size+1<=x.size:=λ y hy=>by have:=Q5 hy;omega
 have hK:x.t.op≠1-> ∀y∈x.ps,YF n y:=λ ho y hy=>⟨NW a4 y hy,hzk y hy,λ e=>ho (by have:=hko y hy;rw[e]at this;simpa using this.symm),by have:=hsz y hy;omega⟩
 clear hko hzk a1 a3 a4
 obtain⟨tt,ps⟩:=x
 replace hv:JR tt ps:=hv
 replace hK:tt.op≠1-> ∀y∈ps,YF n y:=hK
 replace hkn:tt.op≠2-> ∀y∈ps,y.t.name=[]:=hkn
 replace hsz: ∀y∈ps,y.size+1<=(Tf.mk tt ps).size:=hsz
 replace a2:C8 tt.op none ps=true:=a2
 have hs1:1<=(Tf.mk tt ps).size:=Tf.size_pos _
 obtain⟨X,hX⟩: ∃X,X=(Tf.mk tt ps).size:=⟨_,rfl⟩
 rw[<-hX]at hsz hs1 hd
 cases hv with
 |any nm=>
  have h:TS l j (DJ I0::t::r):=h
  obtain⟨f,rfl⟩: ∃g,f=g+2:=⟨f-2,by omega⟩
  have e3:(at' l j).s=I0:=h.at.2.1
  rw[SD h,JE,e3,if_pos U];rfl
 |mask nm m ps q0 q1 hy=>
  obtain⟨k,ks,k5,e1,e2⟩:=eH q0 q1
  have h:TS l j (LP m (ps.map Tf.node)++t::r):=h
  have hh: ∃u,LP m (ps.map Tf.node)++t::r=DJ (at' C0 (k:Int))::u:=by unfold LP;rw[e1];exact⟨_,rfl⟩
  obtain⟨u,hu⟩:=hh
  have h2:=h
  rw[hu]at h2
  obtain⟨f,rfl⟩: ∃g,f=g+2:=⟨f-2,by omega⟩
  obtain⟨n1,n2,n3,n4,n5⟩:=Ag2 k5
  have e3:(at' l j).s=at' C0 (k:Int):=h2.at.2.1
  rw[SD h2,JE,e3,if_neg n1,if_neg n2,if_neg n3,if_neg n4,if_neg n5,Ag4 q0 q1 hy ht (by omega) h];rfl
 |obj nm m ps ho=>
  have hk:DA (.mk ⟨2,0,nm,[],m,B2⟩ ps)=AF [123]::(C1 true true ps++(NY m (([]:List Tf).isEmpty&&ps.isEmpty)++[AF [125]])):=by
   show [AF [123]]++C1 true true ps++(if m=1 then(if ps=[]then [AF [63]]else [AF [44],AF [63]])else [])++[AF [125]]=_
   unfold NY
   cases ps<;>simp
  rw[hk]at h hf ⊢
  simp only[ln,List.length_append,List.length_cons,List.length_nil]at hf
  have h:TS l j (AF [123]::(C1 true true ps++(NY m (([]:List Tf).isEmpty&&ps.isEmpty)++AF [125]::t::r))):=by simpa using h
  obtain⟨f,rfl⟩: ∃g,f=g+1:=⟨f-1,by omega⟩
  have h3:=r7 hp ho ps l (d+1) (j+1) [] (t::r) f (hK (by simp)) (λ a y b e=>by rw[List.nil_append];exact qY a2 a y b e) h.one (by simp only[ln,List.isEmpty_nil];omega) (by omega) (λ y hy=>by have:=hsz y hy;omega)
  have e1:(at' l j).kind=1:=h.at.1
  rw[C3,e1,if_neg (by decide),h.AG,if_pos (by rfl),h.open (by omega)]
  show FT AE rt f l (d+1) [] (j+1)=_
  rw[h3]
  unfold FQ
  rw[List.nil_append,qW a2]
  simp only[A5,A6,len_nil,List.isEmpty_nil]
  show PR.ok (Tf.mk _ ps) _=PR.ok (Tf.mk _ ps) _
  congr 1;omega
 |map nm a=>
  have hk:DA (.mk ⟨3,0,nm,[],0,B2⟩ [a])=AF [123]::AF [63]::AF [58]::(DA a++[AF [125]]):=by
   show [AF [123],AF [63],AF [58]]++C1 false true [a]++[AF [125]]=_
   rw[UJ];simp
  rw[hk]at h hf ⊢
  simp only[ln,List.length_append,List.length_cons,List.length_nil]at hf
  have h:TS l j (AF [123]::AF [63]::AF [58]::(DA a++AF [125]::t::r)):=by simpa using h
  obtain⟨f,rfl⟩: ∃g,f=g+2:=⟨f-2,by omega⟩
  have g:=hK (by simp) a (by simp)
  have gn:=hkn (by simp) a (by simp)
  have gs:=hsz a (by simp)
  have h3:=hp a g.all g.zm g.op g.size l (d+1) _ _ _ f h.one.one.one (P2 (by decide) (by decide)) (by simp only[ln];omega) (by omega) (by omega)
  have h4:=TS.add h.one.one.one
  have e1:(at' l j).kind=1:=h.at.1
  rw[C3,e1,if_neg (by decide),h.AG,if_pos (by rfl),h.open (by omega)]
  show FT AE rt (f+1) l (d+1) [] (j+1)=_
  rw[FT,h.one.AG,if_neg (by decide)]
  show(if AG l (j+1) [63]=true then(if(true&&AG l (j+1+1) [58])=true then _ else _)else _)=_
  rw[h.one.AG,if_pos (by rfl),h.one.one.AG,if_pos (by rfl),show j+1+2=j+1+1+1 by omega,h3]
  show(B6 l _ [125]).bind _=_
  rw[h4.FX,Tf.QD gn]
  simp only[A5,A6,len_nil]
  show PR.ok (Tf.mk _ [a]) _=PR.ok (Tf.mk _ [a]) _
  congr 1;omega
 |tup nm ps=>
  have hk:DA (.mk ⟨4,0,nm,[],0,B2⟩ ps)=DJ JB::AF [40]::(C1 false true ps++[AF [41]]):=by
   show [DJ JB,AF [40]]++C1 false true ps++[AF [41]]=_
   simp
  rw[hk]at h hf ⊢
  simp only[ln,List.length_append,List.length_cons,List.length_nil]at hf
  have h:TS l j (DJ JB::AF [40]::(C1 false true ps++AF [41]::t::r)):=by simpa using h
  obtain⟨f,rfl⟩: ∃g,f=g+2:=⟨f-2,by omega⟩
  have h3:=r0 hp ps l (d+1) (j+1+1) [] (t::r) f (λ y hy=>⟨hK (by simp) y hy,hkn (by simp) y hy⟩) h.one.one (by simp only[ln,List.isEmpty_nil];omega) (by omega) (λ y hy=>by have:=hsz y hy;omega)
  have h4:=TS.add h.one.one
  have e3:(at' l j).s=JB:=h.at.2.1
  rw[SD h,JE,e3,if_neg (by decide),if_pos U,h.one.open (by omega)]
  show(HG AE rt f l (d+1) [] (j+1+1)).bind _=_
  rw[h3]
  show(B6 l (j+1+1+len (C1 false true ps)) [41]).bind _=_
  rw[h4.FX]
  simp only[A5,A6,len_nil,List.nil_append]
  show PR.ok (Tf.mk _ ps) _=PR.ok (Tf.mk _ ps) _
  congr 1;omega
 |list nm a=>
  have hk:DA (.mk ⟨5,0,nm,[],0,B2⟩ [a])=AF [91]::(DA a++[AF [93]]):=by
   show [AF [91]]++C1 false true [a]++[AF [93]]=_
   rw[UJ];simp
  rw[hk]at h hf ⊢
  simp only[ln,List.length_append,List.length_cons,List.length_nil]at hf
  have h:TS l j (AF [91]::(DA a++AF [93]::t::r)):=by simpa using h
  obtain⟨f,rfl⟩: ∃g,f=g+1:=⟨f-1,by omega⟩
  have g:=hK (by simp) a (by simp)
  have gn:=hkn (by simp) a (by simp)
  have gs:=hsz a (by simp)
  have h3:=hp a g.all g.zm g.op g.size l (d+1) _ _ _ f h.one (P2 (by decide) (by decide)) (by simp only[ln];omega) (by omega) (by omega)
  have h4:=TS.add h.one
  have e1:(at' l j).kind=1:=h.at.1
  rw[C3,e1,if_neg (by decide),h.AG,if_neg (by decide),h.open (by omega)]
  show(C3 AE rt f l (d+1) (j+1)).bind _=_
  rw[h3]
  show(B6 l _ [93]).bind _=_
  rw[h4.FX,Tf.QD gn]
  simp only[A5,A6,len_nil]
  show PR.ok (Tf.mk _ [a]) _=PR.ok (Tf.mk _ [a]) _
  congr 1;omega
 |ents nm a=>
  have hk:DA (.mk ⟨6,0,nm,[],0,B2⟩ [a])=DJ JC::AF [40]::(DA a++[AF [41]]):=by
   show [DJ JC,AF [40]]++C1 false true [a]++[AF [41]]=_
   rw[UJ];simp
  rw[hk]at h hf ⊢
  simp only[ln,List.length_append,List.length_cons,List.length_nil]at hf
  have h:TS l j (DJ JC::AF [40]::(DA a++AF [41]::t::r)):=by simpa using h
  obtain⟨f,rfl⟩: ∃g,f=g+2:=⟨f-2,by omega⟩
  have g:=hK (by simp) a (by simp)
  have gn:=hkn (by simp) a (by simp)
  have gs:=hsz a (by simp)
  have h3:=hp a g.all g.zm g.op g.size l (d+1) _ _ _ f h.one.one (P2 (by decide) (by decide)) (by simp only[ln];omega) (by omega) (by omega)
  have h4:=TS.add h.one.one
  have e3:(at' l j).s=JC:=h.at.2.1
  rw[SD h,JE,e3,if_neg (by decide),if_neg (by decide),if_pos U,h.one.open (by omega)]
  show(C3 AE rt f l (d+1) (j+1+1)).bind _=_
  rw[h3]
  show(B6 l _ [41]).bind _=_
  rw[h4.FX,Tf.QD gn]
  simp only[A5,A6,len_nil]
  show PR.ok (Tf.mk _ [a]) _=PR.ok (Tf.mk _ [a]) _
  congr 1;omega
 |led nm s o a ho=>
  obtain⟨p,p1,p2,p3,p4,_⟩:=hpath ho
  replace p3:s=FG p:=p3
  replace p4:(DI s).1=p:=p4
  obtain⟨W,hW,hWk⟩: ∃W,(o=7/\W=K8\/o=8/\W=K9)/\DA (.mk ⟨o,0,nm,s,0,B2⟩ [a])=DJ W::AF [40]::(JQ p++(AF [44]::(DA a++[AF [41]]))):=by
   rcases ho with rfl|rfl
   ·refine⟨K8,.inl ⟨rfl,rfl⟩,?_⟩
    show [DJ K8,AF [40]]++JQ (DI s).1++[AF [44]]++C1 false true [a]++[AF [41]]=_
    rw[UJ,p4];simp
   ·refine⟨K9,.inr ⟨rfl,rfl⟩,?_⟩
    show [DJ K9,AF [40]]++JQ (DI s).1++[AF [44]]++C1 false true [a]++[AF [41]]=_
    rw[UJ,p4];simp
  rw[hWk]at h hf ⊢
  simp only[ln,List.length_append,List.length_cons,List.length_nil]at hf
  have h:TS l j (DJ W::AF [40]::(JQ p++(AF [44]::(DA a++AF [41]::t::r)))):=by simpa using h
  obtain⟨f,rfl⟩: ∃g,f=g+2:=⟨f-2,by omega⟩
  have g:=hK (by show o≠1;omega) a (by simp)
  have gn:=hkn (by show o≠2;omega) a (by simp)
  have gs:=hsz a (by simp)
  have hp2:=Ad4 p2 p1 (t:=AF [44]) (by unfold dZ;decide) h.one.one
  have h2:=TS.add h.one.one
  have h3:=hp a g.all g.zm g.op g.size l (d+1) _ _ _ f h2.one (P2 (by decide) (by decide)) (by simp only[ln];omega) (by omega) (by omega)
  have h4:=TS.add h2.one
  have hr:rt (.mk { BJ o with s:=s} [a.named []])=true:=hled a ha hz ho U (by omega)
  have key:GN AE rt l o (j+1+1) (C3 AE rt f l (d+1))= .ok (.mk { BJ o with s:=s} [a]) (j+1+1+len (JQ p)+1+len (DA a)+1):=by
   unfold GN
   rw[hp2]
   show(B6 l _ [44]).bind _=_
   rw[h2.FX]
   show(C3 AE rt f l (d+1) _).bind _=_
   rw[h3,Tf.QD gn]
   show(B6 l _ [41]).bind _=_
   rw[h4.FX,<-p3]
   show(if rt (.mk { BJ o with s:=s} [a.named []])=true then _ else _)=_
   rw[if_pos hr]
  have e3:(at' l j).s=W:=h.at.2.1
  have hfin:C3 AE rt (f+2) l d j= .ok (.mk { BJ o with s:=s} [a]) (j+1+1+len (JQ p)+1+len (DA a)+1):=by
   rcases hW with⟨rfl,rfl⟩|⟨rfl,rfl⟩
   ·rw[SD h,JE,e3,if_neg (by decide),if_neg (by decide),if_neg (by decide),if_pos U,h.one.open (by omega)]
    exact key
   ·rw[SD h,JE,e3,if_neg (by decide),if_neg (by decide),if_neg (by decide),if_neg (by decide),if_pos U,h.one.open (by omega)]
    exact key
  rw[hfin]
  simp only[A5,A6,len_nil]
  show PR.ok (Tf.mk _ [a]) _=PR.ok (Tf.mk _ [a]) _
  congr 1;omega
theorem r8{rt:Tf->Bool}(hrt:YE rt): ∀n:Nat,UI rt n
 |0=>λ x _ _ _ h=>by have:=x.size_pos;omega
 |n+1=>Ag8 hrt (r8 hrt n)
theorem Ag9{rt:Tf->Bool}(hrt:YE rt){x:Tf}(h:x.Y6)(hs:x.size<=64):F1 AE rt (E7 x)=(x.flat,0,0):=by
 obtain⟨l,h1,h2⟩:=Af7 h.all h.op
 have hts:TS (l++[GJ (E7 x)]) 0 (DA x++e8::[]):=⟨Int.le_refl 0,by show(l++[GJ (E7 x)]).map (strip false)=_;rw[List.map_append,h2];rfl⟩
 have hl:(DA x).length=l.length:=by rw[<-h2,List.length_map]
 have h3:=r8 hrt x.size x h.all h.zm h.op (Nat.le_refl _) _ 0 0 e8 [] (4*(l++[GJ (E7 x)]).length+4) hts (by unfold P1 e8;decide) (by simp only[ln,List.length_append,List.length_cons,List.length_nil];omega) (Int.le_refl 0) (by omega)
 unfold F1
 rw[h1,if_neg (by simp)]
 show TG AE rt (l++[GJ (E7 x)])=_
 unfold TG
 rw[h3]
 have h4:=(TS.add hts).at.1
 show(if(at' (l++[GJ (E7 x)]) (0+len (DA x))).kind=6 then _ else _)=_
 rw[h4,if_pos (by rfl),Tf.QD h.name]
theorem Ah0(s:A1)(i:Int)(h0:0<=i):((Lib.decodeL (A3 s i)).1:Int)=AO s i/\((Lib.decodeL (A3 s i)).2:Int)=runeLen s i:=by
 have h:Lib.decodeL (A3 s i)=Utf8.decode ⟨⟨s⟩⟩ i.toNat:=(QX s i h0).symm
 rw[h];exact⟨rfl,rfl⟩
theorem Ah1(s:A1): ∀(n:Nat) (i:Int),0<=i->(len s-i).toNat<=n->G4 s i=true->Lib.validD (A3 s i)=true:=by
 intro n
 induction n with
 |zero=>
  intro i h0 hn _
  have:A3 s i=[]:=by unfold A3;exact List.drop_eq_nil_of_le (by unfold len at hn;omega)
  rw[this];rfl
 |succ n ih=>
  intro i h0 hn hu
  by_cases h1:i<len s
  ·have hne:A3 s i≠[]:=by
    intro e
    have:(A3 s i).length=0:=by rw[e];rfl
    unfold A3 at this;rw[List.length_drop]at this;unfold len at h1;omega
   unfold G4 at hu
   rw[dif_pos ⟨h0,h1⟩]at hu
   obtain⟨d1,d2⟩:=Ah0 s i h0
   rcases LX h0 h1 with⟨hr,_⟩|⟨hr,hl,hno,_⟩
   ·rw[dif_neg (by omega)]at hu;cases hu
   ·rw[dif_pos (by omega)]at hu
    rw[Lib.validD_step _ hne,if_neg (by intro h;exact hno ⟨by omega,by omega⟩)]
    have e:(A3 s i).drop (Lib.decodeL (A3 s i)).2=A3 s (i+rune s i):=by
     rw[<-IF s i (rune s i) h0 (by omega)]
     show _=(A3 s i).drop (rune s i).toNat
     rw[show(Lib.decodeL (A3 s i)).2=(rune s i).toNat by omega]
    rw[e]
    exact ih _ (by omega) (by omega) hu
  ·have:A3 s i=[]:=by unfold A3;exact List.drop_eq_nil_of_le (by unfold len at h1;omega)
   rw[this];rfl
theorem r9{s:A1}(h:CR s=true):Lib.validD s=true:=by
 have:=Ah1 s (len s-0).toNat 0 (by omega) (Nat.le_refl _) h
 simpa[A3]using this
theorem Ah2{α:Type}[Inhabited α](A B:List α){i:Int}(h0:0<=i):at' (A++B) (len A+i)=at' B i:=by
 unfold at'
 rw[show(len A+i).toNat=A.length+i.toNat by unfold len;omega,List.getD_eq_getElem?_getD,List.getD_eq_getElem?_getD,List.getElem?_append_right (by omega),Nat.add_sub_cancel_left]
def YG(f:Fl):Option Int->Bool
 |some o=>(at' f o).op==1
 |none=>false
theorem Ah3(p:List Sp)(x:Tf):QC p x=YG x.flat (F9 p x):=by
 unfold QC YG;rfl
theorem rA: ∀(p:List Sp) (x:Tf),(D4 p x).2=YG x.flat (F9 p x)
 |[],x=>by
  show decide (x.t.op=1)=((at' x.flat 0).op==1)
  rw[Tf.NS]
  show decide (x.t.op=1)=(x.t.op==1)
  by_cases h:x.t.op=1<;>simp[h]
 |s::p,x=>by
  unfold D4 F9
  by_cases hc:x.t.op≠2\/s.part=true
  ·rw[if_pos hc,if_pos hc];rfl
  ·rw[if_neg hc,if_neg hc,Tf.NS]
   have key: ∀(l:List Tf) (A:Fl) (o:Int),len A=o->(HM l o s.name (D4 p)).2=YG (A++AM l) (LM l o s.name (F9 p)):=by
    intro l
    induction l with
    |nil=>intro A o ho;rfl
    |cons y l ih=>
     intro A o ho
     unfold HM LM
     by_cases hn:y.t.name=s.name
     ·rw[if_pos hn,if_pos hn]
      have hy:=rA p y
      cases hl:F9 p y with
      |none=>
       rw[hl]at hy
       have hy:(D4 p y).2=false:=hy
       rw[hy,if_neg (by decide)];rfl
      |some k=>
       obtain⟨b1,b2⟩:=dT p y k hl
       rw[hl]at hy
       have hy:(D4 p y).2=((at' y.flat k).op==1):=hy
       show _=((at' (A++(y.flat++AM l)) (o+k)).op==1)
       rw[<-ho,Ah2 A _ b1,jW _ _ b1 (by unfold len;rw[Tf.DQ];omega),<-hy]
       cases (D4 p y).2<;>rfl
     ·rw[if_neg hn,if_neg hn,show o+(y.size:Int)=o+len y.flat by unfold len;rw[Tf.DQ]]
      have:=ih (A++y.flat) (o+len y.flat) (by rw[A5,ho])
      rw[List.append_assoc]at this
      exact this
   exact key x.ps [x.node] 1 U
theorem rB{l:A1}{c:UInt8}(h: ∀a q,l=a::q->a≠c):Lib.trimLeftB l c=l:=by
 cases l with
 |nil=>rfl
 |cons a q=>unfold Lib.trimLeftB;rw[List.dropWhile_cons];simp[h a q U]
theorem Ah4{s:A1}(hs:s≠[])(h0:A2 s 0≠48)(h1:A2 s (len s-1)≠48):Lib.trimB s 48=s:=by
 have hr:Lib.trimRightB s 48=s:=by
  show(Lib.trimLeftB s.reverse 48).reverse=s
  rw[rB λ a q e=>?_,List.reverse_reverse]
  have e2:s=q.reverse++[a]:=by rw[<-List.reverse_reverse s,e,List.reverse_cons]
  intro ha
  apply h1
  rw[e2,A5,show len [a]=1 from rfl,show len q.reverse+1-1=len q.reverse by omega]
  have:=U5 (u:=q.reverse) (v:=[a]) (k:=0) (Int.le_refl 0)
  rw[Int.add_zero,DO]at this
  rw[this,ha];rfl
 unfold Lib.trimB
 rw[hr,rB λ a q e=>?_]
 intro ha
 apply h0
 rw[e,DO,ha];rfl
theorem Ah5{n:Nd}(h:G5 n=true):Q6 n=true:=by
 unfold G5 at h
 split at h
 ·cases h
 rename_i hc
 simp only[Bool.or_eq_true,bne_iff_ne,ne_eq,Bool.not_eq_true',beq_eq_false_iff_ne,decide_eq_true_eq,not_or,Decidable.not_not,Bool.not_eq_false]at hc
 obtain⟨⟨⟨⟨⟨⟨⟨c1,c2⟩,c3⟩,c4⟩,c5⟩,c6⟩,c7⟩,c8⟩:=hc
 unfold Q6
 rw[if_neg (by
  rintro(h|h|h|h|h|h|h|h)
  ·exact h c1
  ·exact h c2
  ·exact h c3
  ·omega
  ·omega
  ·omega
  ·omega
  ·rw[c4]at h;cases h)]
 by_cases hs:n.s=[]
 ·rw[if_pos (by simp[hs])]at h
  rw[if_pos hs];simpa using h
 ·rw[if_neg (by simp[hs])]at h
  rw[if_neg hs]
  simp only[Bool.and_eq_true,bne_iff_ne]at h
  rw[Ah4 hs h.1 h.2];simp
theorem Ah6{n:Nd}(h:H5 n=true):MV n=true:=by
 unfold H5 IV at h
 unfold MV
 by_cases h0:n.kind=0\/n.kind=1\/n.kind=2
 ·rw[if_pos h0]at h ⊢;exact h
 rw[if_neg h0]at h ⊢
 by_cases h3:n.kind=3
 ·rw[if_pos h3]at h ⊢;exact Ah5 h
 rw[if_neg h3]at h ⊢
 by_cases h4:n.kind=4
 ·rw[if_pos h4]at h ⊢
  rw[Bool.and_eq_true]at h ⊢
  exact⟨r9 h.1,h.2⟩
 rw[if_neg h4]at h ⊢
 exact h
theorem Ah7{n:Int}{c:Nd}(h:NT n c=true):UC n c=true:=by
 unfold NT at h
 unfold UC MW
 simp only[Bool.and_eq_true,decide_eq_true_eq]at h ⊢
 exact⟨⟨h.1.1,h.1.2⟩,h.2.1,⟨Ah6 h.2.2.2,h.2.2.1.1⟩,by have:=h.2.2.1.2;omega⟩
theorem Ah8{t:Tm}(hp:(t.op=7\/t.op=8)->(GU t.s).2=true)(h:D5 t=true):MX t=true:=by
 unfold D5 FY at h
 unfold MX JM
 by_cases h0:t.op=0
 ·rw[if_pos h0]at h ⊢;rw[Bool.and_comm];exact h
 rw[if_neg h0]at h ⊢
 by_cases h1:t.op=1
 ·rw[if_pos h1]at h ⊢
  simp only[Bool.and_eq_true,decide_eq_true_eq]at h ⊢
  exact⟨⟨⟨h.2.1.1,by omega⟩,h.2.2⟩,h.1⟩
 rw[if_neg h1]at h ⊢
 by_cases h9:t.op=9
 ·rw[if_pos h9]at h ⊢
  simp only[Bool.and_eq_true,decide_eq_true_eq]at h ⊢
  exact⟨⟨h.2.1,Ah7 h.2.2⟩,h.1⟩
 rw[if_neg h9]at h ⊢
 by_cases h2:t.op=2
 ·rw[if_pos h2]at h ⊢
  simp only[Bool.and_eq_true,Bool.or_eq_true,beq_iff_eq,decide_eq_true_eq]at h ⊢
  exact⟨⟨⟨h.2.1,by omega⟩,by omega⟩,h.1⟩
 rw[if_neg h2]at h ⊢
 by_cases h4:t.op=4
 ·rw[if_pos h4]at h ⊢;rw[Bool.and_comm];exact h
 rw[if_neg h4]at h ⊢
 by_cases h3:t.op=3\/t.op=5\/t.op=6
 ·rw[if_pos h3]at h ⊢;rw[Bool.and_comm];exact h
 rw[if_neg h3]at h ⊢
 by_cases h7:t.op=7\/t.op=8
 ·rw[if_pos h7]at h ⊢
  simp only[Bool.and_eq_true,decide_eq_true_eq]at h ⊢
  exact⟨⟨hp h7,h.2.1⟩,h.1⟩
 rw[if_neg h7]at h ⊢
 simp at h
theorem Ah9{w u:A1}(hw:w≠[])(h0: ∀j:Int,0<=j->j<len w->BS (A2 w j) (j==0)=true)(hu: ∀c r,u=c::r->BS (c.toNat:Int) false=false):CE (w++u) 0=len w:=by
 have hl:=G0 hw
 have hlu:=A4 u
 refine S4 (n:=len w) (by rw[A5];omega) (λ j h1 h2=>by rw[H3 h1 h2];exact h0 j h1 h2) (λ h=>?_) 0 (Int.le_refl _) (by omega)
 rw[nO (Int.le_refl _),Int.sub_self]
 cases u with
 |nil=>rw[A5,len_nil]at h;omega
 |cons c r=>rw[DO];rw[show(len w==0)=false from by simpa using(by omega:len w≠0)];exact hu c r U
theorem rC(c:UInt8)(s r:A1):Eng.sub (c::(s++r)) 1 (len s+1)=s:=by
 unfold Eng.sub
 rw[show(len s+1).toNat=s.length+1 by unfold len;omega]
 simp
theorem Ai0{s r:A1}(hu:CR s=true)(hr: ∀c r',r=c::r'->BS (c.toNat:Int) false=false):FH ((46::CG s)++r)=(⟨false,s,0⟩,len (46::CG s)):=by
 have hpre:Lib.hasPrefix ((46::CG s)++r) [46]=true:=by rfl
 have hf:A3 ((46::CG s)++r) 1=CG s++r:=rfl
 unfold FH
 rw[hpre,if_neg (by decide),hf,A6]
 unfold CG
 by_cases h:CF s=true
 ·obtain⟨h1,h2⟩:=Y9 h
  have hl:=G0 h1
  rw[if_pos h,Ah9 h1 h2 hr,if_pos hl]
  show((⟨false,Eng.sub (46::(s++r)) 1 (len s+1),0⟩:Sp),len s+1)=_
  rw[rC,Int.add_comm]
 ·rw[if_neg h,<-TQ hu,dF hu r]
  obtain⟨q,hq⟩:=XT s
  have hw:CE (AE s++r) 0=0:=by
   refine S4 (n:=0) (by have:=A4 (AE s++r);omega) (λ j h1 h2=>by omega) (λ _=>?_) 0 (Int.le_refl _) (Int.le_refl _)
   rw[hq,List.cons_append,DO];rfl
  rw[hw,if_neg (by decide)]
  have hsub:Eng.sub ((46::AE s)++r) 1 (1+len (AE s))=AE s:=by
   rw[Int.add_comm];exact rC 46 (AE s) r
  rw[<-oK,hsub,if_neg (by rintro(h2|h2|h2);exact h2 rfl;exact h h2;exact h2 rfl),Int.add_comm]
def I9(p:List Sp):A1:=(p.map Sp.GS).flatten
def NZ(x:Sp):Prop:=x.part=false/\x.n=0/\CR x.name=true
theorem NZ.GS {x:Sp}(h:NZ x):x.GS=46::CG x.name:=by
 unfold Sp.GS;rw[if_neg (by rw[h.1];decide)];rfl
theorem NZ.eq {x:Sp}(h:NZ x):(⟨false,x.name,0⟩:Sp)=x:=by
 obtain⟨a,b,c⟩:=x
 obtain⟨h1,h2,_⟩:=h
 have h1:a=false:=h1
 have h2:c=0:=h2
 subst h1 h2;rfl
theorem Ai1{p:List Sp}(h: ∀x∈p,NZ x): ∀c r',I9 p=c::r'->BS (c.toNat:Int) false=false:=by
 intro c r' e
 cases p with
 |nil=>cases e
 |cons x p=>
  unfold I9 at e
  rw[List.map_cons,List.flatten_cons,(h x (.head _)).GS]at e
  rw[<-(List.cons.inj e).1];decide
theorem rD: ∀(p2 p1:List Sp) (A:A1) (f:Nat),(∀x∈p2,NZ x)->p2.length<=f->HL f (A++I9 p2) p1 (len A)=(p1++p2,len (A++I9 p2))
 |[],p1,A,f,_,_=>by
  rw[show I9 []=[]from rfl,List.append_nil,List.append_nil]
  cases f with
  |zero=>rfl
  |succ f=>rw[HL,if_neg (by omega)]
 |x::p2,p1,A,f,h,hf=>by
  rw[List.length_cons]at hf
  obtain⟨f,rfl⟩: ∃g,f=g+1:=⟨f-1,by omega⟩
  have hx:=h x (.head _)
  have h2: ∀y∈p2,NZ y:=λ y hy=>h y (.tail _ hy)
  have e:I9 (x::p2)=(46::CG x.name)++I9 p2:=by
   unfold I9;rw[List.map_cons,List.flatten_cons,hx.GS]
  have hn:=A4 (CG x.name)
  have hr:=A4 (I9 p2)
  have hfq:=Ai0 (s:=x.name) (r:=I9 p2) hx.2.2 (Ai1 h2)
  have hst:F7 (A++I9 (x::p2)) (len A)=(x,len (46::CG x.name)):=by
   unfold F7
   rw[U6,e,hfq,if_pos (by show len (46::CG x.name)≠0;rw[A6];omega),hx.eq]
  have ih:=rD p2 (p1++[x]) (A++(46::CG x.name)) f h2 (by omega)
  rw[List.append_assoc,<-e,A5]at ih
  rw[HL,if_pos (by rw[e,A5,A5,A6];omega),hst,if_neg (by show ¬len (46::CG x.name)=0;rw[A6];omega)]
  show HL f (A++I9 (x::p2)) (p1++[x]) (len A+len (46::CG x.name))=_
  rw[ih,List.append_assoc];rfl
theorem Ai2{s:A1}(hu:CR s=true):CG s≠[]:=by
 unfold CG
 by_cases h:CF s=true
 ·rw[if_pos h];exact(Y9 h).1
 ·rw[if_neg h,<-TQ hu]
  obtain⟨q,hq⟩:=XT s
  rw[hq];simp
theorem Ai3{p:List Sp}(hl:p.length<=20)(h: ∀x∈p,NZ x):H4 (FG p)=(p,0,0):=by
 cases p with
 |nil=>rfl
 |cons x p=>
  have hx:=h x (.head _)
  have e:FG (x::p)=I9 (x::p):=by
   unfold FG I9
   rw[if_neg (by rintro(h|h);cases h;have h:x.part=true:=h;rw[hx.1]at h;cases h)];rfl
  have hne:FG (x::p)≠[46]:=by
   rw[e];unfold I9
   rw[List.map_cons,List.flatten_cons,hx.GS]
   intro h2
   have:=(List.cons.inj h2).2
   exact Ai2 hx.2.2 (List.append_eq_nil_iff.1 this).1
  have hg:=rD (x::p) [] [] 20 h hl
  rw[List.nil_append,List.nil_append,len_nil,<-e]at hg
  unfold H4
  rw[if_neg hne,hg,if_neg (by rintro(h|h);(have h:len (FG (x::p))<len (FG (x::p)):=h;omega);cases h)]
theorem rE{x:Tf}(ha:DX x=true)(ho:x.t.op=7\/x.t.op=8):GU x.t.s=((H6 x.t.s).1,true):=by
 obtain⟨p,p1,p2,p3,p4,p5⟩:=eE ha ho
 have hf: ∀y∈p,NZ y:=λ y hy=>⟨p5 y hy,(p2 y hy).2 (p5 y hy)⟩
 have h1:H4 x.t.s=(p,0,0):=by rw[p3];exact Ai3 p1 hf
 have h2:p.any (λ x=>x.part)=false:=by
  rw[List.any_eq_false];intro y hy;rw[p5 y hy];decide
 unfold GU H6
 rw[h1,p4]
 show(p,decide ((0:Int)=0)&& !p.any (λ x=>x.part))=_
 rw[h2];rfl
theorem rF{o:Int}: ∀ {l:List Tf} {L:Option A1},C8 o L l=true->(∀y∈l,ED y=true)->FI o l=true
 |[],L,_,_=>by rw[FI]
 |x::l,L,h,hw=>by
  rw[C8]at h
  simp only[Bool.and_eq_true]at h
  obtain⟨⟨⟨h1,h2⟩,h3⟩,h4⟩:=h
  have hv:Lib.validD x.t.name=true:=by
   by_cases ho:o=2
   ·rw[ho]at h3
    simp only[decide_true,Bool.not_true,Bool.false_or,Bool.and_eq_true]at h3
    exact r9 h3.1
   ·have:x.t.name=[]:=by simpa[ho]using h2
    rw[this];rfl
  have hr:Q8 o x.t.name l=true:=by
   cases l with
   |nil=>rfl
   |cons y l=>
    unfold Q8
    by_cases ho:o=2
    ·rw[ho]at h4 ⊢
     rw[C8]at h4
     simp only[Bool.and_eq_true,decide_true,Bool.not_true,Bool.false_or,Option.all_some,Bool.not_eq_true',decide_eq_false_iff_not]at h4
     have:=h4.1.2.2
     simp[this]
    ·simp[ho]
  rw[FI,h1,h2,hv,hw x (.head _),hr,rF h4 λ y hy=>hw y (.tail _ hy)];rfl
theorem rG: ∀(n:Nat) (x:Tf),x.size<=n->DX x=true->ED x=true
 |0,x,h,_=>by have:=x.size_pos;omega
 |n+1,x,h,ha=>by
  obtain⟨a1,a2,a3,a4⟩:=KK ha
  have hs:=Tf.size_eq x
  have hw: ∀y∈x.ps,ED y=true:=λ y hy=>rG n y (by have:=Q5 hy;omega) (NW a4 y hy)
  have h1:MX { x.t with many:=len x.ps}=true:=Ah8 (λ ho=>by
   have ho:x.t.op=7\/x.t.op=8:=ho
   show(GU x.t.s).2=true
   rw[rE ha ho]) a1
  have h3:Q7 x.t x.ps=true:=by
   have key: ∀q,LN x.t q=true->Q7 x.t q=true:=by
    intro q hq
    by_cases ho:x.t.op=7\/x.t.op=8
    ·match q,hq with
     |[],hq=>
      have hq:(if x.t.op=7\/x.t.op=8 then false else true)=true:=hq
      rw[if_pos ho]at hq;cases hq
     |[y],hq=>
      have hq:(if x.t.op=7\/x.t.op=8 then QC (H6 x.t.s).1 y else true)=true:=hq
      show(if x.t.op=7\/x.t.op=8 then(D4 (GU x.t.s).1 y).2 else true)=true
      rw[if_pos ho]at hq ⊢
      rw[rE ha ho,rA,<-Ah3];exact hq
     |y::z::r,hq=>
      have hq:(if x.t.op=7\/x.t.op=8 then false else true)=true:=hq
      rw[if_pos ho]at hq;cases hq
    ·unfold Q7
     split
     ·rw[if_neg ho]
     ·rw[if_neg ho]
   exact key _ a3
  rw[pR,h1,rF a2 hw,h3];rfl
theorem Ai4:YE F8:=by
 intro x a ha hz ho hps hsz
 have hv:=eJ ha hz (by omega)
 have hkn:=YD (KK ha).2.1 (by omega)
 have han:a.named []=a:=Tf.QD (hkn a (by rw[hps];simp))
 rw[han]
 have hall:=ha
 rw[dU]at hall
 obtain⟨t,ps⟩:=x
 have hps:ps=[a]:=hps
 subst hps
 have ho:t.op=7\/t.op=8:=ho
 have hv:JR t [a]:=hv
 generalize hq:[a]=q at hv
 cases hv with
 |led nm s o b ho2=>
  cases hq
  have hall:(D5 ⟨o,len [a],nm,s,0,B2⟩&&C8 o none [a]&&LN ⟨o,0,nm,s,0,B2⟩ [a]&&FZ [a])=true:=hall
  simp only[Bool.and_eq_true]at hall
  obtain⟨⟨⟨b1,b2⟩,b3⟩,b4⟩:=hall
  have b5:D5 ⟨o,len [a],[],s,0,B2⟩=true:=by
   unfold D5 FY BX at b1 ⊢
   rcases ho2 with rfl|rfl<;>simpa using b1
  have hA:DX (.mk { BJ o with s:=s} [a])=true:=by
   rw[DX]
   show(D5 ⟨o,len [a],[],s,0,B2⟩&&C8 o none [a]&&LN ⟨o,0,[],s,0,B2⟩ [a]&&FZ [a])=true
   rw[b5,b2,b4,show LN ⟨o,0,[],s,0,B2⟩ [a]=true from b3];rfl
  show F8 (.mk { BJ o with s:=s} [a])=true
  unfold F8
  rw[rG _ _ (Nat.le_refl _) hA]
  show(true&&decide (([]:A1)=[])&&decide (o≠9))=true
  rcases ho2 with rfl|rfl<;>rfl
 |_=>rcases ho with h|h<;>cases h
theorem Ai5{x:Tf}(h:x.Y6)(hs:x.size<=64):F1 AE F8 (E7 x)=(x.flat,0,0):=Ag9 Ai4 h hs
end Go.Eng
namespace Go.Proofs.YtmjpjbmeamnfpaaGreatDoor
open Go.Proofs.Tryz
open Go.Eng
theorem Ai6{m:Int}{f:Fl}(h:QB m f=true):len f<=m/\KJ f:=by
 unfold QB at h
 simp only[Bool.and_eq_true,decide_eq_true_eq,List.all_eq_true]at h
 exact⟨h.1,λ t ht=>⟨(h.2 t ht).1.1,(h.2 t ht).1.2,(h.2 t ht).2⟩⟩
theorem Ai7(M:Mem)(f:Fl)(v:Value)(w:World)(hM:Sat w M)(hv:Sl M 11 f.length v (f.flatMap Tm.cells))(hg:Gl w):
    Calls prog 6 [v].toArray w λ e w'=>e= .returned (.bool true)/\Ext w w':=by
 refine AU (Hr:=[]) AP func6 U ntmps6 [(0,B7 v f)] [] [.sl 0 v] U (Ak hM) (fc 0 hv Tm.B4 AA) (λ B hB=>?_) U
 refine AY U (A0 U) U call14 U U (A0 U) (λ _ w M hX=>Aa0 f v 40 M w hX.st.sat (hX.sl 0 U) (by omega)) U ?_
 refine L3 (.v (.bool false)) U (A0 U) U U (λ hs=>?_) (λ hs=>?_)
 rotate_left
 ·refine A7 U (A0 U) U (λ h1=>?_) (λ h1=>?_)
  ·refine AY U (A0 U) U call16 U U (A0 U) (λ _ w M hX=>dR w (hg.low hX.st.low)) U ?_
   exact A9 hB U U (A0 U) U U (A0 U) λ w M hX=>⟨rfl,hX.st.low⟩
  ·simp only[Bool.not_not]at hs;simp[hs]at h1
 obtain⟨hlx,hsx⟩:=Ai6 (by simpa using hs)
 refine IL (γ:=Bool) (pu:=λ b=>b=true-> ∃x:Tf,f=x.flat/\x.Y6) (Fg:=λ _=>[]) (λ b:Bool=>.v (.bool b)) [] U (A0 U) U U call15 U U (OK hs U) (λ w M hX=>(Ab3 f v M w hX.st.sat (hX.sl 0 U) (by omega) (λ t ht=>by have:=hsx t ht;omega)).mono λ e w' he=>by
   obtain⟨⟨b,e1,e2⟩,e3⟩:=he
   exact⟨b,M,e1,e2,Grow.sJ hX.st.sat e3,AA⟩) (λ _=>rfl) λ b hb=>?_
 rcases b with _|_
 ·refine A7 U (A0 U) U (λ h1=>?_) (λ h1=>?_)
  ·refine AY U (A0 U) U call16 U U (A0 U) (λ _ w M hX=>dR w (hg.low hX.st.low)) U ?_
   exact A9 hB U U (A0 U) U U (A0 U) λ w M hX=>⟨rfl,hX.st.low⟩
  ·simp at h1
 obtain⟨x,hfx,hgx⟩:=hb rfl
 have hsz:x.size<=40:=by rw[hfx]at hlx;unfold len at hlx;rw[Tf.DQ]at hlx;omega
 have hsh:KJ x.flat:=by rw[<-hfx];exact hsx
 have hlen:=qR x.size x (Nat.le_refl _) hgx.all hsh
 unfold NX at hlen
 have hback:=Ai5 hgx (by omega)
 refine A7 U (A0 U) U (λ h1=>?_) (λ h1=>?_)
 ·simp only[Bool.not_not]at hs;simp[hs]at h1
 refine AY U (A0 U) U call18 U U (A0 U) (λ _ w M hX=>Af0 x.size x (Nat.le_refl _) hgx.all hgx.op hsh (by rw[<-hfx];omega) v w M hX.st.sat (by rw[<-hfx];exact hX.sl 0 U)) U ?_
 refine IL (λ h:AX=>.tu [.sl 3 h.v,I 0,I 0]) [3] U (A0 U) U U call17 U U (A0 U) (λ w M hX=>by have:=XU Y4 (E7 x) w M hX.st.sat (hg.low hX.st.low) (by omega);rw[hback]at this;exact this) (λ _=>rfl) λ h3 _=>?_
 refine AY U (A0 U) U call16 U U (A0 U) (λ _ w M hX=>dR w (hg.low hX.st.low)) U ?_
 refine AY U (A0 U) U call19 U U (A0 U) (λ _ w M hX=>AZ5 hfx.symm M h3.v v w hX.st.sat (hX.sl 3 U) (hX.sl 0 U)) U ?_
 exact A9 hB U U (A0 U) U U (A0 U) λ w M hX=>⟨rfl,hX.st.low⟩
end Go.Proofs.YtmjpjbmeamnfpaaGreatDoor
namespace Go.Proofs.YtmjpjbmeamnfpaaGreatDoor.schemaBack
open Go.Proofs.Tryz
open Go.ChangeShapes Go.WideShapes Go.ChangeAt Go.RowKit Go.Eng
noncomputable abbrev jP:=prog
noncomputable abbrev jf:FuncId:=6
noncomputable abbrev H7:=Tryz.f6
noncomputable abbrev js:=Rows.schemaBackSpec
noncomputable abbrev jc:=Rows.schemaBackRow
theorem jk0:jc.wf (OpenSpec.ofChange js)=true:=by kernel_rfl
theorem jk1:laidOutB jP=true:=by kernel_rfl
theorem jk2:mapsRowed jP=true:=by kernel_rfl
theorem jk3:H7.params.all (jP.readableRec ·)=true:=by kernel_rfl
theorem jk4:namedTie jP jc.named js.vars=true:=by kernel_rfl
theorem jk5:(jc.stops==[])=true:=by kernel_rfl
theorem jk6:(jP.stops==[])=true:=by kernel_rfl
theorem jk7:(jc.knobs==[])=true:=by kernel_rfl
theorem jk8:(jP.stopKnobs==[])=true:=by kernel_rfl
theorem jk9:(jc.inPlace==jP.inPlace jf)=true:=by kernel_rfl
theorem Aj8:(jc.unfollowed==jP.unfollowed jf)=true:=by kernel_rfl
theorem Aj9:(jc.recurses==jP.recurses jf)=true:=by kernel_rfl
theorem Ak0:(jc.named==jP.varsNamed jf)=true:=by kernel_rfl
theorem Ak1:(jc.maps==(H7.params.toList++js.plain.varTypes jP).any (jP.mapsRec ·))=true:=by kernel_rfl
theorem Ak2:(jc.ifaces==(H7.params.toList++js.plain.varTypes jP).any (jP.ifacesRec ·))=true:=by kernel_rfl
theorem Ak3:(jc.mapsOut==jP.mapsAmong H7.resultTypes.toList)=true:=by kernel_rfl
theorem Ak4:(jc.loops==(H7.params.toList++js.plain.varTypes jP).any (jP.loopsFrom ·))=true:=by kernel_rfl
theorem Ak5:(jc.wideKeys==(H7.params.toList++js.plain.varTypes jP++H7.resultTypes.toList).any (jP.wideKeysFrom ·))=true:=by kernel_rfl
theorem Ak6:js.vars.all (jP.varReadable ·)=true:=by kernel_rfl
theorem Ak7:H7.resultTypes.all (λ t=>jP.readableRec t&&decide (t<jP.types.size))=true:=by kernel_rfl
theorem Ak8:(jc.ifacesOut==H7.resultTypes.toList.any (jP.ifacesRec ·))=true:=by kernel_rfl
theorem Ak9:(jc.loopsOut==H7.resultTypes.toList.any (jP.loopsFrom ·))=true:=by kernel_rfl
theorem Al0:(jc.plainKeys==jP.plainKeys)=true:=by kernel_rfl
theorem Al1:jc.shortTexts.isNone=true:=by kernel_rfl
theorem Al2:jP.stopsHeard=true:=by kernel_rfl
theorem Al3:jP.mayEnter=true:=by kernel_rfl
theorem Al4:(jc.lifted==jP.liftsFinal)=true:=by kernel_rfl
theorem Al5:(jP.make==some jc.make)=true:=by kernel_rfl
theorem Al6:(jc.kinds==(if jc.domain.isEmpty then []else H7.params.toList.map λ t=>match jP.underlying t with|some (.int k)=>some k|_=>none))=true:=by kernel_rfl
theorem Al7:(jc.pinned==jc.pinnedBy)=true:=by kernel_rfl
theorem Al8:(jc.veiled==(H7.params.toList++js.plain.varTypes jP++H7.resultTypes.toList).any (jP.veiledRec ·))=true:=by kernel_rfl
theorem Al9:jc.veiledFits jP H7.params.toList (H7.params.toList++js.plain.varTypes jP++H7.resultTypes.toList)=true:=by kernel_rfl
theorem DK{a b:Bool}(h:a=true)(h2:b=true):(a&&b)=true:=by rw[h,h2];rfl
theorem eK:joinedFacts jP jf H7 js jc=true:=(DK (DK (DK (DK (DK (DK (DK (DK (DK (DK (DK (DK (DK (DK (DK (DK (DK (DK (DK (DK (DK (DK (DK (DK (DK (DK (DK (DK (DK (DK (DK jk0 jk1) jk2) jk3) jk4) jk5) jk6) jk7) jk8) jk9) Aj8) Aj9) Ak0) Ak1) Ak2) Ak3) Ak4) Ak5) Ak6) Ak7) Ak8) Ak9) Al0) Al1) Al2) Al3) Al4) Al5) Al6) Al7) Al8) Al9)
end Go.Proofs.YtmjpjbmeamnfpaaGreatDoor.schemaBack
