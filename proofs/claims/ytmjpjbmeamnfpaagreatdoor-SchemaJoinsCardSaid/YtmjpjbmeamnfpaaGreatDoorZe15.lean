/-
  Parts Trim P2 Bld, put together and made short by wip/py/merge.py (mini.py).
-/
import Derived.Test.YtmjpjbmeamnfpaaGreatDoorZe9
import Derived.Test.YtmjpjbmeamnfpaaGreatDoorZe10
import Derived.Shelf.GgClosure.StringsTrimFunc
import Derived.Test.YtmjpjbmeamnfpaaGreatDoorZe4
import Derived.Laws.BitsLemmas
import Derived.Test.YtmjpjbmeamnfpaaGreatDoorZe3
import Derived.Test.YtmjpjbmeamnfpaaGreatDoorProg
import Derived.Test.YtmjpjbmeamnfpaaGreatDoorZe13
import Derived.Shelf.Strings.Builder1
import Derived.Shelf.Strings.BuilderRune
import Derived.Test.YtmjpjbmeamnfpaaGreatDoorZe0
set_option linter.unusedVariables false
set_option linter.unusedSimpArgs false
namespace Go.Eng
open Go.RowKit
def CA(x:Nat):Bool:=C7 (x:Int)
theorem YV(x:Nat):CA x=true↔48<=x/\x<=57:=by unfold CA C7;simp;omega
theorem uG(x:Nat):CA x=false↔ ¬(48<=x/\x<=57):=by rw[<-YV];simp
theorem gF{s:A1}{i:Nat}(h:i<s.length)(hf:CA (s[i]).toNat=true):Utf8.decode ⟨⟨s⟩⟩ i=((s[i]).toNat,1):=by
 have:=decode_ascii ⟨⟨s⟩⟩ i h (by have:=(YV _).1 hf;show(s[i]).toNat<128;omega)
 exact this
theorem uH{s:A1}{i:Nat}(h:i<s.length)(hf:CA (s[i]).toNat=false):CA (Utf8.decode ⟨⟨s⟩⟩ i).1=false:=by
 rcases Nat.lt_or_ge (s[i]).toNat 128 with hl|hl
 ·have:=decode_ascii ⟨⟨s⟩⟩ i h hl
  rw[this];exact hf
 ·have:=decode_high ⟨⟨s⟩⟩ i h hl
  rw[uG];omega
theorem gG(s:A1): ∀(f pos:Nat),s.length<=pos+f->(∀(j:Nat) (h:j<s.length),pos<=j->CA (s[j]).toNat=true)->Lib.idxFuncFrom CA false ⟨⟨s⟩⟩ f pos= -1
 |0,_,_,_=>rfl
 |f+1,pos,hl,ha=>by
  unfold Lib.idxFuncFrom
  by_cases h:pos<s.length
  ·rw[if_pos (show pos<(ByteArray.mk ⟨s⟩).size from h),gF h (ha pos h (Nat.le_refl _)),if_neg (by rw[ha pos h (Nat.le_refl _)];simp)]
   exact gG s f (pos+1) (by omega) (λ j hj hp=>ha j hj (by omega))
  ·rw[if_neg (show ¬pos<(ByteArray.mk ⟨s⟩).size from h)]
theorem gH(s:A1): ∀(f pos:Nat),s.length<=pos+f->(∃(j:Nat) (h:j<s.length),pos<=j/\CA (s[j]).toNat=false)-> ∃(i:Nat) (h:i<s.length),Lib.idxFuncFrom CA false ⟨⟨s⟩⟩ f pos=(i:Int)/\CA (s[i]).toNat=false
 |0,pos,hl,⟨j,hj,hp,_⟩=>by omega
 |f+1,pos,hl,⟨j,hj,hp,hn⟩=>by
  unfold Lib.idxFuncFrom
  have h:pos<s.length:=by omega
  rw[if_pos (show pos<(ByteArray.mk ⟨s⟩).size from h)]
  cases hf:CA (s[pos]).toNat with
  |true=>
   rw[gF h hf,if_neg (by rw[hf];simp)]
   have hne:pos≠j:=by intro e;subst e;rw[hf]at hn;cases hn
   exact gH s f (pos+1) (by omega) ⟨j,hj,by omega,hn⟩
  |false=>
   rw[if_pos (uH h hf)]
   exact⟨pos,h,rfl,hf⟩
theorem gI(t:A1)(h0: ∃h:0<t.length,CA (t[0]).toNat=false): ∀(f i:Nat),0<i->i<=t.length->i<=f->0<=Lib.lastIdxFuncFrom CA false ⟨⟨t⟩⟩ f i
 |0,i,hi,_,hf=>by omega
 |f+1,i,hi,hl,hf=>by
  obtain⟨hz,hn⟩:=h0
  unfold Lib.lastIdxFuncFrom
  rw[if_pos hi]
  show 0<=if CA (Lib.decodeLastL (t.take i)).1=false then _ else _
  split
  ·omega
  ·rename_i hp
   have hp':CA (Lib.decodeLastL (t.take i)).1=true:=by simpa using hp
   have hb:=(YV _).1 hp'
   have hlen:(t.take i).length=i:=by rw[List.length_take];omega
   have hw:Lib.decodeLastL (t.take i)=((t[i-1]'(by omega)).toNat,1):=by
    have hne: ¬t.take i=[]:=by intro e;rw[e]at hlen;simp at hlen;omega
    have hg:(t.take i).getD ((t.take i).length-1) 0=t[i-1]'(by omega):=by
     rw[hlen,List.getD_eq_getElem?_getD,List.getElem?_take,if_pos (by omega)]
     simp[show i-1<t.length from by omega]
    unfold Lib.decodeLastL at hb ⊢
    rw[if_neg hne,hg]at hb ⊢
    by_cases hc:(t[i-1]'(by omega)).toNat<128
    ·rw[if_pos hc]
    ·exfalso
     rw[if_neg hc]at hb
     dsimp only at hb
     split at hb
     ·rename_i hls
      have hsl:Lib.lastStart (t.take i)<(t.take i).length:=by
       rcases Nat.lt_or_ge (Lib.lastStart (t.take i)) (t.take i).length with h|h
       ·exact h
       ·exfalso
        have e0:(t.take i).drop (Lib.lastStart (t.take i))=[]:=by rw[List.drop_eq_nil_iff];exact h
        rw[e0]at hb
        have:(Lib.decodeL []).1=0:=by decide
        omega
      have hd:Utf8.decode ⟨⟨(t.take i).drop (Lib.lastStart (t.take i))⟩⟩ 0=Lib.decodeL ((t.take i).drop (Lib.lastStart (t.take i))):=rfl
      have hdl:0<((t.take i).drop (Lib.lastStart (t.take i))).length:=by rw[List.length_drop];omega
      have hlow:(((t.take i).drop (Lib.lastStart (t.take i)))[0]).toNat<128:=by
       rcases Nat.lt_or_ge (((t.take i).drop (Lib.lastStart (t.take i)))[0]).toNat 128 with h|h
       ·exact h
       ·have:=decode_high ⟨⟨(t.take i).drop (Lib.lastStart (t.take i))⟩⟩ 0 hdl h
        rw[hd]at this;omega
      have hda:=decode_ascii ⟨⟨(t.take i).drop (Lib.lastStart (t.take i))⟩⟩ 0 hdl hlow
      rw[hd]at hda
      rw[hda]at hls
      have e1:Lib.lastStart (t.take i)=i-1:=by rw[hlen]at hls;simp only at hls;omega
      apply hc
      have e2:((t.take i).drop (Lib.lastStart (t.take i)))[0]=t[i-1]'(by omega):=by
       rw[List.getElem_drop,List.getElem_take];first|done|congr 1|(congr 1;omega)
      rw[<-e2];exact hlow
     ·have:Utf8.runeError=65533:=rfl
      simp only[this]at hb;omega
   rw[hw]
   by_cases hi1:i=1
   ·exfalso
    subst hi1
    rw[hw]at hp'
    have:CA (t[0]).toNat=true:=hp'
    rw[hn]at this;cases this
   ·exact gI t ⟨hz,hn⟩ f (i-1) (by omega) (by omega) (by omega)
theorem YW{s:A1}:HE s=true↔ ∀(j:Nat) (h:j<s.length),CA (s[j]).toNat=true:=by
 have key: ∀(k:Nat) (i:Int),0<=i->(len s-i).toNat<=k->(JL s i=true↔ ∀(j:Nat) (h:j<s.length),i<=(j:Int)->CA (s[j]).toNat=true):=by
  intro k
  induction k with
  |zero=>
   intro i h0 hk
   rw[bK s i (by omega)]
   exact⟨λ _ j h hj=>by unfold len at hk;omega,λ _=>rfl⟩
  |succ k ih=>
   intro i h0 hk
   by_cases hlt:i<len s
   ·obtain⟨hh,he⟩:=nL h0 hlt
    by_cases hf:C7 (A2 s i)=true
    ·rw[<-nR s i h0 hlt hf,ih (i+1) (by omega) (by omega)]
     constructor
     ·intro h j hj hij
      by_cases e:(j:Int)=i
      ·have e':j=i.toNat:=by omega
       subst e'
       unfold CA;rw[<-he];exact hf
      ·exact h j hj (by omega)
     ·intro h j hj hij;exact h j hj (by omega)
    ·rw[nS s i h0 hlt hf]
     constructor
     ·intro h;cases h
     ·intro h
      have:=h i.toNat hh (by omega)
      unfold CA at this
      rw[<-he]at this
      exact absurd this hf
   ·rw[bK s i hlt]
    exact⟨λ _ j h hj=>by unfold len at hlt;omega,λ _=>rfl⟩
 have:=key (len s-0).toNat 0 (Int.le_refl 0) (Nat.le_refl _)
 unfold HE
 rw[this]
 exact⟨λ h j hj=>h j hj (by omega),λ h j hj _=>h j hj⟩
theorem UJ(l:A1)(i j:Nat):(ByteArray.mk ⟨l⟩).extract i j=ByteArray.mk ⟨(l.drop i).take (j-i)⟩:=by
 have:=ByteArray.extract_mk l i j
 rw[this]
theorem uI(s:A1):((Lib.trimF CA ⟨⟨s⟩⟩).data.toList==[])=HE s:=by
 rw[Bool.eq_iff_iff,beq_iff_eq]
 have hsz:(ByteArray.mk ⟨s⟩).size=s.length:=rfl
 by_cases ha: ∀(j:Nat) (h:j<s.length),CA (s[j]).toNat=true
 ·refine⟨λ _=>YW.2 ha,λ _=>?_⟩
  have hi:Lib.idxFunc CA false ⟨⟨s⟩⟩= -1:=gG s s.length 0 (by omega) (λ j h _=>ha j h)
  unfold Lib.trimF Lib.trimLeftF
  rw[if_pos hi]
  unfold Lib.trimRightF
  rw[UJ []];simp
 ·have hex: ∃(j:Nat) (h:j<s.length),0<=j/\CA (s[j]).toNat=false:=by
   apply Classical.byContradiction
   intro hc
   apply ha
   intro j h
   cases hf:CA (s[j]).toNat with
   |true=>rfl
   |false=>exact absurd ⟨j,h,Nat.zero_le _,hf⟩ hc
  obtain⟨i,hi,he,hn⟩:=gH s s.length 0 (by omega) hex
  refine⟨λ h=>?_,λ h=>absurd (YW.1 h) ha⟩
  exfalso
  have hi':Lib.idxFunc CA false ⟨⟨s⟩⟩=(i:Int):=he
  have ht:Lib.trimLeftF CA ⟨⟨s⟩⟩=⟨⟨s.drop i⟩⟩:=by
   unfold Lib.trimLeftF
   rw[hi',if_neg (by omega),hsz,Int.toNat_natCast,UJ,List.take_of_length_le (by rw[List.length_drop];omega)]
  unfold Lib.trimF at h
  rw[ht]at h
  have hpos:0<(s.drop i).length:=by rw[List.length_drop];omega
  have h0: ∃h:0<(s.drop i).length,CA ((s.drop i)[0]).toNat=false:=⟨hpos,by rw[List.getElem_drop];exact hn⟩
  have hlast:0<=Lib.lastIdxFunc CA false ⟨⟨s.drop i⟩⟩:=gI (s.drop i) h0 (s.drop i).length (s.drop i).length hpos (Nat.le_refl _) (Nat.le_refl _)
  have hend:1<=Lib.rightEndF CA ⟨⟨s.drop i⟩⟩:=by
   unfold Lib.rightEndF
   rw[if_pos hlast]
   by_cases hz:(Lib.lastIdxFunc CA false ⟨⟨s.drop i⟩⟩).toNat=0
   ·rw[hz]
    have e:(ByteArray.mk ⟨s.drop i⟩).extract 0 (ByteArray.mk ⟨s.drop i⟩).size=⟨⟨s.drop i⟩⟩:=by
     rw[UJ]
     have:List.take ((s.drop i).length-0) (List.drop 0 (s.drop i))=s.drop i:=by rw[List.drop_zero,Nat.sub_zero,List.take_length]
     exact congrArg (λ l=>(⟨⟨l⟩⟩:ByteArray)) this
    rw[e]
    unfold Lib.decodeGoB
    have hs2:(ByteArray.mk ⟨s.drop i⟩).size=(s.drop i).length:=rfl
    rw[if_neg (by rw[hs2];omega)]
    have:=Lib.decode_width_pos ⟨⟨s.drop i⟩⟩ 0 (by rw[hs2];exact hpos)
    omega
   ·omega
  unfold Lib.trimRightF at h
  rw[UJ]at h
  have h2:(List.take (Lib.rightEndF CA ⟨⟨s.drop i⟩⟩-0) (List.drop 0 (s.drop i)))=[]:=h
  rw[List.drop_zero,Nat.sub_zero,List.take_eq_nil_iff]at h2
  rcases h2 with h2|h2
  ·omega
  ·rw[h2]at hpos;simp at hpos
end Go.Eng
set_option maxRecDepth 100000
namespace Go.Proofs.YtmjpjbmeamnfpaaGreatDoor
open Go.Eng
theorem gJ(r:Int)(w:World):
  Calls Tryz.prog 117 [(.int .i32 r)].toArray w λ e w'=>e= .returned (.bool (C7 r))/\w'=w:=by
 refine CW.C4 Tryz.func117 U Tryz.ntmps117 (Nat.le_of_ble_eq_true U) λ Q hE=>?_
 refine CW.weaken [0] (L':=[Y 0 (.int .i32 r)]) ?_ U
 refine CW.sr (RL.u (.assign .c) U (RL.nil (CW.id (CW.sr ?_))))
 refine RL.m U U (RL.u (.geq (.t U) .c) U (RL.m U U (RL.v (.pos U U) (.move (.t U)) U (RL.v (.pos U U) (.leq (.g U (λ h=>h)) .c) U (RL.u (.and (.t U) (.g U (λ h=>h))) U ?_)))))
 refine RL.a U U (RL.nil (CW.id ?_))
 refine CW.ret (hE.r1 U U ?_)
 exact⟨rfl,rfl⟩
theorem RD{cut:A1}(h: ∀b∈cut,b.toNat<128): ∀(j:Nat) (b:UInt8),cut[j]? =some b->b.toNat<128:=λ _ b hb=>h b (List.mem_of_getElem? hb)
theorem gK(s:A1)(w:World)(hg:Gl w)(hb:len s<=9223372036854775807):
  Calls Tryz.prog 158 [(str s)].toArray w λ e w'=>e= .returned (.bool (HE s))/\Ext w w':=by
 refine CW.C4 Tryz.func158 U Tryz.ntmps158 (Nat.le_of_ble_eq_true U) λ Q hE=>?_
 have hS:St w nM w nM []:=St.start ⟨λ _ _ _ h=>by cases h⟩
 refine CW.weaken [0] (L':=[Y 0 (str s)]) ?_ U
 refine CW.sr (RL.u (.assign .c) U (RL.nil (CW.id (CW.sr ?_))))
 refine RL.m U U ?_
 refine RL.DZ hS .none Tryz.call210 (.cons (.t U) (.cons .f .nil)) (λ _=>(oR 117 CA s _ (hg.low hS.low) Tryz.call117 (by omega) (λ x w _=>gJ x w))) U (λ w1 hS2=>?_)
 refine RL.u (.SF (.t U) .c) U (RL.a U U ?_)
 refine RL.nil (CW.at [Y 2 (.bool (((Lib.trimF CA ⟨⟨s⟩⟩).data.toList)==[]))] U (CW.ret (hE.r1 U U ?_)))
 exact⟨by rw[uI],hS2.low⟩
theorem gL(n x:Int)(w:World)(h:0<=n/\n<=1099511627776):
  Calls Tryz.prog 160 [(i64 n),(i64 x)].toArray w λ e w'=>e= .returned (.bool (decide (-1000<=x)&&decide (x<=1000)&&decide (n+x<=1000)))/\w'=w:=by
 refine CW.C4 Tryz.func160 U Tryz.ntmps160 (Nat.le_of_ble_eq_true U) λ Q hE=>?_
 refine CW.weaken [0,1] (L':=[Y 0 (i64 n),Y 1 (i64 x)]) ?_ U
 refine CW.sr (RL.u (.assign .c) U (RL.nil (CW.id (CW.sr ?_))))
 refine RL.m U U (RL.u (.geq (.t U) .c) U (RL.m U U (RL.v (.pos U U) (.move (.t U)) U (RL.v (.pos U U) (.leq (.g U (λ h=>h)) .c) U (RL.u (.and (.t U) (.g U (λ h=>h))) U ?_)))))
 refine RL.m U U (RL.v (.pos U U) (.move (.t U)) U (RL.v (.pos U U) (.move (.t U)) U (RL.v (.pos U U) (.add (.g U (λ h=>h)) (.g U (λ h=>h)) (λ hW=>by simp only[zb]at hW;omega)) U (RL.v (.pos U U) (.leq (.g U (λ h=>h)) .c) U (RL.u (.and (.t U) (.g U (λ h=>h))) U ?_)))))
 refine RL.a U U (RL.nil (CW.id ?_))
 refine CW.ret (hE.r1 U U ?_)
 exact⟨by first|rfl|simp[Bool.and_assoc],rfl⟩
theorem uJ{w wv:World}{M0 M:Mem}{Rs:List HO}(s:A1)(p:Int)(bp bs:Nat)(hS:St w M0 wv M (.box bp [(i64 p)] 3:: .box bs [(str s)] 9::Rs))(h0:0<=p)(h1:p<=len s)(hb:len s<=9223372036854775807):
  Calls Tryz.prog 116 [(.pointer (some ⟨bp,0,none⟩)),(.pointer (some ⟨bs,0,none⟩))].toArray wv λ e w'=> ∃v,e= .returned v/\v=str (Eng.sub s p (AJ s p))/\St w M0 w' M (.box bp [i64 (AJ s p)] 3:: .box bs [str s] 9::Rs):=by
 refine CW.C4 Tryz.func116 U Tryz.ntmps116 (Nat.le_of_ble_eq_true U) λ Q hE=>?_
 have hbd:=IY s p h0 h1
 refine CW.weaken [0,1] (L':=[Y 0 (.pointer (some ⟨bp,0,none⟩)),Y 1 (.pointer (some ⟨bs,0,none⟩))]) ?_ U
 refine CW.sr (RL.u (.assign .c) U (RL.nil (CW.id (CW.sr ?_))))
 refine RL.u (.D8 (v:=(i64 p)) hS BG (i:=0) U (.t U) Tryz.isAgg3 U) U (RL.a U U (RL.nil (CW.id ?_)))
 refine CW.seq (CW.block ?_)
 refine CW.loop (σ:=Int) (λ k=>[Y 0 (.pointer (some ⟨bp,0,none⟩)),Y 1 (.pointer (some ⟨bs,0,none⟩)),Y 3 (i64 p)]) (λ k wl=>St w M0 wl M (.box bp [(i64 k)] 3:: .box bs [(str s)] 9::Rs)/\p<=k/\k<=len s/\AJ s k=AJ s p) (λ k=>(len s-k).toNat) p [0,1,3] U ?_ ?_
 ·refine⟨hS,?_⟩;exact⟨by omega,by omega,rfl⟩
 ·rintro k wl ⟨hS1,hk0,hk1,hkF⟩
  have hby:=NK s k
  refine CW.seq (CW.sr (RL.u (.D8 (v:=(i64 k)) hS1 BG (i:=0) U (.t U) Tryz.isAgg3 U) U (RL.u (.D8 (v:=(str s)) hS1 BG (i:=1) U (.t U) Tryz.isAgg9 U) U (RL.u (.DD (.t U) Tryz.underlying9) U (RL.u (.lss (.t U) (.t U)) U (RL.m U U (RL.v (.pos U U) (.D8 (v:=(str s)) hS1 BG (i:=1) U (.t U) Tryz.isAgg9 U) U (RL.v (.pos U U) (.D8 (v:=(i64 k)) hS1 BG (i:=0) U (.t U) Tryz.isAgg3 U) U (RL.v (.pos U U) (.E9 (.g U (λ h=>h)) (.g U (λ h=>h)) Tryz.underlying9 (λ hW=>by simp only[zb]at hW;omega)) U (RL.v (.pos U U) (.BU (r:=A2 s k) (.g U (λ h=>h)) Tryz.underlying5 Tryz.underlying21 (λ hW=>by simp only[zb]at hW;exact Eng.wrap_i32 (by omega))) U ?_))))))))))
  refine RL.FG (.pos U U) Tryz.call117 (.cons (.g U (λ h=>h)) .nil) (λ hW=>by simp only[zb]at hW;exact(gJ (A2 s k) _)) U ?_
  refine RL.u (.and (.t U) (.g U (λ h=>h))) U ?_
  refine RL.nil (CW.at [Y 0 (.pointer (some ⟨bp,0,none⟩)),Y 1 (.pointer (some ⟨bs,0,none⟩)),Y 3 (i64 p),Y 15 (.bool ((decide (k<(len s)))&&(C7 (A2 s k))))] U ?_)
  refine CW.cond rfl ?_ ?_<;>intro hb1<;>try simp only[zb]at hb1
  ·refine CW.skip (CW.id (CW.block ?_))
   refine CW.region (RL.u (.D8 (v:=(i64 k)) hS1 BG (i:=0) U (.t U) Tryz.isAgg3 U) U (RL.u (.add (.t U) .c (λ _=>by omega)) U ?_))
   refine RL.st hS1 (i:=0) U (.t U) (.t U) Tryz.sizeOf3 U U U U U (λ w2 hS3=>?_)
   refine RL.nil λ a hs=>Exists.intro (k+1) ⟨hs.BL [0,1,3],?_,?_⟩
   ·refine⟨hS3,?_⟩
    exact⟨by omega,by omega,by rw[<-hkF,dX (by omega) (by omega) hb1.2]⟩
   ·show Int.toNat _<Int.toNat _;omega
  ·refine CW.exit (CW.at [Y 0 (.pointer (some ⟨bp,0,none⟩)),Y 1 (.pointer (some ⟨bs,0,none⟩)),Y 3 (i64 p)] U ?_)
   refine CW.sr (RL.u (.D8 (v:=(str s)) hS1 BG (i:=1) U (.t U) Tryz.isAgg9 U) U (RL.m U U (RL.u (.D8 (v:=(i64 k)) hS1 BG (i:=0) U (.t U) Tryz.isAgg3 U) U (RL.u (.L3 (.t U) (.t U) (.t U) Tryz.underlying9 (λ _=>by omega)) U (RL.a U U (RL.nil (CW.id (CW.ret (hE.r1 U U ?_)))))))))
   clear hE
   have hk:k=AJ s p:=by
    rw[<-hkF]
    by_cases hl:k<len s
    ·exact(dY (by omega) hl (by simp_all)).symm
    ·exact(dZ (by omega)).symm
   subst hk
   exact⟨_,rfl,rfl,hS1⟩
theorem uK{w wv:World}{M0 M:Mem}{Rs:List HO}(s signs:A1)(p:Int)(bp bs:Nat)(hS:St w M0 wv M (.box bp [(i64 p)] 3:: .box bs [(str s)] 9::Rs))(h0:0<=p)(h1:p<=len s)(hb:len s<9223372036854775807):
  Calls Tryz.prog 118 [(str signs),(.pointer (some ⟨bp,0,none⟩)),(.pointer (some ⟨bs,0,none⟩))].toArray wv λ e w'=> ∃v,e= .returned v/\v= .bool (BV s signs p)/\St w M0 w' M (.box bp [i64 (B4 s signs p)] 3:: .box bs [str s] 9::Rs):=by
 refine CW.C4 Tryz.func118 U Tryz.ntmps118 (Nat.le_of_ble_eq_true U) λ Q hE=>?_
 have hby:=NK s p
 refine CW.weaken [0,1,2] (L':=[Y 0 (str signs),Y 1 (.pointer (some ⟨bp,0,none⟩)),Y 2 (.pointer (some ⟨bs,0,none⟩))]) ?_ U
 refine CW.sr (RL.u (.assign .c) U (RL.nil (CW.id (CW.seq ?_))))
 refine CW.sr (RL.u (.D8 (v:=(i64 p)) hS BG (i:=0) U (.t U) Tryz.isAgg3 U) U (RL.u (.D8 (v:=(str s)) hS BG (i:=1) U (.t U) Tryz.isAgg9 U) U (RL.u (.DD (.t U) Tryz.underlying9) U (RL.u (.lss (.t U) (.t U)) U (RL.m U U (RL.v (.pos U U) (.move (.t U)) U (RL.v (.pos U U) (.D8 (v:=(str s)) hS BG (i:=1) U (.t U) Tryz.isAgg9 U) U (RL.v (.pos U U) (.D8 (v:=(i64 p)) hS BG (i:=0) U (.t U) Tryz.isAgg3 U) U (RL.v (.pos U U) (.E9 (.g U (λ h=>h)) (.g U (λ h=>h)) Tryz.underlying9 (λ hW=>by simp only[zb]at hW;omega)) U ?_)))))))))
 refine RL.FG (.pos U U) Tryz.call119 (.cons (.g U (λ h=>h)) (.cons (.g U (λ h=>h)) .nil)) (λ hW=>by simp only[zb]at hW;exact(T2 signs (A2 s p) _)) U ?_
 refine RL.v (.pos U U) (.geq (.g U (λ h=>h)) .c) U (RL.u (.and (.t U) (.g U (λ h=>h))) U ?_)
 refine RL.nil (CW.at [Y 1 (.pointer (some ⟨bp,0,none⟩)),Y 16 (.bool ((decide (p<(len s)))&&(decide (0<=(Lib.indexByte signs (A2 s p).toNat.toUInt8)))))] U ?_)
 refine CW.cond rfl ?_ ?_<;>intro hb1<;>try simp only[zb]at hb1
 ·refine CW.sr (RL.u (.D8 (v:=(i64 p)) hS BG (i:=0) U (.t U) Tryz.isAgg3 U) U (RL.u (.add (.t U) .c (λ _=>by omega)) U ?_))
  refine RL.st hS (i:=0) U (.t U) (.t U) Tryz.sizeOf3 U U U U U (λ w1 hS2=>(RL.nil (CW.id ?_)))
  refine CW.sr (RL.u (.assign .c) U (RL.nil (CW.id (CW.ret (hE.r1 U U ?_)))))
  have hq:BV s signs p=true:=by unfold BV;simp only[zb];exact hb1
  exact⟨_,rfl,by rw[hq],by rw[QL hq];exact hS2⟩
 ·refine CW.skip (CW.id (CW.sr (RL.u (.assign .c) U (RL.nil (CW.id ?_)))))
  refine CW.ret (hE.r1 U U ?_)
  have hq:BV s signs p=false:=by unfold BV;simp only[zb];exact hb1
  exact⟨_,rfl,by rw[hq],by rw[MQ hq];exact hS⟩
end Go.Proofs.YtmjpjbmeamnfpaaGreatDoor
namespace Go.Proofs.YtmjpjbmeamnfpaaGreatDoor
open Go.Eng Go.RowKit
abbrev tB:=163
set_option maxHeartbeats 1000000 in
set_option maxRecDepth 100000 in
theorem uL(b:Nat)(w:World)(h0:w.cell? ⟨b,0,none⟩=some (.pointer (some ⟨b,0,none⟩))):
  Calls Tryz.prog 149 #[.pointer (some ⟨b,0,none⟩)] w λ e w'=>e= .returned (.tuple #[])/\w'=w:=by
 obtain⟨j,hj,_⟩:=Option.map_eq_some_iff.1 (show(Tryz.prog.info? 163).map (·.size)=some 2 by kernel_rfl)
 have mixed:Tryz.prog.follows .mixedOrders=true:=by kernel_rfl
 have u82:=λ w=>run_underlying (P:=Tryz.prog) (w:=w) Tryz.underlying161
 go_enter Tryz.func149,Tryz.ntmps149
 go_wp2
 rw[Lib.run_neq_ptr_same w _ Tryz.underlying161 hj]
 go_wp2
 go_end0
 exact⟨rfl,rfl⟩
set_option maxHeartbeats 1000000 in
set_option maxRecDepth 100000 in
theorem uM(b:Nat)(w:World)(h0:w.cell? ⟨b,0,none⟩=some (.pointer none))(hsh:w.shape? b=some (163,2))(hfz:w.frozen? ⟨b,0,none⟩=false):
  Calls Tryz.prog 149 #[.pointer (some ⟨b,0,none⟩)] w λ e w'=>e= .returned (.tuple #[])/\w'=w.setCell ⟨b,0,none⟩ (.pointer (some ⟨b,0,none⟩)):=by
 obtain⟨j,hj,hjs⟩:=Option.map_eq_some_iff.1 (show(Tryz.prog.info? 163).map (·.size)=some 2 by kernel_rfl)
 have mixed:Tryz.prog.follows .mixedOrders=true:=by kernel_rfl
 have u82:=λ w=>run_underlying (P:=Tryz.prog) (w:=w) Tryz.underlying161
 go_enter Tryz.func149,Tryz.ntmps149
 go_wp2
 rw[Lib.run_to_unsafe w ⟨b,0,none⟩ Tryz.underlying161 Tryz.underlying237 hj (by rw[hjs];decide) hsh (Nat.zero_lt_succ 1)]
 simp only[Result.andThen]
 rw[Oper.upon_value]
 go_wp2
 rw[run_callFunc_extern Tryz.func197 (by kernel_rfl) (by kernel_rfl) (by kernel_rfl) (e:=Extern.AbiNoEscape.same) (by kernel_rfl)]
 rw[Lib.run_noEscape]
 simp only[Result.andThen]
 rw[Oper.upon_value]
 go_wp2
 rw[Lib.run_from_unsafe w ⟨b,0,none⟩ Tryz.underlying237 Tryz.underlying161 hj hsh (by kernel_rfl)]
 simp only[Result.andThen]
 rw[Oper.upon_value]
 go_wp2
 go_end0
 exact⟨rfl,rfl⟩
end Go.Proofs.YtmjpjbmeamnfpaaGreatDoor
