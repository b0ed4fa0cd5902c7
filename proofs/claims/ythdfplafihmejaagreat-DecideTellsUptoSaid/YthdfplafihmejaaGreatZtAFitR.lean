/-
  The reference's acl: fits, Fits, Ask.
-/
import Derived.Test.YthdfplafihmejaaGreatZtUPlainY
import Derived.Test.YthdfplafihmejaaGreatZtAEntZ
import Derived.Test.YthdfplafihmejaaGreatZtBaseZ
import Derived.Test.YthdfplafihmejaaGreatZtVShort
import Derived.Test.YthdfplafihmejaaGreatZtRRefAZ
import Derived.Test.YthdfplafihmejaaGreatZtDCheckZ
import Derived.Test.YthdfplafihmejaaGreatZtAAskZ
import Derived.Test.YthdfplafihmejaaGreatZtUPlain
import Derived.Test.YthdfplafihmejaaGreatZtVWrap
namespace Go.Proofs.YthdfplafihmejaaGreat
open Go.RowKit Go.Maps
def zp2 (a:Bool):Int:=if a=true then 1 else 0
set_option maxHeartbeats 1000000 in
set_option maxRecDepth 100000 in
theorem zlW (w:World) (rv sv cv:Value) (R:List zF) (s c:List ByteArray) (b:Int) (G G':Nat->Prop) (hR:zX w rv (· < w.heap.size) R) (hf:Few R) (h47:xt R) (hs:zx w sv G s) (hz:zaa s) (hc:zx w cv G' c):
    Calls Tryz.prog 66 #[rv,sv,cv,.int .i64 b] w fun e w'=>e=.returned (.int .i64 (zcZ R b c s))∧Chg (fun _=>False) w w':=by
  have ALL:=ze (fun w1 (k:Chg (fun _=>False) w w1) j x (hx:s[j]? = some x)=>zko (b:=b) (zfa hR hf hs k hx) h47 (hz x (zq2 hx)));have HA:=ze (fun w1 (k:Chg (fun _=>False) w w1) x=>zjj w1 cv G' c x (hc.chg k (fun _ _ e=>e)));have HC:=ze hc;have HS:=ze hs;obtain ⟨ra,rcap,rfl,_,_⟩:=hR;obtain ⟨sa,scap,rfl,hl0,_⟩:=hs;obtain ⟨ca,ccap,rfl,hl1,_⟩:=hc;unfold maxLen at hl0 hl1;clear hf hz h47;have ST:=ze (show zcZ R b c s=zak R b c (zp2 true) (s.drop 0) from rfl);generalize zcZ R b c s=res at *;go_enter Tryz.func66,Tryz.ntmps66;go_wp2;go_loopw [9,10] (fun av iv wr=>∃ (k:Nat) (a:Bool),k<=s.length∧iv=.int .i64 k∧av=.bool a∧Hid (res=zak R b c (zp2 a) (s.drop k)∧Chg (fun _=>False) w wr)) (fun _ iv _=>s.length - (intOf iv).toNat)
  case atStart=>exact ⟨0,true,by omega,rfl,rfl,ze ⟨ST.out,Chg.refl _ _⟩⟩
  case round=>
    obtain ⟨k,a,hk,rfl,rfl,HI⟩:=hrel;have KW:=ze HI.out.2;by_cases hlt:k < s.length
    · obtain ⟨x,hx⟩:∃ x,s[k]? = some x:=⟨_,zq0 hlt⟩
      obtain ⟨sa',scap',e1,_,hcl⟩:=HS.out.chg KW.out (fun _ _ e=>e);cases e1;obtain ⟨lb,lo,rfl,_,c0,_⟩:=hcl k x hx;have AL:=ze (ALL.out wr KW.out k x hx);have FS:=ze (show res=if zH R x b≠0 then 2 else zak R b c (if zjs R b c x=true then zp2 a else 0) (s.drop (k+1)) from by rw [HI.out.1];exact zfC hx);clear hcl hx HI;by_cases he:zH R x b=0
      · rw [he] at AL
        have FS2:=ze (show res=zak R b c (zp2 (a && zeM c (Xz R x b))) (s.drop (k+1)) from by
          rw [FS.out,if_neg (by rw [he];simp)];unfold zjs zp2;cases a <;> cases zeM c (Xz R x b) <;> rfl)
        clear FS he;generalize Xz R x b=T at *;go_wp2_with fail;(with_reducible refine AL.out.mono ?_);rintro e w2 ⟨va,rfl,hva,k2⟩;have KW2:=ze (KW.out.trans k2);obtain ⟨va1,va2,rfl,hva0,hvc⟩:=hva;have HVC:=ze hvc;unfold maxLen at hva0;clear k2 AL KW hvc;go_wp2;go_loopw [13,14] (fun mv jv wr=>∃ (j:Nat),j<=T.length∧jv=.int .i64 j∧mv=.bool (zeM c (T.take j))∧Hid (Chg (fun _=>False) w2 wr)) (fun _ jv _=>T.length - (intOf jv).toNat)
        case atStart=>exact ⟨0,by omega,rfl,rfl,ze (Chg.refl _ _)⟩
        case round=>
          obtain ⟨j,hj,rfl,rfl,HJ⟩:=hrel;by_cases hjt:j < T.length
          · obtain ⟨y,hy⟩:∃ y,T[j]? = some y:=⟨_,zq0 hjt⟩
            obtain ⟨lc,ld,rfl,_,d0',_⟩:=HVC.out j y hy;have d0:=zj HJ.out (fun e=>e) d0';have H2:=ze (HA.out _ (KW2.out.trans HJ.out) y);have AT:=ze (show zeM c (T.take (j+1))=(zeM c (T.take j) || Xw c y) from by unfold zeM;rw [zri,hy];simp);clear hy d0';generalize hm:zeM c (T.take j)=m at *;clear hm;generalize Xw c y=r at *;cases m with
            | true=>
              rw [Bool.true_or] at AT;clear H2;go_wp2;go_roundw
              case rel=>exact ⟨j+1,by omega,by go_num,by rw [AT.out],HJ⟩
              case measure=>simp [intOf];omega
            | false=>
              rw [Bool.false_or] at AT;go_wp2_with fail;(with_reducible refine H2.out.mono ?_);rintro e w4 ⟨rfl,rfl⟩;cases r
              all_goals
                go_wp2;go_roundw
                case rel=>exact ⟨j+1,by omega,by go_num,by rw [AT.out],HJ⟩
                case measure=>simp [intOf];omega
          · obtain rfl:j=T.length:=by omega
            have KWJ:=ze (KW2.out.trans HJ.out);rw [zrk];generalize zeM c T=m at *;cases a <;> cases m
            all_goals
              go_wp2;go_roundw
              case rel=>exact ⟨k+1,_,by omega,by go_num,rfl,ze ⟨FS2.out,KWJ.out⟩⟩
              case measure=>simp [intOf];omega
      · have R2:=ze (show res=2 from by rw [FS.out,if_pos he])
        have g1:(zH R x b != 0)=true:=by rw [zre];exact he
        have g2:(zH R x b == 0)=false:=by rw [zq9];exact he
        clear FS he;generalize zH R x b=ek at *;go_wp2_with fail;(with_reducible refine AL.out.mono ?_);rintro e w2 ⟨va,rfl,⟨va1,va2,rfl,_,_⟩,k2⟩;have K2:=ze (KW.out.trans k2);clear k2 AL;go_wp2;go_ret;exact ⟨by rw [R2.out];rfl,K2.out⟩
    · obtain rfl:k=s.length:=by omega
      have R:=ze (show res=zp2 a from by rw [HI.out.1,List.drop_length];rfl);cases a
      all_goals
        go_wp2;go_ret;exact ⟨by rw [R.out];rfl,KW.out⟩
def ovI (o:Bool):Int:=if o=true then 2 else 0
set_option maxHeartbeats 2000000 in
set_option maxRecDepth 100000 in
theorem zpg (w:World) (b0:Nat) (ty:TypeId) (L:List Za) (ver:Nat) (rv cv:Value) (R:List zF) (c:List ByteArray) (op b:Int) (G G':Nat->Prop) (hl:Yk w b0 ty G L ver) (hL:L.length<=1000) (hR:zX w rv (· < w.heap.size) R) (hf:Few R) (h47:xt R) (hzL:∀ x∈L,zaa x.2) (hc:zx w cv G' c) (hzc:zaa c) (h0:zcB R b c op=0):
    Calls Tryz.prog 36 #[.pointer (some ⟨b0,0,none⟩),rv,.int .i64 op,cv,.int .i64 b] w fun e w'=>e=.returned (.tuple #[.int .i64 (yE R b c op 0 0 L).1,.int .i64 (yE R b c op 0 0 L).2,.int .i64 0])∧Chg (fun _=>False) w w':=by
  have M1:=ze (zau w cv G' c hc hzc);have FI:=ze (fun w1 (q:Chg (fun _=>False) w w1) sv s (hs:zx w1 sv G s) (hz:zaa s)=>zlW w1 rv sv cv R s c b G G' (zat hR q) hf h47 hs hz (hc.chg q (fun _ _ e=>e)));obtain ⟨la,cap,h1,h2,hcap,hcm⟩:=hl.open
  have H1:=ze h1;have H2:=ze h2;obtain ⟨ra,rcap,rfl,hl0,_⟩:=hR;obtain ⟨ca,ccap,rfl,hl1,_⟩:=hc;unfold maxLen at hl0 hl1 hcm
  obtain ⟨q1,q2⟩:zaJ c=true∧¬ (op < 0∨8<=op)∧zpK true b R.length=0:=by
    unfold zcB at h0;cases hb:zaJ c with
    | false=>rw [hb] at h0;simp at h0
    | true=>
      rw [hb,if_pos rfl] at h0;by_cases h:op < 0∨8<=op
      · rw [if_pos h] at h0;simp at h0
      · rw [if_neg h] at h0;exact ⟨rfl,h,h0⟩
  obtain ⟨_,q3,q4,q5⟩:=zoK q2.2;have q6:=q2.1;rw [q1] at M1;have g1:decide (op < 0)=false:=zqZ (by omega);have g2:decide (7 < op)=false:=zqZ (by omega);have g3:decide (b < 1)=false:=zqZ (by omega);have g4:decide (5000 < b)=false:=zqZ (by omega);have g5:decide (400 < (R.length:Int))=false:=zqZ (by omega);have HZL:=ze hzL;clear hl h1 h2 hf h0 q1 q2 q6 h47 hzL;have ST:=ze (show yE R b c op 0 0 L=yE R b c op 0 (ovI false) (L.drop 0) from rfl);generalize yE R b c op 0 0 L=res at *;go_enter Tryz.func36,Tryz.ntmps36;go_wp2_with fail;(with_reducible refine M1.out.mono ?_);rintro e w2 ⟨rfl,d2⟩;have K2:=ze (show Chg (fun _=>False) w w2 from d2);clear d2 M1;go_wp2;go_loopw [13,14] (fun ov iv wr=>∃ (k:Nat) (o:Bool),k<=L.length∧iv=.int .i64 k∧ov=.bool o∧Hid (res=yE R b c op k (ovI o) (L.drop k)∧Chg (fun _=>False) w wr)) (fun _ iv _=>L.length - (intOf iv).toNat)
  case atStart=>exact ⟨0,false,by omega,rfl,rfl,ze ⟨ST.out,K2.out⟩⟩
  case round=>
    obtain ⟨k,ov,hk,rfl,rfl,HI⟩:=hrel;have KW:=ze HI.out.2;have c0:wr.cell? ⟨b0,0,none⟩=some (.slice la L.length cap):=zf (KW.out.obj (fun e=>e) H1.out) rfl;by_cases hlt:k < L.length
    · obtain ⟨x,hx⟩:∃ x,L[k]? = some x:=⟨_,zq0 hlt⟩
      obtain ⟨g,o,sa,sc,rfl,_,d0,d1,hs⟩:=(H2.out.chg HI.out.2 (fun _ _ e=>e)).get hx;have F:=ze (FI.out wr KW.out _ x.2 hs.at_ (HZL.out x (zq2 hx)));have STP:=ze (show res=if x.1=op then (if zcZ R b c x.2=1 then (1,(k:Int)) else yE R b c op (k+1) (if zcZ R b c x.2=2 then 2 else ovI ov) (L.drop (k+1))) else yE R b c op (k+1) (ovI ov) (L.drop (k+1)) from by rw [HI.out.1];exact zfL hx);clear HI hx hs;generalize zcZ R b c x.2=f at *;obtain ⟨oq,l⟩:=x;simp only at d0 d1 F STP;by_cases hop:oq=op
      · have e1:(oq != op)=false:=by rw [zrf];exact hop
        have e2:(oq == op)=true:=beq_iff_eq.2 hop;by_cases hf1:f=1
        · have R1:=ze (show res=(1,(k:Int)) from by rw [STP.out,if_pos hop,if_pos hf1])
          subst hf1;clear STP hop;go_wp2_with fail;(with_reducible refine F.out.mono ?_);rintro e w4 ⟨rfl,k4⟩;have K4:=ze (KW.out.trans k4);clear k4 F;go_wp2;refine bodyPost_ret (v:=.tuple #[.int .i64 1,.int .i64 k,.int .i64 0]) (by simp [results,Tryz.results36,go_sem]) rfl ?_;exact ⟨by rw [R1.out],K4.out⟩
        · have m1:(f == 1)=false:=zq9.2 hf1
          by_cases hf2:f=2
          · have R2:=ze (show res=yE R b c op (k+1) (ovI true) (L.drop (k+1)) from by rw [STP.out,if_pos hop,if_neg hf1,if_pos hf2];rfl)
            subst hf2;clear STP hop hf1;go_wp2_with fail;(with_reducible refine F.out.mono ?_);rintro e w4 ⟨rfl,k4⟩;have K4:=ze (KW.out.trans k4);clear k4 F;cases ov
            all_goals
              go_wp2;go_roundw
              case rel=>exact ⟨k+1,true,by omega,by go_num,rfl,ze ⟨R2.out,K4.out⟩⟩
              case measure=>simp [intOf];omega
          · have m2:(f == 2)=false:=zq9.2 hf2
            have R2:=ze (show res=yE R b c op (k+1) (ovI ov) (L.drop (k+1)) from by rw [STP.out,if_pos hop,if_neg hf1,if_neg hf2]);clear STP hop hf1 hf2;go_wp2_with fail;(with_reducible refine F.out.mono ?_);rintro e w4 ⟨rfl,k4⟩;have K4:=ze (KW.out.trans k4);clear k4 F;cases ov
            all_goals
              go_wp2;go_roundw
              case rel=>exact ⟨k+1,_,by omega,by go_num,rfl,ze ⟨R2.out,K4.out⟩⟩
              case measure=>simp [intOf];omega
      · have e1:(oq != op)=true:=by rw [zre];exact hop
        have e2:(oq == op)=false:=zq9.2 hop;have R2:=ze (show res=yE R b c op (k+1) (ovI ov) (L.drop (k+1)) from by rw [STP.out,if_neg hop]);clear STP hop F;go_wp2;go_roundw
        case rel=>exact ⟨k+1,ov,by omega,by go_num,rfl,ze ⟨R2.out,KW.out⟩⟩
        case measure=>simp [intOf];omega
    · obtain rfl:k=L.length:=by omega
      have R:=ze (show res=(ovI ov,-1) from by rw [HI.out.1,List.drop_length];rfl);cases ov
      · go_wp2
        refine bodyPost_ret (v:=.tuple #[.int .i64 0,.int .i64 (-1),.int .i64 0]) (by simp [results,Tryz.results36,go_sem]) rfl ?_;exact ⟨by rw [R.out];rfl,HI.out.2⟩
      · go_wp2
        refine bodyPost_ret (v:=.tuple #[.int .i64 2,.int .i64 (-1),.int .i64 0]) (by simp [results,Tryz.results36,go_sem]) rfl ?_;exact ⟨by rw [R.out];rfl,HI.out.2⟩
end Go.Proofs.YthdfplafihmejaaGreat
