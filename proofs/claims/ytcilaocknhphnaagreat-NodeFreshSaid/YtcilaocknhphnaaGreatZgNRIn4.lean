/-
  Package node: what a node tells of itself, behind a boot. Package node: Boot and Open, where they refuse. The reference's reader (layer 7): Num, where a number stands there. The reference's reader (layer 7): Done, Text. The reference's reader (layer 7): Word. The reference's reader (layer 7): Set.
-/
import Derived.Test.YtcilaocknhphnaaGreatZgNNode3
import Derived.Test.YtcilaocknhphnaaGreatZgNGrow
import Derived.Test.YtcilaocknhphnaaGreatZgDCheckZ
namespace Go.Proofs.YtcilaocknhphnaaGreat
open Go.RowKit Go.Maps
theorem xp (w:World) (n key:Nat) (c:w.cell? ⟨n,5,none⟩=some (.int .u16 (key:Int))):Calls Tryz.prog 36 #[.pointer (some ⟨n,3,none⟩)] w fun e w'=>e=.returned (.int .u16 (key:Int))∧w=w':=by
 go_enter Tryz.func36,Tryz.ntmps36;go_wp2;go_ret;exact ⟨rfl,rfl⟩
theorem zfD (w:World) (n:Nat) (t:Int) (c:w.cell? ⟨n,4,none⟩=some (.int .i64 t)):Calls Tryz.prog 37 #[.pointer (some ⟨n,3,none⟩)] w fun e w'=>e=.returned (.int .i64 t)∧w=w':=by
 go_enter Tryz.func37,Tryz.ntmps37;go_wp2;go_ret;exact ⟨rfl,rfl⟩
theorem zgW (w:World) (t:Nat) (c:w.cell? ⟨t,1,none⟩=some (.slice none 0 0)):Calls Tryz.prog 175 #[.pointer (some ⟨t,1,none⟩)] w fun e w'=>e=.returned (.slice none 0 0)∧w=w':=by
 go_enter Tryz.func175,Tryz.ntmps175;go_wp2;go_loopw [11,3] (fun iv lv wr=>iv=.int .i64 0∧lv=.slice none 0 0∧w=wr) (fun _ _ _=>0)
 case atStart=>exact ⟨rfl,rfl,rfl⟩
 case round=>
  obtain ⟨rfl,rfl,rfl⟩:=hrel;go_wp2;go_ret;exact ⟨rfl,rfl⟩
theorem ziN (w:World) (t:Nat) (c:w.cell? ⟨t,1,none⟩=some (.slice none 0 0)):Calls Tryz.prog 92 #[.pointer (some ⟨t,0,none⟩)] w fun e w'=>e=.returned (.slice none 0 0)∧w=w':=by
 have KE:=zf (zgW w t c);go_enter Tryz.func92,Tryz.ntmps92;go_wp2_with fail;(with_reducible refine KE.out.mono ?_);rintro e w2 ⟨rfl,rfl⟩;go_wp2;go_ret;exact ⟨rfl,rfl⟩
theorem zdY (w:World) (n t:Nat) (c1:w.cell? ⟨n,1,none⟩=some (.pointer (some ⟨t,0,none⟩))) (c:w.cell? ⟨t,1,none⟩=some (.slice none 0 0)):Calls Tryz.prog 30 #[.pointer (some ⟨n,0,none⟩)] w fun e w'=>e=.returned (.slice none 0 0)∧w=w':=by
 have KE:=zf (ziN w t c);go_enter Tryz.func30,Tryz.ntmps30;go_wp2_with fail;(with_reducible refine KE.out.mono ?_);rintro e w2 ⟨rfl,rfl⟩;go_wp2;go_ret;exact ⟨rfl,rfl⟩
theorem zce (w:World):Calls Tryz.prog 87 #[.slice none 0 0] w fun e w'=>e=.returned (.slice none 0 0)∧w=w':=by
 have EQN:=fun w=>Lib.run_eql_slice_nil (P:=Tryz.prog) w 64 _ none 0 0 0 0 Tryz.underlying64;go_enter Tryz.func87,Tryz.ntmps87;go_wp2;go_ret;exact ⟨rfl,rfl⟩
theorem zcf (w:World):Calls Tryz.prog 88 #[.slice none 0 0] w fun e w'=>e=.returned (.slice none 0 0)∧w=w':=by
 have EQN:=fun w=>Lib.run_eql_slice_nil (P:=Tryz.prog) w 73 _ none 0 0 0 0 Tryz.underlying73;go_enter Tryz.func88,Tryz.ntmps88;go_wp2;go_ret;exact ⟨rfl,rfl⟩
theorem zb0 (w:World) (n:Nat) (c:w.cell? ⟨n,13,none⟩=some (.slice none 0 0)):Calls Tryz.prog 20 #[.pointer (some ⟨n,3,none⟩)] w fun e w'=>e=.returned (.slice none 0 0)∧w=w':=by
 have KE:=zf (zce w);go_enter Tryz.func20,Tryz.ntmps20;go_wp2_with fail;(with_reducible refine KE.out.mono ?_);rintro e w2 ⟨rfl,rfl⟩;go_wp2;go_ret;exact ⟨rfl,rfl⟩
theorem zdZ (w:World) (n:Nat) (c:w.cell? ⟨n,12,none⟩=some (.slice none 0 0)):Calls Tryz.prog 22 #[.pointer (some ⟨n,3,none⟩)] w fun e w'=>e=.returned (.slice none 0 0)∧w=w':=by
 have KE:=zf (zcf w);go_enter Tryz.func22,Tryz.ntmps22;go_wp2_with fail;(with_reducible refine KE.out.mono ?_);rintro e w2 ⟨rfl,rfl⟩;go_wp2;go_loopw [12] (fun iv wr=>iv=.int .i64 0∧w=wr) (fun _ _=>0)
 case atStart=>exact ⟨rfl,rfl⟩
 case round=>
  obtain ⟨rfl,rfl⟩:=hrel;go_wp2;go_ret;exact ⟨rfl,rfl⟩
set_option maxRecDepth 100000 in
theorem zen (w:World) (i t:Int) (hi:i < 0∨2 < i) (p q:Value):
  Calls Tryz.prog 15 #[.int .i64 i,.int .i64 t,p,q] w fun e w'=>e=.returned (.tuple #[.pointer none,.int .i64 1])∧w=w':=by
 have t:(decide (i < 0) || decide (3<=i))=true:=by
  rcases hi with h | h
  ·rw [zlx h];rfl
  ·rw [zlx (show 3<=i by omega)];simp
 by_cases h:i < 0
 ·have t1:decide (i < 0)=true:=zlx h
  go_enter Tryz.func15,Tryz.ntmps15;go_wp2;go_ret2;exact ⟨rfl,rfl⟩
 ·have t1:decide (i < 0)=false:=zly h
  have t2:decide (3<=i)=true:=zlx (by omega);go_enter Tryz.func15,Tryz.ntmps15;go_wp2;go_ret2;exact ⟨rfl,rfl⟩
set_option maxHeartbeats 4000000 in
set_option maxRecDepth 100000 in
theorem zdf (w:World) (B:DB) (d:Dev) (m:Nat) (objs:List Yr) (num:Int) (half i:Nat) (hi:i < 3) (t:Int) (ht:0<=t∧t<=2305843009213693952) (b:Nat) (hd:zY w B d) (ca:zds 65 d ⟨num,half,⟨(YI ⟨(m:Int),objs⟩).toArray⟩⟩) (hr:xF ⟨(m:Int),objs⟩=true) (hm:40<=m) (hs0:(YI ⟨(m:Int),objs⟩).length<=100000):
  Calls Tryz.prog 15 #[.int .i64 (i:Int),.int .i64 t,B.ptr,.pointer (some ⟨b,0,none⟩)] w fun e w'=>e=.returned (.tuple #[.pointer none,.int .i64 21])∧Chg (fun _=>False) w w':=by
 have HD:=zf hd;have HB:=zf (fun k (e:B.S k)=>hd.lt e);have CA:=zf ca;have HR:=zf hr;have HS0:=zf hs0;have OP:=zf (zbZ w B _ hd);have t1:decide ((i:Int) < 0)=false:=zly (by omega);have t2:decide (3<=(i:Int))=false:=zly (by omega);have t3:decide (t < 0)=false:=zly (by omega);have t4:decide (2305843009213693952 < t)=false:=zly (by omega);have t5:decide (40<=(m:Int))=true:=zlx (by omega);clear hd ca hr hs0;unfold DB.ptr at *;go_enter Tryz.func15,Tryz.ntmps15;go_wp2_with fail;refine (OP.out).mono ?_;rintro e w1 (⟨hbad,_⟩ | ⟨_,jb,rfl,j1,k1,hb1,hb2⟩)
 ·exact absurd hbad CA.out.rep.fine
 rw [zgy CA.out.rep] at j1;have K1:=zf k1;have RC:=zf (zcG w1 B jb _ j1);have ss:(⟨(YI ⟨(m:Int),objs⟩).toArray⟩:ByteArray).size=(YI ⟨(m:Int),objs⟩).length:=YG _;have DC:=zf (zbi w1 ⟨(m:Int),objs⟩ ⟨(YI ⟨(m:Int),objs⟩).toArray⟩ (by simp) HR.out (by rw [ss];have:=HS0.out;omega));clear k1 OP;unfold zc0 at *;clear j1;simp only at RC DC;go_wp2_with fail;refine (RC.out).mono ?_;rintro e w1' ⟨rfl,rfl⟩;go_wp2_with fail;refine (DC.out).mono ?_;rintro e w2 ⟨oa,oc,rfl,ho,hob,k2⟩;have K2:=zf ((K1.out.trans k2).trans (zi (fun _=>False) w2 (.cells #[.int .i64 (m:Int),.slice oa objs.length oc] 40)));have OB:=zh w2 (.cells #[.int .i64 (m:Int),.slice oa objs.length oc] 40);have c0:=zg (o:=0) OB rfl;have c1:=zg (o:=1) OB rfl;clear k2 ho DC RC K1 OB;go_wp2;go_ret2;exact ⟨rfl,K2.out⟩
set_option maxHeartbeats 4000000 in
set_option maxRecDepth 100000 in
theorem zb1 (w:World) (n i j:Nat) (tn boot:Int) (la:Option Addr) (lc:Nat) (c3:w.cell? ⟨n,3,none⟩=some (.int .i64 (i:Int))) (c6:w.cell? ⟨n,6,none⟩=some (.bool false)) (c11:w.cell? ⟨n,11,none⟩=some (.slice la j lc)) (h0:0<=tn) (h2:tn < 3) (hne:tn≠(i:Int)) (hbo:1<=boot∧boot<=40) (hj:40<=j):
  Calls Tryz.prog 16 #[.pointer (some ⟨n,0,none⟩),.int .i64 tn,.int .i64 boot] w fun e w'=>e=.returned (.tuple #[.agg #[.int .i64 0,.int .i64 0,.string ⟨#[]⟩],.int .i64 3])∧Chg (fun _=>False) w w':=by
 have ka:=zi (fun _=>False) w (.cells #[.int .i64 0,.int .i64 0,.string ⟨#[]⟩] 47);have OA:=zf (zh w (.cells #[.int .i64 0,.int .i64 0,.string ⟨#[]⟩] 47));have KA:=zf ka;have d3:=zj ka (fun e=>e) c3;have d6:=zj ka (fun e=>e) c6;have d11:=zj ka (fun e=>e) c11;have AN:=zf (zaX _ n i tn d3 h0 h2 hne);have g1:decide (boot < 1)=false:=zly (by omega);have g2:decide (40 < boot)=false:=zly (by omega);have g3:decide (40<=(j:Int))=true:=zlx (by omega);clear ka c3 c6 c11;go_enter Tryz.func16,Tryz.ntmps16;go_wp2_with fail;(with_reducible refine AN.out.mono ?_);rintro e w2 ⟨rfl,rfl⟩;have x0:=zg (o:=0) OA.out rfl;have x1:=zg (o:=1) OA.out rfl;have x2:=zg (o:=2) OA.out rfl;have f0:=zk (o:=0) OA.out;have f1:=zk (o:=1) OA.out;have f2:=zk (o:=2) OA.out;go_wp2_with fail;refine bodyPost_ret (v:=.tuple #[.agg #[.int .i64 0,.int .i64 0,.string ⟨#[]⟩],.int .i64 3]) (by simp [results,Tryz.results16,go_sem,x0,x1,x2]) rfl ?_;exact ⟨rfl,KA.out⟩
def RIn (w:World) (b:Nat) (s:ByteArray) (n:Nat):Prop:=w.heap[b]? = some (.cells #[.string s,.int .i64 (n:Int),.bool false] 181 (0,0))
theorem RIn.set {w:World} {b:Nat} {s:ByteArray} {n:Nat} (h:RIn w b s n) (m:Nat):RIn (w.setCell ⟨b,1,none⟩ (.int .i64 (m:Int))) b s m:=zq (o:=1) h _
theorem RIn.chg {S:Nat->Prop} {w w':World} {b:Nat} {s:ByteArray} {n:Nat} (h:RIn w b s n) (hc:Chg S w w') (hs:¬ S b):RIn w' b s n:=hc.obj hs h
theorem zfr {k:Nat} (h:k<=8):128 ^ k<=72057594037927936:=Nat.le_trans (Nat.pow_le_pow_right (by decide) h) (by decide)
theorem zgL (n k m:Nat) (hm:m=n / 128 ^ k):n % 128 ^ k+m % 128*128 ^ k=n % 128 ^ (k+1):=by
 have h1:=zeK n k m hm;rw [<- zeI n k,hm,Nat.add_comm]
set_option maxHeartbeats 4000000 in
set_option maxRecDepth 100000 in
theorem yu (w:World) (b:Nat) (s:ByteArray) (p n:Nat) (most:Int) (rest:List UInt8) (h:RIn w b s p) (hd:s.data.toList.drop p=zW n++rest) (hn:n<=4611686018427387904) (hm:(n:Int)<=most) (hs:s.size<=1000000):
  Calls Tryz.prog 80 #[.pointer (some ⟨b,0,none⟩),.int .i64 most] w fun e w'=>e=.returned (.int .i64 (n:Int))∧RIn w' b s (p+(zW n).length)∧Chg (fun k=>k=b) w w':=by
 have H:=zf h;have HD:=zf hd;have HSZ:=zf (zz s);have c2:=zg (o:=2) h rfl;clear h hd;go_enter Tryz.func80,Tryz.ntmps80;go_wp2;go_loopw [5,6,7] (fun av pv kv wr=>∃ k m A P q:Nat,k<=8∧kv=.int .i64 (k:Int)∧av=.int .i64 (A:Int)∧pv=.int .i64 (P:Int)∧Hid (RIn wr b s q∧Chg (fun k=>k=b) w wr)∧Hid (q=p+k∧P=128 ^ k∧A=n % 128 ^ k∧m=n / 128 ^ k∧(0 < k->0 < m)∧k+(zW m).length=(zW n).length∧∃ pre,pre.length=k∧s.data.toList.drop p=pre++(zW m++rest))) (fun _ _ kv _=>9 - (intOf kv).toNat)
 case atStart=>exact ⟨0,n,0,1,p,by omega,rfl,rfl,rfl,zf ⟨H.out,Chg.refl _ _⟩,zf ⟨rfl,rfl,by simp [Nat.mod_one],by simp,by omega,by omega,[],rfl,by simpa using HD.out⟩⟩
 case round=>
  obtain ⟨k,m,A,P,q,hk,rfl,rfl,rfl,HW,HI⟩:=hrel;obtain ⟨eq,eP,eA,em,hpos,hlen,pre,hp,hl⟩:=HI.out;clear HI;have hget:=zeL hl hp;rw [List.getElem?_drop,<- eq] at hget
  have hk2:q < s.size:=by
   have:=(zlA.1 hget).1;rw [HSZ.out] at this;exact this
  obtain ⟨c,hc⟩:∃ c:Nat,c=if m < 128 then m else m % 128+128:=⟨_,rfl⟩
  have hc256:c < 256:=by rw [hc];split <;> omega
  have hcm:c % 128=m % 128:=by rw [hc];split <;> omega
  have hcb:c < 128↔m < 128:=by rw [hc];split <;> omega
  have hcz:m < 128->c=m:=fun h=>by rw [hc,if_pos h]
  have qc:(s[q]'hk2).toNat=c:=by
   have e:s.data.toList[q]? = some (s[q]'hk2):=by
    rw [zlz (by rw [HSZ.out];exact hk2)];rfl
   rw [hget,<- hc] at e;have e:=Option.some.inj e;rw [<- e,UInt8.toNat_ofNat'];omega
  have hle:m % 128*128 ^ k<=n:=by
   rw [em];exact Nat.le_trans (Nat.mul_le_mul_right _ (Nat.mod_le _ _)) (Nat.div_mul_le_self _ _)
  have hA:A<=4611686018427387904:=by rw [eA];exact Nat.le_trans (Nat.mod_le _ _) hn
  have hP:P<=72057594037927936:=by rw [eP];exact zfr hk
  obtain ⟨sh,hsh⟩:∃ sh:Nat,sh=c % 128*P:=⟨_,rfl⟩;obtain ⟨B,hB⟩:∃ B:Nat,B=n % 128 ^ (k+1):=⟨_,rfl⟩;have hsh2:sh<=4611686018427387904:=by rw [hsh,hcm,eP];omega
  have hB2:B<=4611686018427387904:=by rw [hB];exact Nat.le_trans (Nat.mod_le _ _) hn
  have hAB:A+sh=B:=by rw [hsh,hcm,eP,eA,hB];exact zgL n k m em
  have E3:=zf (show wrap64 ((A:Int)+(sh:Int))=(B:Int) by unfold wrap64;omega)
  have E2:=zf (show wrap64 ((c:Int) % 128*(P:Int))=(sh:Int) by
   have e1':(c:Int) % 128=((c % 128:Nat):Int):=by omega
   have h3:((c % 128:Nat):Int)*(P:Int)=(sh:Int):=by rw [hsh];push_cast;rfl
   rw [e1',h3];unfold wrap64;omega)
  have g1:decide ((s.size:Int)<=(q:Int))=false:=zly (by omega);have g1':decide (s.size<=q)=false:=zly (by omega);have g3:decide ((k:Int) < 9)=true:=zlx (by omega);have a1:IntKind.i64.wrap ((q:Int)+1)=((q+1:Nat):Int):=by rw [IntKind.wrap_i64];omega
  obtain ⟨P2,hP2⟩:∃ P2:Nat,P2=P*128:=⟨_,rfl⟩;have hPa:P2<=P*128:=Nat.le_of_eq hP2;have hPb:P*128<=P2:=Nat.le_of_eq hP2.symm
  have FIN:=zf (show m < 128->B=n∧q+1=p+(zW n).length∧(0 < k->0 < c)∧c < 128 from fun hb=>
   ⟨by rw [hB];exact zeJ (by rw [<- em];exact hb),by rw [<- hlen,ZQ hb,eq];rfl,fun h=>by rw [hcz hb];exact hpos h,hcb.2 hb⟩)
  have NX:=zf (show ¬ m < 128->(k < 8∧¬ c < 128∧P<=562949953421312)∧q+1=p+(k+1)∧P2=128 ^ (k+1)∧B=n % 128 ^ (k+1)∧m / 128=n / 128 ^ (k+1)∧(0 < k+1->0 < m / 128)∧k+1+(zW (m / 128)).length=(zW n).length∧∃ pre,pre.length=k+1∧s.data.toList.drop p=pre++(zW (m / 128)++rest) from fun hb=>by
   have hk8:k < 8:=by
    rcases Nat.lt_or_ge k 8 with q | q
    ·exact q
    ·exfalso
     have hk9:k=8:=by omega
     subst hk9;have:n / 128 ^ 8 < 128:=by rw [Nat.div_lt_iff_lt_mul (by decide)];omega
     omega
   exact ⟨⟨hk8,fun h=>hb (hcb.1 h),by rw [eP];exact Nat.le_trans (Nat.pow_le_pow_right (by decide) (by omega:k<=7)) (by decide)⟩,by omega,by rw [hP2,eP,Nat.pow_succ],hB,by rw [em,Nat.div_div_eq_div_mul,Nat.pow_succ],fun _=>by omega,by rw [<- hlen,Yh (n:=m) (by omega),List.length_cons];omega,_,by rw [zlC,hp];rfl,zeH (n:=m) hl (by omega)⟩)
  clear eA em hpos hlen hl hp hget hc hcm hcb hcz hle hsh hB eq eP hAB hP2;have c0:=zg (o:=0) HW.out.1 rfl;have c1:=zg (o:=1) HW.out.1 rfl;go_wp2_with fail;refine zP (by kernel_rfl) (by kernel_rfl) ?_
  repeat still_step
  refine wpStill_nil ?_;have W1:=zf (And.intro (HW.out.1.chg (zy (fun _=>False) wr) (fun e=>e)) HW.out.2.drew);clear c0 c1 HW;generalize wr.drew=wa at *;have c0:=zg (o:=0) W1.out.1 rfl;have c1:=zg (o:=1) W1.out.1 rfl;go_wp2_with fail;refine zP (by kernel_rfl) (by kernel_rfl) ?_
  repeat still_step
  refine wpStill_nil ?_;have W2:=zf (And.intro (W1.out.1.chg (zy (fun _=>False) wa) (fun e=>e)) W1.out.2.drew);clear c0 c1 W1;generalize wa.drew=wb at *;have c1:=zg (o:=1) W2.out.1 rfl;have f1:=zk (o:=1) W2.out.1;have HW2:=zf (And.intro (W2.out.1.set (q+1)) (W2.out.2.trans (zA wb b 1 (.int .i64 ((q+1:Nat):Int)))));clear W2;by_cases hb:m < 128
  ·obtain ⟨hBn,hq,hkz,hcc⟩:=FIN.out hb
   have h128:decide ((c:Int) < 128)=true:=zlx (by omega);have h128':decide (c < 128)=true:=zlx hcc;have g5:decide (4611686018427387904 < (B:Int))=false:=zly (by omega);have g5':decide (most < (B:Int))=false:=zly (by omega);have FIN2:=zf (And.intro hBn hq);clear hBn hq FIN NX;by_cases hk0:0 < k
   ·have g6:decide (0 < (k:Int))=true:=zlx (by omega)
    have g6':decide (0 < k)=true:=zlx hk0;have hc0:0 < c:=hkz hk0;have g7:((c:Int) == 0)=false:=by rw [zlI];omega
    have g8:(c == 0)=false:=by rw [zlI];omega
    have g9:decide (c=0)=false:=zly (by omega);have g9':decide ((c:Int)=0)=false:=zly (by omega);clear hkz;have e2:=E2.out;have e3:=E3.out;go_wp2;go_ret;exact ⟨by first | rfl | (rw [FIN2.out.1];rfl) | (rw [<- FIN2.out.1];rfl) | (show Ending.returned (Value.int IntKind.i64 (wrap64 ((A:Int)+(sh:Int))))=_;rw [E3.out,FIN2.out.1]),by rw [<- FIN2.out.2];exact HW2.out.1,HW2.out.2⟩
   ·have g6:decide (0 < (k:Int))=false:=zly (by omega)
    have g6':decide (0 < k)=false:=zly hk0;clear hkz;have e2:=E2.out;have e3:=E3.out;go_wp2;go_ret;exact ⟨by first | rfl | (rw [FIN2.out.1];rfl) | (rw [<- FIN2.out.1];rfl) | (show Ending.returned (Value.int IntKind.i64 (wrap64 ((A:Int)+(sh:Int))))=_;rw [E3.out,FIN2.out.1]),by rw [<- FIN2.out.2];exact HW2.out.1,HW2.out.2⟩
  ·obtain ⟨⟨hk8,hcc,hP7⟩,nx⟩:=NX.out hb
   have NX2:=zf nx;have E4:=zf (show wrap64 ((P:Int)*128)=(P2:Int) by unfold wrap64;omega);clear NX nx;have h128:decide ((c:Int) < 128)=false:=zly (by omega);have h128':decide (c < 128)=false:=zly hcc;have g7:((c:Int) == 0)=false:=by rw [zlI];omega
   have g8:(c == 0)=false:=by rw [zlI];omega
   have g9:decide (c=0)=false:=zly (by omega);have g9':decide ((c:Int)=0)=false:=zly (by omega);clear FIN;by_cases hk0:0 < k
   ·have g6:decide (0 < (k:Int))=true:=zlx (by omega)
    have g6':decide (0 < k)=true:=zlx hk0;have e2:=E2.out;have e3:=E3.out;have e4:=E4.out;go_wp2;go_roundw
    case rel=>exact ⟨k+1,m / 128,B,P2,q+1,by omega,by go_num,by first | rfl | (refine congrArg (Value.int IntKind.i64) ?_;omega),by first | rfl | (refine congrArg (Value.int IntKind.i64) ?_;omega),HW2,NX2⟩
    case measure=>simp [intOf];omega
   ·have g6:decide (0 < (k:Int))=false:=zly (by omega)
    have g6':decide (0 < k)=false:=zly hk0;have e2:=E2.out;have e3:=E3.out;have e4:=E4.out;go_wp2;go_roundw
    case rel=>exact ⟨k+1,m / 128,B,P2,q+1,by omega,by go_num,by first | rfl | (refine congrArg (Value.int IntKind.i64) ?_;omega),by first | rfl | (refine congrArg (Value.int IntKind.i64) ?_;omega),HW2,NX2⟩
    case measure=>simp [intOf];omega
set_option maxHeartbeats 2000000 in
set_option maxRecDepth 100000 in
theorem zbe (w:World) (b:Nat) (s:ByteArray) (h:RIn w b s s.size):
  Calls Tryz.prog 85 #[.pointer (some ⟨b,0,none⟩)] w fun e w'=>e=.returned (.int .i64 0)∧RIn w' b s s.size∧Chg (fun _=>False) w w':=by
 have H:=zf h;have c0:=zg (o:=0) h rfl;have c1:=zg (o:=1) h rfl;have c2:=zg (o:=2) h rfl;clear h;go_enter Tryz.func85,Tryz.ntmps85;go_wp2_with fail;refine zP (by kernel_rfl) (by kernel_rfl) ?_;refine WS.out ?_
 repeat (refine Zd (fun K hK=>?_);go_simp;refine hK _ ?_;clear hK K)
 refine Zv ?_;have FIN:=zf (And.intro (H.out.chg (zy (fun _=>False) w) (fun e=>e)) (zy (fun _=>False) w));clear c0 c1 c2 H;generalize w.drew=w2 at *;go_wp2;go_ret;exact ⟨rfl,FIN.out.1,FIN.out.2⟩
set_option maxHeartbeats 2000000 in
set_option maxRecDepth 100000 in
theorem zfj (w:World) (b:Nat) (s:ByteArray) (p m:Nat) (most:Int) (rest:List UInt8) (h:RIn w b s p) (hd:s.data.toList.drop p=zW m++rest) (hr:m<=rest.length) (hm:(m:Int)<=most) (hs:s.size<=1000000):
  Calls Tryz.prog 84 #[.pointer (some ⟨b,0,none⟩),.int .i64 most] w fun e w'=>e=.returned (.string (s.extract (p+(zW m).length) (p+(zW m).length+m)))∧RIn w' b s (p+(zW m).length+m)∧Chg (fun k=>k=b) w w':=by
 have hsz:=ZN hd (yd m);have NM:=zf (yu w b s p m most rest h hd (by omega) hm hs);obtain ⟨q,hq⟩:∃ q,q=p+(zW m).length:=⟨_,rfl⟩;rw [<- hq] at NM ⊢;have hq1:q+m<=s.size:=by omega
 clear hq hsz hd hr h;have a0:IntKind.i64.wrap ((s.size:Int) - (q:Int))=((s.size - q:Nat):Int):=by rw [IntKind.wrap_i64];omega
 have g0:decide (((s.size - q:Nat):Int) < (m:Int))=false:=zly (by omega);have g0':decide (s.size - q < m)=false:=zly (by omega);have g1:decide ((s.size:Int) - (q:Int) < (m:Int))=false:=zly (by omega);have g1':decide (wrap64 ((s.size:Int) - (q:Int)) < (m:Int))=false:=zly (by unfold wrap64;omega);have a1:IntKind.i64.wrap ((q:Int)+(m:Int))=((q+m:Nat):Int):=by rw [IntKind.wrap_i64];omega
 have t1:((q:Int)).toNat=q:=by omega
 have t2:(((q+m:Nat):Int)).toNat=q+m:=by omega
 have hp2:((q+m:Nat):Int)<=(s.size:Int):=by omega
 have hp3:(q:Int)<=((q+m:Nat):Int):=by omega
 have hp4:q<=q+m:=by omega
 have b0:0<=(q:Int)+(m:Int):=by omega
 have b1:(q:Int)<=(q:Int)+(m:Int):=by omega
 have b2:(q:Int)+(m:Int)<=(s.size:Int):=by omega
 have t3:((q:Int)+(m:Int)).toNat=q+m:=by omega
 go_enter Tryz.func84,Tryz.ntmps84;go_wp2_with fail;(with_reducible refine NM.out.mono ?_);rintro e w1 ⟨rfl,r1,k1⟩;have c0:=zg (o:=0) r1 rfl;have c1:=zg (o:=1) r1 rfl;have c2:=zg (o:=2) r1 rfl;have R1:=zf (And.intro r1 k1);clear r1 k1 NM;go_wp2_with fail;refine zP (by kernel_rfl) (by kernel_rfl) ?_;refine WS.out ?_
 repeat (refine Zd (fun K hK=>?_);go_simp;refine hK _ ?_;clear hK K)
 refine Zv ?_;have R2:=zf (And.intro (R1.out.1.chg (zy (fun _=>False) w1) (fun e=>e)) R1.out.2.drew);clear c0 c1 c2 R1;generalize w1.drew=w2 at *;have c0:=zg (o:=0) R2.out.1 rfl;have c1:=zg (o:=1) R2.out.1 rfl;go_wp2_with fail;refine zP (by kernel_rfl) (by kernel_rfl) ?_
 repeat still_step
 refine wpStill_nil ?_;have R3:=zf (And.intro (R2.out.1.chg (zy (fun _=>False) w2) (fun e=>e)) R2.out.2.drew);clear c0 c1 R2;generalize w2.drew=w3 at *;have c1:=zg (o:=1) R3.out.1 rfl;have f1:=zk (o:=1) R3.out.1;have FIN:=zf (And.intro (R3.out.1.set (q+m)) (R3.out.2.trans (zA w3 b 1 (.int .i64 ((q+m:Nat):Int)))));clear R3;go_wp2;go_ret;exact ⟨rfl,FIN.out.1,FIN.out.2⟩
set_option maxHeartbeats 4000000 in
set_option maxRecDepth 100000 in
theorem zbd (w:World) (b:Nat) (s:ByteArray) (p:Nat) (x:ByteArray) (rest:List UInt8) (h:RIn w b s p) (hd:s.data.toList.drop p=ZX x++rest) (hx:ZZ x.data.toList=true) (hs:s.size<=1000000):
  Calls Tryz.prog 82 #[.pointer (some ⟨b,0,none⟩)] w fun e w'=>e=.returned (.string x)∧RIn w' b s (p+(ZX x).length)∧Chg (fun k=>k=b) w w':=by
 obtain ⟨l2,l8⟩:=YY hx;have l1:1<=zI x.data.toList:=((Zr _).1 hx).2.1;have hsz:=ZN hd (by unfold ZX;simp);have hwl:(ZX x).length=1+2*zI x.data.toList:=by unfold ZX;rw [List.length_cons,l2];omega
 have hd1:s.data.toList.drop p=UInt8.ofNat (zI x.data.toList) :: (x.data.toList++rest):=by rw [hd];unfold ZX;rfl
 have hd2:s.data.toList.drop (p+1)=x.data.toList++rest:=by
  have:=Zb (l:=s.data.toList) (n:=p) (p:=[UInt8.ofNat (zI x.data.toList)]) (r:=x.data.toList++rest) (by simpa using hd1)
  simpa using this
 have hq:s.extract (p+1) (p+1+2*zI x.data.toList)=x:=zbw (by
  rw [zb7,hd2,show p+1+2*zI x.data.toList - (p+1)=2*zI x.data.toList by omega,<- l2,List.take_left])
 have hget:=zeQ hd1;have hk2:p < s.size:=by omega
 have qc:(s[p]'hk2).toNat=zI x.data.toList:=by
  have e:s.data.toList[p]? = some (s[p]'hk2):=by
   rw [zlz (by rw [zz];exact hk2)];rfl
  rw [hget] at e;have e:=Option.some.inj e;rw [<- e,UInt8.toNat_ofNat'];omega
 generalize zI x.data.toList=n at *;obtain ⟨m,hm⟩:∃ m,m=2*n:=⟨_,rfl⟩;obtain ⟨p1,hp1⟩:∃ p1,p1=p+1:=⟨_,rfl⟩;obtain ⟨z,hz⟩:∃ z,z=p1+m:=⟨_,rfl⟩;obtain ⟨m1,hm1⟩:∃ m1,m1=1+m:=⟨_,rfl⟩;have EX:s.extract p1 z=x:=by rw [hz,hp1,hm];exact hq
 have EP:=zf (show p+(ZX x).length=z by omega);have hzs:z<=s.size:=by omega
 have MY:=zf (fun w=>zbW w x (by rw [<- EX,ByteArray.size_extract];omega));rw [hx] at MY;have a0:IntKind.i64.wrap (n:Int)=(n:Int):=by rw [IntKind.wrap_i64];omega
 have a1:IntKind.i64.wrap (2*(n:Int))=(m:Int):=by rw [IntKind.wrap_i64];omega
 have a2:IntKind.i64.wrap ((p:Int)+1)=(p1:Int):=by rw [IntKind.wrap_i64];omega
 have a3:IntKind.i64.wrap ((p1:Int)+(m:Int))=(z:Int):=by rw [IntKind.wrap_i64];omega
 have a4:IntKind.i64.wrap (1+(m:Int))=(m1:Int):=by rw [IntKind.wrap_i64];omega
 have a5:IntKind.i64.wrap ((p:Int)+(m1:Int))=(z:Int):=by rw [IntKind.wrap_i64];omega
 have g1:decide ((s.size:Int)<=(p:Int))=false:=zly (by omega);have g1':decide (s.size<=p)=false:=zly (by omega);have g2:decide ((s.size:Int) < (z:Int))=false:=zly (by omega);have g2':decide (s.size < z)=false:=zly (by omega);have b1:(p1:Int)<=(z:Int):=by omega
 have b2:(z:Int)<=(s.size:Int):=by omega
 have b3:p1<=z:=by omega
 have H:=zf h;have c0:=zg (o:=0) h rfl;have c1:=zg (o:=1) h rfl;have c2:=zg (o:=2) h rfl;clear h hd hd1 hd2 hq hwl hget hm hp1 hz hm1 l2 l8 l1 hsz hx;go_enter Tryz.func82,Tryz.ntmps82;go_wp2_with fail;refine zP (by kernel_rfl) (by kernel_rfl) ?_;refine WS.out ?_
 repeat (refine Zd (fun K hK=>?_);go_simp;refine hK _ ?_;clear hK K)
 refine Zv ?_;have R1:=zf (And.intro (H.out.chg (zy (fun _=>False) w) (fun e=>e)) (zy (fun k=>k=b) w));clear c0 c1 c2 H;generalize w.drew=w1 at *;have c0:=zg (o:=0) R1.out.1 rfl;have c1:=zg (o:=1) R1.out.1 rfl;go_wp2_with fail;refine zP (by kernel_rfl) (by kernel_rfl) ?_
 repeat still_step
 refine wpStill_nil ?_;have R2:=zf (And.intro (R1.out.1.chg (zy (fun _=>False) w1) (fun e=>e)) R1.out.2.drew);clear c0 c1 R1;generalize w1.drew=w2 at *;have c0:=zg (o:=0) R2.out.1 rfl;have c1:=zg (o:=1) R2.out.1 rfl;go_wp2_with fail;refine zC (N:=99) [.rd [0,1,2,3,4,5,6,7,8,9,10,11,12,13,14,15,16,17,18,19,20,21,22,23,24,25,26,27,28,29,30],.ef 31,.rd [32,33]] (fun W=>W.cell? ⟨b,0,none⟩=some (.string s)∧W.cell? ⟨b,1,none⟩=some (.int .i64 (p:Int))) (by kernel_rfl) (by kernel_rfl) (by kernel_rfl) (by kernel_rfl) (Nat.le_of_ble_eq_true rfl) ⟨c0,c1⟩ ?_;refine zJ (A:=?A1) ?h1a ?h1b
 case h1a=>
  rintro w' ⟨y0,y1⟩ K hK;simp only [zS,zls,zlt,zlu,zlv,zlw];refine WS.out ?_
  repeat (refine Zd (fun K hK=>?_);go_simp;refine hK _ ?_;clear hK K)
  refine Zv ?_;exact hK
 have R3:=zf (And.intro (R2.out.1.chg (zy (fun _=>False) w2) (fun e=>e)) R2.out.2.drew);clear c0 c1 R2;generalize w2.drew=w3 at *;have MY3:=zf (MY.out w3);clear MY;refine zQ rfl ?_;go_wp2_with fail;(with_reducible refine MY3.out.mono ?_);rintro e w4 ⟨rfl,k4⟩;have R4:=zf (And.intro (R3.out.1.chg k4 (fun e=>e)) (R3.out.2.trans (k4.mono (fun _ _ e=>e.elim))));clear k4 MY3 R3;have c0:=zg (o:=0) R4.out.1 rfl;have c1:=zg (o:=1) R4.out.1 rfl;go_wp2_with fail;refine ⟨⟨c0,c1⟩,?_⟩;refine zJ (A:=?A2) ?h2a ?h2b
 case h2a=>
  rintro w' ⟨y0,y1⟩ K hK;simp only [zS,zls,zlt,zlu,zlv,zlw]
  repeat still_step
  refine wpStill_nil ?_;exact hK
 refine Za ?_;go_wp2_with fail;refine zP (by kernel_rfl) (by kernel_rfl) ?_
 repeat still_step
 refine wpStill_nil ?_;have R5:=zf (And.intro (R4.out.1.chg (zy (fun _=>False) w4) (fun e=>e)) R4.out.2.drew);clear c0 c1 R4;generalize w4.drew=w5 at *;have c1:=zg (o:=1) R5.out.1 rfl;have f1:=zk (o:=1) R5.out.1;have FIN:=zf (And.intro (R5.out.1.set z) (R5.out.2.trans (zA w5 b 1 (.int .i64 (z:Int)))));clear R5;go_wp2;go_ret;exact ⟨rfl,by rw [EP.out];exact FIN.out.1,FIN.out.2⟩
set_option maxHeartbeats 4000000 in
set_option maxRecDepth 100000 in
theorem zgw (w:World) (b:Nat) (s:ByteArray) (p:Nat) (l:List ByteArray) (rest:List UInt8) (h:RIn w b s p) (hd:s.data.toList.drop p=xK l++rest) (hl:xw l=true) (hs:s.size<=1000000):
  Calls Tryz.prog 81 #[.pointer (some ⟨b,0,none⟩)] w fun e w'=>∃ v,e=.returned v∧w'.ownsRow w.heap.size 29 1 v l.length (zO l)∧RIn w' b s (p+(xK l).length)∧Chg (fun k=>k=b) w w':=by
 obtain ⟨l1,l16⟩:=xY hl;have MAY:=zf (show ∀ x∈l,ZZ x.data.toList=true from fun x hx=>Zm hl hx)
 have SZ:=zf (show ∀ x∈l,x.size<=maxLen from fun x hx=>by
  have:=YY (MAY.out x hx);unfold maxLen;rw [<- zz];omega)
 have HL:=zf hl;have hbw:=zu h;have hd1:s.data.toList.drop p=UInt8.ofNat l.length :: (Zh l++rest):=by rw [hd];unfold xK;rfl
 have hd2:s.data.toList.drop (p+1)=Zh l++rest:=by
  have:=Zb (l:=s.data.toList) (n:=p) (p:=[UInt8.ofNat l.length]) (r:=Zh l++rest) (by simpa using hd1)
  simpa using this
 have hsl:(xK l).length=1+(Zh l).length:=by unfold xK;rw [List.length_cons];omega
 have hk2:p < s.size:=by
  have:=ZN hd (by omega);omega
 have hget:=zeQ hd1
 have qc:(s[p]'hk2).toNat=l.length:=by
  have e:s.data.toList[p]? = some (s[p]'hk2):=by
   rw [zlz (by rw [zz];exact hk2)];rfl
  rw [hget] at e;have e:=Option.some.inj e;rw [<- e,UInt8.toNat_ofNat'];omega
 have DR:=zf (fun k x (hx:l[k]? = some x)=>show s.data.toList.drop (p+1+(Zh (l.take k)).length)=ZX x++(Zh (l.drop (k+1))++rest) from by
  rw [<- List.append_assoc,<- za8 hx];exact Zb (by rw [hd2,zaq l k,List.append_assoc]))
 rw [hsl,<- Nat.add_assoc];obtain ⟨n,hn⟩:∃ n,n=l.length:=⟨_,rfl⟩;rw [<- hn] at qc l1 l16;have HN:=zf hn;obtain ⟨p1,hp1⟩:∃ p1,p1=p+1:=⟨_,rfl⟩;have HP:=zf hp1;have a0:IntKind.i64.wrap (n:Int)=(n:Int):=by rw [IntKind.wrap_i64];omega
 have a2:IntKind.i64.wrap ((p:Int)+1)=(p1:Int):=by rw [IntKind.wrap_i64];omega
 have g1:decide ((s.size:Int)<=(p:Int))=false:=zly (by omega);have g1':decide (s.size<=p)=false:=zly (by omega);have H:=zf h;have c0:=zg (o:=0) h rfl;have c1:=zg (o:=1) h rfl;have c2:=zg (o:=2) h rfl;clear h hd hd1 hd2 hl hsl hget hn hp1;go_enter Tryz.func81,Tryz.ntmps81;go_wp2_with fail;refine zP (by kernel_rfl) (by kernel_rfl) ?_;refine WS.out ?_
 repeat (refine Zd (fun K hK=>?_);go_simp;refine hK _ ?_;clear hK K)
 refine Zv ?_;have R1:=zf (And.intro (H.out.chg (zy (fun _=>False) w) (fun e=>e)) (zy (fun k=>k=b) w));clear c0 c1 c2 H;have zw1:w.heap.size<=w.drew.heap.size:=zlS _;generalize w.drew=w1 at *;have c0:=zg (o:=0) R1.out.1 rfl;have c1:=zg (o:=1) R1.out.1 rfl;go_wp2_with fail;refine zP (by kernel_rfl) (by kernel_rfl) ?_
 repeat still_step
 refine wpStill_nil ?_;have R2:=zf (And.intro (R1.out.1.chg (zy (fun _=>False) w1) (fun e=>e)) R1.out.2.drew);clear c0 c1 R1;have zw2:w1.heap.size<=w1.drew.heap.size:=zlS _;generalize w1.drew=w2 at *;have c1:=zg (o:=1) R2.out.1 rfl;have f1:=zk (o:=1) R2.out.1;have R3:=zf (And.intro (R2.out.1.set p1) (R2.out.2.trans (zA w2 b 1 (.int .i64 (p1:Int)))));have ka:=zi (fun _=>False) (w2.setCell ⟨b,1,none⟩ (.int .i64 (p1:Int))) (.cells #[] 29);have zs:(w2.setCell ⟨b,1,none⟩ (.int .i64 (p1:Int))).heap.size=w2.heap.size:=World.size_setCell _ _ _;have R4:=zf (And.intro (R3.out.1.chg ka (fun e=>e)) (R3.out.2.trans (ka.mono (fun _ _ e=>e.elim))));have hob:=zh (w2.setCell ⟨b,1,none⟩ (.int .i64 (p1:Int))) (.cells #[] 29);rw [World.size_setCell] at hob
 have O4:=zf (show ((w2.setCell ⟨b,1,none⟩ (.int .i64 (p1:Int))).alloc (.cells #[] 29)).ownsRow w.heap.size 29 1 (.slice (some ⟨w2.heap.size,0,none⟩) 0 0) 0 (zO []) from
  ⟨rfl,.inr ⟨_,0,_,rfl,by omega,hob,zlS _,by unfold maxLen;omega,rfl,rfl⟩⟩)
 have SIZ:=zf (show zjI l from fun x hx=>by
  have:=YY (MAY.out x hx);rw [<- zz];omega)
 clear ka R3 R2 zs hob;go_wp2;clear c1 f1;generalize (w2.setCell ⟨b,1,none⟩ (.int .i64 (p1:Int))).alloc (.cells #[] 29)=w5 at *;go_loopw [4,5] (fun sv kv wr=>∃ k:Nat,k<=n∧kv=.int .i64 k∧Hid (wr.ownsRow w.heap.size 29 1 sv k (zO (l.take k))∧RIn wr b s (p+1+(Zh (l.take k)).length)∧Chg (fun x=>x=b) w wr)) (fun _ kv _=>n - (intOf kv).toNat)
 case atStart=>exact ⟨0,by omega,rfl,zf ⟨by simpa using O4.out,by rw [<- HP.out];simpa [Zh] using R4.out.1,R4.out.2⟩⟩
 case round=>
  clear O4 R4;obtain ⟨k,hk,rfl,HI⟩:=hrel;have c2:=zg (o:=2) HI.out.2.1 rfl;by_cases hlt:k < n
  ·have hn:=HN.out
   obtain ⟨x,hx⟩:∃ x,l[k]? = some x:=⟨_,zlz (by omega)⟩;clear hn;have IW:=zf (zbd wr b s _ x _ HI.out.2.1 (DR.out k x hx) (MAY.out x (zlB hx)) hs);have OW:=zf HI.out.1;have KW:=zf HI.out.2.2
   have TW:=zf (show zO (l.take k)++[Value.string x]=zO (l.take (k+1)) from by
    unfold zO;rw [zlR,hx,List.map_append];rfl)
   have TE:=zf (show p+1+(Zh (l.take k)).length+(ZX x).length=p+1+(Zh (l.take (k+1))).length from by
    rw [YD hx,zlC];omega)
   obtain ⟨sa,sc,rfl⟩:=zl OW.out;clear HI hx;go_wp2_with fail;(with_reducible refine IW.out.mono ?_);rintro e w3 ⟨rfl,h3,k3⟩;have z3:w.heap.size<=w3.heap.size:=by have:=KW.out.size;have:=k3.size;omega
   have O3:=zf (zo OW.out k3 (fun j hj e=>by have:=(OW.out.lt j hj).1;omega));rw [TE.out] at h3;have ka:=zi (fun _=>False) w3 (.cells #[.string x] 29);have H3:=zf (h3.chg ka (fun e=>e));have K3:=zf (KW.out.trans (k3.trans (ka.mono (fun _ _ e=>e.elim))));have O5:=zf (zo O3.out ka (fun _ _ e=>e));clear h3 k3 IW OW KW O3 ka TE c2;go_wp2_with (at_builtin;refine zK rfl (.tmp 55) (.tmp 58) 32 rfl 29 1 16 Tryz.underlying32 Tryz.elemWord w.heap.size _ k _ rfl O5.out w3.heap.size [.string x] 29 (0,0) rfl ?a2 rfl ?a3 ?a4 ?a5 ?a6 ?a7)
   case a2=>exact zh _ _
   case a3=>intro u hu;simp at hu;subst hu;rfl
   case a4=>omega
   case a5=>unfold maxLen;omega
   case a6=>rw [zlH];omega
   intro v5 w6 o5 g5 _;rw [TW.out] at o5;have O6:=zf o5;have H5:=zf (H3.out.chg (Chg.of_grown g5) (fun e=>by have:=(O5.out.lt b e).1;omega));have K5:=zf (K3.out.next (Chg.of_grown g5) (fun j hj e=>by have:=(O5.out.lt j e).1;omega));clear o5 g5 H3 K3 O5 TW;go_wp2;go_roundw
   case rel=>exact ⟨k+1,by omega,by go_num,zf ⟨O6.out,H5.out,K5.out⟩⟩
   case measure=>simp [intOf];omega
  ·have hkn:k=l.length:=by have:=HN.out;omega
   have O6:=HI.out.1;have H6:=HI.out.2.1;have hkk:n<=k:=by omega
   have HKN:=zf hkn;rw [hkn,zlT] at O6 H6;clear hkn;have SA:=ya O6 SZ.out;have SM:=zax wr _ _ l SA.at_ SIZ.out;rw [HL.out] at SM;obtain ⟨sa,sc,rfl⟩:=zl O6;have SM:=zf SM;have O6:=zf O6;have H6:=zf H6;have K6:=zf HI.out.2.2;clear HI SA;go_wp2_with fail;(with_reducible refine SM.out.mono ?_);rintro e w8 ⟨rfl,k8⟩;have FIN:=zf (And.intro (zo O6.out k8 (fun _ _ e=>e)) (And.intro (H6.out.chg k8 (fun e=>e)) (K6.out.trans (k8.mono (fun _ _ e=>e.elim)))));clear k8 SM O6 H6 K6;go_wp2;go_ret;exact ⟨_,rfl,FIN.out.1,FIN.out.2.1,FIN.out.2.2⟩
end Go.Proofs.YtcilaocknhphnaaGreat
