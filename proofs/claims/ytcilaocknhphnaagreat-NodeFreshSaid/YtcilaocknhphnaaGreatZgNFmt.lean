/-
  Package journal: lay, Commit. Layer 20 in plain Lean: what a journal's commits and crashes do. No program in sight. Layer 20: a device that is calm. Package node: Format, on a device that is new.
-/
import Derived.Test.YtcilaocknhphnaaGreatZgRBase
import Derived.Test.YtcilaocknhphnaaGreatZgJHead
import Derived.Test.YtcilaocknhphnaaGreatZgKit2
import Derived.Test.YtcilaocknhphnaaGreatZgJDev3
import Derived.Test.YtcilaocknhphnaaGreatZgNLet3
namespace Go.Proofs.YtcilaocknhphnaaGreat
open Go.RowKit
theorem ziw (s:ByteArray) (n:Nat):(s.extract 0 n).data.toList=s.data.toList.take n:=by
 simp [ByteArray.data_extract]
theorem zix (s:ByteArray) (n:Nat):(s.extract n s.size).data.toList=s.data.toList.drop n:=by
 have h:s.size=s.data.toList.length:=(zz s).symm;rw [ByteArray.data_extract,Array.toList_extract,List.extract_eq_take_drop,h,<- List.length_drop,zlT]
set_option maxHeartbeats 1000000 in
set_option maxRecDepth 100000 in
theorem zjr (w:World) (B:DB) (b:Nat) (d:Dev) (j:Jr) (f:Nat) (s:ByteArray) (h:zY w B d) (hj:JAt w B b j) (hb:¬ B.S b) (hf:f<=1) (hs:s.size<=(B.n - 1) / 2*32):
  Calls Tryz.prog 140 #[zc0 b,.int .i64 f,.string s] w fun e w'=>e=.returned (.int .i64 (d.lay (1+f*((B.n - 1) / 2)) s.data.toList).2)∧zY w' B (d.lay (1+f*((B.n - 1) / 2)) s.data.toList).1∧Chg B.S w w':=by
 have n65:=h.ok.hi;have n3:=h.ok.lo;have H:=zf h;clear h;have HJ:=zf hj;clear hj;have hle:(B.n - 1) / 2<=32:=by omega
 obtain ⟨m,hm⟩:∃ m,(B.n - 1) / 2=m:=⟨_,rfl⟩;rw [hm] at hs hle ⊢;have HM:=zf hm;clear hm;have hfm:f*m<=32:=by rcases (by omega:f=0∨f=1) with rfl | rfl <;> omega
 have FM:=zf (show (f:Int)*(m:Int)=((f*m:Nat):Int) by push_cast;rfl);unfold zc0;go_enter Tryz.func140,Tryz.ntmps140;go_wp2;go_loopw [2,7] (fun t i wr=>∃ (k:Nat) (s':ByteArray) (d':Dev),i=.int .i64 k∧t=.string s'∧32*k+s'.size<=m*32+31∧(0 < s'.size->32*k+s'.size<=m*32)∧Hid (d.lay (1+f*m) s.data.toList=d'.lay (1+f*m+k) s'.data.toList)∧zY wr B d'∧Chg B.S w wr) (fun t _ _=>match t with | .string s'=>s'.size | _=>0)
 case atStart=>exact ⟨0,s,d,rfl,rfl,by omega,fun _=>by omega,rfl,H.out,Chg.refl _ _⟩
 case round=>
  obtain ⟨k,s',d',rfl,rfl,hk1,hk2,HL,hd,hc⟩:=hrel;have HD:=zf hd;have HC:=zf hc;have JR:=zf (HJ.out.chg hc hb);clear hd hc;have j0:=JR.out.c0;by_cases h0:0 < s'.size
  ·have hk3:=hk2 h0
   clear hk2 hk1;have FST:=zf (zeP wr.drew b B f j0 HD.out.c0 n3 n65 (by omega) (by omega));rw [HM.out,FM.out] at FST;have HDD:=zf (HD.out.chg (zy (fun _=>False) wr) (fun _ _ e=>e));have EI:=zf (show (1+(f:Int)*(m:Int)+(k:Int))=((1+f*m+k:Nat):Int) by push_cast;omega);have hfm:f*m<=m:=by have:=Nat.mul_le_mul_right m hf;omega
   have WI:IntKind.i64.wrap (1+(f:Int)*(m:Int)+(k:Int))=((1+f*m+k:Nat):Int):=by
    rw [EI.out,IntKind.wrap_i64];omega
   have LU:=zf (zd6 d' (1+f*m+k) s'.data.toList (by rw [zz];exact h0));have Z1:=zf (ziw s' 32);have Z2:=zf (zix s' 32);have SZ:=zf (zz s');by_cases h32:s'.size<=32
   ·have T32:=zf (List.take_of_length_le (i:=32) (l:=s'.data.toList) (by rw [zz];exact h32))
    have D32:=zf (List.drop_of_length_le (i:=32) (l:=s'.data.toList) (by rw [zz];exact h32));rw [T32.out] at LU;have MN:min (s'.size:Int) 32=(s'.size:Int):=by omega
    have b2:(s'.size:Int)<=(s'.size:Int):=Int.le_refl _;go_wp2;refine Yc 12 (by kernel_rfl) (by kernel_rfl) ?_;simp only [List.take_succ_cons,List.take_zero,List.drop_succ_cons,List.drop_zero]
    repeat still_step
    still_call (FST.out.mono fun _ _ h=>⟨h.1,h.2.symm⟩)
    repeat still_step
    refine wpStill_nil ?_;go_wp2_with fail
    try rw [EI.out]
    refine (zao wr.drew B d' _ s' HDD.out (by unfold maxLen;omega)).mono ?_;rintro e w1 ⟨rfl,d1,k1⟩;have D1:=zf d1;have K1:=zf k1;clear d1 k1;generalize d'.write ((1+f*m+k:Nat):Int) s'.data.toList=A at *;by_cases hr:A.2=0
    ·rw [if_pos hr,D32.out] at LU
     rw [hr];clear hr;go_wp2;go_roundw
     case rel=>
      refine ⟨k+1,_,A.1,by go_num,rfl,?_,?_,?_,D1.out,(HC.out.drew).trans K1.out⟩
      ·first | (simp;done) | (simp;omega)
      ·intro hx;simp at hx
      ·show _=_
       rw [HL.out,LU.out];rfl
     case measure=>simp;omega
    ·rw [if_neg hr] at LU
     have hr1:(A.2 == 0)=false:=by simpa using hr
     have hr2:(A.2 != 0)=true:=by simpa using hr
     clear hr;go_wp2;go_ret;rw [HL.out,LU.out];exact ⟨rfl,D1.out,(HC.out.drew).trans K1.out⟩
   ·have h33:32<=s'.size:=by omega
    have h34:(32:Int)<=s'.size:=by omega
    have MN:min (s'.size:Int) 32=32:=by omega
    rw [<- Z1.out,<- Z2.out] at LU;go_wp2;refine Yc 12 (by kernel_rfl) (by kernel_rfl) ?_;simp only [List.take_succ_cons,List.take_zero,List.drop_succ_cons,List.drop_zero]
    repeat still_step
    still_call (FST.out.mono fun _ _ h=>⟨h.1,h.2.symm⟩)
    repeat still_step
    refine wpStill_nil ?_;go_wp2_with fail
    try rw [EI.out]
    refine (zao wr.drew B d' _ (s'.extract 0 32) HDD.out (by unfold maxLen;simp;omega)).mono ?_;rintro e w1 ⟨rfl,d1,k1⟩;have D1:=zf d1;have K1:=zf k1;clear d1 k1;generalize d'.write ((1+f*m+k:Nat):Int) (s'.extract 0 32).data.toList=A at *;by_cases hr:A.2=0
    ·rw [if_pos hr] at LU
     rw [hr];clear hr;go_wp2;go_roundw
     case rel=>
      refine ⟨k+1,_,A.1,by go_num,rfl,?_,?_,?_,D1.out,(HC.out.drew).trans K1.out⟩
      ·simp;omega
      ·intro hx;simp;omega
      ·show _=_
       rw [HL.out,LU.out];rfl
     case measure=>simp;omega
    ·rw [if_neg hr] at LU
     have hr1:(A.2 == 0)=false:=by simpa using hr
     have hr2:(A.2 != 0)=true:=by simpa using hr
     clear hr;go_wp2;go_ret;rw [HL.out,LU.out];exact ⟨rfl,D1.out,(HC.out.drew).trans K1.out⟩
  ·have hz:s'.size=0:=by omega
   have LU:=zf (zgU d' (1+f*m+k) s'.data.toList (by rw [zz];exact hz));have hd0:decide (0 < (s'.size:Int))=false:=by rw [decide_eq_false_iff_not];omega
   clear hz hk1 hk2;go_wp2_with fail;refine (zaU _ B d' HD.out).mono ?_;rintro e w1 ⟨rfl,d1,k1⟩;have D1:=zf d1;have K1:=zf k1;clear d1 k1;go_wp2;go_ret;rw [HL.out,LU.out];exact ⟨rfl,D1.out,HC.out.trans K1.out⟩
set_option maxHeartbeats 1000000 in
set_option maxRecDepth 100000 in
theorem zbB (w:World) (B:DB) (b:Nat) (d:Dev) (j:Jr) (s:ByteArray) (h:zY w B d) (hj:JAt w B b j) (hb:¬ B.S b) (hh:j.half<=1) (hn0:-9223372036854775808<=j.number) (hn1:j.number<=9223372036854775807) (hm:s.size<=maxLen):
  Calls Tryz.prog 57 #[zc0 b,.string s] w fun e w'=>
   e=.returned (.int .i64 (commit d j s).2.1)∧zY w' B (commit d j s).1∧JAt w' B b (commit d j s).2.2∧Chg (fun k=>B.S k∨k=b) w w':=by
 have n65:=h.ok.hi;have n3:=h.ok.lo;have j0:=hj.c0;have j1:=hj.c1;have j2:=hj.c2;have d0:=h.c0;have H:=zf h;have HJ:=zf hj;have hmm:d.m=(B.n - 1) / 2:=by unfold Dev.m;rw [h.ok.lnow]
 clear h hj;have DEAD:=zf (ziD w B d H.out);have ROOM:=zf (zgt w b B j0 d0 n3 n65);unfold zc0;by_cases hdd:d.dead=true
 ·have e:commit d j s=(d,20,j):=by simp [commit,hdd]
  rw [e];rw [hdd] at DEAD;clear e hdd;go_enter Tryz.func57,Tryz.ntmps57;go_wp2_with fail;refine (DEAD.out).mono ?_;rintro e w' ⟨rfl,rfl⟩;go_wp2;go_ret;exact ⟨rfl,H.out,HJ.out,Chg.refl _ _⟩
 have hdd:d.dead=false:=by simpa using hdd
 have HDD:=zf hdd;rw [hdd] at DEAD;clear hdd;have HMM:=zf hmm;have hle:(B.n - 1) / 2<=32:=by omega
 obtain ⟨m,hme⟩:∃ m,(B.n - 1) / 2=m:=⟨_,rfl⟩;rw [hme] at HMM ROOM hle;have HME:=zf hme;clear hme hmm;unfold maxLen at hm;by_cases hr:m*32 < s.size
 ·have e:commit d j s=(d,4,j):=by simp [commit,HDD.out,HMM.out,hr]
  rw [e];clear e;go_enter Tryz.func57,Tryz.ntmps57;go_wp2_with fail;refine (DEAD.out).mono ?_;rintro e w' ⟨rfl,rfl⟩;go_wp2_with fail;refine (ROOM.out).mono ?_;rintro e w' ⟨rfl,rfl⟩;go_wp2;go_ret;exact ⟨rfl,H.out,HJ.out,Chg.refl _ _⟩
 by_cases hnn:4611686018427387904<=j.number
 ·have e:commit d j s=(d,3,j):=by simp [commit,HDD.out,HMM.out,hr,hnn]
  rw [e];clear e;go_enter Tryz.func57,Tryz.ntmps57;go_wp2_with fail;refine (DEAD.out).mono ?_;rintro e w' ⟨rfl,rfl⟩;go_wp2_with fail;refine (ROOM.out).mono ?_;rintro e w' ⟨rfl,rfl⟩;go_wp2;go_ret;exact ⟨rfl,H.out,HJ.out,Chg.refl _ _⟩
 have LAY:=zf (zjr w B b d j (1 - j.half) s H.out HJ.out hb (by omega) (by rw [HME.out];omega));rw [HME.out] at LAY
 have CE:=zf (show commit d j s=(let a:=d.lay (1+(1 - j.half)*m) s.data.toList
  if a.2≠0 then (a.1,a.2,j)
  else
   let b:=a.1.write 0 (zD (j.number+1) (1 - j.half) s.size)
   if b.2≠0 then (b.1,b.2,j)
   else
    let c:=b.1.barrier
    if c.2≠0 then (c.1,c.2,j) else (c.1,0,⟨j.number+1,1 - j.half,s⟩)) by
  unfold commit;rw [HDD.out,HMM.out,if_neg (by decide),if_neg hr,if_neg hnn])
 generalize hA:d.lay (1+(1 - j.half)*m) s.data.toList=A at *;have EH:=zf (show (1 - (j.half:Int))=((1 - j.half:Nat):Int) by omega);have hx1:1 - j.half<=1:=by omega
 generalize hX:1 - j.half=X at *;have HX:=zf hX;clear hA hX;go_enter Tryz.func57,Tryz.ntmps57;go_wp2_with fail;refine (DEAD.out).mono ?_;rintro e w' ⟨rfl,rfl⟩;go_wp2_with fail;refine (ROOM.out).mono ?_;rintro e w' ⟨rfl,rfl⟩;go_wp2_with fail;rw [EH.out];refine (LAY.out).mono ?_;rintro e w1 ⟨rfl,d1,k1⟩;have D1:=zf d1;have K1:=zf k1;have J1:=zf (HJ.out.chg k1 hb);clear d1 k1;by_cases ha:A.2=0
 ·rw [ha]
  simp only [ha,ne_eq,not_true_eq_false,if_false] at CE;clear ha;have q0:=J1.out.c0;have q1:=J1.out.c1;have D1':=zf (D1.out.chg (zy (fun _=>False) w1) (fun _ _ e=>e));have HL:=zf (yK (j.number+1) X s.size);have hs2:s.size<=2000:=by omega
  have WR:=zf (fun w2 (D2:zY w2 B A.1)=>(show Calls Tryz.prog 141 #[B.ptr,.int .i64 0,.string ⟨(zD (j.number+1) X s.size).toArray⟩] w2 fun e w'=>e=.returned (.int .i64 (A.1.write 0 (zD (j.number+1) X s.size)).2)∧zY w' B (A.1.write 0 (zD (j.number+1) X s.size)).1∧Chg B.S w2 w' from
   zao w2 B A.1 0 _ D2 (by show (zD (j.number+1) X s.size).toArray.size<=maxLen;rw [List.size_toArray,HL.out];unfold maxLen;omega)))
  generalize A.1.write 0 (zD (j.number+1) X s.size)=Bw at *;have hnn':j.number < 4611686018427387904:=by omega
  go_wp2;refine zC (N:=80) [.rd [0,1,2,3,4,5,6,7,8,9,10,11],.ef 12,.ef 13,.rd [14]] (fun w'=>w'.cell? ⟨b,0,none⟩=some (.pointer (some ⟨B.b,0,none⟩))∧w'.cell? ⟨b,1,none⟩=some (.int .i64 j.number)) (by kernel_rfl) (by kernel_rfl) (by kernel_rfl) (by kernel_rfl) (Nat.le_of_ble_eq_true rfl) ⟨q0,q1⟩ ?_;refine zJ (A:=?A1) ?h1 ?h2
  case h1=>
   intro w' hS K hK;obtain ⟨s0,s1⟩:=hS;simp only [zS,zls,zlt,zlu,zlv,zlw]
   repeat still_step
   refine wpStill_nil ?_;exact hK
  refine zQ rfl ?_;go_wp2_with fail;refine (zis _ (j.number+1) X s.size hx1 hs2).mono ?_;rintro e w2 ⟨rfl,k2⟩;have K2:=zf k2;have D2:=zf (D1'.out.chg k2 (fun _ _ e=>e));have J2:=zf ((J1.out.chg (zy (fun _=>False) w1) (fun e=>e)).chg k2 (fun e=>e));clear k2;go_wp2_with fail;refine ⟨⟨J2.out.c0,J2.out.c1⟩,?_⟩;refine zQ rfl ?_;go_wp2_with fail;refine (WR.out w2 D2.out).mono ?_;rintro e w3 ⟨rfl,d3,k3⟩;have D3:=zf d3;have K3:=zf k3;have J3:=zf (J2.out.chg k3 hb);clear d3 k3;go_wp2_with fail;refine ⟨⟨J3.out.c0,J3.out.c1⟩,?_⟩;refine zJ (A:=?A2) ?h3 ?h4
  case h3=>
   intro w' hS K hK;clear hS;simp only [zS,zls,zlt,zlu,zlv,zlw]
   repeat still_step
   refine wpStill_nil ?_;exact hK
  refine Za ?_;by_cases hbw:Bw.2=0
  ·rw [hbw]
   simp only [hbw,not_true_eq_false,if_false] at CE;clear hbw;have q0':=J3.out.c0;have BAR:=zf (zaU w3 B Bw.1 D3.out);generalize Bw.1.barrier=Cb at *;go_wp2_with fail;refine (BAR.out).mono ?_;rintro e w4 ⟨rfl,d4,k4⟩;have D4:=zf d4;have K4:=zf k4;have J4:=zf (J3.out.chg k4 hb);clear d4 k4 q0 q1 q0';have K5:=zf (show Chg B.S w w4 from (K1.out.drew).trans ((K2.out.mono (fun _ _ e=>e.elim)).trans (K3.out.trans K4.out)));by_cases hcb:Cb.2=0
   ·rw [hcb]
    simp only [hcb,not_true_eq_false,if_false] at CE;clear hcb;have r1:=J4.out.c1;have r2:=J4.out.c2;have r3:=J4.out.c3;have f1:w4.frozen? ⟨b,1,none⟩=false:=zk J4.out.hb;have f2:w4.frozen? ⟨b,2,none⟩=false:=zk J4.out.hb;have f3:w4.frozen? ⟨b,3,none⟩=false:=zk J4.out.hb;go_wp2;go_ret;rw [CE.out];have q:=((zA w4 b 1 (.int .i64 (j.number+1))).trans (zA _ b 2 (.int .i64 X))).trans (zA _ b 3 (.string s));refine ⟨rfl,D4.out.chg q (fun k hk e=>hb (e ▸ hk)),⟨?_⟩,(K5.out.mono (fun k _ h=>.inl h)).trans (q.mono (fun k _ h=>.inr h))⟩;rw [zq (zq (zq J4.out.hb _) _) _];rfl
   ·have hcb1:(Cb.2 == 0)=false:=by simpa using hcb
    have hcb2:(Cb.2 != 0)=true:=by simpa using hcb
    simp only [hcb,not_false_eq_true,if_true] at CE;clear hcb;go_wp2;go_ret;rw [CE.out];exact ⟨rfl,D4.out,J4.out,K5.out.mono (fun k _ h=>.inl h)⟩
  ·have hbw1:(Bw.2 == 0)=false:=by simpa using hbw
   have hbw2:(Bw.2 != 0)=true:=by simpa using hbw
   simp only [hbw,not_false_eq_true,if_true] at CE;clear hbw;have K4:=zf (show Chg B.S w w3 from (K1.out.drew).trans ((K2.out.mono (fun _ _ e=>e.elim)).trans K3.out));go_wp2;go_ret;rw [CE.out];exact ⟨rfl,D3.out,J3.out,K4.out.mono (fun k _ h=>.inl h)⟩
 ·have ha1:(A.2 == 0)=false:=by simpa using ha
  have ha2:(A.2 != 0)=true:=by simpa using ha
  simp only [ne_eq,ha,not_false_eq_true,if_true] at CE;clear ha;go_wp2;go_ret;rw [CE.out];exact ⟨rfl,D1.out,J1.out,K1.out.mono (fun k _ h=>.inl h)⟩

theorem zbM (n:Nat) (h:n < 256):(UInt8.ofNat n).toNat=n:=by rw [UInt8.toNat_ofNat'];omega
theorem zg8 (x:Int) (h n:Nat) (h0:-9223372036854775808<=x) (h1:x < 9223372036854775808):ziX (pad (zD x h n))=x:=by
 have e:(pad (zD x h n)).take 8=(List.range 8).map fun i=>UInt8.ofNat (yx x i):=by
  unfold pad zD;rw [List.append_assoc,List.take_append_of_le_length (by simp)];rw [List.take_of_length_le (by simp)]
 have hb:be ((List.range 8).map fun i=>UInt8.ofNat (yx x i))=(x % 18446744073709551616).toNat:=by
  have hX:(x % 18446744073709551616).toNat < 18446744073709551616:=by omega
  have r:(List.range 8).map (fun i=>UInt8.ofNat (yx x i))=[UInt8.ofNat (yx x 0),UInt8.ofNat (yx x 1),UInt8.ofNat (yx x 2),UInt8.ofNat (yx x 3),UInt8.ofNat (yx x 4),UInt8.ofNat (yx x 5),UInt8.ofNat (yx x 6),UInt8.ofNat (yx x 7)]:=rfl;rw [r];have lt:∀ i,yx x i < 256:=fun i=>Nat.mod_lt _ (by decide);simp only [be,List.foldl_cons,List.foldl_nil,zbM _ (lt _)];unfold yx;generalize (x % 18446744073709551616).toNat=X at *;have p0:2 ^ (8*(7 - 0))=72057594037927936:=by decide
  have p1:2 ^ (8*(7 - 1))=281474976710656:=by decide
  have p2:2 ^ (8*(7 - 2))=1099511627776:=by decide
  have p3:2 ^ (8*(7 - 3))=4294967296:=by decide
  have p4:2 ^ (8*(7 - 4))=16777216:=by decide
  have p5:2 ^ (8*(7 - 5))=65536:=by decide
  have p6:2 ^ (8*(7 - 6))=256:=by decide
  have p7:2 ^ (8*(7 - 7))=1:=by decide
  rw [p0,p1,p2,p3,p4,p5,p6,p7];omega
 unfold ziX ziq;rw [e,hb];split <;> omega
theorem zfL (x:Int) (h n:Nat) (hh:h<=1):Xm (pad (zD x h n))=h:=by
 have:(pad (zD x h n)).getD 8 0=UInt8.ofNat h:=by
  unfold pad zD;rfl
 unfold Xm;rw [this];exact zbM h (by omega)
theorem zfK (x:Int) (h n:Nat) (hn:n < 65536):xy (pad (zD x h n))=n:=by
 have e1:(pad (zD x h n)).getD 9 0=UInt8.ofNat (n / 256):=by unfold pad zD;rfl
 have e2:(pad (zD x h n)).getD 10 0=UInt8.ofNat n:=by unfold pad zD;rfl
 unfold xy;rw [e1,e2,zbM _ (by omega),UInt8.toNat_ofNat'];omega
def zdp (s:List UInt8):Nat:=(s.length+31) / 32
def zaf (s:List UInt8) (i:Nat):List UInt8:=pad ((s.drop (32*i)).take 32)
theorem zbC (s:List UInt8) (i:Nat):zaf s (i+1)=zaf (s.drop 32) i:=by
 unfold zaf;rw [List.drop_drop,show 32*(i+1)=32+32*i from by omega]
theorem zgd:∀ (m:Nat) (f:Nat->List UInt8) (s:List UInt8),s.length<=32*m->(∀ i,i < zdp s->f i=zaf s i)->((List.range m).flatMap f).take s.length=s:=by
 intro m;induction m with
 | zero=>intro f s h _;have:s=[]:=List.eq_nil_of_length_eq_zero (by omega);subst this;simp
 | succ m ih=>
  intro f s h hf;by_cases h0:s.length=0
  ·have:s=[]:=List.eq_nil_of_length_eq_zero h0;subst this;simp
  ·rw [List.range_succ_eq_map,List.flatMap_cons]
   have e:(List.map Nat.succ (List.range m)).flatMap f=(List.range m).flatMap (fun i=>f (i+1)):=by
    rw [List.flatMap_map]
   rw [e];have f0:=hf 0 (by unfold zdp;omega)
   have hih:=ih (fun i=>f (i+1)) (s.drop 32) (by rw [List.length_drop];omega) (fun i hi=>by
    rw [hf (i+1) (by unfold zdp at *;rw [List.length_drop] at hi;omega),zbC])
   by_cases h32:s.length<=32
   ·have c0:zaf s 0=s++List.replicate (32 - s.length) 0:=by
     unfold zaf pad;simp only [Nat.mul_zero,List.drop_zero];rw [List.take_of_length_le h32]
    rw [f0,c0,List.append_assoc,List.take_append_of_le_length (Nat.le_refl _),List.take_length]
   ·have c0:zaf s 0=s.take 32:=by
     unfold zaf pad;simp only [Nat.mul_zero,List.drop_zero];rw [List.length_take,show 32 - min 32 s.length=0 from by omega];simp
    have l0:(s.take 32).length=32:=by rw [List.length_take];omega
    rw [f0,c0,List.take_append,l0];rw [List.take_of_length_le (by omega)];rw [show s.length - 32=(s.drop 32).length from by rw [List.length_drop]];rw [hih,List.take_append_drop]
def Dev.nw (d:Dev) (i:Nat):List UInt8:=d.now.getD i []
def Dev.sr (d:Dev) (i:Nat):List UInt8:=d.sure.getD i []
def Dev.pd (d:Dev) (i:Nat):Bool:=d.pend.getD i false
theorem Xn {α:Type} {l:List α} {i:Nat} (h:i < l.length) (x z:α):(l.set i x).getD i z=x:=by
 rw [List.getD_eq_getElem?_getD,List.getElem?_set_self h];rfl
theorem XQ {α:Type} {l:List α} {i k:Nat} (h:i≠k) (x z:α):(l.set i x).getD k z=l.getD k z:=by
 rw [List.getD_eq_getElem?_getD,List.getElem?_set_ne h,List.getD_eq_getElem?_getD]
theorem Dev.nw_put {n:Nat} {d:Dev} (ok:d.Ok n) {i:Nat} (hi:i < n) (s:List UInt8):(d.put i s).nw i=pad s:=Xn (by rw [ok.lnow];exact hi) _ _
theorem Dev.nw_put_ne (d:Dev) {i k:Nat} (h:i≠k) (s:List UInt8):(d.put i s).nw k=d.nw k:=XQ h _ _
theorem Dev.pd_put {n:Nat} {d:Dev} (ok:d.Ok n) {i:Nat} (hi:i < n) (s:List UInt8):(d.put i s).pd i=true:=Xn (by rw [ok.lpend];exact hi) _ _
theorem Dev.pd_put_ne (d:Dev) {i k:Nat} (h:i≠k) (s:List UInt8):(d.put i s).pd k=d.pd k:=XQ h _ _
theorem Dev.burnt_now (d:Dev):d.burnt.now=d.now:=by unfold Dev.burnt;split <;> rfl
theorem Dev.burnt_sure (d:Dev):d.burnt.sure=d.sure:=by unfold Dev.burnt;split <;> rfl
theorem Dev.burnt_pend (d:Dev):d.burnt.pend=d.pend:=by unfold Dev.burnt;split <;> rfl
theorem Dev.burnt_on (d:Dev):d.burnt.on=d.on:=by unfold Dev.burnt;split <;> rfl
theorem Dev.burnt_nw (d:Dev) (i:Nat):d.burnt.nw i=d.nw i:=by unfold Dev.nw;rw [d.burnt_now]
theorem Dev.burnt_pd (d:Dev) (i:Nat):d.burnt.pd i=d.pd i:=by unfold Dev.pd;rw [d.burnt_pend]
theorem Dev.burnt_dead (d:Dev) (h:d.stops=true):d.burnt.dead=true:=by unfold Dev.burnt;rw [if_pos h]
theorem Dev.burnt_alive (d:Dev) (h:d.stops=false):d.burnt.dead=false:=by
 unfold Dev.burnt;rw [if_neg (by rw [h];decide)];simp [Dev.stops] at h;exact h.1
theorem ZV (n i:Nat):(List.replicate n false).getD i false=false:=by
 rw [List.getD_eq_getElem?_getD,List.getElem?_replicate];split <;> rfl
theorem Dev.settle_pd (d:Dev) (i:Nat):d.settle.pd i=false:=ZV _ _
theorem zai {d:Dev} (hd:d.dead=false) (h:d.stops=true):d.on=true:=by
 simp [Dev.stops,hd] at h;exact h.1
theorem zet {n:Nat} {d:Dev} (ok:d.Ok n) (hd:d.dead=false) {a:Nat} (ha:a < n) {s:List UInt8} (hs:s.length<=32):
  d.write a s=if d.stops then (d.burnt,20) else (d.burnt.put a s,0):=by
 unfold Dev.write;rw [hd,if_neg (by decide),ok.lnow,if_neg (by omega),if_neg (by omega)];rfl
structure zkE (n:Nat) (d d':Dev) (a k:Nat):Prop where
  ok:d'.Ok n
  dead:d'.dead=true
  sure:d'.sure=d.sure
  out:∀ i,(i < a∨a+k<=i)->d'.nw i=d.nw i∧d'.pd i=d.pd i
  pend:∀ i,d'.pd i=false->d.pd i=false∧d'.nw i=d.nw i
  on:d.on=true
structure zjM (n:Nat) (d d':Dev) (a:Nat) (s:List UInt8):Prop where
  ok:d'.Ok n
  dead:d'.dead=false
  sure:d'.sure=d'.now
  pend:∀ i,d'.pd i=false
  out:∀ i,(i < a∨a+zdp s<=i)->d'.nw i=d.nw i
  inn:∀ i,i < zdp s->d'.nw (a+i)=zaf s i
  on:d'.on=d.on

theorem zih {n:Nat}:∀ (k:Nat) (s:List UInt8),s.length<=k->∀ (d:Dev) (a:Nat),d.Ok n->d.dead=false->a+zdp s<=n ->
  ((d.lay a s).2=20∧zkE n d (d.lay a s).1 a (zdp s))∨((d.lay a s).2=0∧zjM n d (d.lay a s).1 a s):=by
 intro k;induction k with
 | zero=>
  intro s hk d a ok hd _;have h0:s.length=0:=by omega
  have hs0:zdp s=0:=by unfold zdp;omega
  rw [zgU d a s h0];unfold Dev.barrier;cases hst:d.stops with
  | true=>
   rw [if_pos rfl];exact .inl ⟨rfl,ok.burnt,d.burnt_dead hst,d.burnt_sure,fun i _=>⟨d.burnt_nw i,d.burnt_pd i⟩,fun i hi=>⟨by rw [<- d.burnt_pd];exact hi,d.burnt_nw i⟩,zai hd hst⟩
  | false=>
   rw [if_neg (by decide)];exact .inr ⟨rfl,ok.burnt.settle,d.burnt_alive hst,rfl,fun i=>d.burnt.settle_pd i,fun i _=>d.burnt_nw i,fun i hi=>by omega,d.burnt_on⟩
 | succ k ih=>
  intro s hk d a ok hd ha;by_cases h0:s.length=0
  ·exact ih s (by omega) d a ok hd ha
  ·have hs1:zdp s=zdp (s.drop 32)+1:=by unfold zdp;rw [List.length_drop];omega
   have hl:(s.take 32).length<=32:=by rw [List.length_take];omega
   have hw:=zet ok hd (show a < n by omega) hl;cases hst:d.stops with
   | true=>
    rw [hst,if_pos rfl] at hw;rw [zd6 d a s (by omega),hw,if_neg (show ¬ (20:Int)=0 by decide)];exact .inl ⟨rfl,ok.burnt,d.burnt_dead hst,d.burnt_sure,fun i _=>⟨d.burnt_nw i,d.burnt_pd i⟩,fun i hi=>⟨by rw [<- d.burnt_pd];exact hi,d.burnt_nw i⟩,zai hd hst⟩
   | false=>
    rw [hst,if_neg (by decide)] at hw;rw [zd6 d a s (by omega),hw,if_pos rfl];have ok1:=ok.burnt.put a (s.take 32) hl;have hd1:(d.burnt.put a (s.take 32)).dead=false:=d.burnt_alive hst;have nwa:(d.burnt.put a (s.take 32)).nw a=zaf s 0:=by rw [Dev.nw_put ok.burnt (by omega)];unfold zaf;simp
    have nwo:∀ i,i≠a->(d.burnt.put a (s.take 32)).nw i=d.nw i:=fun i hi=>by rw [Dev.nw_put_ne _ (Ne.symm hi),d.burnt_nw]
    have pdo:∀ i,i≠a->(d.burnt.put a (s.take 32)).pd i=d.pd i:=fun i hi=>by rw [Dev.pd_put_ne _ (Ne.symm hi),d.burnt_pd]
    have pda:(d.burnt.put a (s.take 32)).pd a=true:=Dev.pd_put ok.burnt (by omega) _;have sr1:(d.burnt.put a (s.take 32)).sure=d.sure:=d.burnt_sure;have on1:(d.burnt.put a (s.take 32)).on=d.on:=d.burnt_on;generalize d.burnt.put a (s.take 32)=d1 at *;rcases ih (s.drop 32) (by rw [List.length_drop];omega) d1 (a+1) ok1 hd1 (by omega) with ⟨e,h⟩ | ⟨e,h⟩
    ·refine .inl ⟨e,h.ok,h.dead,h.sure.trans sr1,fun i hi=>?_,fun i hi=>?_,?_⟩
     ·have h1:=h.out i (by omega)
      rw [nwo i (by omega),pdo i (by omega)] at h1;exact h1
     ·have h1:=h.pend i hi
      have hia:i≠a:=fun e=>by rw [e,pda] at h1;cases h1.1
      rw [nwo i hia,pdo i hia] at h1;exact h1
     ·rw [<- on1];exact h.on
    ·refine .inr ⟨e,h.ok,h.dead,h.sure,h.pend,fun i hi=>?_,fun i hi=>?_,h.on.trans on1⟩
     ·rw [h.out i (by omega),nwo i (by omega)]
     ·cases i with
      | zero=>exact (h.out a (by omega)).trans nwa
      | succ i=>have:=h.inn i (by omega);rw [show a+1+i=a+(i+1) from by omega] at this;rw [zbC];exact this
structure Rep (d:Dev) (j:Jr):Prop where
  fine:¬ d.bad
  num:ziX d.hd=j.number
  half:Xm d.hd=j.half
  text:d.text=j.text.data.toList

structure zag (d:Dev):Prop where
  sure:d.sure=d.now
  pend:∀ i,d.pd i=false

def XP (d:Dev) (h i:Nat):Prop:=1+h*d.m<=i∧i < 1+h*d.m+d.m
theorem Rep.half_le {d:Dev} {j:Jr} (h:Rep d j):j.half<=1:=by
 have:=h.fine;unfold Dev.bad at this;rw [h.half] at this;omega
theorem zjU {n:Nat} {d:Dev} (ok:d.Ok n):d.m=(n - 1) / 2:=by unfold Dev.m;rw [ok.lnow]
theorem zf3 {d d':Dev} (hm:d'.m=d.m) (h:Nat) (e:∀ i,XP d h i->d'.nw i=d.nw i):d'.area h=d.area h:=by
 unfold Dev.area Dev.areaTo;rw [hm];rw [List.flatMap_def,List.flatMap_def]
 congr 1
 apply List.map_congr_left;intro i hi;rw [List.mem_range] at hi;exact e _ ⟨by omega,by omega⟩
theorem Rep.congr {d d':Dev} {j:Jr} (h:Rep d j) (hm:d'.m=d.m) (h0:d'.nw 0=d.nw 0) (he:∀ i,XP d j.half i->d'.nw i=d.nw i):Rep d' j:=by
 have hh:d'.hd=d.hd:=h0;refine ⟨?_,by rw [hh];exact h.num,by rw [hh];exact h.half,?_⟩
 ·have:=h.fine;unfold Dev.bad at *;rw [hh,hm];exact this
 ·have:=h.text;unfold Dev.text at *;rw [hh,zf3 hm _ (by rw [h.half];exact he)];exact this
theorem zj6 {n:Nat} {d:Dev} (ok:d.Ok n) {x:Int} {h:Nat} {s:ByteArray} (hx0:-9223372036854775808<=x) (hx1:x < 9223372036854775808) (hh:h<=1) (hs:s.size<=d.m*32)
  (h0:d.nw 0=pad (zD x h s.size)) (hc:∀ i,i < zdp s.data.toList->d.nw (1+h*d.m+i)=zaf s.data.toList i):Rep d ⟨x,h,s⟩:=by
 have hm:=zjU ok;have n65:=ok.hi;have hhd:d.hd=pad (zD x h s.size):=h0;have hsl:s.data.toList.length=s.size:=by rw [Array.length_toList];rfl
 have e2:Xm d.hd=h:=by rw [hhd];exact zfL x h _ hh
 have e3:xy d.hd=s.size:=by rw [hhd];exact zfK x h _ (by omega)
 refine ⟨?_,by rw [hhd];exact zg8 x h _ hx0 hx1,e2,?_⟩
 ·unfold Dev.bad;rw [e2,e3];omega
 ·unfold Dev.text Dev.area Dev.areaTo
  rw [e2,e3,<- hsl];exact zgd d.m _ _ (by omega) hc
structure zlb (n:Nat) (d:Dev) (j:Jr) (may:ByteArray):Prop where
  ok:d.Ok n
  rep:Rep { d with now:=d.sure } j
  same:∀ i,d.pd i=false->d.nw i=d.sr i
  /-- What is pending is no sector of the record;or it is the head alone,and that tells of another text. -/
  way:(∀ i,(i=0∨XP d j.half i)->d.pd i=false)∨((∀ i,i≠0->d.pd i=false)∧Rep d ⟨j.number+1,1 - j.half,may⟩)

theorem zf0 (d:Dev):d.barrier=if d.stops then (d.burnt,20) else (d.burnt.settle,0):=rfl
theorem YM {d d':Dev} {n:Nat} (ok:d.Ok n) (ok':d'.Ok n):d'.m=d.m:=by rw [zjU ok,zjU ok']
theorem zag.sr {d:Dev} (h:zag d) (i:Nat):d.sr i=d.nw i:=by unfold Dev.sr Dev.nw;rw [h.sure]
theorem zbN (d:Dev) (i:Nat):Dev.nw { d with now:=d.sure } i=d.sr i:=rfl
theorem zdC {n:Nat} {d:Dev} (ok:d.Ok n):Dev.Ok n { d with now:=d.sure }:=⟨ok.lo,ok.hi,ok.lsure,ok.lsure,ok.lpend,ok.wsure,ok.wsure,ok.fuse0,ok.fuse1⟩
theorem zag.disk {n:Nat} {d:Dev} {j:Jr} (ok:d.Ok n) (h:zag d) (hr:Rep d j) (may:ByteArray):zlb n d j may:=
 ⟨ok,hr.congr (YM ok (zdC ok)) (h.sr 0) (fun i _=>h.sr i),fun i _=>(h.sr i).symm,.inl (fun i _=>h.pend i)⟩
theorem Xy {d:Dev} {h:Nat} (hh:h<=1) {k:Nat} (hk:k<=d.m) {i:Nat} (hi:i=0∨XP d h i):i < 1+(1 - h)*d.m∨1+(1 - h)*d.m+k<=i:=by
 rcases (by omega:h=0∨h=1) with rfl | rfl
 ·unfold XP at hi;simp only [Nat.zero_mul,Nat.sub_zero,Nat.one_mul] at *;omega
 ·unfold XP at hi;simp only [Nat.sub_self,Nat.zero_mul,Nat.one_mul] at *;omega
inductive Done (n:Nat) (d:Dev) (j:Jr) (s:ByteArray):Dev × Int × Jr->Prop where
  | size (h:d.m*32 < s.size):Done n d j s (d,4,j)
  | many (h:s.size<=d.m*32) (h':4611686018427387904<=j.number):Done n d j s (d,3,j)
  | down (d':Dev) (h:s.size<=d.m*32) (hd:d'.dead=true) (hk:zlb n d' j s) (ho:d.on=true):Done n d j s (d',20,j)
  | fine (d':Dev) (h:s.size<=d.m*32) (h':j.number < 4611686018427387904) (ok:d'.Ok n) (hd:d'.dead=false) (hc:zag d') (hr:Rep d' ⟨j.number+1,1 - j.half,s⟩) (ho:d'.on=d.on):Done n d j s (d',0,⟨j.number+1,1 - j.half,s⟩)

theorem xM {n:Nat} {d:Dev} {j:Jr} (ok:d.Ok n) (hd:d.dead=false) (hc:zag d) (hr:Rep d j) (hn:-9223372036854775808<=j.number) (s:ByteArray):Done n d j s (commit d j s):=by
 have hm:=zjU ok;have n65:=ok.hi;have hsl:s.data.toList.length=s.size:=by rw [Array.length_toList];rfl
 have hh:=hr.half_le;unfold commit;rw [hd,if_neg (by decide)];by_cases h1:d.m*32 < s.size
 ·rw [if_pos h1];exact .size h1
 rw [if_neg h1];by_cases h2:4611686018427387904<=j.number
 ·rw [if_pos h2];exact .many (by omega) h2
 rw [if_neg h2];have hk:zdp s.data.toList<=d.m:=by unfold zdp;rw [hsl];omega
 have hx:1+(1 - j.half)*d.m+zdp s.data.toList<=n:=by
  have:=ok.lo;rcases (by omega:j.half=0∨j.half=1) with e | e <;> rw [e] <;> simp only [Nat.sub_zero,Nat.one_mul,Nat.sub_self,Nat.zero_mul] <;> omega
 dsimp only;rcases zih s.data.toList.length s.data.toList (Nat.le_refl _) d _ ok hd hx with ⟨e,b⟩ | ⟨e,g⟩
 ·-- it died on the way
  rw [e,if_pos (by decide)];refine .down _ (by omega) b.dead ⟨b.ok,?_,fun i hi=>?_,.inl (fun i hi=>?_)⟩ b.on
  ·have:=hr
   refine Rep.congr (d:=d) hr (YM ok (zdC b.ok)) ?_ (fun i _=>?_)
   ·rw [zbN];unfold Dev.sr;rw [b.sure,hc.sure];rfl
   ·rw [zbN];unfold Dev.sr;rw [b.sure,hc.sure];rfl
  ·rw [(b.pend i hi).2,<- hc.sr i];unfold Dev.sr;rw [b.sure]
  ·have hi':i=0∨XP d j.half i:=by unfold XP at *;rw [YM b.ok ok];exact hi
   rw [(b.out i (Xy hh hk hi')).2];exact hc.pend i
 ·generalize (d.lay (1+(1 - j.half)*d.m) s.data.toList).1=d1 at *
  rw [e,if_neg (by decide)];have m1:d1.m=d.m:=YM ok g.ok;have c1:zag d1:=⟨g.sure,g.pend⟩;have r1:Rep d1 j:=hr.congr m1 (g.out 0 (Xy hh hk (.inl rfl))) (fun i hi=>g.out i (Xy hh hk (.inr hi)));have hhl:(zD (j.number+1) (1 - j.half) s.size).length<=32:=by rw [yK];decide
  have hw:=zet g.ok g.dead (a:=0) (by omega) hhl;cases hst:d1.stops with
  | true=>
   rw [hst,if_pos rfl] at hw;rw [show d1.write 0 (zD (j.number+1) (1 - j.half) s.size)=(d1.burnt,20) from hw,if_pos (show (20:Int)≠0 by decide)];refine .down _ (by omega) (d1.burnt_dead hst) ?_ (by rw [<- g.on];exact zai g.dead hst);refine zag.disk g.ok.burnt ⟨by rw [d1.burnt_sure,d1.burnt_now];exact c1.sure,fun i=>by rw [d1.burnt_pd];exact c1.pend i⟩ ?_ s;exact r1.congr (YM g.ok g.ok.burnt) (d1.burnt_nw 0) (fun i _=>d1.burnt_nw i)
  | false=>
   rw [hst,if_neg (by decide)] at hw;rw [show d1.write 0 (zD (j.number+1) (1 - j.half) s.size)=(d1.burnt.put 0 (zD (j.number+1) (1 - j.half) s.size),0) from hw,if_neg (show ¬ (0:Int)≠0 by decide)];have ok2:=g.ok.burnt.put 0 (zD (j.number+1) (1 - j.half) s.size) hhl;have nw0:(d1.burnt.put 0 (zD (j.number+1) (1 - j.half) s.size)).nw 0=pad (zD (j.number+1) (1 - j.half) s.size):=Dev.nw_put g.ok.burnt (by omega) _;have nwo:∀ i,i≠0->(d1.burnt.put 0 (zD (j.number+1) (1 - j.half) s.size)).nw i=d1.nw i:=fun i hi=>by rw [Dev.nw_put_ne _ (Ne.symm hi),d1.burnt_nw]
   have pdo:∀ i,i≠0->(d1.burnt.put 0 (zD (j.number+1) (1 - j.half) s.size)).pd i=false:=fun i hi=>by rw [Dev.pd_put_ne _ (Ne.symm hi),d1.burnt_pd];exact c1.pend i
   have pd0:(d1.burnt.put 0 (zD (j.number+1) (1 - j.half) s.size)).pd 0=true:=Dev.pd_put g.ok.burnt (by omega) _;have sr1:(d1.burnt.put 0 (zD (j.number+1) (1 - j.half) s.size)).sure=d1.sure:=d1.burnt_sure;have dd:(d1.burnt.put 0 (zD (j.number+1) (1 - j.half) s.size)).dead=false:=d1.burnt_alive hst;have on1:(d1.burnt.put 0 (zD (j.number+1) (1 - j.half) s.size)).on=d1.on:=d1.burnt_on;generalize d1.burnt.put 0 (zD (j.number+1) (1 - j.half) s.size)=d2 at *;have m2:d2.m=d.m:=YM ok ok2
   have r2:Rep d2 ⟨j.number+1,1 - j.half,s⟩:=by
    refine zj6 ok2 (by omega) (by omega) (by omega) (by omega) nw0 (fun i hi=>?_);rw [m2,nwo _ (by omega)];exact g.inn i hi
   rw [zf0];cases hst2:d2.stops with
   | true=>
    rw [if_pos rfl,if_pos (show (20:Int)≠0 by decide)];refine .down _ (by omega) (d2.burnt_dead hst2) ⟨ok2.burnt,?_,fun i hi=>?_,.inr ⟨fun i hi=>by rw [d2.burnt_pd];exact pdo i hi,?_⟩⟩ (by rw [<- g.on,<- on1];exact zai dd hst2)
    ·refine Rep.congr (d:=d1) r1 (YM g.ok (zdC ok2.burnt)) ?_ (fun i _=>?_)
     ·rw [zbN];unfold Dev.sr;rw [d2.burnt_sure,sr1,c1.sure];rfl
     ·rw [zbN];unfold Dev.sr;rw [d2.burnt_sure,sr1,c1.sure];rfl
    ·rw [d2.burnt_pd] at hi
     have hi0:i≠0:=fun e=>by rw [e,pd0] at hi;cases hi
     rw [d2.burnt_nw,nwo i hi0,<- c1.sr i];unfold Dev.sr;rw [d2.burnt_sure,sr1]
    ·exact r2.congr (YM ok2 ok2.burnt) (d2.burnt_nw 0) (fun i _=>d2.burnt_nw i)
   | false=>
    rw [if_neg (show ¬ (false=true) by decide),if_neg (show ¬ (0:Int)≠0 by decide)];refine .fine _ (by omega) (by omega) ok2.burnt.settle (d2.burnt_alive hst2) ⟨rfl,fun i=>d2.burnt.settle_pd i⟩ ?_ ?_
    ·exact r2.congr (YM ok2 ok2.burnt.settle) (d2.burnt_nw 0) (fun i _=>d2.burnt_nw i)
    ·show d2.burnt.on=d.on;rw [d2.burnt_on,on1,g.on]
theorem zee (d:Dev) (keep:List Bool):zag (d.crash keep):=⟨rfl,fun _=>ZV _ _⟩
theorem zhg {d:Dev} (h:zag d) (keep:List Bool):(d.crash keep).now=d.now:=by
 unfold Dev.crash zZ;simp only;apply List.ext_getElem
 ·simp
 ·intro i h1 h2
  simp only [zlD,List.length_range] at h1;simp only [List.getElem_map,List.getElem_range,if_pos h1];unfold XB;have:=h.pend i;unfold Dev.pd at this;rw [this];simp [zlz h2]
theorem zgy {d:Dev} {j:Jr} (h:Rep d j):(⟨ziX d.hd,Xm d.hd,⟨d.text.toArray⟩⟩:Jr)=j:=by
 obtain ⟨x,y,z⟩:=j;rw [h.num,h.half,h.text]
theorem zjn {d d':Dev} {j:Jr} (h:Rep d j) (e:d'.now=d.now):Rep d' j:=
 h.congr (by unfold Dev.m;rw [e]) (by unfold Dev.nw;rw [e]) (fun i _=>by unfold Dev.nw;rw [e])
theorem zdM (n:Nat) (h3:3<=n):Rep (Dev.new n) ⟨0,0,⟨#[]⟩⟩:=by
 have e:(Dev.new n).hd=zdo:=by
  unfold Dev.hd Dev.new;simp only;rw [zlF,List.getElem?_replicate,if_pos (by omega)];rfl
 refine ⟨?_,by rw [e];decide,by rw [e];decide,?_⟩
 ·unfold Dev.bad;rw [e]
  have h1:Xm zdo=0:=by decide
  have h2:xy zdo=0:=by decide
  rw [h1,h2];omega
 ·unfold Dev.text;rw [e,show xy zdo=0 from by decide];rfl
theorem zhj (n:Nat):zag (Dev.new n):=⟨rfl,fun _=>ZV _ _⟩
structure zds (n:Nat) (d:Dev) (j:Jr):Prop where
  ok:d.Ok n
  dead:d.dead=false
  on:d.on=false
  clean:zag d
  rep:Rep d j
  n0:-9223372036854775808<=j.number
  n1:j.number<=4611686018427387904
theorem zds.commit {n:Nat} {d:Dev} {j:Jr} (h:zds n d j) (s:ByteArray):zds n (commit d j s).1 (commit d j s).2.2:=by
 have:=xM h.ok h.dead h.clean h.rep h.n0 s;generalize Go.Proofs.YtcilaocknhphnaaGreat.commit d j s=r at *;have n0:=h.n0;have n1:=h.n1;cases this with
 | size _=>exact h
 | many _ _=>exact h
 | down d' _ _ _ ho=>rw [h.on] at ho;cases ho
 | fine d' _ h' ok hd hc hr ho=>exact ⟨ok,hd,ho.trans h.on,hc,hr,by show _<=j.number+1;omega,by show j.number+1<=_;omega⟩
theorem zdc {n:Nat} {d:Dev} {j:Jr} (h:zds n d j) (s:ByteArray) (hs:s.size<=(n - 1) / 2*32) (hn:j.number < 4611686018427387904):∃ d',commit d j s=(d',0,⟨j.number+1,1 - j.half,s⟩):=by
 have hm:=zjU h.ok;have:=xM h.ok h.dead h.clean h.rep h.n0 s;generalize Go.Proofs.YtcilaocknhphnaaGreat.commit d j s=r at *;cases this with
 | size q=>rw [hm] at q;omega
 | many _ q=>omega
 | down d' _ _ _ ho=>rw [h.on] at ho;cases ho
 | fine d' _ h' ok hd hc hr ho=>exact ⟨d',rfl⟩
theorem zch {n:Nat} {d:Dev} {j:Jr} (h:zds n d j) (s:ByteArray) (hs:(n - 1) / 2*32 < s.size):commit d j s=(d,4,j):=by
 have hm:=zjU h.ok;have:=xM h.ok h.dead h.clean h.rep h.n0 s;generalize Go.Proofs.YtcilaocknhphnaaGreat.commit d j s=r at *;cases this with
 | size q=>rfl
 | many q _=>rw [hm] at q;omega
 | down d' q _ _ ho=>rw [hm] at q;omega
 | fine d' q h' ok hd hc hr ho=>rw [hm] at q;omega
theorem zY.lt {w:World} {B:DB} {d:Dev} (h:zY w B d) {k:Nat} (e:B.S k):k < w.heap.size:=by
 rcases e with rfl | rfl | rfl | rfl
 ·exact zu h.hb
 ·exact zu h.hn
 ·exact zu h.hs
 ·exact zu h.hp
open Go.Maps
theorem zhY {r:zcn} (h:xF r=true):(YI r).length<=1000000:=by
 obtain ⟨h1,h2,h3,h4⟩:=yE.1 h;have:=Xg r.objs h4;have:=zbo (z:=r.boot) (by omega);have:=(YX (n:=r.objs.length) (by omega)).2;unfold YI;simp only [zlC];omega
theorem YG (l:List UInt8):(⟨l.toArray⟩:ByteArray).size=l.length:=by
 simp [ByteArray.size]
set_option maxHeartbeats 1000000 in
set_option maxRecDepth 100000 in
theorem zd8 (w:World) (B:DB) (r:zcn) (oa:Option Addr) (oc:Nat) (G:Nat->Prop) (hd:zY w B (Dev.new 65)) (hn:B.n=65) (h:ZC w (.slice oa r.objs.length oc) G r.objs) (hf:∀ o∈r.objs,o.ents.length<=1000) (hG:∀ k,G k->k < w.heap.size):
  Calls Tryz.prog 14 #[B.ptr,.agg #[.int .i64 r.boot,.slice oa r.objs.length oc]] w fun e w'=>∃ c:Int,e=.returned (.int .i64 c)∧Chg B.S w w' ∧
   (xF r=false∨r.boot≠0->c=2)∧(xF r=true->r.boot=0->(c=4∧1024 < (YI r).length)∨(c=0∧(YI r).length<=1024∧∃ d,zY w' B d∧zds 65 d ⟨1,1,⟨(YI r).toArray⟩⟩)):=by
 have H:=zf h;have HD:=zf hd;have HG:=zf hG;have HB:=zf (fun k (e:B.S k)=>hd.lt e);have kb:=zi (fun _=>False) w (.cells #[.int .i64 r.boot,.slice oa r.objs.length oc] 40);have OB:=zf (zh w (.cells #[.int .i64 r.boot,.slice oa r.objs.length oc] 40));have sz0:w.heap.size < (w.alloc (.cells #[.int .i64 r.boot,.slice oa r.objs.length oc] 40)).heap.size:=by rw [zlH];omega
 have ENC:=zf (zbh (w.alloc (.cells #[.int .i64 r.boot,.slice oa r.objs.length oc] 40)) r oa oc G (h.chg kb (fun _ _ e=>e)) hf (fun k hk=>by have:=hG k hk;omega));have KB:=zf kb;have c0:=zg (o:=0) OB.out rfl;have c1:=zg (o:=1) OB.out rfl;have HZ:=zf (fun e=>zhY (r:=r) e);have HN:=zf hn;clear h hd hG hf kb hn;go_enter Tryz.func14,Tryz.ntmps14;go_wp2_with fail;generalize w.alloc (.cells #[.int .i64 r.boot,.slice oa r.objs.length oc] 40)=w1 at *;refine (ENC.out).mono ?_;rintro e w2 ⟨hq,k2⟩;have c02:=zj k2 (fun e=>e) c0;have K2:=zf (KB.out.trans k2);have hw2:w.heap.size < w2.heap.size:=by have:=k2.size;omega
 clear k2 ENC OB c0 c1;rcases hq with ⟨hr,rfl⟩ | ⟨hr,rfl⟩
 ·by_cases h0:r.boot=0
  ·have D2:=zf (HD.out.chg K2.out (fun _ _ e=>e))
   rw [h0] at c02;have HR:=zf hr;have H0:=zf h0;clear hr h0;go_wp2_with fail;refine (zbZ _ B _ D2.out).mono ?_;rintro e w3 (⟨hbad,_⟩ | ⟨_,b,rfl,j3,c3,hb1,hb2⟩)
   ·exact absurd hbad (zdM 65 (by omega)).fine
   rw [zgy (zdM 65 (by omega))] at j3;have J3:=zf j3;have D3:=zf (D2.out.chg c3 (fun _ _ e=>e));have hbS:¬ B.S b:=fun e=>by have:=HB.out b e;omega
   have CA:=zf (show zds 65 (Dev.new 65) ⟨0,0,⟨#[]⟩⟩ from ⟨HN.out ▸ D3.out.ok,rfl,rfl,zhj 65,zdM 65 (by omega),by decide,by decide⟩);have K3:=zf (K2.out.trans c3);clear j3 c3;have ss:(⟨(YI r).toArray⟩:ByteArray).size=(YI r).length:=YG _;have CM:=zf (zbB w3 B b _ _ ⟨(YI r).toArray⟩ D3.out J3.out hbS (by decide) (by decide) (by decide) (by rw [ss];have:=HZ.out HR.out;unfold maxLen;omega));have FI:=zf (zdc CA.out ⟨(YI r).toArray⟩);have NF:=zf (zch CA.out ⟨(YI r).toArray⟩);have CC:=zf (CA.out.commit ⟨(YI r).toArray⟩);rw [ss] at FI NF;unfold zc0 at *;go_wp2_with fail;refine (CM.out).mono ?_;rintro e w4 ⟨rfl,d4,j4,k4⟩;have K4:=zf (show Chg (fun k=>B.S k∨k=b) w w4 from (K3.out.mono (fun _ _ e=>e.elim)).trans k4);have D4:=zf d4;clear d4 j4 k4;go_wp2;go_ret;refine ⟨_,rfl,K4.out.mono (fun k hk e=>?_),?_,fun _ _=>?_⟩
   ·rcases e with e | rfl
    ·exact e
    ·omega
   ·rintro (e | e)
    ·rw [HR.out] at e;cases e
    ·exact absurd H0.out e
   ·by_cases hs:(YI r).length<=1024
    ·obtain ⟨d',e⟩:=FI.out hs (by decide)
     have c4:=CC.out;rw [e] at c4;refine .inr ⟨by rw [e],hs,d',?_,c4⟩;have:=D4.out;rw [e] at this;exact this
    ·rw [NF.out (by omega)]
     exact .inl ⟨rfl,by omega⟩
  ·have tn:decide (r.boot=0)=false:=by simpa using h0
   have tn1:(r.boot != 0)=true:=by simpa using h0
   have tn2:(r.boot == 0)=false:=by simpa using h0
   have H0:=zf h0;clear h0 hr;go_wp2_with fail;go_ret;exact ⟨_,rfl,K2.out.mono (fun _ _ e=>e.elim),fun _=>rfl,fun _ e=>absurd e H0.out⟩
 ·have NB:=zf hr
  clear hr;go_wp2_with fail;go_ret;exact ⟨_,rfl,K2.out.mono (fun _ _ e=>e.elim),fun _=>rfl,fun e=>absurd e (by rw [NB.out];decide)⟩
theorem zfR (w:World) (B:DB) (r:zcn) (oa:Option Addr) (oc:Nat) (G:Nat->Prop) (hd:zY w B (Dev.new 65)) (hn:B.n=65) (h:ZC w (.slice oa r.objs.length oc) G r.objs) (hf:∀ o∈r.objs,o.ents.length<=1000) (hG:∀ k,G k->k < w.heap.size):
  Calls Tryz.prog 14 #[B.ptr,.agg #[.int .i64 r.boot,.slice oa r.objs.length oc]] w fun e w'=>∃ c:Int,e=.returned (.int .i64 c)∧Chg B.S w w' ∧
   (xF r=false∨r.boot≠0->c=2)∧(xF r=true->r.boot=0->c=4∨(c=0∧(YI r).length<=1024∧∃ d,zY w' B d∧zds 65 d ⟨1,1,⟨(YI r).toArray⟩⟩)):=
 (zd8 w B r oa oc G hd hn h hf hG).mono fun _ _ ⟨c,h1,h2,h3,h4⟩=>⟨c,h1,h2,h3,fun a b=>(h4 a b).imp (·.1) id⟩
end Go.Proofs.YtcilaocknhphnaaGreat
