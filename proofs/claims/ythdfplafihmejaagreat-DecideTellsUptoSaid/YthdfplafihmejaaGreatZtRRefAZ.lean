/-
  RRefA: what else. RFind: what else.
-/
import Derived.Test.YthdfplafihmejaaGreatZtCLike
import Derived.Test.YthdfplafihmejaaGreatZtBaseZ
namespace Go.Proofs.YthdfplafihmejaaGreat

theorem zpJ (x y:UInt8):UInt8.ofNat ((x.toNat*256+y.toNat) / 256)=x:=by
 have:=y.toNat_lt;rw [show (x.toNat*256+y.toNat) / 256=x.toNat by omega];simp
theorem zpI (x y:UInt8):UInt8.ofNat ((x.toNat*256+y.toNat) % 256)=y:=by
 have:=y.toNat_lt;rw [show (x.toNat*256+y.toNat) % 256=y.toNat by omega];simp
theorem xp (x y:UInt8) (l:Wd):zT (x :: y :: l)=(x.toNat*256+y.toNat) :: zT l:=by
 apply List.ext_getElem?;intro i;have e:zz (x :: y :: l)=zz l+1:=by unfold zz;simp only [List.length_cons];omega
 rcases i with _ | i
 ·rw [yC _ (by omega)];rfl
 ·by_cases hi:i < zz l
  ·rw [yC _ (by omega),zqW,yC _ hi]
   rfl
  ·rw [zrg (by rw [zU];omega),zrg (by rw [List.length_cons,zU];omega)]
theorem YT:∀ (l:Wd),l.length % 2=0->Zg (zT l)=l
 | [],_=>rfl
 | [x],h=>by simp at h
 | x :: y :: l,h=>by
  have:=YT l (by simp only [List.length_cons] at h;omega);rw [xp];unfold Zg at this ⊢;rw [List.flatMap_cons,this,zpJ,zpI];rfl
theorem zbd:∀ (a b:Wd),a.length % 2=0->zT (a++b)=zT a++zT b
 | [],b,_=>by simp [zT,zz]
 | [x],b,h=>by simp at h
 | x :: y :: l,b,h=>by
  rw [List.cons_append,List.cons_append,xp,xp,zbd l b (by simp only [List.length_cons] at h;omega)];rfl
theorem zc6:∀ (k:Nat) (l:Wd),zT (l.take (2*k))=(zT l).take k
 | 0,l=>by simp [zT,zz]
 | k+1,[]=>by simp [zT,zz]
 | k+1,[x]=>by
  rw [List.take_of_length_le (by simp;omega),List.take_of_length_le (by rw [zU];unfold zz;simp)]
 | k+1,x :: y :: l=>by
  rw [show 2*(k+1)=2*k+1+1 by omega,List.take_succ_cons,List.take_succ_cons,xp,xp,List.take_succ_cons,zc6 k l]
theorem zbt:∀ (k:Nat) (l:Wd),zT (l.drop (2*k))=(zT l).drop k
 | 0,l=>by simp
 | k+1,[]=>by simp [zT,zz]
 | k+1,[x]=>by
  rw [List.drop_eq_nil_of_le (by simp;omega),List.drop_eq_nil_of_le (by rw [zU];unfold zz;simp)];rfl
 | k+1,x :: y :: l=>by
  rw [show 2*(k+1)=2*k+1+1 by omega,List.drop_succ_cons,List.drop_succ_cons,xp,List.drop_succ_cons,zbt k l]
theorem zmX (l:Wd) (a n:Nat):((zT l).drop a).take n=zT ((l.drop (2*a)).take (2*n)):=by rw [zc6,zbt]
theorem zmM (l:Wd) (a n:Nat) (h:a+n<=zz l):Zg (((zT l).drop a).take n)=(l.drop (2*a)).take (2*n):=by
 rw [zmX,YT];unfold zz at h;rw [zq5,List.length_drop];omega
theorem zla (l v:Wd) (a n:Nat) (hv:v.length % 2=0) (h:a+n<=zz l):(zT l).take a++zT v++(zT l).drop (a+n)=zT (yi l a n v):=by
 unfold yi;unfold zz at h;rw [zbd _ _ (by simp only [zq3,zq5];omega),zbd _ _ (by rw [zq5];omega),zc6,zbt]
theorem zj1 (l v:Wd) (a n:Nat) (hl:l.length % 2=0) (hv:v.length % 2=0) (h:a+n<=zz l):Zg ((zT l).take a++zT v++(zT l).drop (a+n))=yi l a n v:=by
 rw [zla l v a n hv h,YT];unfold yi;unfold zz at h;simp only [zq3,zq5,List.length_drop];omega
open Go.RowKit Go.Maps
theorem yw (l:List Nat) (j:Nat):(Zs l)[j]? = (l[j]?).map fun (a:Nat)=>Value.int .u16 (a:Int):=by unfold Zs;rw [zrb]
theorem zdJ {l:Wd} {a:Nat} (h:a∈zT l):a < 65536:=by
 unfold zT at h;rw [List.mem_map] at h;obtain ⟨i,_,rfl⟩:=h;exact yT l i
set_option maxRecDepth 100000 in
theorem zjf (w:World) (s:ByteArray) (a:Int) (n:Nat) (hs:s.size<=1000) (hs2:s.size % 2=0) (hn:1<=n) (hn2:n<=1000) (ha:-9223372036854775808<=a∧a<=9223372036854775807):
  Calls Tryz.prog 109 #[.string s,.int .i64 a,.int .i64 (n:Int)] w fun e w'=>e=.returned (zp0 s a n)∧Chg (fun _=>False) w w':=by
 have ATO:=ze (xi w s (by omega));have hN:s.size=2*zz s.data.toList:=by unfold zz;rw [zA];omega
 have CUT:=ze (zmM s.data.toList a.toNat n);have AL:=ze (zU s.data.toList);have SV:=ze (show (ziY s a n->zp0 s a n=.tuple #[.string (bar ((s.data.toList.drop (2*a.toNat)).take (2*n))),.int .i64 0])∧(¬ ziY s a n->zp0 s a n=.tuple #[.string ⟨#[]⟩,.int .i64 5]) from ⟨fun h=>if_pos h,fun h=>if_neg h⟩);have SO:=ze (show ziY s a n↔0<=a∧a+n<=zz s.data.toList from Iff.rfl);rw [AL.out] at ATO;generalize zz s.data.toList=N at *;have g0:((s.size:Int) % 2 == 1)=false:=by rw [zq9];omega
 have g1:decide ((n:Int) < 0)=false:=by rw [decide_eq_false_iff_not];omega
 by_cases h1:a < 0
 ·have g2:decide (a < 0)=true:=by rw [decide_eq_true_eq];exact h1
  have RES:=ze (SV.out.2 (fun h=>by have:=SO.out.1 h;omega));clear hN;go_enter Tryz.func109,Tryz.ntmps109;go_wp2_with fail;(with_reducible refine ATO.out.mono ?_);rintro e w1 ⟨v1,rfl,o1,c1⟩;go_wp2;go_ret2;exact ⟨by rw [RES.out];rfl,c1⟩
 ·have g2:decide (a < 0)=false:=by rw [decide_eq_false_iff_not];exact h1
  obtain ⟨i,rfl⟩:∃ i:Nat,a=i:=⟨a.toNat,by omega⟩;by_cases h2:N < i
  ·have g3:decide (N < i)=true:=by rw [decide_eq_true_eq];exact h2
   have RES:=ze (SV.out.2 (fun h=>by have:=SO.out.1 h;omega));clear hN;go_enter Tryz.func109,Tryz.ntmps109;go_wp2_with fail;(with_reducible refine ATO.out.mono ?_);rintro e w1 ⟨v1,rfl,o1,c1⟩;obtain ⟨av,cv,rfl⟩:=zl o1;go_wp2;go_ret2;exact ⟨by rw [RES.out];rfl,c1⟩
  ·have g3:decide (N < i)=false:=by rw [decide_eq_false_iff_not];exact h2
   by_cases h3:N < i+n
   ·have g4:decide ((N:Int) - (i:Int) < (n:Int))=true:=by rw [decide_eq_true_eq];omega
    have RES:=ze (SV.out.2 (fun h=>by have:=SO.out.1 h;omega));have hN2:N<=1000:=by omega
    clear hN;go_enter Tryz.func109,Tryz.ntmps109;go_wp2_with fail;(with_reducible refine ATO.out.mono ?_);rintro e w1 ⟨v1,rfl,o1,c1⟩;obtain ⟨av,cv,rfl⟩:=zl o1;go_wp2;go_ret2;exact ⟨by rw [RES.out];rfl,c1⟩
   ·have g4:decide ((N:Int) - (i:Int) < (n:Int))=false:=by rw [decide_eq_false_iff_not];omega
    have RES:=ze (SV.out.1 (SO.out.2 ⟨by omega,by omega⟩));have CB:=ze (CUT.out (by omega));have hN2:N<=1000:=by omega
    clear hN;go_enter Tryz.func109,Tryz.ntmps109;go_wp2_with fail;(with_reducible refine ATO.out.mono ?_);rintro e w1 ⟨v1,rfl,o1,c1⟩;obtain ⟨av,cv,rfl⟩:=zl o1;obtain ⟨g,rfl⟩:=ZA o1 (by omega)
    have hcv:N<=cv∧cv<=maxLen:=by
     obtain ⟨_,⟨q,_⟩ | ⟨g',c',cur,q,_,_,q1,q2,_⟩⟩:=o1
     ·cases q
     ·cases q;exact ⟨q1,q2⟩
    obtain ⟨hc1,hc2⟩:=hcv;unfold maxLen at hc2;have e1:(i == cv)=false:=by rw [zq9];omega
    have e2:i≠cv:=by omega
    have OF:=ze (zf2 w1 (some ⟨g,i,none⟩) (cv - i) (((zT s.data.toList).drop i).take n) (by rw [zq5,List.length_drop,AL.out];omega) (by rw [zq5,List.length_drop,AL.out];omega) (fun j x hj=>by
     have hj':j < n:=by
      have:=(zq1.1 hj).1;rw [zq5] at this;omega
     rw [List.getElem?_take_of_lt hj',List.getElem?_drop] at hj;refine ⟨zdJ (zq2 hj),g,i,rfl,?_⟩;rw [o1.cellAt (i+j) (by omega),yw,hj];rfl))
    rw [show (((zT s.data.toList).drop i).take n).length=n by rw [zq5,List.length_drop,AL.out];omega] at OF;have C1:=ze c1;clear c1 o1;rw [Int.toNat_natCast] at CB RES;rw [CB.out] at OF;go_wp2_with fail;(with_reducible refine OF.out.mono ?_);rintro e w2 ⟨rfl,c2⟩;go_wp2;go_ret2;exact ⟨by rw [RES.out];rfl,C1.out.trans c2⟩
theorem znz (w:World) (s:ByteArray) (i n:Nat) (hs:s.size<=1000) (hs2:s.size % 2=0) (hn:1<=n) (hn2:n<=1000) (h:i+n<=zz s.data.toList):
  Calls Tryz.prog 109 #[.string s,.int .i64 (i:Int),.int .i64 (n:Int)] w fun e w'=>e=.returned (.tuple #[.string (bar ((s.data.toList.drop (2*i)).take (2*n))),.int .i64 0])∧Chg (fun _=>False) w w':=by
 have hN:s.size=2*zz s.data.toList:=by unfold zz;rw [zA];omega
 have:=zjf w s i n hs hs2 hn hn2 (by omega);unfold zp0 at this;rw [if_pos ⟨by omega,by omega⟩,Int.toNat_natCast] at this;exact this
set_option maxHeartbeats 1000000 in
set_option maxRecDepth 100000 in
theorem zny (w:World) (s v:ByteArray) (i n:Nat) (hs:s.size<=1000) (hv:v.size<=1000) (hs2:s.size % 2=0) (hv2:v.size % 2=0) (hv0:0 < v.size) (hn:1<=n) (h:i+n<=zz s.data.toList) (h8:zz s.data.toList - n+zz v.data.toList<=8):
  Calls Tryz.prog 110 #[.string s,.int .i64 (i:Int),.int .i64 (n:Int),.string v] w fun e w'=>e=.returned (.tuple #[.string (bar (yi s.data.toList i n v.data.toList)),.int .i64 0])∧Chg (fun _=>False) w w':=by
 have hN:s.size=2*zz s.data.toList:=by unfold zz;rw [zA];omega
 have hM:v.size=2*zz v.data.toList:=by unfold zz;rw [zA];omega
 have SUB:=ze (znz w s i n hs hs2 hn (by omega) h);have ATS:=ze (fun w=>xi w s (by omega));have ATV:=ze (fun w=>xi w v (by omega));have SWB:=ze (zj1 s.data.toList v.data.toList i n (by rw [zA];exact hs2) (by rw [zA];exact hv2) h);have AL:=ze (zU s.data.toList);have AM:=ze (zU v.data.toList);have LS:=ze (fun a (h:a∈zT s.data.toList)=>zdJ h);have LV:=ze (fun a (h:a∈zT v.data.toList)=>zdJ h);rw [AL.out] at ATS;rw [AM.out] at ATV;generalize zz s.data.toList=N at *;generalize zz v.data.toList=M at *;generalize zT s.data.toList=A at *;generalize zT v.data.toList=B at *;have g0:((s.size:Int) % 2 == 1)=false:=by rw [zq9];omega
 have g1:((v.size:Int) % 2 == 1)=false:=by rw [zq9];omega
 have hNb:N<=2000:=by omega
 have hMb:1<=M:=by omega
 clear hN hM;go_enter Tryz.func110,Tryz.ntmps110;go_wp2_with fail;(with_reducible refine SUB.out.mono ?_);rintro e w1 ⟨rfl,c1⟩;have C1:=ze c1;clear c1 SUB;go_wp2_with fail;(with_reducible refine (ATS.out _).mono ?_);rintro e w2 ⟨v2,rfl,o2,c2⟩;obtain ⟨av,cv,rfl⟩:=zl o2;obtain ⟨g,rfl⟩:=ZA o2 (by omega)
 have hcv:N<=cv∧cv<=maxLen:=by
  obtain ⟨_,⟨q,_⟩ | ⟨g',c',cur,q,_,_,q1,q2,_⟩⟩:=o2
  ·cases q
  ·cases q;exact ⟨q1,q2⟩
 obtain ⟨hc1,hc2⟩:=hcv;unfold maxLen at hc2;have C2:=ze (C1.out.trans c2);have O2:=ze o2;have hgl:g < w2.heap.size:=(o2.lt g rfl).2;clear o2 c2 C1;have z0:0≠cv:=by omega
 have z1:¬ cv=0:=by omega
 have z2:i<=cv:=by omega
 have z3:i+n<=cv:=by omega
 go_wp2_with (at_builtin;refine zV rfl (.tmp 36) (.tmp 39) 125 rfl 62 1 2 Tryz.underlying125 Tryz.elemAtom w2.heap.size _ 0 [] rfl (ZH _ _ _ _ (zrj _)) (some ⟨g,0,none⟩) i cv (Zs (A.take i)) rfl ?a1 ?a2 ?a3 ?a4 ?a5 ?a6 ?a7 ?next)
 case a1=>unfold Zs;rw [zq4,zq5,AL.out];omega
 case a2=>
  intro j u hj;rw [yw] at hj
  have hji:j < i:=by
   rcases Nat.lt_or_ge j i with q | q
   ·exact q
   ·rw [zrg (by rw [zq5];omega)] at hj;cases hj
  rw [List.getElem?_take_of_lt hji,<- yw] at hj;refine ⟨g,0,rfl,?_⟩;rw [Nat.zero_add];refine zj (zi (fun _=>False) w2 _) (fun e=>e) ?_;rw [O2.out.cellAt j (by omega)];exact hj
 case a3=>intro q;cases q
 case a4=>intro u hu;unfold Zs at hu;rw [List.mem_map] at hu;obtain ⟨x,_,rfl⟩:=hu;rfl
 case a5=>omega
 case a6=>unfold maxLen;omega
 case a7=>simp
 intro v3 w3 o3 g3
 have k3:Chg (fun _=>False) w2 w3:=(zi (fun _=>False) w2 (.cells #[] 62)).next (Chg.of_grown g3) (fun x hx e=>by
  have e2:w2.heap.size=x:=by simpa [Value.ownBlock] using e
  omega)
 have C3:=ze (C2.out.trans k3);have O3:=ze o3;have O23:=ze (zn O2.out k3 (fun _ _ e=>e));have hs3:=k3.size;obtain ⟨a3,cp3,rfl⟩:=zl o3;clear o3 g3 k3 O2;go_wp2_with fail;(with_reducible refine (ATV.out _).mono ?_);rintro e w4 ⟨v4,rfl,o4,c4⟩;obtain ⟨av4,cv4,rfl⟩:=zl o4;obtain ⟨g4,rfl⟩:=ZA o4 (by omega);have O4:=ze o4;have O34:=ze (zn O3.out c4 (fun _ _ e=>e));have O24:=ze (zn O23.out c4 (fun _ _ e=>e));have C4:=ze (C3.out.trans c4);have hs4:=c4.size;clear o4 c4 C3 O3 O23;go_wp2_with (at_builtin;refine zV rfl (.tmp 41) (.tmp 43) 125 rfl 62 1 2 Tryz.underlying125 Tryz.elemAtom w2.heap.size _ i (Zs (A.take i)) rfl O34.out (some ⟨g4,0,none⟩) M cv4 (Zs B) rfl ?b1 ?b2 ?b3 ?b4 ?b5 ?b6 ?b7 ?next2)
 case b1=>unfold Zs;rw [zq4,AM.out];omega
 case b2=>
  intro j u hj;refine ⟨g4,0,rfl,?_⟩;have hjl:=(zq1.1 hj).1;unfold Zs at hjl;rw [zq4,AM.out] at hjl;rw [Nat.zero_add,O4.out.cellAt j (by omega)];exact hj
 case b3=>intro q;cases q
 case b4=>intro u hu;unfold Zs at hu;rw [List.mem_map] at hu;obtain ⟨x,_,rfl⟩:=hu;rfl
 case b5=>omega
 case b6=>unfold maxLen;omega
 case b7=>omega
 intro v5 w5 o5 g5
 have k5:Chg (fun _=>False) w w5:=C4.out.next (Chg.of_grown g5) (fun x hx e=>by
  have:=(O34.out.lt x e).1;have:=C2.out.size;omega)
 have O25:=ze (zn O24.out (Chg.of_grown g5) (fun x hx e=>by
  have h1:=(O34.out.lt x e).1;have h2:g=x:=by simpa [Value.ownBlock] using hx
  omega))
 have C5:=ze k5;have O5:=ze o5;have hs5:=g5.size;obtain ⟨a5,cp5,rfl⟩:=zl o5;clear o5 k5 g5 C4 O34 O24
 have AFT:=ze (show ∀ (v6:Value) (w6:World),w6.ownsRow w2.heap.size 62 1 v6 (i+M+(N - (i+n))) (Zs (A.take i)++Zs B++Zs (A.drop (i+n)))->∃ a6 c6,v6=.slice a6 (i+M+(N - (i+n))) c6∧(Calls Tryz.prog 30 #[.slice a6 (i+M+(N - (i+n))) c6] w6 fun e w'=>e=.returned (.string (bar (yi s.data.toList i n v.data.toList)))∧Chg (fun _=>False) w6 w') from fun v6 w6 o6=>by
  obtain ⟨a6,c6,rfl⟩:=zl o6;refine ⟨a6,c6,rfl,?_⟩;have el:(A.take i++B++A.drop (i+n)).length=i+M+(N - (i+n)):=by simp only [zq3,zq5,List.length_drop,AL.out,AM.out];omega
  have ec:Zs (A.take i)++Zs B++Zs (A.drop (i+n))=Zs (A.take i++B++A.drop (i+n)):=by unfold Zs;simp only [List.map_append]
  rw [ec] at o6;obtain ⟨g6,rfl⟩:=ZA o6 (by omega)
  have:=zf2 w6 (some ⟨g6,0,none⟩) c6 (A.take i++B++A.drop (i+n)) (by rw [el];omega) (by rw [el];omega) (fun j x hj=>by
   refine ⟨?_,g6,0,rfl,?_⟩
   ·have hm:=zq2 hj
    rw [zrc,zrc] at hm;rcases hm with (hm | hm) | hm
    ·exact LS.out x (List.mem_of_mem_take hm)
    ·exact LV.out x hm
    ·exact LS.out x (List.mem_of_mem_drop hm)
   ·have hjl:=(zq1.1 hj).1
    rw [Nat.zero_add,o6.cellAt j (by omega),yw,hj];rfl)
  rw [el] at this;rw [SWB.out] at this;exact this)
 have hlast:i+M+(N - (i+n))<=8:=by omega
 have FIN:=ze (show ∀ (v6:Value) (w6:World),w5.grownBy w6 (Value.slice a5 (i+M) cp5).ownBlock->Chg (fun _=>False) w w6 from fun v6 w6 g6=>C5.out.next (Chg.of_grown g6) (fun x hx e=>by
  have:=(O5.out.lt x e).1;have:=C2.out.size;omega))
 by_cases hq:i+n=cv
 ·have hNN:N=i+n:=by omega
  have g9:N - (i+n)=0:=by omega
  subst hq;subst hNN;go_wp2_with (at_builtin;refine zV rfl (.tmp 45) (.tmp 50) 125 rfl 62 1 2 Tryz.underlying125 Tryz.elemAtom w2.heap.size _ (i+M) (Zs (A.take i)++Zs B) rfl O5.out (some ⟨g,0,none⟩) (i+n - (i+n)) (i+n - (i+n)) [] rfl ?d1 ?d2 ?d3 ?d4 ?d5 ?d6 ?d7 ?next3)
  case d1=>simp
  case d2=>intro j u hj;simp at hj
  case d3=>intro q;cases q
  case d4=>intro u hu;cases hu
  case d5=>omega
  case d6=>unfold maxLen;omega
  case d7=>omega
  intro v6 w6 o6 g6;have K6:=ze (FIN.out v6 w6 g6);obtain ⟨a6,c6,rfl,OF⟩:=AFT.out v6 w6 (by rw [List.drop_eq_nil_of_le (show A.length<=i+n by rw [AL.out];omega)];simpa [Zs] using o6);have OFF:=ze OF;rw [Nat.sub_self,Nat.add_zero] at OFF;clear o6 g6 OF AFT;go_wp2_with fail;(with_reducible refine OFF.out.mono ?_);rintro e w7 ⟨rfl,c7⟩;go_wp2;go_ret2;exact ⟨rfl,K6.out.trans c7⟩
 ·have hq2:¬ cv=i+n:=fun e=>hq e.symm
  go_wp2_with (at_builtin;refine zV rfl (.tmp 45) (.tmp 50) 125 rfl 62 1 2 Tryz.underlying125 Tryz.elemAtom w2.heap.size _ (i+M) (Zs (A.take i)++Zs B) rfl O5.out (some ⟨g,i+n,none⟩) (N - (i+n)) (cv - (i+n)) (Zs (A.drop (i+n))) rfl ?f1 ?f2 ?f3 ?f4 ?f5 ?f6 ?f7 ?next4)
  case f1=>unfold Zs;rw [zq4,List.length_drop,AL.out];omega
  case f2=>
   intro j u hj;rw [yw,List.getElem?_drop,<- yw] at hj;have hjl:=(zq1.1 hj).1;unfold Zs at hjl;rw [zq4,AL.out] at hjl;refine ⟨g,i+n,rfl,?_⟩;rw [O25.out.cellAt (i+n+j) (by omega)];exact hj
  case f3=>intro q;cases q
  case f4=>intro u hu;unfold Zs at hu;rw [List.mem_map] at hu;obtain ⟨x,_,rfl⟩:=hu;rfl
  case f5=>omega
  case f6=>unfold maxLen;omega
  case f7=>omega
  intro v6 w6 o6 g6;have K6:=ze (FIN.out v6 w6 g6);obtain ⟨a6,c6,rfl,OF⟩:=AFT.out v6 w6 (by simpa using o6);have OFF:=ze OF;clear o6 g6 OF AFT;go_wp2_with fail;(with_reducible refine OFF.out.mono ?_);rintro e w7 ⟨rfl,c7⟩;go_wp2;go_ret2;exact ⟨rfl,K6.out.trans c7⟩
theorem zgp (a b:ByteArray):(a.toList == b.toList)=decide (a.data.toList=b.data.toList):=by
 rw [ByteArray.toList_eq,ByteArray.toList_eq,Bool.eq_iff_iff,beq_iff_eq,decide_eq_true_eq]
theorem zoq (a b:ByteArray):(a.toList != b.toList)=!decide (a.data.toList=b.data.toList):=by
 rw [bne,zgp]
theorem zk7 {a b:ByteArray} (ha:Zp a.data.toList=true) (hb:Zp b.data.toList=true):Zx (Zw (a,b))=decide (b.size<=a.size):=by
 have h1:=Zn ha;have h2:=Zn hb;unfold Zx Zw;simp only;rw [ha,hb,Bool.true_and,Bool.true_and];unfold zz;rw [zA,zA]
 congr 1
 rw [eq_iff_iff];omega
set_option maxRecDepth 100000 in
theorem zim (w:World) (r:zF) (h1:r.1.size<=140737488355328) (h2:r.2.size<=140737488355328):
  Calls Tryz.prog 26 #[zgU r] w fun e w'=>e=.returned (.bool (Zx (Zw r)))∧Chg (fun _=>False) w w':=by
 obtain ⟨a,b⟩:=r;simp only at h1 h2;have MA:=ze (fun w=>zbk w a h1);have MB:=ze (fun w=>zbk w b h2);have CB:=ze (show Zx (Zw (a,b))=(Zp a.data.toList && Zp b.data.toList && decide (zz b.data.toList<=zz a.data.toList)) from rfl);have CL:=ze (@zk7 a b);unfold zgU;simp only;cases ha:Zp a.data.toList with
 | false=>
  rw [ha] at MA CB;clear ha;go_enter Tryz.func26,Tryz.ntmps26;go_wp2_with fail;(with_reducible refine (MA.out _).mono ?_);rintro e w1 ⟨rfl,k1⟩;go_wp2;go_ret;exact ⟨by rw [CB.out];rfl,(zi _ w _).trans k1⟩
 | true=>
  rw [ha] at MA CB;have o0:=zh w (.cells #[.string a,.string b] 66);cases hb:Zp b.data.toList with
  | false=>
   rw [hb] at MB CB;clear ha hb;have O0:=ze o0;clear o0;go_enter Tryz.func26,Tryz.ntmps26;go_wp2_with fail;(with_reducible refine (MA.out _).mono ?_);rintro e w1 ⟨rfl,k1⟩;have d1:w1.cell? ⟨w.heap.size,1,none⟩=some (.string b):=zf (k1.obj (fun e=>e) O0.out) rfl;go_wp2_with fail;(with_reducible refine (MB.out _).mono ?_);rintro e w2 ⟨rfl,k2⟩;go_wp2;go_ret;exact ⟨by rw [CB.out];rfl,((zi _ w _).trans k1).trans k2⟩
  | true=>
   rw [hb] at MB;have CC:=ze (CL.out ha hb);clear ha hb;have O0:=ze o0;clear o0;cases hl:decide (b.size<=a.size) with
   | false=>
    rw [hl] at CC;go_enter Tryz.func26,Tryz.ntmps26;go_wp2_with fail;(with_reducible refine (MA.out _).mono ?_);rintro e w1 ⟨rfl,k1⟩;have d1:w1.cell? ⟨w.heap.size,1,none⟩=some (.string b):=zf (k1.obj (fun e=>e) O0.out) rfl;go_wp2_with fail;(with_reducible refine (MB.out _).mono ?_);rintro e w2 ⟨rfl,k2⟩;have d2:w2.cell? ⟨w.heap.size,1,none⟩=some (.string b):=zj k2 (fun e=>e) d1;have d3:w2.cell? ⟨w.heap.size,0,none⟩=some (.string a):=zf (k2.obj (fun e=>e) (k1.obj (fun e=>e) O0.out)) rfl;go_wp2;go_ret;exact ⟨by rw [CC.out];rfl,((zi _ w _).trans k1).trans k2⟩
   | true=>
    rw [hl] at CC;go_enter Tryz.func26,Tryz.ntmps26;go_wp2_with fail;(with_reducible refine (MA.out _).mono ?_);rintro e w1 ⟨rfl,k1⟩;have d1:w1.cell? ⟨w.heap.size,1,none⟩=some (.string b):=zf (k1.obj (fun e=>e) O0.out) rfl;go_wp2_with fail;(with_reducible refine (MB.out _).mono ?_);rintro e w2 ⟨rfl,k2⟩;have d2:w2.cell? ⟨w.heap.size,1,none⟩=some (.string b):=zj k2 (fun e=>e) d1;have d3:w2.cell? ⟨w.heap.size,0,none⟩=some (.string a):=zf (k2.obj (fun e=>e) (k1.obj (fun e=>e) O0.out)) rfl;go_wp2;go_ret;exact ⟨by rw [CC.out];rfl,((zi _ w _).trans k1).trans k2⟩
set_option maxHeartbeats 1000000 in
set_option maxRecDepth 100000 in
theorem znx (w:World) (v:Value) (R:List zF) (u:ByteArray) (xa xk:Int) (hv:zX w v (· < w.heap.size) R) (h47:xt R) (hmay:Zp u.data.toList=true) (hxa:-9223372036854775808<=xa∧xa<=9223372036854775807):
  Calls Tryz.prog 78 #[v,.string u,.agg #[.int .i64 xa,.int .i64 xk]] w fun e w'=>e=.returned (zqv (Ym (R.map Zw) u.data.toList (xa,xk)))∧Chg (fun _=>False) w w':=by
 have HV:=ze hv;obtain ⟨la,cap,rfl,hl0,hvl⟩:=hv;have hu8:=Zn hmay;have HMAY:=ze hmay;unfold maxLen at hl0;have b0:=zh w (.cells #[.int .i64 xa,.int .i64 xk] 153);have B0:=ze b0;have K2:=ze (zi (fun _=>False) w (.cells #[.int .i64 xa,.int .i64 xk] 153));clear b0 hmay;by_cases hx0:xk < 0
 ·have g0:decide (xk < 0)=true:=by rw [decide_eq_true_eq];exact hx0
  have RES:=ze (Yd (R:=R.map Zw) (w:=u.data.toList) (x:=(xa,xk)) (fun q=>by have:=q.1;simp only at this;omega));clear hx0 hvl;go_enter Tryz.func78,Tryz.ntmps78;go_wp2;go_ret2;exact ⟨by rw [RES.out];rfl,K2.out⟩
 ·have g0:decide (xk < 0)=false:=by rw [decide_eq_false_iff_not];exact hx0
  obtain ⟨j,rfl⟩:∃ j:Nat,xk=j:=⟨xk.toNat,by omega⟩;by_cases hj:R.length<=j
  ·have g1:decide (R.length<=j)=true:=by rw [decide_eq_true_eq];exact hj
   have RES:=ze (Yd (R:=R.map Zw) (w:=u.data.toList) (x:=(xa,(j:Int))) (fun q=>by have:=q.2.1;simp only [zq4] at this;omega));clear hvl;go_enter Tryz.func78,Tryz.ntmps78;go_wp2;go_ret2;exact ⟨by rw [RES.out];rfl,K2.out⟩
  ·have g1:decide (R.length<=j)=false:=by rw [decide_eq_false_iff_not];exact hj
   have hjl:j < R.length:=by omega
   obtain ⟨⟨ra,rb⟩,hr⟩:∃ r,R[j]? = some r:=⟨_,zq0 (show j < R.length by omega)⟩;obtain ⟨ga,gc,rfl,hga,d0,d1,hra,hrb⟩:=hvl j _ hr;obtain ⟨h47a,h47b⟩:=h47 _ (zq2 hr);simp only at d0 d1 h47a h47b;have RU:=ze (zic hr);have US:=ze (fun a=>zi2 hr u.data.toList a);have CNT:=ze (zim (w.alloc (.cells #[.int .i64 xa,.int .i64 (j:Int)] 153)) (ra,rb) h47a h47b);unfold zgU at CNT;simp only at CNT;clear hvl hr;cases hc:Zx (Zw (ra,rb)) with
   | false=>
    rw [hc] at CNT;have RES:=ze (Yd (R:=R.map Zw) (w:=u.data.toList) (x:=(xa,(j:Int))) (fun q=>by have h:=q.2.2;simp only [Int.toNat_natCast] at h;rw [RU.out,hc] at h;cases h));clear hc;go_enter Tryz.func78,Tryz.ntmps78;go_wp2_with fail;(with_reducible refine CNT.out.mono ?_);rintro e w3 ⟨rfl,k3⟩;go_wp2;go_ret2;exact ⟨by rw [RES.out];rfl,K2.out.trans k3⟩
   | true=>
    rw [hc] at CNT;obtain ⟨m1,m2,m3⟩:=(Xf _).1 hc;simp only [Zw] at m1 m2 m3;have SA:=Zn m1;have SB:=Zn m2;have PA:=xj m1;have PB:=xj m2;rw [zA] at PA PB;have NP:=ze (fun h=>zbD (R:=R.map Zw) (w:=u.data.toList) (x:=(xa,(j:Int))) (by simp only [Int.toNat_natCast];rw [RU.out];exact h));have HC:=ze hc;clear hc m1 m2;go_enter Tryz.func78,Tryz.ntmps78;go_wp2_with fail;(with_reducible refine CNT.out.mono ?_);rintro e w3 ⟨rfl,k3⟩;have b3:=k3.obj (fun e=>e) B0.out;have d0':w3.cell? ⟨ga,gc+j*2,none⟩=some (.string ra):=zj k3 (fun e=>e) (zj (zi (fun _=>False) w _) (fun e=>e) d0);have d1':w3.cell? ⟨ga,gc+j*2+1,none⟩=some (.string rb):=zj k3 (fun e=>e) (zj (zi (fun _=>False) w _) (fun e=>e) d1);have e0:w3.cell? ⟨w.heap.size,0,none⟩=some (.int .i64 xa):=zf b3 rfl;have e1:w3.cell? ⟨w.heap.size,1,none⟩=some (.int .i64 (j:Int)):=zf b3 rfl;have hsz3:w.heap.size < w3.heap.size:=by have:=k3.size;simp at this;omega
    have K3:=ze (K2.out.trans k3);have hue:u.size=2*zz u.data.toList:=by unfold zz;rw [zA];omega
    have hae:ra.size=2*zz ra.data.toList:=by unfold zz;rw [zA];omega
    have q2:((ra.size:Int) / 2)=((zz ra.data.toList:Nat):Int):=by omega
    clear d0 d1 b3 k3 CNT;have b4:=zh w3 (.cells #[.string ra,.string rb] 66);have K4:=ze (K3.out.alloc (.cells #[.string ra,.string rb] 66));have SUB:=ze (zjf (w3.alloc (.cells #[.string ra,.string rb] 66)) u xa (zz ra.data.toList) (by omega) (by omega) (by omega) (by omega) hxa);have B4:=ze b4;clear b4;by_cases hok:ziY u xa (zz ra.data.toList)
    ·rw [show zp0 u xa (zz ra.data.toList)=.tuple #[.string (bar ((u.data.toList.drop (2*xa.toNat)).take (2*zz ra.data.toList))),.int .i64 0] from if_pos hok] at SUB
     obtain ⟨hok1,hok2⟩:=hok;obtain ⟨i,rfl⟩:∃ i:Nat,xa=i:=⟨xa.toNat,by omega⟩;rw [Int.toNat_natCast] at SUB;have hal:ra.data.toList.length=2*zz ra.data.toList:=by rw [zA];exact hae
     by_cases hcut:(u.data.toList.drop (2*i)).take (2*zz ra.data.toList)=ra.data.toList
     ·have ST:Ym (R.map Zw) u.data.toList ((i:Int),(j:Int))=some (yi u.data.toList i (zz ra.data.toList) rb.data.toList):=by
       unfold Ym;rw [if_pos]
       ·simp only [Int.toNat_natCast];rw [US.out]
       ·refine ⟨by simp only;omega,by simp only [zq4];omega,?_,by simp only;omega,?_,?_⟩
        ·simp only [Int.toNat_natCast];rw [RU.out];exact HC.out
        ·simp only [Int.toNat_natCast];rw [RU.out];simp only [Zw];omega
        ·simp only [Int.toNat_natCast];rw [RU.out];simp only [Zw];rw [hal];exact hcut
      rw [hcut] at SUB;rw [zhy] at SUB;have RES:=ze ST;have SW:=ze (fun w=>zny w u rb i (zz ra.data.toList) (by omega) (by omega) (by omega) (by omega) (by omega) (by omega) (by omega) (by omega));have n1:(ra.toList != ra.toList)=false:=by simp
      clear hcut ST hal hue hae m3;generalize zz ra.data.toList=M at *;generalize yi u.data.toList i M rb.data.toList=uw at *;go_wp2_with fail;(with_reducible refine SUB.out.mono ?_);rintro e w5 ⟨rfl,k5⟩;have b5:=k5.obj (fun e=>e) B4.out;have f0:w5.cell? ⟨w3.heap.size,0,none⟩=some (.string ra):=zf b5 rfl;have f1:w5.cell? ⟨w3.heap.size,1,none⟩=some (.string rb):=zf b5 rfl;have f2:w5.cell? ⟨w.heap.size,0,none⟩=some (.int .i64 (i:Int)):=zj k5 (fun e=>e) (zj (zi (fun _=>False) w3 _) (fun e=>e) e0);have K5:=ze (K4.out.trans k5);clear b5 k5 SUB e0 e1 d0' d1';go_wp2_with fail;(with_reducible refine (SW.out _).mono ?_);rintro e w6 ⟨rfl,k6⟩;go_wp2;go_ret2;exact ⟨by rw [RES.out];rfl,K5.out.trans k6⟩
     ·have RES:=ze (NP.out (fun q=>hcut (by have:=q.2.2;simp only [Int.toNat_natCast,Zw] at this;rwa [hal] at this)))
      have n1:((bar ((u.data.toList.drop (2*i)).take (2*zz ra.data.toList))).toList != ra.toList)=true:=by
       rw [zoq,yB,zqZ hcut];rfl
      have n2:((bar ((u.data.toList.drop (2*i)).take (2*zz ra.data.toList))).toList == ra.toList)=false:=by
       rw [zgp,yB,zqZ hcut]
      have n3:¬ (bar ((u.data.toList.drop (2*i)).take (2*zz ra.data.toList))).toList=ra.toList:=by
       rw [zq9] at n2;exact n2
      clear hcut hal hue hae m3;generalize zz ra.data.toList=M at *;generalize bar ((u.data.toList.drop (2*i)).take (2*M))=cu at *;go_wp2_with fail;(with_reducible refine SUB.out.mono ?_);rintro e w5 ⟨rfl,k5⟩;have b5:=k5.obj (fun e=>e) B4.out;have f0:w5.cell? ⟨w3.heap.size,0,none⟩=some (.string ra):=zf b5 rfl;have K5:=ze (K4.out.trans k5);clear b5 k5 SUB e0 e1 d0' d1';go_wp2;go_ret2;exact ⟨by rw [RES.out];rfl,K5.out⟩
    ·rw [show zp0 u xa (zz ra.data.toList)=.tuple #[.string ⟨#[]⟩,.int .i64 5] from if_neg hok] at SUB
     have RES:=ze (NP.out (fun q=>hok ⟨q.1,by have:=q.2.1;simp only [Zw] at this;exact this⟩));clear hok hue hae m3;generalize zz ra.data.toList=M at *;go_wp2_with fail;(with_reducible refine SUB.out.mono ?_);rintro e w5 ⟨rfl,k5⟩;have K5:=ze (K4.out.trans k5);go_wp2;go_ret2;exact ⟨by rw [RES.out];rfl,K5.out⟩
theorem zev (l:List Wd) (w:Wd) (a i:Nat):zbI l w a (i+1)=zbI l w a i++if YN (l.getD i []) w a then [i] else []:=by
 unfold zbI;rw [List.range_succ,List.filter_append];by_cases h:YN (l.getD i []) w a=true
 ·rw [if_pos h];simp only [List.filter_cons,h,if_true,List.filter_nil]
 ·rw [if_neg h];simp only [List.filter_cons,if_neg h,List.filter_nil]
theorem znJ (R:List Rul) (u:Wd) (a:Nat):yU R u a R.length=yU R u (a+1) 0:=by
 unfold yU;have:zbI (yW R) u a R.length=zbU (yW R) u a:=by unfold zbI zbU;rw [yd]
 rw [this]
 congr 1
 unfold xG;rw [List.range_succ,List.flatMap_append];simp [zbI]
theorem zpk (R:List Rul) (u:Wd):yU R u (zz u) 0=ZV R u:=by
 unfold yU ZV zhl;simp [zbI]
theorem zd2 {R:List Rul} {u:Wd} {a k:Nat} (hk:k < R.length) (ha:a < zz u):YN ((yW R).getD k []) u a=true↔zld R u ((a:Int),(k:Int)):=by
 rw [zaS];unfold zhl;rw [Xd,yd];exact ⟨fun h=>⟨ha,hk,h⟩,fun h=>h.2.2⟩
theorem zpj {R:List Rul} {u v:Wd} {a k:Nat} (hk:k < R.length) (ha:a < zz u) (h:Ym R u ((a:Int),(k:Int))=some v):yU R u a (k+1)=yU R u a k++[((a,k),v)]:=by
 unfold Ym at h;split at h
 ·rename_i hs
  cases h;unfold yU;rw [zev,if_pos ((zd2 hk ha).2 hs)];simp
 ·cases h
theorem zp9 {R:List Rul} {u:Wd} {a k:Nat} (hk:k < R.length) (ha:a < zz u) (h:Ym R u ((a:Int),(k:Int))=none):yU R u a (k+1)=yU R u a k:=by
 unfold Ym at h;split at h
 ·cases h
 ·rename_i hs
  unfold yU;rw [zev,if_neg (fun q=>hs ((zd2 hk ha).1 q))];simp
theorem zkJ (b i:Nat) (s:Nat × Nat) (v:Wd) (r:List Ent):ZQ b i [(s,v)] r=if v∈zv r then some r else if r.length=b then none else some (r++[(v,((i:Int),s))]):=by
 simp only [ZQ]
theorem zkd {R:List Rul} {b i:Nat} {r r':List Ent} {u v:Wd} {a k:Nat} (hk:k < R.length) (ha:a < zz u) (h:Ym R u ((a:Int),(k:Int))=some v) (hr:xD R b i r u a k=some r'):xD R b i r u a (k+1)=if v∈zv r' then some r' else if r'.length=b then none else some (r'++[(v,((i:Int),(a,k)))]):=by
 unfold xD at hr ⊢;rw [zpj hk ha h,Yg,hr,Option.bind_some,zkJ]
theorem zlP {R:List Rul} {b i:Nat} {r:List Ent} {u:Wd} {a k:Nat} (hk:k < R.length) (ha:a < zz u) (h:Ym R u ((a:Int),(k:Int))=none):xD R b i r u a (k+1)=xD R b i r u a k:=by
 unfold xD;rw [zp9 hk ha h]
theorem zif (R:List Rul) (b i:Nat) (r:List Ent) (u:Wd) (a:Nat):xD R b i r u a R.length=xD R b i r u (a+1) 0:=by unfold xD;rw [znJ]
theorem zke (R:List Rul) (b i:Nat) (r:List Ent) (u:Wd):xD R b i r u (zz u) 0=ZQ b i (ZV R u) r:=by unfold xD;rw [zpk]
theorem zie (R:List Rul) (b i:Nat) (r:List Ent) (u:Wd):xD R b i r u 0 0=some r:=rfl
theorem zkq (R:List Rul) (u:Wd) {a k:Nat} (ha:a < zz u) (hk:k<=R.length):yU R u a k <+: ZV R u:=by
 unfold yU ZV zhl;refine List.IsPrefix.map _ ?_
 have h1:xG (yW R) u a++(zbI (yW R) u a k).map (fun t=>(a,t)) <+: xG (yW R) u (a+1):=by
  unfold xG;rw [List.range_succ,List.flatMap_append];refine (List.prefix_append_right_inj _).2 ?_;rw [List.flatMap_singleton];refine List.IsPrefix.map _ ?_;unfold zbI zbU;rw [yd];refine List.IsPrefix.filter _ ?_;rw [List.prefix_iff_eq_take,List.take_range,List.length_range]
  congr 1
  omega
 refine h1.trans ?_;obtain ⟨d,hd⟩:∃ d,zz u=a+1+d:=⟨zz u - (a+1),by omega⟩;rw [hd];unfold xG;rw [show List.range (a+1+d)=List.range (a+1)++(List.range d).map (a+1 + ·) from List.range_add ..,List.flatMap_append];exact List.prefix_append _ _
theorem ze1 (r:List Ent) (e:Ent):zcN (r++[e])=zcN r++[.int .i64 e.2.1]:=by unfold zcN;rw [List.map_append];rfl
theorem zeZ (r:List Ent) (e:Ent):zd9 (r++[e])=zd9 r++[.int .i64 (e.2.2.1:Int),.int .i64 (e.2.2.2:Int)]:=by unfold zd9;rw [List.map_append,zaB];rfl
theorem zcS {w:World} {base base':Nat} {e t:TypeId} {size size' n n' k:Nat} {xs xs':List Value} {v v':Value} (h:w.ownsRow base e size v n xs) (h':w.ownsRow base' t size' v' n' xs') (hk:v.ownBlock=some k) (hk':v'.ownBlock=some k):t=e:=by
 obtain ⟨cs',h2⟩:=zC h' hk';exact xF h hk h2
section
variable {w w':World} {base b:Nat} {lv fv bv v:Value} {r1 r2 r3:List Ent}
theorem zb2.chg {S:Nat->Prop} (h:zb2 w base b lv fv bv r1 r2 r3) (hc:Chg S w w') (hs:∀ k,base<=k->¬ S k):zb2 w' base b lv fv bv r1 r2 r3:=
 ⟨hc.obj (hs b h.bb) h.hb,zn h.hl hc (fun k hk=>hs k (h.hl.lt k hk).1),zn h.hf hc (fun k hk=>hs k (h.hf.lt k hk).1),zn h.hs hc (fun k hk=>hs k (h.hs.lt k hk).1),h.bb⟩
theorem zb2.stepL {e:Ent} (h:zb2 w base b lv fv bv r1 r2 r3) (hg:w.grownBy w' lv.ownBlock) (ho:w'.ownsRow base 57 1 v (r1.length+1) (yX r1++[.string (bar e.1)])):zb2 (w'.setCell ⟨b,0,none⟩ v) base b v fv bv (r1++[e]) r2 r3:=by
 have hb':=(Chg.of_grown hg).obj (fun q=>by have:=xF h.hl q h.hb;cases this) h.hb;have hc:Chg (·=b) w' (w'.setCell ⟨b,0,none⟩ v):=(Chg.refl (·=b) w').setCell (p:=⟨b,0,none⟩) (fun _=>rfl) v;refine ⟨zt hb' v,?_,?_,?_,h.bb⟩
 ·rw [zq3,List.length_singleton,zbF]
  exact zn ho hc (fun k hk q=>by subst q;have:=xF ho hk hb';cases this)
 ·have:=zn h.hf (Chg.of_grown hg) (fun k hk q=>by have:=zcS h.hl h.hf q hk;cases this)
  exact zn this hc (fun k hk q=>by subst q;have:=xF this hk hb';cases this)
 ·have:=zn h.hs (Chg.of_grown hg) (fun k hk q=>by have:=zcS h.hl h.hs q hk;cases this)
  exact zn this hc (fun k hk q=>by subst q;have:=xF this hk hb';cases this)
theorem zb2.stepF {e:Ent} (h:zb2 w base b lv fv bv r1 r2 r3) (hg:w.grownBy w' fv.ownBlock) (ho:w'.ownsRow base 3 1 v (r2.length+1) (zcN r2++[.int .i64 e.2.1])):zb2 (w'.setCell ⟨b,1,none⟩ v) base b lv v bv r1 (r2++[e]) r3:=by
 have hb':=(Chg.of_grown hg).obj (fun q=>by have:=xF h.hf q h.hb;cases this) h.hb;have hc:Chg (·=b) w' (w'.setCell ⟨b,1,none⟩ v):=(Chg.refl (·=b) w').setCell (p:=⟨b,1,none⟩) (fun _=>rfl) v;refine ⟨zt hb' v,?_,?_,?_,h.bb⟩
 ·have:=zn h.hl (Chg.of_grown hg) (fun k hk q=>by have:=zcS h.hf h.hl q hk;cases this)
  exact zn this hc (fun k hk q=>by subst q;have:=xF this hk hb';cases this)
 ·rw [zq3,List.length_singleton,ze1]
  exact zn ho hc (fun k hk q=>by subst q;have:=xF ho hk hb';cases this)
 ·have:=zn h.hs (Chg.of_grown hg) (fun k hk q=>by have:=zcS h.hf h.hs q hk;cases this)
  exact zn this hc (fun k hk q=>by subst q;have:=xF this hk hb';cases this)
theorem zb2.stepS {e:Ent} (h:zb2 w base b lv fv bv r1 r2 r3) (hg:w.grownBy w' bv.ownBlock) (ho:w'.ownsRow base 153 2 v (r3.length+1) (zd9 r3++[.int .i64 (e.2.2.1:Int),.int .i64 (e.2.2.2:Int)])):zb2 (w'.setCell ⟨b,2,none⟩ v) base b lv fv v r1 r2 (r3++[e]):=by
 have hb':=(Chg.of_grown hg).obj (fun q=>by have:=xF h.hs q h.hb;cases this) h.hb;have hc:Chg (·=b) w' (w'.setCell ⟨b,2,none⟩ v):=(Chg.refl (·=b) w').setCell (p:=⟨b,2,none⟩) (fun _=>rfl) v;refine ⟨zt hb' v,?_,?_,?_,h.bb⟩
 ·have:=zn h.hl (Chg.of_grown hg) (fun k hk q=>by have:=zcS h.hs h.hl q hk;cases this)
  exact zn this hc (fun k hk q=>by subst q;have:=xF this hk hb';cases this)
 ·have:=zn h.hf (Chg.of_grown hg) (fun k hk q=>by have:=zcS h.hs h.hf q hk;cases this)
  exact zn this hc (fun k hk q=>by subst q;have:=xF this hk hb';cases this)
 ·rw [zq3,List.length_singleton,zeZ]
  exact zn ho hc (fun k hk q=>by subst q;have:=xF ho hk hb';cases this)
end
theorem zp5 {r:List Ent} {i:Nat} (hi:i < r.length):(yX r)[i]? = some (.string (bar (zS r i))):=by
 unfold yX zS;rw [zrb,zq6,zq0 hi];rfl
theorem zcm {w:World} {base b:Nat} {a:Option Addr} {n c:Nat} {fv bv:Value} {r r2 r3:List Ent} (h:zb2 w base b (.slice a n c) fv bv r r2 r3) {i:Nat} (hi:i < r.length):∃ g,a=some ⟨g,0,none⟩∧w.cell? ⟨g,i,none⟩=some (.string (bar (zS r i))):=by
 have ho:=h.hl;obtain ⟨a',c',e⟩:=zl ho;cases e;obtain ⟨g,rfl⟩:=ZA ho (by omega);exact ⟨g,rfl,by rw [ho.cellAt i (by omega),zp5 hi]⟩
theorem zmm {r:List Ent} {u:Wd} {k:Nat} (hk:k < r.length) (h:zS r k=u) (hn:∀ j,j < k->zS r j≠u):u∈zv r∧(zv r).idxOf u=k:=by
 have hm:u∈zv r:=h ▸ Xa hk;refine ⟨hm,?_⟩;have hl:(zv r).idxOf u < (zv r).length:=List.idxOf_lt_length_of_mem hm
 have hg:∀ j,j < r.length->(zv r)[j]? = some (zS r j):=fun j hj=>by
  unfold zv zS;rw [zrb,zq6,zq0 hj];rfl
 have he:zS r ((zv r).idxOf u)=u:=by
  have h1:=hg _ (by rw [<- Zm];exact hl);rw [zq0 hl,List.getElem_idxOf hl] at h1;exact (Option.some.inj h1).symm
 rcases Nat.lt_trichotomy ((zv r).idxOf u) k with q | q | q
 ·exact absurd he (hn _ q)
 ·exact q
 ·have h2:(zv r)[k]'(by rw [Zm];exact hk)=u:=by
   have:=hg k hk;rw [zq0 (by rw [Zm];exact hk)] at this;rw [Option.some.inj this,h]
  have:=List.not_of_lt_findIdx (xs:=zv r) (p:=(· == u)) (i:=k) q;simp at this;exact absurd h2 this
set_option maxRecDepth 100000 in
theorem zbj (w:World) (base b:Nat) (lv fv bv:Value) (r r2 r3:List Ent) (u:ByteArray) (h:zb2 w base b lv fv bv r r2 r3) (hr:r.length<=100000):
  Calls Tryz.prog 67 #[.pointer (some ⟨b,0,none⟩),.string u] w fun e w'=>e=.returned (.int .i64 (Xo r u.data.toList))∧w=w':=by
 obtain ⟨la,lc,rfl⟩:=zl h.hl;have c0:w.cell? ⟨b,0,none⟩=some (.slice la r.length lc):=zf h.hb rfl;have H:=ze h;have FIR:=ze (fun k hk h hn=>@zmm r u.data.toList k hk h hn);clear h;go_enter Tryz.func67,Tryz.ntmps67;go_wp2;go_loop [5] (fun iv=>∃ k:Nat,k<=r.length∧iv=.int .i64 k∧Hid (∀ j,j < k->zS r j≠u.data.toList)) (fun iv=>r.length - (intOf iv).toNat)
 case atStart=>exact ⟨0,by omega,rfl,ze (fun j hj=>by omega)⟩
 case round=>
  obtain ⟨k,hk,rfl,HN⟩:=hrel;by_cases hlt:k < r.length
  ·obtain ⟨g,rfl,cx⟩:=zcm H.out hlt
   by_cases he:zS r k=u.data.toList
   ·have RES:=ze (show Xo r u.data.toList=(k:Int) by
     obtain ⟨q1,q2⟩:=FIR.out k hlt he HN.out;unfold Xo;rw [if_pos q1,q2])
    rw [he,zhy] at cx;have n1:(u.toList == u.toList)=true:=by simp
    clear he;go_wp2;go_ret;exact ⟨by rw [RES.out];rfl,rfl⟩
   ·have n1:((bar (zS r k)).toList == u.toList)=false:=by rw [zgp,yB,zqZ he]
    have HN2:=ze (show ∀ j,j < k+1->zS r j≠u.data.toList from fun j hj=>by
     rcases Nat.lt_or_ge j k with q | q
     ·exact HN.out j q
     ·obtain rfl:j=k:=by omega
      exact he)
    clear he;generalize bar (zS r k)=x at *;go_wp2;go_round
    case rel=>exact ⟨k+1,by omega,by go_num,HN2⟩
    case measure=>simp [intOf];omega
  ·obtain rfl:k=r.length:=by omega
   have RES:=ze (show Xo r u.data.toList=-1 by
    unfold Xo;rw [if_neg];intro hm;obtain ⟨i,hi,e⟩:=zcW hm;exact HN.out i hi e)
   go_wp2;go_ret;exact ⟨by rw [RES.out];rfl,rfl⟩
theorem FIn.facts {w W:World} {R:List Rul} {s:Wd} {bnd b i a k:Nat} {r0 r:List Ent} {W0:World} (h:FIn w R bnd b i r0 a k r W) (h0:znj w R s bnd b i r0 W0) (hi:i < r0.length):r.length<=bnd∧i < r.length∧zS r i=zS r0 i:=by
 obtain ⟨q1,q2,⟨t,rfl⟩,_,_⟩:=Xt h.pre h0.nd h0.len;exact ⟨q2,by rw [zq3];omega,yJ t hi⟩
theorem znj.next {w W W0:World} {R:List Rul} {s:Wd} {bnd b i:Nat} {r0 r:List Ent} (h0:znj w R s bnd b i r0 W0) (hi:i < r0.length) (h:FIn w R bnd b i r0 (zz (zS r0 i)) 0 r W):znj w R s bnd b (i+1) r W:=by
 have hp:=h.pre;rw [zke] at hp;obtain ⟨q1,q2,⟨t,rfl⟩,q4,_⟩:=Xt hp h0.nd h0.len;have h1:=h0.len;refine ⟨h.row,?_,by omega,q2,q1,fun u hu=>?_,h.chg⟩
 ·rw [h0.goes,show bnd - i=(bnd - (i+1))+1 by omega,xP,if_pos hi,hp];rfl
 ·rcases q4 u hu with q | q
  ·exact h0.may u q
  ·exact (zfW (h0.may _ (Xa hi)) q).1
theorem znj.over {w W0:World} {R:List Rul} {s:Wd} {bnd b i a k:Nat} {r0:List Ent} (h0:znj w R s bnd b i r0 W0) (hi:i < r0.length) (ha:a < zz (zS r0 i)) (hk:k<=R.length) (h:xD R bnd i r0 (zS r0 i) a k=none):zbN R s bnd=none:=by
 have hn:=zaj (zkq R (zS r0 i) ha hk) h;have h1:=h0.len;rw [h0.goes,show bnd - i=(bnd - (i+1))+1 by omega,xP,if_pos hi,hn];rfl
theorem znj.done {w W0:World} {R:List Rul} {s:Wd} {bnd b i:Nat} {r0:List Ent} (h0:znj w R s bnd b i r0 W0) (hi:¬ i < r0.length):zbN R s bnd=some r0:=by
 rw [h0.goes];cases hf:bnd - i with
 | zero=>rfl
 | succ f=>rw [xP,if_neg hi]
set_option maxRecDepth 100000 in
theorem zlX (w:World) (la:Option Addr) (n cap:Nat) (s:ByteArray) (b:Int) (hs:s.size<=140737488355328) (hn:n<=maxLen) (h:yI (Zp s.data.toList) b n≠0):
  Calls Tryz.prog 48 #[.slice la n cap,.string s,.int .i64 b] w (ziZ w (yI (Zp s.data.toList) b n)):=by
 have MAY:=ze (zbk w s hs);generalize hk:yI (Zp s.data.toList) b n=k at *;have HK:=ze hk;have H:=ze h;clear h hk;unfold maxLen at hn;cases hm:Zp s.data.toList with
 | false=>
  rw [hm] at MAY HK;obtain rfl:k=2:=HK.out.symm;clear hm;go_enter Tryz.func48,Tryz.ntmps48;go_wp2_with fail;(with_reducible refine MAY.out.mono ?_);rintro e w1 ⟨rfl,k1⟩;go_wp2;go_ret2;exact ⟨rfl,k1⟩
 | true=>
  rw [hm] at MAY HK;clear hm;by_cases h1:b < 1
  ·have g1:decide (b < 1)=true:=by rw [zra];exact h1
   obtain rfl:k=1:=by rw [<- HK.out];simp [yI,h1]
   clear h1;go_enter Tryz.func48,Tryz.ntmps48;go_wp2_with fail;(with_reducible refine MAY.out.mono ?_);rintro e w1 ⟨rfl,k1⟩;go_wp2;go_ret2;exact ⟨rfl,k1⟩
  ·have g1:decide (b < 1)=false:=by rw [decide_eq_false_iff_not];exact h1
   by_cases h2:5000 < b
   ·have g2:decide (5000 < b)=true:=by rw [zra];exact h2
    obtain rfl:k=1:=by rw [<- HK.out];simp [yI,h2]
    clear h1 h2;go_enter Tryz.func48,Tryz.ntmps48;go_wp2_with fail;(with_reducible refine MAY.out.mono ?_);rintro e w1 ⟨rfl,k1⟩;go_wp2;go_ret2;exact ⟨rfl,k1⟩
   ·have g2:decide (5000 < b)=false:=by rw [decide_eq_false_iff_not];exact h2
    have h3:400 < n:=by
     by_cases h3:400 < n
     ·exact h3
     ·exact absurd (by rw [<- HK.out];simp [yI,h1,h2,h3]) H.out
    have g3:decide (400 < n)=true:=by rw [zra];exact h3
    have g4:decide ((400:Int) < (n:Int))=true:=by rw [zra];omega
    obtain rfl:k=3:=by rw [<- HK.out];simp [yI,h1,h2,h3]
    clear h1 h2;go_enter Tryz.func48,Tryz.ntmps48;go_wp2_with fail;(with_reducible refine MAY.out.mono ?_);rintro e w1 ⟨rfl,k1⟩;go_wp2;go_ret2;exact ⟨rfl,k1⟩
theorem zkg (w:World) (base:Nat) (s:ByteArray) (hb:base<=w.heap.size):zb2 ((((w.alloc (.cells #[.string s] 57)).alloc (.cells #[.int .i64 (-1)] 3)).alloc (.cells #[.int .i64 0,.int .i64 0] 153)).alloc (.cells #[.slice (some ⟨w.heap.size,0,none⟩) 1 1,.slice (some ⟨w.heap.size+1,0,none⟩) 1 1,.slice (some ⟨w.heap.size+1+1,0,none⟩) 1 1] 111)) base (w.heap.size+1+1+1) (.slice (some ⟨w.heap.size,0,none⟩) 1 1) (.slice (some ⟨w.heap.size+1,0,none⟩) 1 1) (.slice (some ⟨w.heap.size+1+1,0,none⟩) 1 1) (Yn s.data.toList) (Yn s.data.toList) (Yn s.data.toList):=by
 have e0:(w.alloc (.cells #[.string s] 57)).heap.size=w.heap.size+1:=by simp
 have e1:((w.alloc (.cells #[.string s] 57)).alloc (.cells #[.int .i64 (-1)] 3)).heap.size=w.heap.size+1+1:=by simp
 have e2:(((w.alloc (.cells #[.string s] 57)).alloc (.cells #[.int .i64 (-1)] 3)).alloc (.cells #[.int .i64 0,.int .i64 0] 153)).heap.size=w.heap.size+1+1+1:=by simp
 refine ⟨?_,?_,?_,?_,by omega⟩
 ·have:=zh (((w.alloc (.cells #[.string s] 57)).alloc (.cells #[.int .i64 (-1)] 3)).alloc (.cells #[.int .i64 0,.int .i64 0] 153)) (.cells #[.slice (some ⟨w.heap.size,0,none⟩) 1 1,.slice (some ⟨w.heap.size+1,0,none⟩) 1 1,.slice (some ⟨w.heap.size+1+1,0,none⟩) 1 1] 111)
  rw [e2] at this;exact this
 ·have:=World.ownsRow_lit (base:=base) (e:=57) (size:=1) w #[.string s] 1 hb (by unfold maxLen;omega) rfl
  have h2:yX (Yn s.data.toList)=[.string s]:=by simp [yX,Yn,zhy]
  rw [h2];exact ((this.alloc _).alloc _).alloc _
 ·have:=World.ownsRow_lit (base:=base) (e:=3) (size:=1) (w.alloc (.cells #[.string s] 57)) #[.int .i64 (-1)] 1 (by omega) (by unfold maxLen;omega) rfl
  rw [e0] at this;exact (this.alloc _).alloc _
 ·have:=World.ownsRow_lit (base:=base) (e:=153) (size:=2) ((w.alloc (.cells #[.string s] 57)).alloc (.cells #[.int .i64 (-1)] 3)) #[.int .i64 0,.int .i64 0] 1 (by omega) (by unfold maxLen;omega) rfl
  rw [e1] at this;exact this.alloc _
theorem zj0 (o:Option Wd):∃ ux ox,zqv o=.tuple #[.string ux,.bool ox]:=by
 cases o <;> exact ⟨_,_,rfl⟩
set_option maxHeartbeats 4000000 in
set_option maxRecDepth 100000 in
theorem zg1 (w:World) (v:Value) (R:List zF) (s:ByteArray) (bnd:Nat) (hv:zX w v (· < w.heap.size) R) (h47:xt R) (hR:R.length<=400) (hmay:Zp s.data.toList=true) (h1:1<=bnd) (h2:bnd<=5000):
  Calls Tryz.prog 48 #[v,.string s,.int .i64 (bnd:Int)] w (zpV w (zbN (R.map Zw) s.data.toList bnd)):=by
 have HV:=ze hv;have H47:=ze h47;obtain ⟨la,cap,rfl,hl0,_⟩:=hv;have hs8:=Zn hmay;have MAY:=ze (zbk w s (by omega));rw [hmay] at MAY;have HMAY:=ze hmay;clear hmay h47;have g1:decide ((bnd:Int) < 1)=false:=by rw [decide_eq_false_iff_not];omega
 have g2:decide ((5000:Int) < (bnd:Int))=false:=by rw [decide_eq_false_iff_not];omega
 have g3:decide (400 < R.length)=false:=by rw [decide_eq_false_iff_not];omega
 have g4:decide ((400:Int) < (R.length:Int))=false:=by rw [decide_eq_false_iff_not];omega
 go_enter Tryz.func48,Tryz.ntmps48;go_wp2_with fail;(with_reducible refine MAY.out.mono ?_);rintro e w1 ⟨rfl,k1⟩;have K1:=ze k1;clear k1 MAY;go_wp2;have r2:=zkg w1 w.heap.size s K1.out.size;have k2:=((((zi (fun _=>False) w1 (.cells #[.string s] 57)).alloc (.cells #[.int .i64 (-1)] 3)).alloc (.cells #[.int .i64 0,.int .i64 0] 153)).alloc (.cells #[.slice (some ⟨w1.heap.size,0,none⟩) 1 1,.slice (some ⟨w1.heap.size+1,0,none⟩) 1 1,.slice (some ⟨w1.heap.size+1+1,0,none⟩) 1 1] 111));have R2:=ze r2;have K2:=ze (K1.out.trans k2);clear r2 k2;generalize (((w1.alloc (.cells #[.string s] 57)).alloc (.cells #[.int .i64 (-1)] 3)).alloc (.cells #[.int .i64 0,.int .i64 0] 153)).alloc (.cells #[.slice (some ⟨w1.heap.size,0,none⟩) 1 1,.slice (some ⟨w1.heap.size+1,0,none⟩) 1 1,.slice (some ⟨w1.heap.size+1+1,0,none⟩) 1 1] 111)=w2 at *;generalize w1.heap.size+1+1+1=bb at *;go_loopw [9] (fun iv wr=>∃ (i:Nat) (r:List Ent),iv=.int .i64 i∧Hid (znj w (R.map Zw) s.data.toList bnd bb i r wr)) (fun iv _=>bnd+1 - (intOf iv).toNat)
 case atStart=>
  refine ⟨0,Yn s.data.toList,rfl,ze ⟨⟨_,_,_,R2.out⟩,rfl,by omega,by simpa [Yn] using h1,by simp [Yn,zv],fun u hu=>?_,K2.out⟩⟩;simp [Yn,zv] at hu;subst hu;exact HMAY.out
 case round=>
  obtain ⟨i,r0,rfl,HO⟩:=hrel;obtain ⟨lv0,fv0,bv0,hrow⟩:=HO.out.row;obtain ⟨la0,lc0,rfl⟩:=zl hrow.hl;have c0:wr.cell? ⟨bb,0,none⟩=some (.slice la0 r0.length lc0):=zf hrow.hb rfl;have hile:=HO.out.le;have hlen:=HO.out.len;by_cases hi:i < r0.length
  ·go_wp2
   obtain ⟨w0,hw0⟩:∃ w0,w0=wr:=⟨_,rfl⟩;have HO0:=ze (show znj w (R.map Zw) s.data.toList bnd bb i r0 w0 by rw [hw0];exact HO.out);have hmu:=HO.out.may _ (Xa hi);have ROW:=ze hrow
   have hub:(bar (zS r0 i)).size=2*zz (zS r0 i):=by
    have:=Zn (a:=bar (zS r0 i)) (by rw [yB];exact hmu);have e:=zA (bar (zS r0 i));rw [yB] at e;unfold zz;omega
   have hul:zz (zS r0 i)<=8:=((Zh _).1 hmu).2.2.1;have q2:(((bar (zS r0 i)).size:Int) / 2)=((zz (zS r0 i):Nat):Int):=by omega
   have HMU:=ze hmu;have HUB:=ze hub;clear hmu hub hw0 hrow;go_loopw [10] (fun av wr=>∃ (a:Nat) (r:List Ent),av=.int .i64 a∧a<=zz (zS r0 i)∧Hid (FIn w (R.map Zw) bnd bb i r0 a 0 r wr)) (fun av _=>9 - (intOf av).toNat)
   case atStart=>exact ⟨0,r0,rfl,by omega,ze ⟨HO.out.row,zie _ _ _ _ _,HO.out.chg⟩⟩
   case round=>
    obtain ⟨a,r1,rfl,hale,HA⟩:=hrel;obtain ⟨f1,f2,f3⟩:=HA.out.facts HO0.out hi;obtain ⟨lv1,fv1,bv1,hrow1⟩:=HA.out.row;obtain ⟨la1,lc1,rfl⟩:=zl hrow1.hl;obtain ⟨gl1,rfl,cw1⟩:=zcm hrow1 f2;rw [f3] at cw1;have cb1:wr.cell? ⟨bb,0,none⟩=some (.slice (some ⟨gl1,0,none⟩) r1.length lc1):=zf hrow1.hb rfl;clear hrow1 c0;by_cases ha:a < zz (zS r0 i)
    ·go_wp2
     clear cw1 cb1;go_loopw [11] (fun kv wr=>∃ (k:Nat) (r:List Ent),kv=.int .i64 k∧k<=R.length∧Hid (FIn w (R.map Zw) bnd bb i r0 a k r wr)) (fun kv _=>R.length - (intOf kv).toNat)
     case atStart=>exact ⟨0,r1,rfl,by omega,HA⟩
     case round=>
      obtain ⟨k,r,rfl,hkle,HK⟩:=hrel;by_cases hk:k < R.length
      ·obtain ⟨e1,e2,e3⟩:=HK.out.facts HO0.out hi
       obtain ⟨lv,fv,bv,hrow⟩:=HK.out.row;obtain ⟨laa,lac,rfl⟩:=zl hrow.hl;obtain ⟨lfa,lfc,rfl⟩:=zl hrow.hf;obtain ⟨lba,lbc,rfl⟩:=zl hrow.hs;obtain ⟨gl,rfl,_⟩:=zcm hrow e2;have ka:=zi (fun _=>False) wr (.cells #[.int .i64 (a:Int),.int .i64 (k:Int)] 153);have oa:=zh wr (.cells #[.int .i64 (a:Int),.int .i64 (k:Int)] 153);have KA:=ze (HK.out.chg.trans ka);have ra:=zb2.chg hrow ka (fun _ _ e=>e);have hgw:wr.heap.size < (wr.alloc (.cells #[.int .i64 (a:Int),.int .i64 (k:Int)] 153)).heap.size:=by simp
       have PRE:=ze HK.out.pre;have hbase:w.heap.size<=wr.heap.size:=HK.out.chg.size;have LT:=ze (And.intro (fun x hx=>(hrow.hl.lt x hx).2) (And.intro (fun x hx=>(hrow.hf.lt x hx).2) (And.intro (fun x hx=>(hrow.hs.lt x hx).2) (zr hrow.hb))));clear hrow ka;go_wp2_with fail;generalize wr.alloc (.cells #[.int .i64 (a:Int),.int .i64 (k:Int)] 153)=wa at *;obtain ⟨gl',egl,cw⟩:=zcm ra e2;cases egl;rw [e3] at cw;have cb:wa.cell? ⟨bb,0,none⟩=some (.slice (some ⟨gl,0,none⟩) r.length lac):=zf ra.hb rfl;have s0:wa.cell? ⟨wr.heap.size,0,none⟩=some (.int .i64 (a:Int)):=zf oa rfl;have s1:wa.cell? ⟨wr.heap.size,1,none⟩=some (.int .i64 (k:Int)):=zf oa rfl;have RA:=ze ra;have OA:=ze oa;have USE:=ze (znx wa.drew _ R (bar (zS r0 i)) (a:Int) (k:Int) (zat HV.out (KA.out.drew)) H47.out (by rw [yB];exact HMU.out) (by omega));rw [yB] at USE;obtain ⟨ux,ox,hux⟩:=zj0 (Ym (R.map Zw) (zS r0 i) ((a:Int),(k:Int)));rw [hux] at USE;have HUX:=ze hux;clear ra oa hux;refine zu (N:=124) [.rd [0,1,2,3,4,5,6,7,8],.ef 9,.rd [10,11,12,13,14]] (fun w'=>w'.cell? ⟨bb,0,none⟩=some (.slice (some ⟨gl,0,none⟩) r.length lac)∧w'.cell? ⟨gl,i,none⟩=some (.string (bar (zS r0 i)))∧w'.cell? ⟨wr.heap.size,0,none⟩=some (.int .i64 (a:Int))∧w'.cell? ⟨wr.heap.size,1,none⟩=some (.int .i64 (k:Int))) (by kernel_rfl) (by kernel_rfl) (by kernel_rfl) (by kernel_rfl) (Nat.le_of_ble_eq_true rfl) ⟨cb,cw,s0,s1⟩ ?_;refine zB (A:=?A1) ?h11 ?h12
       case h11=>
        rintro w' ⟨q0,q1,q2,q3⟩ K hK;simp only [zM,zqT,zqU,zqV,zqW,zqX]
        repeat still_step
        refine wpStill_nil ?_;exact hK
       have kd:=zw (fun _=>False) wa;have RD:=ze (zb2.chg RA.out kd (fun _ _ e=>e));have OD:=ze (kd.obj (fun e=>e) OA.out);have KD:=ze (KA.out.drew);have hgd:wr.heap.size < wa.drew.heap.size:=hgw;have cw2:wa.drew.cell? ⟨gl,i,none⟩=some (.string (bar (zS r0 i))):=cw;clear cw cb s0 s1 kd RA OA KA;generalize wa.drew=wd at *;refine zI rfl ?_;go_wp2_with fail;(with_reducible refine USE.out.mono ?_);rintro e w3 ⟨rfl,k3⟩;have r3:=zb2.chg RD.out k3 (fun _ _ e=>e);have c3:w3.cell? ⟨bb,0,none⟩=some (.slice (some ⟨gl,0,none⟩) r.length lac):=zf r3.hb rfl;have K3:=ze (KD.out.trans k3);have R3:=ze r3;have O3:=ze (k3.obj (fun e=>e) OD.out);have cw3:=zj k3 (fun e=>e) cw2;have hg3:w.heap.size<=w3.heap.size:=K3.out.size;have hgd3:wr.heap.size < w3.heap.size:=zq7 hgd k3.size;clear k3 r3 RD OD KD cw2;go_wp2_with fail;refine ⟨⟨c3,cw3,zf O3.out rfl,zf O3.out rfl⟩,?_⟩;refine zB (A:=?A2) ?h13 ?h14
       case h13=>
        intro w' hS K hK;clear hS;simp only [zM,zqT,zqU,zqV,zqW,zqX]
        repeat still_step
        refine wpStill_nil ?_;exact hK
       refine zR ?_;clear cw3;cases hst:Ym (R.map Zw) (zS r0 i) ((a:Int),(k:Int)) with
       | none=>
        rw [hst] at HUX;obtain ⟨rfl,rfl⟩:ux=⟨#[]⟩∧ox=false:=by have:=HUX.out;unfold zqv at this;simp at this;exact ⟨this.1.symm,this.2⟩
        have NX:=ze (show xD (R.map Zw) bnd i r0 (zS r0 i) a (k+1)=some r by rw [zlP (by rw [zq4];exact hk) ha hst];exact PRE.out);have NN:=ze (show FIn w (R.map Zw) bnd bb i r0 a (k+1) r w3 from ⟨⟨_,_,_,R3.out⟩,NX.out,K3.out⟩);clear hst;go_wp2;go_roundw
        case rel=>exact ⟨k+1,r,by go_num,by omega,NN⟩
        case measure=>simp [intOf];omega
       | some v=>
        rw [hst] at HUX;obtain ⟨rfl,rfl⟩:ux=bar v∧ox=true:=by have:=HUX.out;unfold zqv at this;simp at this;exact ⟨this.1.symm,this.2⟩
        have YES:=ze (zkd (b:=bnd) (i:=i) (r:=r0) (by rw [zq4];exact hk) ha hst PRE.out);have SMAY:=ze (zd1 HMU.out hst);clear hst;have PL:=ze (zbj w3 w.heap.size bb _ _ _ r r r (bar v) R3.out (by omega));rw [yB] at PL;by_cases hin:v∈zv r
        ·have NX:=ze (show xD (R.map Zw) bnd i r0 (zS r0 i) a (k+1)=some r by rw [YES.out,if_pos hin])
         have NN:=ze (show FIn w (R.map Zw) bnd bb i r0 a (k+1) r w3 from ⟨⟨_,_,_,R3.out⟩,NX.out,K3.out⟩);rw [show Xo r v=(((zv r).idxOf v:Nat):Int) from if_pos hin] at PL;clear hin;generalize (zv r).idxOf v=ix at *;go_wp2_with fail;(with_reducible refine PL.out.mono ?_);rintro e w4 ⟨rfl,rfl⟩;go_wp2;go_roundw
         case rel=>exact ⟨k+1,r,by go_num,by omega,NN⟩
         case measure=>simp [intOf];omega
        ·rw [show Xo r v=-1 from if_neg hin] at PL
         by_cases hbl:r.length=bnd
         ·have NX:=ze (show zbN (R.map Zw) s.data.toList bnd=none from HO0.out.over (k:=k+1) hi ha (by rw [zq4];omega) (by rw [YES.out,if_neg hin,if_pos hbl]))
          have g5:((r.length:Int) == (bnd:Int))=true:=by rw [beq_iff_eq];omega
          clear hin hbl;go_wp2_with fail;(with_reducible refine PL.out.mono ?_);rintro e w4 ⟨rfl,rfl⟩;go_wp2;go_ret2;refine ⟨fun r hr=>?_,fun _=>⟨rfl,K3.out⟩⟩;rw [NX.out] at hr;cases hr
         ·have NX:=ze (show xD (R.map Zw) bnd i r0 (zS r0 i) a (k+1)=some (r++[(v,((i:Int),(a,k)))]) by rw [YES.out,if_neg hin,if_neg hbl])
          have g5:((r.length:Int) == (bnd:Int))=false:=by rw [zq9];omega
          clear hin hbl;go_wp2_with fail;(with_reducible refine PL.out.mono ?_);rintro e w4 ⟨rfl,rfl⟩;go_wp2_with (at_builtin;refine XD rfl (.tmp 97) (.tmp 99) 25 rfl 57 1 16 Tryz.underlying25 Tryz.elemWord w.heap.size _ _ _ rfl (R3.out.hl.alloc _) _ 1 [.string (bar v)] 57 (0,0) rfl (zh _ _) rfl ?x1 ?x2 ?x3 ?x4 ?nx1)
          case x1=>intro u hu;simp at hu;subst hu;rfl
          case x2=>omega
          case x3=>unfold maxLen;omega
          case x4=>simp;omega
          intro v4 w4 o4 g4;have r3a:=zb2.chg R3.out (zi (fun _=>False) w3 (.cells #[.string (bar v)] 57)) (fun _ _ e=>e);have r4:=zb2.stepL (e:=(v,((i:Int),(a,k)))) r3a g4 o4;have h4b:=(Chg.of_grown g4).obj (fun q=>by have:=xF r3a.hl q r3a.hb;cases this) r3a.hb;have c4:w4.cell? ⟨bb,0,none⟩=some (.slice (some ⟨gl,0,none⟩) r.length lac):=zf h4b rfl;have z4:w4.frozen? ⟨bb,0,none⟩=false:=zm h4b;obtain ⟨a4,cp4,rfl⟩:=zl o4;have d4:(w4.setCell ⟨bb,0,none⟩ (.slice a4 (r.length+1) cp4)).cell? ⟨bb,1,none⟩=some (.slice lfa r.length lfc):=zf r4.hb rfl;have k4:Chg (fun x=>w.heap.size<=x∧x < wr.heap.size) w3 (w4.setCell ⟨bb,0,none⟩ (.slice a4 (r.length+1) cp4)):=(((zi _ w3 (.cells #[.string (bar v)] 57)).grown g4 (fun x hx _=>⟨(r3a.hl.lt x hx).1,LT.out.1 x hx⟩)).setCell (p:=⟨bb,0,none⟩) (fun _=>⟨R3.out.bb,LT.out.2.2.2⟩) _);have R4:=ze r4;have O4:=ze (k4.obj (k:=wr.heap.size) (fun q=>by omega) O3.out);have K4:=ze (show Chg (fun _=>False) w (w4.setCell ⟨bb,0,none⟩ (.slice a4 (r.length+1) cp4)) from K3.out.next k4 (fun x hx e=>by have:=e.1;omega));have hg4:w.heap.size<=(w4.setCell ⟨bb,0,none⟩ (.slice a4 (r.length+1) cp4)).heap.size:=K4.out.size
          have N4:=ze (show ((w4.setCell ⟨bb,0,none⟩ (.slice a4 (r.length+1) cp4)).alloc (.cells #[.int .i64 (i:Int)] 3)).heap[w4.heap.size]? = some (.cells #[.int .i64 (i:Int)] 3 (0,0)) by
           have hz:(w4.setCell ⟨bb,0,none⟩ (.slice a4 (r.length+1) cp4)).heap.size=w4.heap.size:=by simp [World.setCell]
           rw [<- hz];exact zh _ _)
          clear r3a r4 h4b g4 o4 k4 R3 O3 K3;go_wp2_with (at_builtin;refine XD rfl (.tmp 107) (.tmp 109) 36 rfl 3 1 8 Tryz.underlying36 Tryz.elemInt w.heap.size _ _ _ rfl (R4.out.hf.alloc _) _ 1 [.int .i64 (i:Int)] 3 (0,0) rfl N4.out rfl ?y1 ?y2 ?y3 ?y4 ?nx2)
          case y1=>intro u hu;simp at hu;subst hu;rfl
          case y2=>omega
          case y3=>unfold maxLen;omega
          case y4=>exact Nat.le_trans hg4 (by simp)
          intro v5 w5 o5 g5;generalize w4.setCell ⟨bb,0,none⟩ (.slice a4 (r.length+1) cp4)=w4' at *;have r4a:=zb2.chg R4.out (zi (fun _=>False) w4' (.cells #[.int .i64 (i:Int)] 3)) (fun _ _ e=>e);have r5:=zb2.stepF (e:=(v,((i:Int),(a,k)))) r4a g5 o5;have h5b:=(Chg.of_grown g5).obj (fun q=>by have:=xF r4a.hf q r4a.hb;cases this) r4a.hb;have c5:w5.cell? ⟨bb,1,none⟩=some (.slice lfa r.length lfc):=zf h5b rfl;have z5:w5.frozen? ⟨bb,1,none⟩=false:=zm h5b;obtain ⟨a5,cp5,rfl⟩:=zl o5;have k5:Chg (fun x=>w.heap.size<=x∧x < wr.heap.size) w4' (w5.setCell ⟨bb,1,none⟩ (.slice a5 (r.length+1) cp5)):=(((zi _ w4' (.cells #[.int .i64 (i:Int)] 3)).grown g5 (fun x hx _=>⟨(r4a.hf.lt x hx).1,LT.out.2.1 x hx⟩)).setCell (p:=⟨bb,1,none⟩) (fun _=>⟨R4.out.bb,LT.out.2.2.2⟩) _);have R5:=ze r5;have O5:=ze (k5.obj (k:=wr.heap.size) (fun q=>by omega) O4.out);have K5:=ze (show Chg (fun _=>False) w (w5.setCell ⟨bb,1,none⟩ (.slice a5 (r.length+1) cp5)) from K4.out.next k5 (fun x hx e=>by have:=e.1;omega));clear r4a r5 h5b g5 o5 k5 R4 O4 K4 c4 z4 d4 c3;go_wp2_with fail;generalize w5.setCell ⟨bb,1,none⟩ (.slice a5 (r.length+1) cp5)=w5' at *;have d5:w5'.cell? ⟨bb,2,none⟩=some (.slice lba r.length lbc):=zf R5.out.hb rfl;have s5:w5'.cell? ⟨wr.heap.size,0,none⟩=some (.int .i64 (a:Int)):=zf O5.out rfl;have s6:w5'.cell? ⟨wr.heap.size,1,none⟩=some (.int .i64 (k:Int)):=zf O5.out rfl;clear c5 z5;refine Zk (N:=124) [.rd [0,1,2,3,4,5],.ef 6,.ef 7,.ef 8,.ef 9,.ef 10] 10 (fun w'=>w'.cell? ⟨bb,2,none⟩=some (.slice lba r.length lbc)∧w'.cell? ⟨wr.heap.size,0,none⟩=some (.int .i64 (a:Int))∧w'.cell? ⟨wr.heap.size,1,none⟩=some (.int .i64 (k:Int))) (by kernel_rfl) (by kernel_rfl) (by kernel_rfl) (by kernel_rfl) (by kernel_rfl) (Nat.le_of_ble_eq_true rfl) ⟨d5,s5,s6⟩ ?_;refine xu (A:=?A3) ?h15 ?h16
          case h15=>
           rintro w' ⟨q0,q1,q2⟩ K hK;simp only [zM,zqT,zqU,zqV,zqW,zqX]
           repeat still_step
           refine wpStill_nil ?_;exact hK
          refine zJ rfl ?_;go_wp2_with fail;have kb:=(zw (fun _=>False) w5').alloc (.cells #[.int .i64 (a:Int),.int .i64 (k:Int)] 153);refine ⟨by first | exact .inr ⟨zj kb (fun e=>e) d5,zj kb (fun e=>e) s5,zj kb (fun e=>e) s6⟩ | exact ⟨zj kb (fun e=>e) d5,zj kb (fun e=>e) s5,zj kb (fun e=>e) s6⟩,?_⟩;refine zJ rfl ?_;have r6:=zb2.chg R5.out kb (fun _ _ e=>e);refine XD rfl (.tmp 117) (.tmp 119) 81 rfl 153 2 16 Tryz.underlying81 Tryz.elemStep w.heap.size _ _ _ rfl r6.hs _ 1 [.int .i64 (a:Int),.int .i64 (k:Int)] 153 (0,0) rfl (zh _ _) rfl (by intro u hu;simp at hu;rcases hu with rfl | rfl <;> rfl) (by omega) (by unfold maxLen;omega) (by have:=K5.out.size;simp;omega) ?_;intro v7 w7 o7 g7;have r7:=zb2.stepS (e:=(v,((i:Int),(a,k)))) r6 g7 o7;have h7b:=(Chg.of_grown g7).obj (fun q=>by have:=xF r6.hs q r6.hb;cases this) r6.hb;have c7:w7.cell? ⟨bb,2,none⟩=some (.slice lba r.length lbc):=zf h7b rfl;have z7:w7.frozen? ⟨bb,2,none⟩=false:=zm h7b;have o7s:=(Chg.of_grown g7).obj (k:=wr.heap.size) (fun q=>by have:=LT.out.2.2.1 _ q;omega) (kb.obj (fun e=>e) O5.out);have t5:w7.cell? ⟨wr.heap.size,0,none⟩=some (.int .i64 (a:Int)):=zf o7s rfl;have t6:w7.cell? ⟨wr.heap.size,1,none⟩=some (.int .i64 (k:Int)):=zf o7s rfl;obtain ⟨a7,cp7,rfl⟩:=zl o7;have k7:Chg (fun x=>w.heap.size<=x) w5' (w7.setCell ⟨bb,2,none⟩ (.slice a7 (r.length+1) cp7)):=((kb.mono (fun _ _ e=>e.elim)).grown g7 (fun x hx _=>(r6.hs.lt x hx).1)).setCell (p:=⟨bb,2,none⟩) (fun _=>R5.out.bb) _;have R7:=ze r7;have K7:=ze (show Chg (fun _=>False) w (w7.setCell ⟨bb,2,none⟩ (.slice a7 (r.length+1) cp7)) from K5.out.next k7 (fun x hx e=>by omega));clear r6 r7 h7b o7s o7 g7 k7 kb d5 s5 s6 R5 O5 K5;go_wp2_with fail;refine ⟨by first | exact .inr ⟨c7,t5,t6⟩ | exact ⟨c7,t5,t6⟩,?_⟩;refine zJ rfl ?_;go_wp2_with fail;refine ⟨by first | exact .inr ⟨c7,t5,t6⟩ | exact ⟨c7,t5,t6⟩,?_⟩;refine zJ rfl ?_;go_wp2_with fail;refine ⟨by first | exact .inr ⟨c7,t5,t6⟩ | exact ⟨c7,t5,t6⟩,?_⟩;refine zJ rfl ?_;refine ZR rfl 81 (.tmp 122) (.tmp 120) rfl bb 2 rfl (.slice a7 (r.length+1) cp7) rfl rfl rfl Tryz.sizeSteps _ c7 z7 ?_;intro w8 hw8;rw [<- hw8] at R7 K7;clear hw8 c7 z7 t5 t6;refine ⟨.inl rfl,yA ?_⟩;have NN:=ze (show FIn w (R.map Zw) bnd bb i r0 a (k+1) (r++[(v,((i:Int),(a,k)))]) w8 from ⟨⟨_,_,_,R7.out⟩,NX.out,K7.out⟩);clear R7 K7;go_wp2;go_roundw
          case rel=>exact ⟨k+1,_,by go_num,by omega,NN⟩
          case measure=>simp [intOf];omega
      ·obtain rfl:k=R.length:=by omega
       have NX:=ze (show FIn w (R.map Zw) bnd bb i r0 (a+1) 0 r wr from ⟨HK.out.row,by have:=HK.out.pre;rw [<- zq4 (f:=Zw),zif] at this;exact this,HK.out.chg⟩);go_wp2;go_roundw
       case rel=>exact ⟨a+1,r,by go_num,by omega,NX⟩
       case measure=>simp [intOf];omega
    ·obtain rfl:a=zz (zS r0 i):=by omega
     have NX:=ze (HO0.out.next hi HA.out);go_wp2;go_roundw
     case rel=>exact ⟨i+1,r1,by go_num,NX⟩
     case measure=>simp [intOf];omega
  ·have RES:=ze (HO.out.done hi)
   go_wp2;go_ret2;refine ⟨fun r hr=>?_,fun hr=>?_⟩
   ·rw [RES.out] at hr
    cases hr;exact ⟨bb,rfl,HO.out.row,HO.out.chg⟩
   ·rw [RES.out] at hr;cases hr
end Go.Proofs.YthdfplafihmejaaGreat
