/-
  DCheck: what else. AEnt: what else. The reference's acl: may, Same, Add.
-/
import Derived.Test.YtcilaocknhphnaaGreatZrAEnt
import Derived.Test.YtcilaocknhphnaaGreatZrCCert1
import Derived.Test.YtcilaocknhphnaaGreatZrNAt
import Derived.Test.YtcilaocknhphnaaGreatZrANew
namespace Go.Proofs.YtcilaocknhphnaaGreat
open Go.RowKit Go.Maps
set_option maxRecDepth 100000 in
theorem zdB (w:World) (a b:ByteArray) (ha:a.size<=maxLen):
  Calls Tryz.prog 236 #[.string a,.string b] w fun e w'=>e=.returned (.bool (Ze a.data.toList b.data.toList))∧zU w w':=by
 unfold maxLen at ha;by_cases h:a.size=b.size
 ·have RES:=zf (show Ze a.data.toList b.data.toList=Op.bytesLess (a.data.toList.drop 0) (b.data.toList.drop 0) by
   unfold Ze;rw [zt,zt,if_pos h,List.drop_zero,List.drop_zero])
  have hne:((a.size:Int) != (b.size:Int))=false:=by rw [zg7];omega
  have hne2:((a.size:Int) == (b.size:Int))=true:=by rw [beq_iff_eq];omega
  have h1:a.size<=b.size:=by omega
  have h2:b.size<=a.size:=by omega
  clear h;go_enter Tryz.func236,Tryz.ntmps236;go_wp2;go_loopw [5] (fun iv wr=>∃ k:Nat,k<=a.size∧iv=.int .i64 k∧Hid (Ze a.data.toList b.data.toList=Op.bytesLess (a.data.toList.drop k) (b.data.toList.drop k)∧zU w wr)) (fun iv _=>a.size - (intOf iv).toNat)
  case atStart=>exact ⟨0,by omega,rfl,zf ⟨RES.out,zU.refl _⟩⟩
  case round=>
   obtain ⟨k,hk,rfl,HI⟩:=hrel;by_cases hlt:k < a.size
   ·have hltb:k < b.size:=by omega
    have LS:=zf (zdN (zd9 hlt) (zd9 hltb));have b1:0<=(k:Int):=by omega
    have b2:(k:Int) < (a.size:Int):=by omega
    have b3:(k:Int) < (b.size:Int):=by omega
    have DR:=zf HI.out.2;by_cases hxy:a[k]=b[k]
    ·have NX:=zf (show Ze a.data.toList b.data.toList=Op.bytesLess (a.data.toList.drop (k+1)) (b.data.toList.drop (k+1)) by
      rw [HI.out.1,LS.out,if_pos hxy])
     have n0:((a[k].toNat:Int) != (b[k].toNat:Int))=false:=by rw [hxy];simp
     have n1:((a[k].toNat:Int) == (b[k].toNat:Int))=true:=by rw [hxy];simp
     clear hxy HI LS;go_wp2_with fail;go_quiet (fail);rename_i nq;have DQ:=zf (show zU w (wr.drewN nq) from DR.out.trans ⟨nq,rfl⟩);go_wp2;go_roundw
     case rel=>exact ⟨k+1,by omega,by go_num,zf ⟨NX.out,DQ.out⟩⟩
     case measure=>simp [intOf];omega
    ·have RE:=zf (show Ze a.data.toList b.data.toList=decide (a[k].toNat < b[k].toNat) by
      rw [HI.out.1,LS.out,if_neg hxy])
     have hx2:a[k].toNat≠b[k].toNat:=fun e=>hxy (UInt8.toNat_inj.1 e);have n0:((a[k].toNat:Int) != (b[k].toNat:Int))=true:=by rw [zg6];omega
     have n1:((a[k].toNat:Int) == (b[k].toNat:Int))=false:=by rw [zg1];omega
     clear hxy HI LS hx2;go_wp2_with fail;go_quiet (fail);rename_i nq;have DQ:=zf (show zU w (wr.drewN nq) from DR.out.trans ⟨nq,rfl⟩);go_wp2_with fail;generalize wr.drewN nq=w2 at *;go_quiet (fail);have DQ2:=zf (show zU w (w2.drewN nq) from DQ.out.trans ⟨nq,rfl⟩);go_wp2;go_ret;exact ⟨by rw [RE.out];rfl,DQ2.out⟩
   ·obtain rfl:k=a.size:=by omega
    have RE:=zf (show Ze a.data.toList b.data.toList=false by
     rw [HI.out.1,List.drop_eq_nil_of_le (show b.data.toList.length<=a.size by rw [zt];omega)];cases List.drop a.size a.data.toList <;> rfl)
    go_wp2;go_ret;exact ⟨by rw [RE.out];rfl,HI.out.2⟩
 ·have RES:=zf (show Ze a.data.toList b.data.toList=decide (a.size < b.size) by
   unfold Ze;rw [zt,zt,if_neg h])
  have hne:((a.size:Int) != (b.size:Int))=true:=by rw [zg6];omega
  have hne2:((a.size:Int) == (b.size:Int))=false:=by rw [zg1];omega
  clear h;go_enter Tryz.func236,Tryz.ntmps236;go_wp2;go_ret;exact ⟨by rw [RES.out];rfl,zU.refl _⟩
section
variable (w:World) (v u:Value) (G G':Nat->Prop) (l m:List ByteArray)
theorem zcS (hv:zB w v G l) (hu:zB w u G' m):Calls Tryz.prog 174 #[v,u] w fun e w'=>e=.returned (.bool (Xr l m))∧zU w w':=by
 obtain ⟨la,cap,rfl,hl0,hcl⟩:=hv;obtain ⟨ma,mcap,rfl,hm0,hcm⟩:=hu;have HCL:=zf hcl;have HCM:=zf hcm;unfold maxLen at hl0 hm0;clear hcl hcm;by_cases hlen:l.length=m.length
 ·have g:((l.length:Int) != (m.length:Int))=false:=by rw [zg7];omega
  have g2:((l.length:Int) == (m.length:Int))=true:=by rw [beq_iff_eq];omega
  have HL:=zf hlen;have hle1:l.length<=m.length:=by omega
  have hle2:m.length<=l.length:=by omega
  clear hlen;go_enter Tryz.func174,Tryz.ntmps174;go_wp2;go_loopw [5] (fun iv wr=>∃ k:Nat,k<=l.length∧iv=.int .i64 k∧Hid ((∀ j,j < k->l[j]? = m[j]?)∧zU w wr)) (fun iv _=>l.length - (intOf iv).toNat)
  case atStart=>exact ⟨0,by omega,rfl,zf ⟨fun j hj=>by omega,zU.refl _⟩⟩
  case round=>
   obtain ⟨k,hk,rfl,HI⟩:=hrel;by_cases hlt:k < l.length
   ·have hltm:k < m.length:=by omega
    obtain ⟨y,hy⟩:∃ y,l[k]? = some y:=⟨_,zgS hlt⟩;obtain ⟨z,hz⟩:∃ z,m[k]? = some z:=⟨_,zgS hltm⟩;obtain ⟨lb,lo,rfl,_,c0',_⟩:=HCL.out k y hy;obtain ⟨mb,mo,rfl,_,d0',_⟩:=HCM.out k z hz;have c0:=zQ HI.out.2 c0';have d0:=zQ HI.out.2 d0';have DR:=zf HI.out.2;by_cases hxy:y=z
    ·have n1:(y.toList != z.toList)=false:=by rw [zcm,zgQ hxy];rfl
     have n2:(y.toList == z.toList)=true:=by rw [za5,zgQ hxy]
     have HI2:=zf (show ∀ j,j < k+1->l[j]? = m[j]? from fun j hj=>by
      rcases Nat.lt_or_ge j k with q | q
      ·exact HI.out.1 j q
      ·obtain rfl:j=k:=by omega
       rw [hy,hz,hxy])
     clear hy hz hxy c0' d0' HI;go_wp2_with fail;go_quiet (fail);rename_i nq;have DQ:=zf (show zU w (wr.drewN nq) from DR.out.trans ⟨nq,rfl⟩);go_wp2;go_roundw
     case rel=>exact ⟨k+1,by omega,by go_num,zf ⟨HI2.out,DQ.out⟩⟩
     case measure=>simp [intOf];omega
    ·have n1:(y.toList != z.toList)=true:=by rw [zcm,zgR hxy];rfl
     have n2:(y.toList == z.toList)=false:=by rw [za5,zgR hxy]
     have R:=zf (show Xr l m=false from zgR (fun e=>by rw [e,hz] at hy;exact hxy (Option.some.inj hy).symm));clear hy hz hxy c0' d0' HI;go_wp2_with fail;go_quiet (fail);rename_i nq;have DQ:=zf (show zU w (wr.drewN nq) from DR.out.trans ⟨nq,rfl⟩);go_wp2;go_ret;exact ⟨by rw [R.out];rfl,DQ.out⟩
   ·obtain rfl:k=l.length:=by omega
    have R:=zf (show Xr l m=true from zgQ (zdx HL.out HI.out.1));go_wp2;go_ret;exact ⟨by rw [R.out];rfl,HI.out.2⟩
 ·have g:((l.length:Int) != (m.length:Int))=true:=by rw [zg6];omega
  have g2:((l.length:Int) == (m.length:Int))=false:=by rw [zg1];omega
  have R:=zf (show Xr l m=false from zgR (fun e=>hlen (by rw [e])));clear hlen;go_enter Tryz.func174,Tryz.ntmps174;go_wp2;go_ret;exact ⟨by rw [R.out];rfl,zU.refl _⟩
end
theorem zfz {l:List ByteArray} (h:¬ XW (Zl l)):zbJ l=false:=zgR h
set_option maxHeartbeats 2000000 in
set_option maxRecDepth 100000 in
theorem zbV (w:World) (v:Value) (G:Nat->Prop) (l:List ByteArray) (hv:zB w v G l) (hz:zeh l):
  Calls Tryz.prog 168 #[v] w fun e w'=>e=.returned (.bool (zbJ l))∧Chg (fun _=>False) w w':=by
 obtain ⟨la,cap,rfl,hl0,hcl⟩:=hv;have HCL:=zf hcl;have HZ:=zf hz;unfold maxLen at hl0;clear hcl hz;have NO:=zf (show ∀ h:¬ XW (Zl l),zbJ l=false from fun h=>zfz h);by_cases h1:l.length < 1
 ·have R:=zf (NO.out (fun q=>by have:=q.1;rw [zL] at this;omega))
  have g1:decide ((l.length:Int) < 1)=true:=by rw [decide_eq_true_eq];omega
  go_enter Tryz.func168,Tryz.ntmps168;go_wp2;go_ret;exact ⟨by rw [R.out];rfl,Chg.refl _ _⟩
 have g1:decide ((l.length:Int) < 1)=false:=by rw [decide_eq_false_iff_not];omega
 by_cases h2:16 < l.length
 ·have R:=zf (NO.out (fun q=>by have:=q.2.1;rw [zL] at this;omega))
  have g2:decide (16 < (l.length:Int))=true:=by rw [decide_eq_true_eq];omega
  go_enter Tryz.func168,Tryz.ntmps168;go_wp2;go_ret;exact ⟨by rw [R.out];rfl,Chg.refl _ _⟩
 have g2:decide (16 < (l.length:Int))=false:=by rw [decide_eq_false_iff_not];omega
 go_enter Tryz.func168,Tryz.ntmps168;go_wp2;go_loopw [3] (fun iv wr=>∃ k:Nat,k<=l.length∧iv=.int .i64 k∧Hid ((∀ j,j < k->ZO ((Zl l).getD j [])=true∧(0 < j->Ze ((Zl l).getD (j - 1) []) ((Zl l).getD j [])=true))∧Chg (fun _=>False) w wr)) (fun iv _=>l.length - (intOf iv).toNat)
 case atStart=>exact ⟨0,by omega,rfl,zf ⟨fun j hj=>by omega,Chg.refl _ _⟩⟩
 case round=>
  obtain ⟨k,hk,rfl,HI⟩:=hrel;by_cases hlt:k < l.length
  ·obtain ⟨x,hx⟩:∃ x,l[k]? = some x:=⟨_,zgS hlt⟩
   obtain ⟨lb,lo,rfl,_,c0',hxm⟩:=HCL.out k x hx;have c0:=zi HI.out.2 (fun e=>e) c0';have GX:=zf (yr hx);have KC:=zf HI.out.2;have PRE:=zf HI.out.1;have MA:=zf (fun w=>zeI w x (HZ.out x (zgU hx)));clear c0' HI;cases hm:ZO x.data.toList with
   | false=>
    rw [hm] at MA;have R:=zf (NO.out (fun q=>by have:=(q.2.2 k (by rw [zL];exact hlt)).1;rw [GX.out,hm] at this;cases this));clear hm hx;go_wp2_with fail;refine zI (N:=41) [.rd [0,1,2,3],.ef 4,.rd [5,6,7,8,9,10,11,12,13,14,15,16,17,18],.ef 19,.rd [20,21,22]] (fun w'=>w'.cell? ⟨lb,lo+k,none⟩=some (.string x)) (by kernel_rfl) (by kernel_rfl) (by kernel_rfl) (by kernel_rfl) (Nat.le_of_ble_eq_true rfl) c0 ?_;refine zS (A:=?A1) ?h1 ?h2
    case h1=>
     rintro w' z0 K hK;simp only [zJ,zgL,zgM,zgN,zgO,zgP]
     repeat still_step
     refine wpStill_nil ?_;exact hK
    have e0:wr.drew.cell? ⟨lb,lo+k,none⟩=some (.string x):=c0;have KD:=zf (KC.out.drew);clear c0 KC;generalize wr.drew=wd at *;refine Zk rfl ?_;go_wp2_with fail;(with_reducible refine (MA.out _).mono ?_);rintro e w4 ⟨rfl,k4⟩;have e1:=zi k4 (fun e=>e) e0;have K4:=zf (KD.out.trans k4);clear k4 e0 KD;go_wp2_with fail;refine ⟨e1,?_⟩;refine zS (A:=?A2) ?h3 ?h4
    case h3=>
     rintro w' z0 K hK;simp only [zJ,zgL,zgM,zgN,zgO,zgP];refine WS.out ?_
     repeat (refine Zo (fun K hK=>?_);go_simp;refine hK _ ?_;clear hK K)
     refine ZY ?_;exact hK
    refine Zk rfl ?_;refine xN (by simp [Region.wanted,yielded,undef]) ?_;go_wp2_with fail;refine ⟨e1,?_⟩;refine zS (A:=?A3) ?h5 ?h6
    case h5=>
     rintro w' z0 K hK;simp only [zJ,zgL,zgM,zgN,zgO,zgP];refine WS.out ?_
     repeat (refine Zo (fun K hK=>?_);go_simp;refine hK _ ?_;clear hK K)
     refine ZY ?_;exact hK
    refine ZT ?_;go_wp2;go_ret;exact ⟨by rw [R.out];rfl,K4.out⟩
   | true=>
    rw [hm] at MA;by_cases hk0:k=0
    ·have g3:decide (0 < (k:Int))=false:=by rw [decide_eq_false_iff_not];omega
     have g4:decide (0 < k)=false:=by rw [decide_eq_false_iff_not];omega
     have PR:=zf (show ∀ j,j < k+1->ZO ((Zl l).getD j [])=true∧(0 < j->Ze ((Zl l).getD (j - 1) []) ((Zl l).getD j [])=true) from fun j hj=>by
      obtain rfl:j=k:=by omega
      exact ⟨by rw [GX.out];exact hm,fun h=>by omega⟩)
     clear hm hk0 hx;go_wp2_with fail;refine zI (N:=41) [.rd [0,1,2,3],.ef 4,.rd [5,6,7,8,9,10,11,12,13,14,15,16,17,18],.ef 19,.rd [20,21,22]] (fun w'=>w'.cell? ⟨lb,lo+k,none⟩=some (.string x)) (by kernel_rfl) (by kernel_rfl) (by kernel_rfl) (by kernel_rfl) (Nat.le_of_ble_eq_true rfl) c0 ?_;refine zS (A:=?A11) ?h11 ?h12
     case h11=>
      rintro w' z0 K hK;simp only [zJ,zgL,zgM,zgN,zgO,zgP];refine WS.out ?_
      repeat (refine Zo (fun K hK=>?_);go_simp;refine hK _ ?_;clear hK K)
      refine ZY ?_;exact hK
     have D:=zf (zA (fun _=>False) wr);have e0:=zi D.out (fun e=>e) c0;have KD:=zf (KC.out.drew);clear c0 KC D;generalize wr.drew=wd at *;refine Zk rfl ?_;go_wp2_with fail;(with_reducible refine (MA.out _).mono ?_);rintro e w4 ⟨rfl,k4⟩;have f0:=zi k4 (fun e=>e) e0;have K4:=zf (KD.out.trans k4);clear k4 e0 KD;go_wp2_with fail;refine ⟨f0,?_⟩;refine zS (A:=?A12) ?h13 ?h14
     case h13=>
      rintro w' z0 K hK;simp only [zJ,zgL,zgM,zgN,zgO,zgP];refine WS.out ?_
      repeat (refine Zo (fun K hK=>?_);go_simp;refine hK _ ?_;clear hK K)
      refine ZY ?_;exact hK
     refine Zk rfl ?_;refine xN (by simp [Region.wanted,yielded,undef]) ?_;go_wp2_with fail;refine ⟨f0,?_⟩;refine zS (A:=?A13) ?h15 ?h16
     case h15=>
      rintro w' z0 K hK;simp only [zJ,zgL,zgM,zgN,zgO,zgP];refine WS.out ?_
      repeat (refine Zo (fun K hK=>?_);go_simp;refine hK _ ?_;clear hK K)
      refine ZY ?_;exact hK
     refine ZT ?_;go_wp2;go_roundw
     case rel=>exact ⟨k+1,by omega,by go_num,zf ⟨PR.out,K4.out⟩⟩
     case measure=>simp [intOf];omega
    ·obtain ⟨y,hy⟩:∃ y,l[k - 1]? = some y:=⟨_,zgS (by omega)⟩
     obtain ⟨lb',lo',e1,_,c1',hym⟩:=HCL.out (k - 1) y hy;cases e1;have GY:=zf (yr hy);obtain ⟨n,hn⟩:∃ n,n=k - 1:=⟨_,rfl⟩;rw [<- hn] at c1' GY;have c1:=zi KC.out (fun e=>e) c1';have g3:decide (0 < (k:Int))=true:=by rw [decide_eq_true_eq];omega
     have g4:decide (0 < k)=true:=by rw [decide_eq_true_eq];omega
     have q1:IntKind.i64.wrap ((k:Int) - 1)=(n:Int):=by rw [IntKind.wrap_i64];omega
     have q2:n < l.length:=by omega
     have q3:(n:Int) < (l.length:Int):=by omega
     have HN:=zf hn;have LS:=zf (fun w=>zdB w y x hym);have HM:=zf hm;clear hy hn c1' hm hx;cases hl:Ze y.data.toList x.data.toList with
     | false=>
      rw [hl] at LS;have R:=zf (NO.out (fun q=>by have:=(q.2.2 k (by rw [zL];exact hlt)).2 (by omega);rw [GX.out,<- HN.out,GY.out,hl] at this;cases this));clear hl;go_wp2_with fail;refine zI (N:=41) [.rd [0,1,2,3],.ef 4,.rd [5,6,7,8,9,10,11,12,13,14,15,16,17,18],.ef 19,.rd [20,21,22]] (fun w'=>w'.cell? ⟨lb,lo+k,none⟩=some (.string x)∧w'.cell? ⟨lb,lo+n,none⟩=some (.string y)) (by kernel_rfl) (by kernel_rfl) (by kernel_rfl) (by kernel_rfl) (Nat.le_of_ble_eq_true rfl) ⟨c0,c1⟩ ?_;refine zS (A:=?A21) ?h21 ?h22
      case h21=>
       rintro w' ⟨z0,z1⟩ K hK;simp only [zJ,zgL,zgM,zgN,zgO,zgP];refine WS.out ?_
       repeat (refine Zo (fun K hK=>?_);go_simp;refine hK _ ?_;clear hK K)
       refine ZY ?_;exact hK
      have D:=zf (zA (fun _=>False) wr);have e0:=zi D.out (fun e=>e) c0;have e1:=zi D.out (fun e=>e) c1;have KD:=zf (KC.out.drew);clear c0 c1 KC D;generalize wr.drew=wd at *;refine Zk rfl ?_;go_wp2_with fail;(with_reducible refine (MA.out _).mono ?_);rintro e w4 ⟨rfl,k4⟩;have f0:=zi k4 (fun e=>e) e0;have f1:=zi k4 (fun e=>e) e1;have K4:=zf (KD.out.trans k4);clear k4 e0 e1 KD;go_wp2_with fail;refine ⟨⟨f0,f1⟩,?_⟩;refine zS (A:=?A22) ?h23 ?h24
      case h23=>
       rintro w' ⟨z0,z1⟩ K hK;simp only [zJ,zgL,zgM,zgN,zgO,zgP];refine WS.out ?_
       repeat (refine Zo (fun K hK=>?_);go_simp;refine hK _ ?_;clear hK K)
       refine ZY ?_;exact hK
      refine Zk rfl ?_;go_wp2_with fail;(with_reducible refine (LS.out _).mono ?_);rintro e w5 ⟨rfl,d5⟩;have g0:=zQ d5 f0;have g1:=zQ d5 f1;have K5:=zf (K4.out.trans d5.chg);clear d5 f0 f1 K4;go_wp2_with fail;refine ⟨⟨g0,g1⟩,?_⟩;refine zS (A:=?A23) ?h25 ?h26
      case h25=>
       rintro w' ⟨z0,z1⟩ K hK;simp only [zJ,zgL,zgM,zgN,zgO,zgP];refine WS.out ?_
       repeat (refine Zo (fun K hK=>?_);go_simp;refine hK _ ?_;clear hK K)
       refine ZY ?_;exact hK
      refine ZT ?_;go_wp2;go_ret;exact ⟨by rw [R.out];rfl,K5.out⟩
     | true=>
      rw [hl] at LS
      have PR:=zf (show ∀ j,j < k+1->ZO ((Zl l).getD j [])=true∧(0 < j->Ze ((Zl l).getD (j - 1) []) ((Zl l).getD j [])=true) from fun j hj=>by
       rcases Nat.lt_or_ge j k with q | q
       ·exact PRE.out j q
       ·obtain rfl:j=k:=by omega
        exact ⟨by rw [GX.out];exact HM.out,fun _=>by rw [GX.out,<- HN.out,GY.out];exact hl⟩)
      clear hl;go_wp2_with fail;refine zI (N:=41) [.rd [0,1,2,3],.ef 4,.rd [5,6,7,8,9,10,11,12,13,14,15,16,17,18],.ef 19,.rd [20,21,22]] (fun w'=>w'.cell? ⟨lb,lo+k,none⟩=some (.string x)∧w'.cell? ⟨lb,lo+n,none⟩=some (.string y)) (by kernel_rfl) (by kernel_rfl) (by kernel_rfl) (by kernel_rfl) (Nat.le_of_ble_eq_true rfl) ⟨c0,c1⟩ ?_;refine zS (A:=?A31) ?h31 ?h32
      case h31=>
       rintro w' ⟨z0,z1⟩ K hK;simp only [zJ,zgL,zgM,zgN,zgO,zgP];refine WS.out ?_
       repeat (refine Zo (fun K hK=>?_);go_simp;refine hK _ ?_;clear hK K)
       refine ZY ?_;exact hK
      have D:=zf (zA (fun _=>False) wr);have e0:=zi D.out (fun e=>e) c0;have e1:=zi D.out (fun e=>e) c1;have KD:=zf (KC.out.drew);clear c0 c1 KC D;generalize wr.drew=wd at *;refine Zk rfl ?_;go_wp2_with fail;(with_reducible refine (MA.out _).mono ?_);rintro e w4 ⟨rfl,k4⟩;have f0:=zi k4 (fun e=>e) e0;have f1:=zi k4 (fun e=>e) e1;have K4:=zf (KD.out.trans k4);clear k4 e0 e1 KD;go_wp2_with fail;refine ⟨⟨f0,f1⟩,?_⟩;refine zS (A:=?A32) ?h33 ?h34
      case h33=>
       rintro w' ⟨z0,z1⟩ K hK;simp only [zJ,zgL,zgM,zgN,zgO,zgP];refine WS.out ?_
       repeat (refine Zo (fun K hK=>?_);go_simp;refine hK _ ?_;clear hK K)
       refine ZY ?_;exact hK
      refine Zk rfl ?_;go_wp2_with fail;(with_reducible refine (LS.out _).mono ?_);rintro e w5 ⟨rfl,d5⟩;have g0:=zQ d5 f0;have g1:=zQ d5 f1;have K5:=zf (K4.out.trans d5.chg);clear d5 f0 f1 K4;go_wp2_with fail;refine ⟨⟨g0,g1⟩,?_⟩;refine zS (A:=?A33) ?h35 ?h36
      case h35=>
       rintro w' ⟨z0,z1⟩ K hK;simp only [zJ,zgL,zgM,zgN,zgO,zgP];refine WS.out ?_
       repeat (refine Zo (fun K hK=>?_);go_simp;refine hK _ ?_;clear hK K)
       refine ZY ?_;exact hK
      refine ZT ?_;go_wp2;go_roundw
      case rel=>exact ⟨k+1,by omega,by go_num,zf ⟨PR.out,K5.out⟩⟩
      case measure=>simp [intOf];omega
  ·obtain rfl:k=l.length:=by omega
   have R:=zf (show zbJ l=true from zgQ ⟨by rw [zL];omega,by rw [zL];omega,fun j hj=>HI.out.1 j (by rw [zL] at hj;exact hj)⟩);go_wp2;go_ret;exact ⟨by rw [R.out];rfl,HI.out.2⟩
theorem LOk.nil:LOk []:=⟨List.nodup_nil,fun x h=>(List.not_mem_nil h).elim,by simp⟩
theorem LOk.add {x:zO} {L:List zO} (h:LOk L):LOk (xD x L):=by
  unfold xD;by_cases e:yD x L=0
  · rw [if_pos e]
    obtain ⟨h1,h2,h3⟩:=zbD e;refine ⟨?_,?_,by rw [zgV,List.length_singleton];omega⟩
    · rw [List.nodup_append]
      exact ⟨h.nodup,by simp,fun a ha b hb=>by rw [List.mem_singleton] at hb;subst hb;rintro rfl;exact h2 ha⟩
    · intro y hy
      rcases zg4.1 hy with q | q
      · exact h.may y q
      · rw [List.mem_singleton] at q;rw [q];exact h1
  · rw [if_neg e];exact h
theorem LOk.rem {x:zO} {L:List zO} (h:LOk L):LOk (zgA x L):=by
  unfold zgA;by_cases e:zgB x L=0
  · rw [if_pos e]
    exact ⟨h.nodup.erase x,fun y hy=>h.may y (List.mem_of_mem_erase hy),Nat.le_trans (List.length_erase_le) h.few⟩
  · rw [if_neg e];exact h
set_option maxRecDepth 100000 in
theorem zdC (w:World) (x:zO) (a:Option Addr) (n c:Nat) (G:Nat->Prop) (hv:zB w (.slice a n c) G x.2) (hz:zeh x.2):
    Calls Tryz.prog 238 #[.agg #[.int .i64 x.1,.slice a n c]] w fun e w'=>e=.returned (.bool (zaq x))∧Chg (fun _=>False) w w':=by
  have k1:=zj (fun _=>False) w (.cells #[.int .i64 x.1,.slice a n c] 34);have MAY:=zf (zbV _ _ G x.2 (hv.chg k1 (fun _ _ e=>e)) hz);have YES:=zf (fun h=>zcC (x:=x) h);have NO:=zf (fun h=>zd4 (x:=x) h);have K1:=zf k1;clear k1 hv hz;generalize zaq x=b at *;obtain ⟨op,l⟩:=x;simp only at MAY YES NO K1 ⊢;by_cases h0:0<=op
  · have g0:decide (0<=op)=true:=zgQ h0
    by_cases h1:op < 8
    · have g1:decide (op<=7)=true:=zgQ (by omega)
      rw [<- YES.out ⟨h0,h1⟩] at MAY;clear h0 h1 YES NO;go_enter Tryz.func238,Tryz.ntmps238;go_wp2_with fail;(with_reducible refine MAY.out.mono ?_);rintro e w2 ⟨rfl,d2⟩;have K2:=zf (K1.out.trans d2);clear d2 MAY K1;cases b
      all_goals
        go_wp2;go_ret;exact ⟨rfl,K2.out⟩
    · have g1:decide (op<=7)=false:=zgR (by omega)
      obtain rfl:=NO.out (fun q=>h1 q.2);clear h0 h1 YES NO MAY;go_enter Tryz.func238,Tryz.ntmps238;go_wp2;go_ret;exact ⟨rfl,K1.out⟩
  · have g0:decide (0<=op)=false:=zgR h0
    obtain rfl:=NO.out (fun q=>h0 q.1);clear h0 YES NO MAY;go_enter Tryz.func238,Tryz.ntmps238;go_wp2;go_ret;exact ⟨rfl,K1.out⟩
set_option maxRecDepth 100000 in
theorem XG (w:World) (x y:zO) (a b:Option Addr) (n c m d:Nat) (G G':Nat->Prop) (hv:zB w (.slice a n c) G x.2) (hu:zB w (.slice b m d) G' y.2):
    Calls Tryz.prog 91 #[.agg #[.int .i64 x.1,.slice a n c],.agg #[.int .i64 y.1,.slice b m d]] w fun e w'=>e=.returned (.bool (eqB x y))∧Chg (fun _=>False) w w':=by
  have k1:=(zj (fun _=>False) w (.cells #[.int .i64 x.1,.slice a n c] 34)).alloc (.cells #[.int .i64 y.1,.slice b m d] 34);have EQ:=zf (zcS _ _ _ G G' x.2 y.2 (hv.chg k1 (fun _ _ e=>e)) (hu.chg k1 (fun _ _ e=>e)));have YES:=zf (fun h=>zd3 (x:=x) (y:=y) h);have NO:=zf (fun h=>zfn (x:=x) (y:=y) h);have K1:=zf k1;clear k1 hv hu;generalize eqB x y=r at *;obtain ⟨op,l⟩:=x;obtain ⟨oq,k⟩:=y;simp only at EQ YES NO K1 ⊢;by_cases h0:op=oq
  · have g0:(op == oq)=true:=beq_iff_eq.2 h0
    rw [<- YES.out h0] at EQ;clear h0 YES NO;go_enter Tryz.func91,Tryz.ntmps91;go_wp2_with fail;(with_reducible refine EQ.out.mono ?_);rintro e w2 ⟨rfl,d2⟩;have K2:=zf (K1.out.trans d2.chg);clear d2 EQ K1;cases r
    all_goals
      go_wp2;go_ret;exact ⟨rfl,K2.out⟩
  · have g0:(op == oq)=false:=zg1.2 h0
    obtain rfl:=NO.out h0;clear h0 YES NO EQ;go_enter Tryz.func91,Tryz.ntmps91;go_wp2;go_ret;exact ⟨rfl,K1.out⟩
set_option maxHeartbeats 4000000 in
set_option maxRecDepth 100000 in
theorem zeK (w:World) (b:Nat) (ty:TypeId) (x:zO) (L:List zO) (ver:Nat) (a:Option Addr) (n c:Nat) (G G':Nat->Prop) (hl:ZN w b ty G L ver) (hver:ver<=1000000) (hL:L.length<=1000) (hv:ZV w (.slice a n c) G' x.2) (hz:zeh x.2):
    Calls Tryz.prog 173 #[.pointer (some ⟨b,0,none⟩),.agg #[.int .i64 x.1,.slice a n c]] w (yC w b ty G (yD x L) (xD x L) ver):=by
  obtain ⟨la,cap,h1,h2,hcap,hcm⟩:=hl.open
  have hbl:=hl.lt;unfold maxLen at hcm;have k1:=zj (fun _=>False) w (.cells #[.int .i64 x.1,.slice a n c] 34);have K1:=zf k1;have MAY:=zf (zdC _ x a n c G' (hv.at_.chg k1 (fun _ _ e=>e)) hz);have X1:=zf (zh w (.cells #[.int .i64 x.1,.slice a n c] 34));have HL:=zf hl;have HV:=zf hv;have H1:=zf h1;have H2:=zf h2;have HZ:=zf hz;clear k1 hl hv h1 h2 hz;cases hm:zaq x with
  | false=>
    have R:yD x L=2:=by unfold yD;rw [hm];rfl
    have RL:xD x L=L:=by unfold xD;rw [R];rfl
    rw [R,RL];rw [hm] at MAY;clear R RL hm;obtain ⟨op,l⟩:=x;simp only at MAY K1 ⊢;go_enter Tryz.func173,Tryz.ntmps173;go_wp2_with fail;(with_reducible refine MAY.out.mono ?_);rintro e w2 ⟨rfl,k2⟩;go_wp2;go_ret;exact ZA HL.out (by omega) (K1.out.trans k2)
  | true=>
    rw [hm] at MAY;have HM:=zf hm;obtain ⟨hs1,hs2⟩:=YC (ZU.1 hm).2;clear hm;have SA:=zf (fun w1 (k:Chg (fun _=>False) w w1) y d m e (hu:zB w1 (.slice d m e) G y.2)=>XG w1 y x d a m e n c G G' hu (HV.out.at_.chg k (fun _ _ e=>e)));have RT:=zf (show ∀ k,k=0∨k=3∨k=11->∀ L2,L2=xD x L->yD x L=k->yC w b ty G (yD x L) (xD x L) ver=yC w b ty G k L2 ver from fun k _ L2 h1 h2=>by rw [h1,h2]);have ADE:=zf (show yD x L=if x∈L then 11 else if 12<=L.length then 3 else 0 by unfold yD;rw [if_pos HM.out]);generalize hq:yC w b ty G (yD x L) (xD x L) ver=POST at *;have HQ:=zf hq;clear hq;obtain ⟨op,l⟩:=x;obtain ⟨_,_,eqn⟩:=HV.out.shape;cases eqn;simp only at MAY K1 SA hs1 hs2 ⊢;go_enter Tryz.func173,Tryz.ntmps173;go_wp2_with fail;(with_reducible refine MAY.out.mono ?_);rintro e w2 ⟨rfl,k2⟩;have o2:=k2.obj (fun e=>e) X1.out;have K2:=zf (K1.out.trans k2);have X2:=zf o2;clear o2 k2 K1 MAY X1;go_wp2;go_loopw [5] (fun iv wr=>∃ k:Nat,k<=L.length∧iv=.int .i64 k∧Hid ((∀ j,j < k->L[j]?≠some (op,l))∧Chg (fun _=>False) w2 wr)) (fun iv _=>L.length - (intOf iv).toNat)
    case atStart=>exact ⟨0,by omega,rfl,zf ⟨fun j hj=>by omega,Chg.refl _ _⟩⟩
    case round=>
      obtain ⟨k,hk,rfl,HI⟩:=hrel;have KR:=zf (K2.out.trans HI.out.2);have X3:=zf (HI.out.2.obj (fun e=>e) X2.out);have c0:wr.cell? ⟨b,0,none⟩=some (.slice la L.length cap):=zg (KR.out.obj (fun e=>e) H1.out) rfl;have d0:wr.cell? ⟨w.heap.size,0,none⟩=some (.int .i64 op):=zg X3.out rfl;have d1:wr.cell? ⟨w.heap.size,1,none⟩=some (.slice a l.length c):=zg X3.out rfl;by_cases hlt:k < L.length
      · obtain ⟨y,hy⟩:∃ y,L[k]? = some y:=⟨_,zgS hlt⟩
        obtain ⟨g,o,sa,sc,rfl,_,e0,e1,hs⟩:=(H2.out.chg KR.out (fun _ _ e=>e)).get hy;have SA2:=zf (fun w1 (k:Chg (fun _=>False) wr w1)=>SA.out w1 (KR.out.trans k) y sa y.2.length sc (hs.at_.chg k (fun _ _ e=>e)));have HY:=zf hy;have HN:=zf HI.out.1;have KI:=zf HI.out.2;clear hs hy HI KR X3;generalize hb:eqB y (op,l)=r at *;have HB:=zf hb;obtain ⟨oq,ly⟩:=y;simp only at SA2 e0 e1;clear hb;go_wp2_with fail;refine zI (N:=57) [.rd [0,1,2,3,4,5,6,7],.ef 8] (fun w'=>w'.cell? ⟨b,0,none⟩=some (.slice (some ⟨g,o,none⟩) L.length cap)∧w'.cell? ⟨w.heap.size,0,none⟩=some (.int .i64 op)∧w'.cell? ⟨w.heap.size,1,none⟩=some (.slice a l.length c)∧w'.cell? ⟨g,o+k*2,none⟩=some (.int .i64 oq)∧w'.cell? ⟨g,o+k*2+1,none⟩=some (.slice sa ly.length sc)) (by kernel_rfl) (by kernel_rfl) (by kernel_rfl) (by kernel_rfl) (Nat.le_of_ble_eq_true rfl) ⟨c0,d0,d1,e0,e1⟩ ?_;refine zS (A:=?A1) ?h1 ?h2
        case h1=>
          rintro w' ⟨z0,z1,z2,z3,z4⟩ K hK;simp only [zJ,zgL,zgM,zgN,zgO,zgP];refine WS.out ?_
          repeat (refine Zo (fun K hK=>?_);go_simp;refine hK _ ?_;clear hK K)
          refine ZY ?_;exact hK
        have D:=zf (zA (fun _=>False) wr);have f0:=zi D.out (fun e=>e) c0;have f1:=zi D.out (fun e=>e) d0;have f2:=zi D.out (fun e=>e) d1;have f3:=zi D.out (fun e=>e) e0;have f4:=zi D.out (fun e=>e) e1;have S3:=zf (SA2.out wr.drew D.out);have KD:=zf (KI.out.drew);clear D c0 d0 d1 e0 e1 SA2 KI;generalize wr.drew=wd at *;refine Zk rfl ?_;go_wp2_with fail;(with_reducible refine S3.out.mono ?_);rintro e w4 ⟨rfl,k4⟩;have K4:=zf (KD.out.trans k4);have g0:=zi k4 (fun e=>e) f0;have g1:=zi k4 (fun e=>e) f1;have g2:=zi k4 (fun e=>e) f2;have g3:=zi k4 (fun e=>e) f3;have g4:=zi k4 (fun e=>e) f4;clear k4 f0 f1 f2 f3 f4 S3 KD;go_wp2_with fail;refine ⟨⟨g0,g1,g2,g3,g4⟩,?_⟩;refine ZT ?_;clear g0 g1 g2 g3 g4;cases r with
        | true=>
          have HIN:=zf (show (op,l)∈L from by
            have:=of_decide_eq_true HB.out;rw [<- this];exact zgU HY.out)
          have R:=zf (show POST=yC w b ty G 11 L ver from by
            have e1:yD (op,l) L=11:=by rw [ADE.out,if_pos HIN.out]
            have e2:xD (op,l) L=L:=by unfold xD;rw [e1];rfl
            rw [<- HQ.out,e1,e2])
          go_wp2;rw [R.out];exact ZA HL.out (by omega) (K2.out.trans K4.out)
        | false=>
          have HN2:=zf (show ∀ j,j < k+1->L[j]?≠some (op,l) from fun j hj=>by
            rcases Nat.lt_or_ge j k with q | q
            · exact HN.out j q
            · obtain rfl:j=k:=by omega
              rw [HY.out];exact fun e=>of_decide_eq_false HB.out (Option.some.inj e))
          go_wp2;go_roundw
          case rel=>exact ⟨k+1,by omega,by go_num,zf ⟨HN2.out,K4.out⟩⟩
          case measure=>simp [intOf];omega
      · obtain rfl:k=L.length:=by omega
        have HNI:=zf (show (op,l) ∉ L from zcy HI.out.1);by_cases hmany:12<=L.length
        · have g:decide (12<=(L.length:Int))=true:=by rw [decide_eq_true_eq];omega
          have R:=zf (show POST=yC w b ty G 3 L ver from by
            have e1:yD (op,l) L=3:=by rw [ADE.out,if_neg HNI.out,if_pos hmany]
            have e2:xD (op,l) L=L:=by unfold xD;rw [e1];rfl
            rw [<- HQ.out,e1,e2])
          clear HI hlt;go_wp2;rw [R.out];exact ZA HL.out (by omega) KR.out
        · have g:decide (12<=(L.length:Int))=false:=by rw [decide_eq_false_iff_not];omega
          have R:=zf (show POST=yC w b ty G 0 (L++[(op,l)]) ver from by
            have e1:yD (op,l) L=0:=by rw [ADE.out,if_neg HNI.out,if_neg hmany]
            have e2:xD (op,l) L=L++[(op,l)]:=by unfold xD;rw [e1];rfl
            rw [<- HQ.out,e1,e2])
          have B3:=zf (KR.out.obj (fun e=>e) H1.out);have hb3:=KR.out.size;have ka:=zj (fun _=>False) wr (.cells #[] 29);have d1a:=zi ka (fun e=>e) d1;have HS:=zf (HV.out.chg (KR.out.trans ka) (fun _ _ e=>e));have KA:=zf (KR.out.trans ka);have X3L:=zf X3.out;have KRL:=zf KR.out;have XA:=zf (ka.obj (fun e=>e) X3.out);clear HI hlt hmany ka d0 d1 SA ADE RT KR X3 B3;go_wp2_with (at_builtin;refine ZH rfl (.tmp 33) (.tmp 35) 32 rfl 29 1 16 Tryz.underlying32 Tryz.elemWord wr.heap.size _ 0 [] rfl (ya _ _ _ _ (zhb _)) a l.length c (zV l) rfl ?a1 ?a2 ?a3 ?a4 ?a5 ?a6 ?a7 ?nx1)
          case a1=>unfold zV;rw [zgW];omega
          case a2=>exact xQ HS.out.at_
          case a3=>intro e;exact HS.out.nil _ _ (by rw [e])
          case a4=>exact YU l
          case a5=>omega
          case a6=>unfold maxLen;omega
          case a7=>simp
          intro v5 w5 o5 g5;have g5c:=Chg.of_grown g5
          have k5:Chg (fun _=>False) wr w5:=(zj (fun _=>False) wr (.cells #[] 29)).next g5c (fun x hx e=>by
            have e2:wr.heap.size=x:=by simpa [Value.ownBlock] using e
            omega)
          have x5:=g5c.obj (fun e=>by
            have e2:wr.heap.size=w.heap.size:=by simpa [Value.ownBlock] using e
            have:=zl X3L.out;omega) XA.out
          have y1:w5.cell? ⟨w.heap.size,1,none⟩=some (.slice a l.length c):=zg x5 rfl;have yf:w5.frozen? ⟨w.heap.size,1,none⟩=false:=zn x5;obtain ⟨a5,c5,rfl⟩:=zq o5;obtain ⟨w6,hw6⟩:∃ w6,w6=w5.setCell ⟨w.heap.size,1,none⟩ (.slice a5 l.length c5):=⟨_,rfl⟩;have x6:w6.heap[w.heap.size]? = some (.cells #[.int .i64 op,.slice a5 l.length c5] 34 (0,0)):=by rw [hw6];exact zk x5 _
          have k6:Chg (·=w.heap.size) w5 w6:=by rw [hw6];exact zy _ _ _ _
          have hxr:=zl X3L.out;have O6:=zf (zo o5 k6 (fun k hk e=>by have:=(o5.lt k hk).1;omega));have K6:=zf ((KRL.out.trans k5).next k6 (fun x hx e=>by omega));have hb6:wr.heap.size<=w6.heap.size:=by have:=k5.size;have:=k6.size;omega
          have X6:=zf x6;clear o5 g5 g5c k5 x5 c0 d1a x6 k6 XA KA HS;go_wp2_with fail;rw [<- hw6];clear hw6 y1 yf;have z0:w6.cell? ⟨b,0,none⟩=some (.slice la L.length cap):=zg (K6.out.obj (fun e=>e) H1.out) rfl;have z1:w6.cell? ⟨w.heap.size,0,none⟩=some (.int .i64 op):=zg X6.out rfl;have z2:w6.cell? ⟨w.heap.size,1,none⟩=some (.slice a5 l.length c5):=zg X6.out rfl;refine Xq (N:=57) (.rd [0,2,3,4,5,7] (.two 1 8 (.two 6 8 (.ef 8 (.ef 9 (.ef 10 (.ef 11 (.ef 12 .nil))))) (.ef 6 (.ef 9 (.ef 10 (.ef 11 (.ef 12 .nil)))))) (.ef 1 (.ef 6 (.ef 9 (.ef 10 (.ef 11 (.ef 12 .nil)))))))) 12 (fun w'=>w'.cell? ⟨b,0,none⟩=some (.slice la L.length cap)∧w'.cell? ⟨w.heap.size,0,none⟩=some (.int .i64 op)∧w'.cell? ⟨w.heap.size,1,none⟩=some (.slice a5 l.length c5)) (by kernel_rfl) (by kernel_rfl) (by kernel_rfl) (by kernel_rfl) (Nat.le_of_ble_eq_true rfl) ⟨z0,z1,z2⟩ ?_;refine zfx (A:=?A2) ?h3 ?h4
          case h3=>
            rintro w' ⟨q0,q1,q2⟩ K hK;simp only [zJ,zgL,zgM,zgN,zgO,zgP];refine WS.out ?_
            repeat (refine Zo (fun K hK=>?_);go_simp;refine hK _ ?_;clear hK K)
            refine ZY ?_;exact hK
          have D:=zf (zA (fun _=>False) w6);have KD:=zf (K6.out.drew);have O7:=zf (zo O6.out D.out (fun _ _ e=>e));have hbd:wr.heap.size<=w6.drew.heap.size:=hb6;have SD:=zf (show ∀ W,Chg (fun _=>False) w6.drew W->W.cell? ⟨b,0,none⟩=some (.slice la L.length cap)∧W.cell? ⟨w.heap.size,0,none⟩=some (.int .i64 op)∧W.cell? ⟨w.heap.size,1,none⟩=some (.slice a5 l.length c5) from fun W k=>⟨zi (D.out.trans k) (fun e=>e) z0,zi (D.out.trans k) (fun e=>e) z1,zi (D.out.trans k) (fun e=>e) z2⟩)
          obtain ⟨EN,hEN⟩:∃ E,E.length=L.length∧zaY w G E L∧(la=none->L.length=0∧cap=0)∧∀ (j:Nat) u,(zH E)[j]? = some u->∃ lb lo,la=some ⟨lb,lo,none⟩∧w.cell? ⟨lb,lo+j,none⟩=some u:=by
            obtain ⟨E,la',cap',e,q1,q2,q3,q4,q5⟩:=H2.out;cases e;exact ⟨E,q4.len,q4,fun e=>by have:=q3 e;exact ⟨by omega,this⟩,fun j u hj=>by obtain ⟨lb,lo,r1,_,r2⟩:=q5 j u hj;exact ⟨lb,lo,r1,r2⟩⟩
          have HEN:=zf hEN;clear z0 z1 z2 D K6 O6 X6 hb6 hEN;generalize w6.drew=wd at *;refine zcl rfl rfl ?p1 ?p2
          case' p1=>
            go_wp2_with fail;have KC:=zf (zj (fun _=>False) wd (.cells #[] 34));refine ⟨SD.out _ KC.out,?_⟩;refine zcl rfl rfl ?p11 ?p12
          case' p11=>
            refine ZH rfl (.tmp 39) (.tmp 43) 35 rfl 34 2 32 Tryz.underlying35 Tryz.elemEntry wd.heap.size (.slice (some ⟨wd.heap.size,0,none⟩) 0 0) 0 [] rfl (ya _ _ _ _ (zhb _)) la L.length cap (zH EN) rfl ?b1 ?b2 ?b3 ?b4 ?b5 ?b6 ?b7 ?b8
            case b1=>rw [Zi,HEN.out.1]
            case b2=>exact fun j u hj=>by obtain ⟨lb,lo,r1,r2⟩:=HEN.out.2.2.2 j u hj;exact ⟨lb,lo,r1,zi (KD.out.trans KC.out) (fun e=>e) r2⟩
            case b3=>exact HEN.out.2.2.1
            case b4=>exact Yd HEN.out.2.1.one
            case b5=>omega
            case b6=>unfold maxLen;omega
            case b7=>simp only [zg0];omega
            intro v7 W7 o7 g7;have o7b:W7.ownsRow wd.heap.size 34 2 v7 L.length (zH EN):=by simpa using o7
            have KC2:=zf (show Chg (fun _=>False) wd W7 from KC.out.next (Chg.of_grown g7) (fun x hx e=>by
              have e2:wd.heap.size=x:=by simpa [Value.ownBlock] using e
              omega))
            clear o7 g7 KC;go_wp2_with fail;refine ⟨SD.out _ KC2.out,?_⟩;refine yH rfl ?_;go_wp2_with fail;have KC:=zf (KC2.out.alloc (.cells #[.int .i64 op,.slice a5 l.length c5] 34));refine ⟨.inr (SD.out _ KC.out),?_⟩;have O44:=zf (zo o7b (zj (fun _=>False) W7 (.cells #[.int .i64 op,.slice a5 l.length c5] 34)) (fun _ _ e=>e));have BX:=zf (zh W7 (.cells #[.int .i64 op,.slice a5 l.length c5] 34));have hgx:wd.heap.size<=W7.heap.size:=KC2.out.size;clear o7b KC2;generalize W7.heap.size=gx at *;generalize W7.alloc (.cells #[.int .i64 op,.slice a5 l.length c5] 34)=W8 at *
          case' p12=>
            go_wp2_with fail;have KC2:=zf (KC.out.alloc (.cells #[.int .i64 op,.slice a5 l.length c5] 34));refine ⟨SD.out _ KC2.out,?_⟩;have BX0:=zf (zh (wd.alloc (.cells #[] 34)) (.cells #[.int .i64 op,.slice a5 l.length c5] 34));clear KC;have KC:=zf KC2.out;refine yH rfl ?_;refine ZH rfl (.tmp 39) (.tmp 43) 35 rfl 34 2 32 Tryz.underlying35 Tryz.elemEntry wd.heap.size (.slice (some ⟨wd.heap.size,0,none⟩) 0 0) 0 [] rfl ((ya _ _ _ _ (zhb _)).alloc _) la L.length cap (zH EN) rfl ?c1 ?c2 ?c3 ?c4 ?c5 ?c6 ?c7 ?c8
            case c1=>rw [Zi,HEN.out.1]
            case c2=>exact fun j u hj=>by obtain ⟨lb,lo,r1,r2⟩:=HEN.out.2.2.2 j u hj;exact ⟨lb,lo,r1,zi (KD.out.trans KC.out) (fun e=>e) r2⟩
            case c3=>exact HEN.out.2.2.1
            case c4=>exact Yd HEN.out.2.1.one
            case c5=>omega
            case c6=>unfold maxLen;omega
            case c7=>simp only [zg0];omega
            intro v7 W7 o7 g7;have o7b:W7.ownsRow wd.heap.size 34 2 v7 L.length (zH EN):=by simpa using o7
            have KC3:=zf (show Chg (fun _=>False) wd W7 from KC.out.next (Chg.of_grown g7) (fun x hx e=>by
              have e2:wd.heap.size=x:=by simpa [Value.ownBlock] using e
              omega))
            have BX:=zf ((Chg.of_grown g7).obj (fun e=>by simp [Value.ownBlock] at e) BX0.out);have O44:=zf o7b;clear o7 g7 KC KC2 BX0 o7b;have KC:=zf KC3.out;clear KC3;go_wp2_with fail;refine ⟨.inr (SD.out _ KC.out),?_⟩;rw [zg0] at BX;have hgx:wd.heap.size<=wd.heap.size+1:=by omega
            generalize wd.heap.size+1=gx at *;generalize W7=W8 at *
          case' p2=>
            go_wp2_with fail;have KC0:=zf (zj (fun _=>False) wd (.cells #[.int .i64 op,.slice a5 l.length c5] 34));refine ⟨SD.out _ KC0.out,?_⟩;have BX0:=zf (Zg (.cells #[] 34) (zh wd (.cells #[.int .i64 op,.slice a5 l.length c5] 34)));refine yH rfl ?_;go_wp2_with fail;have KC:=zf (KC0.out.alloc (.cells #[] 34));clear KC0;refine ⟨.inr (SD.out _ KC.out),?_⟩;refine yH rfl ?_;have OE:=zf (show World.ownsRow ((wd.alloc (.cells #[.int .i64 op,.slice a5 l.length c5] 34)).alloc (.cells #[] 34)) wd.heap.size 34 2 (.slice (some ⟨wd.heap.size+1,0,none⟩) 0 0) 0 [] from by have:=ya (wd.alloc (.cells #[.int .i64 op,.slice a5 l.length c5] 34)) wd.heap.size 34 2 (by simp);rw [zg0] at this;exact this);refine ZH rfl (.tmp 39) (.tmp 43) 35 rfl 34 2 32 Tryz.underlying35 Tryz.elemEntry wd.heap.size (.slice (some ⟨wd.heap.size+1,0,none⟩) 0 0) 0 [] rfl OE.out la L.length cap (zH EN) rfl ?d1 ?d2 ?d3 ?d4 ?d5 ?d6 ?d7 ?d8
            case d1=>rw [Zi,HEN.out.1]
            case d2=>exact fun j u hj=>by obtain ⟨lb,lo,r1,r2⟩:=HEN.out.2.2.2 j u hj;exact ⟨lb,lo,r1,zi (KD.out.trans KC.out) (fun e=>e) r2⟩
            case d3=>exact HEN.out.2.2.1
            case d4=>exact Yd HEN.out.2.1.one
            case d5=>omega
            case d6=>unfold maxLen;omega
            case d7=>simp only [zg0];omega
            intro v7 W7 o7 g7;have o7b:W7.ownsRow wd.heap.size 34 2 v7 L.length (zH EN):=by simpa using o7
            have KC3:=zf (show Chg (fun _=>False) wd W7 from KC.out.next (Chg.of_grown g7) (fun x hx e=>by
              have e2:wd.heap.size+1=x:=by simpa [Value.ownBlock] using e
              omega))
            have BX:=zf ((Chg.of_grown g7).obj (fun e=>by simp [Value.ownBlock] at e) BX0.out);have O44:=zf o7b;clear o7 g7 KC BX0 o7b;have KC:=zf KC3.out;clear KC3;go_wp2_with fail;refine ⟨.inr (SD.out _ KC.out),?_⟩;have hgx:wd.heap.size<=wd.heap.size:=zhb _;obtain ⟨gx,hgxe⟩:∃ gx,gx=wd.heap.size:=⟨_,rfl⟩;generalize W7=W8 at *
          all_goals
            refine yH rfl ?_;refine xO rfl (.tmp 44) (.tmp 46) 35 rfl 34 2 32 Tryz.underlying35 Tryz.elemEntry wd.heap.size v7 L.length (zH EN) rfl O44.out _ [.int .i64 op,.slice a5 l.length c5] 34 (0,0) rfl BX.out rfl (by intro u hu;simp at hu;rcases hu with rfl | rfl <;> rfl) (by omega) (by unfold maxLen;omega) KC.out.size ?_;intro v9 w9 o9 g9;have K9:=zf (show Chg (fun _=>False) wd w9 from KC.out.next (Chg.of_grown g9) (fun x hx e=>by have:=(O44.out.lt x e).1;omega));obtain ⟨a9,c9,rfl⟩:=zq o9
            have O9:=zf (show w9.ownsRow wd.heap.size 34 2 (.slice a9 (L.length+1) c9) (EN++[(op,Value.slice a5 l.length c5)]).length (zH (EN++[(op,Value.slice a5 l.length c5)])) from by
              rw [yA,zgV,HEN.out.1];exact o9)
            have KW:=zf (KD.out.trans K9.out);have B9:=zf (KW.out.obj (fun e=>e) H1.out);have hb9:wd.heap.size<=w9.heap.size:=K9.out.size
            have EN9:=zf (show zaY w9 (fun k=>G k∨(w.heap.size<=k∧k < w9.heap.size)) (EN++[(op,Value.slice a5 l.length c5)]) (L++[(op,l)]) from
              ((HEN.out.2.1.chg KW.out (fun _ _ e=>e)).up (fun _ h=>.inl h)).snoc rfl ((yK (zo O7.out K9.out (fun _ _ e=>e)) (fun s hs=>by have:=HZ.out s hs;unfold maxLen;omega)).up (fun k hk=>.inr (by have:=O7.out.lt k hk;omega))))
            clear o9 g9 O44 BX KC hgx HEN;go_wp2_with fail;refine ⟨.inr (SD.out _ K9.out),?_⟩;refine yH rfl ?_;go_wp2_with fail;refine ⟨.inr (SD.out _ K9.out),?_⟩;refine yH rfl ?_;go_wp2_with fail;refine ⟨.inr (SD.out _ K9.out),?_⟩;refine yH rfl ?_;refine Za rfl 35 (.tmp 49) (.tmp 47) rfl b 0 rfl (.slice a9 (L.length+1) c9) rfl rfl rfl Tryz.sizeEntries _ (SD.out _ K9.out).1 (zn B9.out) ?_;intro w10 hw10;refine ⟨.inl rfl,zes ?_⟩;have o10:w10.heap[b]? = some (.cells #[.slice a9 (L.length+1) c9,.int .i64 (ver:Int)] ty (0,0)):=by rw [hw10];exact zk B9.out _
            have k10:Chg (·=b) w9 w10:=by rw [hw10];exact zy _ _ _ _
            have m1:w10.cell? ⟨b,1,none⟩=some (.int .i64 (ver:Int)):=zg o10 rfl;have fz1:w10.frozen? ⟨b,1,none⟩=false:=zn o10
            have FIN:=zf (show yC w b ty G 0 (L++[(op,l)]) ver (.returned (.int .i64 0)) (w10.setCell ⟨b,1,none⟩ (.int .i64 ((ver:Int)+1))) from by
              have k8:=k10.trans (zy w10 b 1 (.int .i64 ((ver:Int)+1)));have hw8:(w10.setCell ⟨b,1,none⟩ (.int .i64 ((ver:Int)+1))).heap.size=w9.heap.size:=by rw [hw10];simp [World.setCell]
              refine ⟨rfl,⟨⟨_,zk (o:=1) o10 _,?_⟩,?_⟩,(KW.out.mono (fun _ _ e=>e.elim)).next k8 (fun k hk e=>e)⟩
              · have hnb:∀ k,(G k∨(w.heap.size<=k∧k < w9.heap.size))->¬ k=b:=fun k h e=>by
                  rcases h with h | h
                  · exact HL.out.out (e ▸ h)
                  · omega
                refine zW.chg (S:=(·=b)) (w:=w9) ?_ k8 ?_
                · rw [hw8]
                  exact xg (G:=fun k=>G k∨(w.heap.size<=k∧k < w9.heap.size)) O9.out EN9.out (fun k hk=>.inr (by have:=O9.out.lt k hk;omega))
                · rw [hw8];exact hnb
              · intro h
                rcases h with h | h
                · exact HL.out.out h
                · omega)
            clear o10 k10 hw10 O9 EN9 K9 KW B9 SD;go_wp2;rw [R.out];exact FIN.out
end Go.Proofs.YtcilaocknhphnaaGreat
