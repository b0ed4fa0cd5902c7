/-
  DCheck: what else.
-/
import Derived.Test.YtcilaocknhphnaaGreatZgURun
import Derived.Test.YtcilaocknhphnaaGreatZgRBase
import Derived.Test.YtcilaocknhphnaaGreatZgCSet
namespace Go.Proofs.YtcilaocknhphnaaGreat
open Go.RowKit Go.Maps
set_option maxRecDepth 100000 in
theorem zcF (w:World) (a b:ByteArray) (ha:a.size<=maxLen):
  Calls Tryz.prog 236 #[.string a,.string b] w fun e w'=>e=.returned (.bool (Zs a.data.toList b.data.toList))∧Zo w w':=by
 unfold maxLen at ha;by_cases h:a.size=b.size
 ·have RES:=zf (show Zs a.data.toList b.data.toList=Op.bytesLess (a.data.toList.drop 0) (b.data.toList.drop 0) by
   unfold Zs;rw [zz,zz,if_pos h,List.drop_zero,List.drop_zero])
  have hne:((a.size:Int) != (b.size:Int))=false:=by rw [zlO];omega
  have hne2:((a.size:Int) == (b.size:Int))=true:=by rw [beq_iff_eq];omega
  have h1:a.size<=b.size:=by omega
  have h2:b.size<=a.size:=by omega
  clear h;go_enter Tryz.func236,Tryz.ntmps236;go_wp2;go_loopw [5] (fun iv wr=>∃ k:Nat,k<=a.size∧iv=.int .i64 k∧Hid (Zs a.data.toList b.data.toList=Op.bytesLess (a.data.toList.drop k) (b.data.toList.drop k)∧Zo w wr)) (fun iv _=>a.size - (intOf iv).toNat)
  case atStart=>exact ⟨0,by omega,rfl,zf ⟨RES.out,Zo.refl _⟩⟩
  case round=>
   obtain ⟨k,hk,rfl,HI⟩:=hrel;by_cases hlt:k < a.size
   ·have hltb:k < b.size:=by omega
    have LS:=zf (zgR (zhp hlt) (zhp hltb));have b1:0<=(k:Int):=by omega
    have b2:(k:Int) < (a.size:Int):=by omega
    have b3:(k:Int) < (b.size:Int):=by omega
    have DR:=zf HI.out.2;by_cases hxy:a[k]=b[k]
    ·have NX:=zf (show Zs a.data.toList b.data.toList=Op.bytesLess (a.data.toList.drop (k+1)) (b.data.toList.drop (k+1)) by
      rw [HI.out.1,LS.out,if_pos hxy])
     have n0:((a[k].toNat:Int) != (b[k].toNat:Int))=false:=by rw [hxy];simp
     have n1:((a[k].toNat:Int) == (b[k].toNat:Int))=true:=by rw [hxy];simp
     clear hxy HI LS;go_wp2_with fail;go_quiet (fail);rename_i nq;have DQ:=zf (show Zo w (wr.drewN nq) from DR.out.trans ⟨nq,rfl⟩);go_wp2;go_roundw
     case rel=>exact ⟨k+1,by omega,by go_num,zf ⟨NX.out,DQ.out⟩⟩
     case measure=>simp [intOf];omega
    ·have RE:=zf (show Zs a.data.toList b.data.toList=decide (a[k].toNat < b[k].toNat) by
      rw [HI.out.1,LS.out,if_neg hxy])
     have hx2:a[k].toNat≠b[k].toNat:=fun e=>hxy (UInt8.toNat_inj.1 e);have n0:((a[k].toNat:Int) != (b[k].toNat:Int))=true:=by rw [zlN];omega
     have n1:((a[k].toNat:Int) == (b[k].toNat:Int))=false:=by rw [zlI];omega
     clear hxy HI LS hx2;go_wp2_with fail;go_quiet (fail);rename_i nq;have DQ:=zf (show Zo w (wr.drewN nq) from DR.out.trans ⟨nq,rfl⟩);go_wp2_with fail;generalize wr.drewN nq=w2 at *;go_quiet (fail);have DQ2:=zf (show Zo w (w2.drewN nq) from DQ.out.trans ⟨nq,rfl⟩);go_wp2;go_ret;exact ⟨by rw [RE.out];rfl,DQ2.out⟩
   ·obtain rfl:k=a.size:=by omega
    have RE:=zf (show Zs a.data.toList b.data.toList=false by
     rw [HI.out.1,List.drop_eq_nil_of_le (show b.data.toList.length<=a.size by rw [zz];omega)];cases List.drop a.size a.data.toList <;> rfl)
    go_wp2;go_ret;exact ⟨by rw [RE.out];rfl,HI.out.2⟩
 ·have RES:=zf (show Zs a.data.toList b.data.toList=decide (a.size < b.size) by
   unfold Zs;rw [zz,zz,if_neg h])
  have hne:((a.size:Int) != (b.size:Int))=true:=by rw [zlN];omega
  have hne2:((a.size:Int) == (b.size:Int))=false:=by rw [zlI];omega
  clear h;go_enter Tryz.func236,Tryz.ntmps236;go_wp2;go_ret;exact ⟨by rw [RES.out];rfl,Zo.refl _⟩
section
variable (w:World) (v u:Value) (G G':Nat->Prop) (l m:List ByteArray)
theorem zfn (hv:zV w v G l) (hu:zV w u G' m):Calls Tryz.prog 174 #[v,u] w fun e w'=>e=.returned (.bool (Xa l m))∧Zo w w':=by
 obtain ⟨la,cap,rfl,hl0,hcl⟩:=hv;obtain ⟨ma,mcap,rfl,hm0,hcm⟩:=hu;have HCL:=zf hcl;have HCM:=zf hcm;unfold maxLen at hl0 hm0;clear hcl hcm;by_cases hlen:l.length=m.length
 ·have g:((l.length:Int) != (m.length:Int))=false:=by rw [zlO];omega
  have g2:((l.length:Int) == (m.length:Int))=true:=by rw [beq_iff_eq];omega
  have HL:=zf hlen;have hle1:l.length<=m.length:=by omega
  have hle2:m.length<=l.length:=by omega
  clear hlen;go_enter Tryz.func174,Tryz.ntmps174;go_wp2;go_loopw [5] (fun iv wr=>∃ k:Nat,k<=l.length∧iv=.int .i64 k∧Hid ((∀ j,j < k->l[j]? = m[j]?)∧Zo w wr)) (fun iv _=>l.length - (intOf iv).toNat)
  case atStart=>exact ⟨0,by omega,rfl,zf ⟨fun j hj=>by omega,Zo.refl _⟩⟩
  case round=>
   obtain ⟨k,hk,rfl,HI⟩:=hrel;by_cases hlt:k < l.length
   ·have hltm:k < m.length:=by omega
    obtain ⟨y,hy⟩:∃ y,l[k]? = some y:=⟨_,zlz hlt⟩;obtain ⟨z,hz⟩:∃ z,m[k]? = some z:=⟨_,zlz hltm⟩;obtain ⟨lb,lo,rfl,_,c0',_⟩:=HCL.out k y hy;obtain ⟨mb,mo,rfl,_,d0',_⟩:=HCM.out k z hz;have c0:=Zx HI.out.2 c0';have d0:=Zx HI.out.2 d0';have DR:=zf HI.out.2;by_cases hxy:y=z
    ·have n1:(y.toList != z.toList)=false:=by rw [zev,zlx hxy];rfl
     have n2:(y.toList == z.toList)=true:=by rw [XJ,zlx hxy]
     have HI2:=zf (show ∀ j,j < k+1->l[j]? = m[j]? from fun j hj=>by
      rcases Nat.lt_or_ge j k with q | q
      ·exact HI.out.1 j q
      ·obtain rfl:j=k:=by omega
       rw [hy,hz,hxy])
     clear hy hz hxy c0' d0' HI;go_wp2_with fail;go_quiet (fail);rename_i nq;have DQ:=zf (show Zo w (wr.drewN nq) from DR.out.trans ⟨nq,rfl⟩);go_wp2;go_roundw
     case rel=>exact ⟨k+1,by omega,by go_num,zf ⟨HI2.out,DQ.out⟩⟩
     case measure=>simp [intOf];omega
    ·have n1:(y.toList != z.toList)=true:=by rw [zev,zly hxy];rfl
     have n2:(y.toList == z.toList)=false:=by rw [XJ,zly hxy]
     have R:=zf (show Xa l m=false from zly (fun e=>by rw [e,hz] at hy;exact hxy (Option.some.inj hy).symm));clear hy hz hxy c0' d0' HI;go_wp2_with fail;go_quiet (fail);rename_i nq;have DQ:=zf (show Zo w (wr.drewN nq) from DR.out.trans ⟨nq,rfl⟩);go_wp2;go_ret;exact ⟨by rw [R.out];rfl,DQ.out⟩
   ·obtain rfl:k=l.length:=by omega
    have R:=zf (show Xa l m=true from zlx (zgn HL.out HI.out.1));go_wp2;go_ret;exact ⟨by rw [R.out];rfl,HI.out.2⟩
 ·have g:((l.length:Int) != (m.length:Int))=true:=by rw [zlN];omega
  have g2:((l.length:Int) == (m.length:Int))=false:=by rw [zlI];omega
  have R:=zf (show Xa l m=false from zly (fun e=>hlen (by rw [e])));clear hlen;go_enter Tryz.func174,Tryz.ntmps174;go_wp2;go_ret;exact ⟨by rw [R.out];rfl,Zo.refl _⟩
end
theorem zfM {l:List ByteArray} {n:Nat} (h:l.length=n+1):∃ z,l[n]? = some z∧l.getLast? = some z:=by
 refine ⟨l[n],zlz (by omega),?_⟩;rw [List.getLast?_eq_getElem?];have e:l.length - 1=n:=by omega
 rw [e];exact zlz (by omega)
theorem ze9 {l:List ByteArray} {j:Nat} {x:ByteArray} (h:l[j]? = some x):(zO l)[j]? = some (.string x):=by
 unfold zO;rw [zlK,h];rfl
theorem zdA (l:List ByteArray) (x:ByteArray):zO (l++[x])=zO l++[.string x]:=by
 unfold zO;rw [List.map_append];rfl
set_option maxHeartbeats 4000000 in
set_option maxRecDepth 100000 in
theorem zgx (w:World) (v:Value) (G:Nat->Prop) (l:List ByteArray) (hv:zV w v G l) (hl:l.length<=1000):
  Calls Tryz.prog 255 #[v] w fun e w'=>∃ va out,e=.returned va∧w'.ownsRow w.heap.size 29 1 va out.length (zO out)∧yN l out∧(∀ x∈l,x∈out)∧Chg (fun _=>False) w w':=by
 have LS:=zf (fun w a b (ha:a.size<=maxLen)=>zcF w a b ha);have HV:=zf hv;obtain ⟨la,lcap,rfl,hl0,_⟩:=hv;unfold maxLen at hl0;have hws:w.heap.size<=w.heap.size:=zlS _;go_enter Tryz.func255,Tryz.ntmps255;go_wp2;go_loopw [3] (fun ov wr=>∃ out:List ByteArray,Hid (yN l out∧wr.ownsRow w.heap.size 29 1 ov out.length (zO out)∧Chg (fun _=>False) w wr)) (fun ov _=>l.length - yh ov)
 case atStart=>exact ⟨[],zf ⟨zfk l,yX _ _ _ _ hws,zi _ _ _⟩⟩
 case round=>
  obtain ⟨out,HI⟩:=hrel;obtain ⟨oa,oc,rfl⟩:=zl HI.out.2.1;have hle:=HI.out.1.le;have KW:=zf HI.out.2.2;have OW:=zf HI.out.2.1;have RI:=zf HI.out.1;have hsz:w.heap.size<=wr.heap.size:=KW.out.size;clear HI;generalize wr=wo at *;go_wp2;go_loopw [4,5,6] (fun bv fv iv wl=>∃ k:Nat,k<=l.length∧iv=.int .i64 k∧fv=.bool (Xw out.getLast? (l.take k)).isSome∧bv=.string ((Xw out.getLast? (l.take k)).getD ⟨#[]⟩)∧Hid (Chg (fun _=>False) wo wl)) (fun _ _ iv _=>l.length - (intOf iv).toNat)
  case atStart=>exact ⟨0,by omega,rfl,rfl,rfl,zf (Chg.refl _ _)⟩
  case round=>
   obtain ⟨k,hk,rfl,rfl,rfl,HJ⟩:=hrel;by_cases hlt:k < l.length
   ·obtain ⟨x,hx⟩:∃ x,l[k]? = some x:=⟨_,zlz hlt⟩
    obtain ⟨_,_,e1,_,hcl⟩:=HV.out.chg (KW.out.trans HJ.out) (fun _ _ e=>e);cases e1;obtain ⟨lb,lo,rfl,_,c0,hxs⟩:=hcl k x hx;have NT:=zf (zfB (last:=out.getLast?) hx);have CX:=zf (fun w1 (q:Chg (fun _=>False) wr w1)=>zj q (fun e=>e) c0);have XS:=zf hxs;clear hcl hx hxs;generalize Xw out.getLast? (l.take k)=best at *;go_upto_region 7 with fail;go_cut [7] (fun av wc=>av=.bool (xf out.getLast? x)∧Chg (fun _=>False) wr wc)
    case first=>
     rename_i J K' hJ hK;by_cases h0:out.length=0
     ·have e0:out=[]:=List.length_eq_zero_iff.1 h0
      subst e0;clear h0 NT;go_wp2_with fail;refine zC (N:=55) [.rd [0,1,2,3,4,5,6,7,8,9,10,11,12,13],.ef 14,.rd [15,16]] (fun w'=>w'.cell? ⟨lb,lo+k,none⟩=some (.string x)) (by kernel_rfl) (by kernel_rfl) (by kernel_rfl) (by kernel_rfl) (Nat.le_of_ble_eq_true rfl) c0 ?_;refine zJ (A:=?A1) ?h1 ?h2
      case h1=>
       rintro w' z0 K hK;simp only [zS,zls,zlt,zlu,zlv,zlw];refine WS.out ?_
       repeat (refine Zd (fun K hK=>?_);go_simp;refine hK _ ?_;clear hK K)
       refine Zv ?_;exact hK
      have D:=zf (zy (fun _=>False) wr);have e0:=zj D.out (fun e=>e) c0;generalize wr.drew=wd at *;refine zQ rfl ?_;refine YC (by simp [Region.wanted,yielded,undef]) ?_;go_wp2_with fail;refine ⟨e0,?_⟩;refine zJ (A:=?A2) ?h3 ?h4
      case h3=>
       rintro w' z0 K hK;simp only [zS,zls,zlt,zlu,zlv,zlw];refine WS.out ?_
       repeat (refine Zd (fun K hK=>?_);go_simp;refine hK _ ?_;clear hK K)
       refine Zv ?_;exact hK
      refine Za ?_;go_wp2;go_meet
      case rel=>exact ⟨rfl,D.out⟩
     ·obtain ⟨n,hn⟩:∃ n,out.length=n+1:=⟨out.length - 1,by omega⟩
      obtain ⟨z,hz,hzl⟩:=zfM hn;have HZL:=zf hzl
      have hzs:z.size<=maxLen:=by
       obtain ⟨j,hj⟩:=List.mem_iff_getElem?.1 (RI.out.sub z (zlB hz));obtain ⟨_,_,_,_,hcl⟩:=HV.out;obtain ⟨_,_,_,_,_,q⟩:=hcl j z hj;exact q
      obtain ⟨_,_,e1,_,hcz⟩:=YW OW.out;cases e1;obtain ⟨gz,rfl,_,d0⟩:=hcz n _ (ze9 hz);have y0:=zj HJ.out (fun e=>e) d0;have g0:((out.length:Int) == 0)=false:=zlI.2 (by omega);have g1:IntKind.i64.wrap ((out.length:Int) - 1)=(n:Int):=by rw [IntKind.wrap_i64];omega
      have hn2:n < out.length:=by omega
      have LZ:=zf (fun w=>LS.out w z x hzs);clear hcz hz hzl NT d0 h0 hzs hn;go_wp2_with fail;refine zC (N:=55) [.rd [0,1,2,3,4,5,6,7,8,9,10,11,12,13],.ef 14,.rd [15,16]] (fun w'=>w'.cell? ⟨lb,lo+k,none⟩=some (.string x)∧w'.cell? ⟨gz,n,none⟩=some (.string z)) (by kernel_rfl) (by kernel_rfl) (by kernel_rfl) (by kernel_rfl) (Nat.le_of_ble_eq_true rfl) ⟨c0,y0⟩ ?_;refine zJ (A:=?A3) ?h5 ?h6
      case h5=>
       rintro w' ⟨z0,z1⟩ K hK;simp only [zS,zls,zlt,zlu,zlv,zlw];refine WS.out ?_
       repeat (refine Zd (fun K hK=>?_);go_simp;refine hK _ ?_;clear hK K)
       refine Zv ?_;exact hK
      have D:=zf (zy (fun _=>False) wr);have e0:=zj D.out (fun e=>e) c0;have e1:=zj D.out (fun e=>e) y0;generalize wr.drew=wd at *;refine zQ rfl ?_;go_wp2_with fail;(with_reducible refine (LZ.out _).mono ?_);rintro e w4 ⟨rfl,k4⟩;have K4:=zf (D.out.trans k4.chg);have kc4:Chg (fun _=>False) wd w4:=k4.chg;have f0:=zj kc4 (fun e=>e) e0;have f1:=zj kc4 (fun e=>e) e1;clear k4 kc4 e0 e1;go_wp2_with fail;refine ⟨⟨f0,f1⟩,?_⟩;refine zJ (A:=?A4) ?h7 ?h8
      case h7=>
       rintro w' ⟨z0,z1⟩ K hK;simp only [zS,zls,zlt,zlu,zlv,zlw];refine WS.out ?_
       repeat (refine Zd (fun K hK=>?_);go_simp;refine hK _ ?_;clear hK K)
       refine Zv ?_;exact hK
      refine Za ?_;go_wp2;go_meet
      case rel=>exact ⟨by rw [HZL.out];rfl,K4.out⟩
    case rest=>
     obtain ⟨rfl,kc⟩:=hcut;have c1:=CX.out wc kc;have KC:=zf (HJ.out.trans kc);clear c0 CX kc HJ;have NP:Xw out.getLast? (l.take (k+1))=if (xf out.getLast? x && zep best x)=true then some x else best:=NT.out
     cases ha:xf out.getLast? x with
     | false=>
      rw [ha,Bool.false_and,if_neg (by simp)] at NP;have NP:=zf NP;clear ha NT;go_wp2;go_roundw
      case rel=>exact ⟨k+1,by omega,by go_num,by rw [NP.out],by rw [NP.out],KC⟩
      case measure=>simp [intOf];omega
     | true=>
      rw [ha,Bool.true_and] at NP;clear ha NT;cases best with
      | none=>
       have NP:=zf (show Xw out.getLast? (l.take (k+1))=some x from NP);go_wp2;go_roundw
       case rel=>exact ⟨k+1,by omega,by go_num,by rw [NP.out];rfl,by rw [NP.out];rfl,KC⟩
       case measure=>simp [intOf];omega
      | some y=>
       have LY:=zf (LS.out wc x y XS.out);have NP:=zf (show Xw out.getLast? (l.take (k+1))=if Zs x.data.toList y.data.toList=true then some x else some y from NP);generalize Zs x.data.toList y.data.toList=r at *;simp only [Option.getD_some,Option.isSome_some];go_wp2_with fail;(with_reducible refine LY.out.mono ?_);rintro e w5 ⟨rfl,k5⟩;have c2:=zj (show Chg (fun _=>False) wc w5 from k5.chg) (fun e=>e) c1;have K5:=zf (KC.out.trans k5.chg);clear k5 LY KC c1;cases r
       all_goals
        go_wp2;go_roundw
        case rel=>exact ⟨k+1,by omega,by go_num,by rw [NP.out];rfl,by rw [NP.out];rfl,K5⟩
        case measure=>simp [intOf];omega
   ·obtain rfl:k=l.length:=by omega
    rw [zlT];cases hn:Xw out.getLast? l with
    | none=>
     have DN:=zf (RI.out.done hn);clear hn;go_wp2;go_ret;exact ⟨_,out,rfl,zo OW.out HJ.out (fun _ _ e=>e),RI.out,DN.out,KW.out.trans HJ.out⟩
    | some y=>
     have hmore:=RI.out.more hn;have RN:=zf (RI.out.next hn);have OJ:=zf (zo OW.out HJ.out (fun _ _ e=>e));have KJ:=zf (KW.out.trans HJ.out);have hszr:w.heap.size<=wr.heap.size:=KJ.out.size;clear hn RI OW KW HJ;simp only [Option.getD_some,Option.isSome_some];go_wp2_with (at_builtin;refine zK rfl (.tmp 51) (.tmp 53) 32 rfl 29 1 16 Tryz.underlying32 Tryz.elemWord w.heap.size _ out.length (zO out) rfl ?a1 wr.heap.size [.string y] 29 (0,0) rfl ?a2 rfl ?a3 ?a4 ?a5 ?a6 ?a7)
     case a1=>exact zo OJ.out (zi (fun _=>False) _ _) (fun _ _ e=>e)
     case a2=>exact zh _ _
     case a3=>intro u hu;simp at hu;subst hu;rfl
     case a4=>omega
     case a5=>unfold maxLen;omega
     case a6=>simp;omega
     intro v6 w6 o6 g6 _;have O6:=zf (show w6.ownsRow w.heap.size 29 1 v6 (out++[y]).length (zO (out++[y])) from by rw [zdA,zlC];exact o6);have K6:=zf ((KJ.out.alloc (.cells #[.string y] 29)).next (Chg.of_grown g6) (fun x hx e=>by have:=(OJ.out.lt x e).1;omega));clear o6 g6 OJ KJ;obtain ⟨a6,c6,rfl⟩:=zl O6.out;go_wp2;go_roundw
     case rel=>exact ⟨out++[y],zf ⟨RN.out,O6.out,K6.out⟩⟩
     case measure=>simp [yh];omega
theorem zjh {l:List ByteArray} (h:¬ zbH (ZT l)):xw l=false:=zly h
set_option maxHeartbeats 2000000 in
set_option maxRecDepth 100000 in
theorem zax (w:World) (v:Value) (G:Nat->Prop) (l:List ByteArray) (hv:zV w v G l) (hz:zjI l):
  Calls Tryz.prog 168 #[v] w fun e w'=>e=.returned (.bool (xw l))∧Chg (fun _=>False) w w':=by
 obtain ⟨la,cap,rfl,hl0,hcl⟩:=hv;have HCL:=zf hcl;have HZ:=zf hz;unfold maxLen at hl0;clear hcl hz;have NO:=zf (show ∀ h:¬ zbH (ZT l),xw l=false from fun h=>zjh h);by_cases h1:l.length < 1
 ·have R:=zf (NO.out (fun q=>by have:=q.1;rw [zU] at this;omega))
  have g1:decide ((l.length:Int) < 1)=true:=by rw [decide_eq_true_eq];omega
  go_enter Tryz.func168,Tryz.ntmps168;go_wp2;go_ret;exact ⟨by rw [R.out];rfl,Chg.refl _ _⟩
 have g1:decide ((l.length:Int) < 1)=false:=by rw [decide_eq_false_iff_not];omega
 by_cases h2:16 < l.length
 ·have R:=zf (NO.out (fun q=>by have:=q.2.1;rw [zU] at this;omega))
  have g2:decide (16 < (l.length:Int))=true:=by rw [decide_eq_true_eq];omega
  go_enter Tryz.func168,Tryz.ntmps168;go_wp2;go_ret;exact ⟨by rw [R.out];rfl,Chg.refl _ _⟩
 have g2:decide (16 < (l.length:Int))=false:=by rw [decide_eq_false_iff_not];omega
 go_enter Tryz.func168,Tryz.ntmps168;go_wp2;go_loopw [3] (fun iv wr=>∃ k:Nat,k<=l.length∧iv=.int .i64 k∧Hid ((∀ j,j < k->ZZ ((ZT l).getD j [])=true∧(0 < j->Zs ((ZT l).getD (j - 1) []) ((ZT l).getD j [])=true))∧Chg (fun _=>False) w wr)) (fun iv _=>l.length - (intOf iv).toNat)
 case atStart=>exact ⟨0,by omega,rfl,zf ⟨fun j hj=>by omega,Chg.refl _ _⟩⟩
 case round=>
  obtain ⟨k,hk,rfl,HI⟩:=hrel;by_cases hlt:k < l.length
  ·obtain ⟨x,hx⟩:∃ x,l[k]? = some x:=⟨_,zlz hlt⟩
   obtain ⟨lb,lo,rfl,_,c0',hxm⟩:=HCL.out k x hx;have c0:=zj HI.out.2 (fun e=>e) c0';have GX:=zf (yp hx);have KC:=zf HI.out.2;have PRE:=zf HI.out.1;have MA:=zf (fun w=>zbW w x (HZ.out x (zlB hx)));clear c0' HI;cases hm:ZZ x.data.toList with
   | false=>
    rw [hm] at MA;have R:=zf (NO.out (fun q=>by have:=(q.2.2 k (by rw [zU];exact hlt)).1;rw [GX.out,hm] at this;cases this));clear hm hx;go_wp2_with fail;refine zC (N:=41) [.rd [0,1,2,3],.ef 4,.rd [5,6,7,8,9,10,11,12,13,14,15,16,17,18],.ef 19,.rd [20,21,22]] (fun w'=>w'.cell? ⟨lb,lo+k,none⟩=some (.string x)) (by kernel_rfl) (by kernel_rfl) (by kernel_rfl) (by kernel_rfl) (Nat.le_of_ble_eq_true rfl) c0 ?_;refine zJ (A:=?A1) ?h1 ?h2
    case h1=>
     rintro w' z0 K hK;simp only [zS,zls,zlt,zlu,zlv,zlw]
     repeat still_step
     refine wpStill_nil ?_;exact hK
    have e0:wr.drew.cell? ⟨lb,lo+k,none⟩=some (.string x):=c0;have KD:=zf (KC.out.drew);clear c0 KC;generalize wr.drew=wd at *;refine zQ rfl ?_;go_wp2_with fail;(with_reducible refine (MA.out _).mono ?_);rintro e w4 ⟨rfl,k4⟩;have e1:=zj k4 (fun e=>e) e0;have K4:=zf (KD.out.trans k4);clear k4 e0 KD;go_wp2_with fail;refine ⟨e1,?_⟩;refine zJ (A:=?A2) ?h3 ?h4
    case h3=>
     rintro w' z0 K hK;simp only [zS,zls,zlt,zlu,zlv,zlw];refine WS.out ?_
     repeat (refine Zd (fun K hK=>?_);go_simp;refine hK _ ?_;clear hK K)
     refine Zv ?_;exact hK
    refine zQ rfl ?_;refine YC (by simp [Region.wanted,yielded,undef]) ?_;go_wp2_with fail;refine ⟨e1,?_⟩;refine zJ (A:=?A3) ?h5 ?h6
    case h5=>
     rintro w' z0 K hK;simp only [zS,zls,zlt,zlu,zlv,zlw];refine WS.out ?_
     repeat (refine Zd (fun K hK=>?_);go_simp;refine hK _ ?_;clear hK K)
     refine Zv ?_;exact hK
    refine Za ?_;go_wp2;go_ret;exact ⟨by rw [R.out];rfl,K4.out⟩
   | true=>
    rw [hm] at MA;by_cases hk0:k=0
    ·have g3:decide (0 < (k:Int))=false:=by rw [decide_eq_false_iff_not];omega
     have g4:decide (0 < k)=false:=by rw [decide_eq_false_iff_not];omega
     have PR:=zf (show ∀ j,j < k+1->ZZ ((ZT l).getD j [])=true∧(0 < j->Zs ((ZT l).getD (j - 1) []) ((ZT l).getD j [])=true) from fun j hj=>by
      obtain rfl:j=k:=by omega
      exact ⟨by rw [GX.out];exact hm,fun h=>by omega⟩)
     clear hm hk0 hx;go_wp2_with fail;refine zC (N:=41) [.rd [0,1,2,3],.ef 4,.rd [5,6,7,8,9,10,11,12,13,14,15,16,17,18],.ef 19,.rd [20,21,22]] (fun w'=>w'.cell? ⟨lb,lo+k,none⟩=some (.string x)) (by kernel_rfl) (by kernel_rfl) (by kernel_rfl) (by kernel_rfl) (Nat.le_of_ble_eq_true rfl) c0 ?_;refine zJ (A:=?A11) ?h11 ?h12
     case h11=>
      rintro w' z0 K hK;simp only [zS,zls,zlt,zlu,zlv,zlw];refine WS.out ?_
      repeat (refine Zd (fun K hK=>?_);go_simp;refine hK _ ?_;clear hK K)
      refine Zv ?_;exact hK
     have D:=zf (zy (fun _=>False) wr);have e0:=zj D.out (fun e=>e) c0;have KD:=zf (KC.out.drew);clear c0 KC D;generalize wr.drew=wd at *;refine zQ rfl ?_;go_wp2_with fail;(with_reducible refine (MA.out _).mono ?_);rintro e w4 ⟨rfl,k4⟩;have f0:=zj k4 (fun e=>e) e0;have K4:=zf (KD.out.trans k4);clear k4 e0 KD;go_wp2_with fail;refine ⟨f0,?_⟩;refine zJ (A:=?A12) ?h13 ?h14
     case h13=>
      rintro w' z0 K hK;simp only [zS,zls,zlt,zlu,zlv,zlw];refine WS.out ?_
      repeat (refine Zd (fun K hK=>?_);go_simp;refine hK _ ?_;clear hK K)
      refine Zv ?_;exact hK
     refine zQ rfl ?_;refine YC (by simp [Region.wanted,yielded,undef]) ?_;go_wp2_with fail;refine ⟨f0,?_⟩;refine zJ (A:=?A13) ?h15 ?h16
     case h15=>
      rintro w' z0 K hK;simp only [zS,zls,zlt,zlu,zlv,zlw];refine WS.out ?_
      repeat (refine Zd (fun K hK=>?_);go_simp;refine hK _ ?_;clear hK K)
      refine Zv ?_;exact hK
     refine Za ?_;go_wp2;go_roundw
     case rel=>exact ⟨k+1,by omega,by go_num,zf ⟨PR.out,K4.out⟩⟩
     case measure=>simp [intOf];omega
    ·obtain ⟨y,hy⟩:∃ y,l[k - 1]? = some y:=⟨_,zlz (by omega)⟩
     obtain ⟨lb',lo',e1,_,c1',hym⟩:=HCL.out (k - 1) y hy;cases e1;have GY:=zf (yp hy);obtain ⟨n,hn⟩:∃ n,n=k - 1:=⟨_,rfl⟩;rw [<- hn] at c1' GY;have c1:=zj KC.out (fun e=>e) c1';have g3:decide (0 < (k:Int))=true:=by rw [decide_eq_true_eq];omega
     have g4:decide (0 < k)=true:=by rw [decide_eq_true_eq];omega
     have q1:IntKind.i64.wrap ((k:Int) - 1)=(n:Int):=by rw [IntKind.wrap_i64];omega
     have q2:n < l.length:=by omega
     have q3:(n:Int) < (l.length:Int):=by omega
     have HN:=zf hn;have LS:=zf (fun w=>zcF w y x hym);have HM:=zf hm;clear hy hn c1' hm hx;cases hl:Zs y.data.toList x.data.toList with
     | false=>
      rw [hl] at LS;have R:=zf (NO.out (fun q=>by have:=(q.2.2 k (by rw [zU];exact hlt)).2 (by omega);rw [GX.out,<- HN.out,GY.out,hl] at this;cases this));clear hl;go_wp2_with fail;refine zC (N:=41) [.rd [0,1,2,3],.ef 4,.rd [5,6,7,8,9,10,11,12,13,14,15,16,17,18],.ef 19,.rd [20,21,22]] (fun w'=>w'.cell? ⟨lb,lo+k,none⟩=some (.string x)∧w'.cell? ⟨lb,lo+n,none⟩=some (.string y)) (by kernel_rfl) (by kernel_rfl) (by kernel_rfl) (by kernel_rfl) (Nat.le_of_ble_eq_true rfl) ⟨c0,c1⟩ ?_;refine zJ (A:=?A21) ?h21 ?h22
      case h21=>
       rintro w' ⟨z0,z1⟩ K hK;simp only [zS,zls,zlt,zlu,zlv,zlw];refine WS.out ?_
       repeat (refine Zd (fun K hK=>?_);go_simp;refine hK _ ?_;clear hK K)
       refine Zv ?_;exact hK
      have D:=zf (zy (fun _=>False) wr);have e0:=zj D.out (fun e=>e) c0;have e1:=zj D.out (fun e=>e) c1;have KD:=zf (KC.out.drew);clear c0 c1 KC D;generalize wr.drew=wd at *;refine zQ rfl ?_;go_wp2_with fail;(with_reducible refine (MA.out _).mono ?_);rintro e w4 ⟨rfl,k4⟩;have f0:=zj k4 (fun e=>e) e0;have f1:=zj k4 (fun e=>e) e1;have K4:=zf (KD.out.trans k4);clear k4 e0 e1 KD;go_wp2_with fail;refine ⟨⟨f0,f1⟩,?_⟩;refine zJ (A:=?A22) ?h23 ?h24
      case h23=>
       rintro w' ⟨z0,z1⟩ K hK;simp only [zS,zls,zlt,zlu,zlv,zlw];refine WS.out ?_
       repeat (refine Zd (fun K hK=>?_);go_simp;refine hK _ ?_;clear hK K)
       refine Zv ?_;exact hK
      refine zQ rfl ?_;go_wp2_with fail;(with_reducible refine (LS.out _).mono ?_);rintro e w5 ⟨rfl,d5⟩;have g0:=Zx d5 f0;have g1:=Zx d5 f1;have K5:=zf (K4.out.trans d5.chg);clear d5 f0 f1 K4;go_wp2_with fail;refine ⟨⟨g0,g1⟩,?_⟩;refine zJ (A:=?A23) ?h25 ?h26
      case h25=>
       rintro w' ⟨z0,z1⟩ K hK;simp only [zS,zls,zlt,zlu,zlv,zlw];refine WS.out ?_
       repeat (refine Zd (fun K hK=>?_);go_simp;refine hK _ ?_;clear hK K)
       refine Zv ?_;exact hK
      refine Za ?_;go_wp2;go_ret;exact ⟨by rw [R.out];rfl,K5.out⟩
     | true=>
      rw [hl] at LS
      have PR:=zf (show ∀ j,j < k+1->ZZ ((ZT l).getD j [])=true∧(0 < j->Zs ((ZT l).getD (j - 1) []) ((ZT l).getD j [])=true) from fun j hj=>by
       rcases Nat.lt_or_ge j k with q | q
       ·exact PRE.out j q
       ·obtain rfl:j=k:=by omega
        exact ⟨by rw [GX.out];exact HM.out,fun _=>by rw [GX.out,<- HN.out,GY.out];exact hl⟩)
      clear hl;go_wp2_with fail;refine zC (N:=41) [.rd [0,1,2,3],.ef 4,.rd [5,6,7,8,9,10,11,12,13,14,15,16,17,18],.ef 19,.rd [20,21,22]] (fun w'=>w'.cell? ⟨lb,lo+k,none⟩=some (.string x)∧w'.cell? ⟨lb,lo+n,none⟩=some (.string y)) (by kernel_rfl) (by kernel_rfl) (by kernel_rfl) (by kernel_rfl) (Nat.le_of_ble_eq_true rfl) ⟨c0,c1⟩ ?_;refine zJ (A:=?A31) ?h31 ?h32
      case h31=>
       rintro w' ⟨z0,z1⟩ K hK;simp only [zS,zls,zlt,zlu,zlv,zlw];refine WS.out ?_
       repeat (refine Zd (fun K hK=>?_);go_simp;refine hK _ ?_;clear hK K)
       refine Zv ?_;exact hK
      have D:=zf (zy (fun _=>False) wr);have e0:=zj D.out (fun e=>e) c0;have e1:=zj D.out (fun e=>e) c1;have KD:=zf (KC.out.drew);clear c0 c1 KC D;generalize wr.drew=wd at *;refine zQ rfl ?_;go_wp2_with fail;(with_reducible refine (MA.out _).mono ?_);rintro e w4 ⟨rfl,k4⟩;have f0:=zj k4 (fun e=>e) e0;have f1:=zj k4 (fun e=>e) e1;have K4:=zf (KD.out.trans k4);clear k4 e0 e1 KD;go_wp2_with fail;refine ⟨⟨f0,f1⟩,?_⟩;refine zJ (A:=?A32) ?h33 ?h34
      case h33=>
       rintro w' ⟨z0,z1⟩ K hK;simp only [zS,zls,zlt,zlu,zlv,zlw];refine WS.out ?_
       repeat (refine Zd (fun K hK=>?_);go_simp;refine hK _ ?_;clear hK K)
       refine Zv ?_;exact hK
      refine zQ rfl ?_;go_wp2_with fail;(with_reducible refine (LS.out _).mono ?_);rintro e w5 ⟨rfl,d5⟩;have g0:=Zx d5 f0;have g1:=Zx d5 f1;have K5:=zf (K4.out.trans d5.chg);clear d5 f0 f1 K4;go_wp2_with fail;refine ⟨⟨g0,g1⟩,?_⟩;refine zJ (A:=?A33) ?h35 ?h36
      case h35=>
       rintro w' ⟨z0,z1⟩ K hK;simp only [zS,zls,zlt,zlu,zlv,zlw];refine WS.out ?_
       repeat (refine Zd (fun K hK=>?_);go_simp;refine hK _ ?_;clear hK K)
       refine Zv ?_;exact hK
      refine Za ?_;go_wp2;go_roundw
      case rel=>exact ⟨k+1,by omega,by go_num,zf ⟨PR.out,K5.out⟩⟩
      case measure=>simp [intOf];omega
  ·obtain rfl:k=l.length:=by omega
   have R:=zf (show xw l=true from zlx ⟨by rw [zU];omega,by rw [zU];omega,fun j hj=>HI.out.1 j (by rw [zU] at hj;exact hj)⟩);go_wp2;go_ret;exact ⟨by rw [R.out];rfl,HI.out.2⟩
theorem zbu {l:List ByteArray} {j:Nat} (h:j < l.length):(ZT l).getD j []=(l[j]).data.toList:=yp (zlz h)
theorem zdH {l:List ByteArray} (h:xw l=true):l.Pairwise fun a b=>ZY a b=true:=by
 obtain ⟨_,_,hs⟩:=of_decide_eq_true h;rw [zU] at hs;rw [List.pairwise_iff_getElem];intro i j hi hj hij;induction j with
 | zero=>omega
 | succ j ih=>
  have h1:=(hs (j+1) hj).2 (by omega);rw [zbu hj,Nat.add_sub_cancel,zbu (show j < l.length by omega)] at h1;by_cases e:i=j
  ·subst e;exact h1
  ·exact ZH (ih (by omega) (by omega)) h1
theorem zau:∀ {l m:List ByteArray},l.Pairwise (fun a b=>ZY a b=true)->m.Pairwise (fun a b=>ZY a b=true)->(∀ x,x∈l↔x∈m)->l=m
 | [],[],_,_,_=>rfl
 | [],y :: m,_,_,h=>by have:=(h y).2 List.mem_cons_self;cases this
 | x :: l,[],_,_,h=>by have:=(h x).1 List.mem_cons_self;cases this
 | x :: l,y :: m,hl,hm,h=>by
  obtain ⟨a1,a2⟩:=List.pairwise_cons.1 hl;obtain ⟨b1,b2⟩:=List.pairwise_cons.1 hm;have irr:∀ z:ByteArray,ZY z z=true->False:=fun z q=>by rw [show ZY z z=false from ZF _] at q;cases q
  have e:x=y:=by
   rcases List.mem_cons.1 ((h x).1 List.mem_cons_self) with q | q
   ·exact q
   rcases List.mem_cons.1 ((h y).2 List.mem_cons_self) with r | r
   ·exact r.symm
   exact (irr x (ZH (a1 y r) (b1 x q))).elim
  subst e
  congr 1
  refine zau a2 b2 fun z=>⟨fun hz=>?_,fun hz=>?_⟩
  ·rcases List.mem_cons.1 ((h z).1 (List.mem_cons_of_mem _ hz)) with rfl | q
   ·exact (irr z (a1 z hz)).elim
   ·exact q
  ·rcases List.mem_cons.1 ((h z).2 (List.mem_cons_of_mem _ hz)) with rfl | q
   ·exact (irr z (b1 z hz)).elim
   ·exact q
theorem yP (s:ByteArray) (k:Nat) (z:Int) (hz:z=k):Zi s [k]=decide (Yq s=z):=by
 subst hz;unfold Zi Yq;rw [Bool.eq_iff_iff];simp only [zlU,decide_eq_true_eq,List.mem_singleton];constructor
 ·rintro ⟨h1,h2⟩;rw [if_pos h1];omega
 ·intro h
  by_cases h1:zI s.data.toList=1
  ·rw [if_pos h1] at h;exact ⟨h1,by omega⟩
  ·rw [if_neg h1] at h;omega
theorem zbO (s:ByteArray):Zi s [1,2]=(decide (Yq s=1) || decide (Yq s=2)):=by
 unfold Zi Yq;rw [Bool.eq_iff_iff];simp only [zlU,Bool.or_eq_true,decide_eq_true_eq,List.mem_cons,List.not_mem_nil,or_false];constructor
 ·rintro ⟨h1,h2⟩;rw [if_pos h1];omega
 ·intro h
  by_cases h1:zI s.data.toList=1
  ·rw [if_pos h1] at h;exact ⟨h1,by omega⟩
  ·rw [if_neg h1] at h;omega
theorem zhN {u:ByteArray} {sg:Nat} (hm:ZZ u.data.toList=true) (hsg:sg < 65536):decide (u=ZL sg)=(decide (zI u.data.toList=1) && decide (zL u.data.toList 0=sg)):=by
 obtain ⟨he,h1,_,_⟩:=(Zr _).1 hm;rw [Bool.eq_iff_iff];simp only [zlU,decide_eq_true_eq];have key:(ZL sg).data.toList=[UInt8.ofNat (sg / 256),UInt8.ofNat (sg % 256)]:=by unfold ZL Ze;simp
 constructor
 ·intro e
  subst e;rw [key];refine ⟨by simp [zI],?_⟩;unfold zL;simp [UInt8.toNat_ofNat'];omega
 ·rintro ⟨e1,e2⟩
  refine Yx ?_;have h3:=YL u.data.toList he;have h4:ZP u.data.toList=[sg]:=by unfold ZP;rw [e1,<- e2];rfl
  rw [h4] at h3;rw [<- h3,key];rfl
theorem zjc {sp:ByteArray} (he:sp.data.toList.length % 2=0):(⟨(Ze (1 :: (ZP sp.data.toList).drop 1)).toArray⟩:ByteArray)=Yp sp:=by
 unfold Yp YV;have h1:=zbG 1 sp.data.toList
 have h2:Ze (1 :: (ZP sp.data.toList).drop 1)=[0,1]++Ze ((ZP sp.data.toList).drop 1):=by
  show [UInt8.ofNat (1 / 256),UInt8.ofNat (1 % 256)]++Ze _=_;rfl
 rw [h2,<- h1,YL _ (by rw [List.length_drop];omega)];rfl
theorem zfW {c:zF} {out:List ByteArray} (hl:2<=zI c.sp.data.toList) (hfr:xw c.fr=true) (h:yN [c.sp,Yp c.sp] out) (hall:∀ x∈[c.sp,Yp c.sp],x∈out):Xa c.fr out=zeR c:=by
 have hm:∀ x,x∈out↔x=c.sp∨x=Yp c.sp:=fun x=>⟨fun hx=>by simpa using h.sub x hx,fun hx=>hall x (by simpa using hx)⟩;rw [<- zda hl hm,Bool.eq_iff_iff];unfold Xa zb9;simp only [zlU,decide_eq_true_eq,zlQ];constructor
 ·rintro rfl;exact ⟨fun x hx=>hx,fun x hx=>hx⟩
 ·rintro ⟨h1,h2⟩
  exact zau (zdH hfr) h.srt fun x=>⟨h1 x,h2 x⟩
theorem zgP {c:zF} {u:ByteArray} (h1:1<=c.kind) (h7:c.kind<=7) (hu:c.fr[0]? = some u) (hm:ZZ u.data.toList=true) (hsg:c.sg < 65536):
  Xl c=zgv c.kind c.fr.length (Yq c.sp) (zI u.data.toList) (zL u.data.toList 0 / 8192) (zL u.data.toList (zI u.data.toList - 1) / 8192) (zL u.data.toList 0) c.sg (zeR c):=by
 unfold Xl zgv;by_cases e6:c.kind=6
 ·rw [if_pos e6,if_neg (by omega),if_neg (by omega),if_neg (by omega),if_neg (by omega),if_neg (by omega),if_neg (by omega)]
 rw [if_neg e6];by_cases e7:c.kind=7
 ·rw [if_pos e7,if_neg (by omega),if_neg (by omega),if_neg (by omega),if_neg (by omega),if_neg (by omega),if_pos e7]
 rw [if_neg e7];obtain ⟨kind,sg,sp,fr,f,t,n⟩:=c;simp only at *
 match fr,hu with
 | [],hu=>cases hu
 | [v],hu=>
  cases hu;simp only [List.length_cons,List.length_nil,Nat.zero_add,decide_true,Bool.true_and];by_cases k1:kind=1
  ·rw [if_pos k1,if_pos k1,yP sp 1 1 rfl]
   by_cases n2:zI u.data.toList=2
   ·rw [n2]
   ·rw [zly n2];simp
  rw [if_neg k1,if_neg k1];by_cases k2:kind=2
  ·rw [if_pos k2,if_pos k2,yP sp 1 1 rfl,zhN hm hsg]
  rw [if_neg k2,if_neg k2];by_cases k3:kind=3
  ·rw [if_pos k3,if_pos k3,yP sp 2 2 rfl]
  rw [if_neg k3,if_neg k3];by_cases k4:kind=4
  ·rw [if_pos k4,if_pos k4,yP sp 3 3 rfl]
   unfold Zi;by_cases n2:zI u.data.toList=1
   ·rw [n2];simp
   ·rw [zly n2];simp
  rw [if_neg k4,if_neg k4];by_cases k5:kind=5
  ·rw [if_pos k5,if_pos k5,zbO]
   rfl
  omega
 | v :: v2 :: l,hu=>
  have e:decide ((v :: v2 :: l).length=1)=false:=zly (by simp);simp only [e,Bool.false_and];by_cases k1:kind=1
  ·rw [if_pos k1]
  rw [if_neg k1];by_cases k2:kind=2
  ·rw [if_pos k2]
  rw [if_neg k2];by_cases k3:kind=3
  ·rw [if_pos k3]
  rw [if_neg k3];by_cases k4:kind=4
  ·rw [if_pos k4]
  rw [if_neg k4];by_cases k5:kind=5
  ·rw [if_pos k5]
  omega
theorem Xb (w:World) (a:Nat) (ha:a < 65536):Calls Tryz.prog 198 #[.int .u16 (a:Int)] w fun e w'=>e=.returned (.int .i64 ((a / 8192:Nat):Int))∧w=w':=by
 have e1:IntKind.i64.wrap (a:Int)=(a:Int):=by rw [IntKind.wrap_i64];omega
 have e2:IntKind.i64.wrap ((a:Int) % 8192)=(a:Int) % 8192:=by rw [IntKind.wrap_i64];omega
 have e3:IntKind.i64.wrap ((a:Int) - (a:Int) % 8192)=(a:Int) - (a:Int) % 8192:=by rw [IntKind.wrap_i64];omega
 have e4:((a:Int) - (a:Int) % 8192) / 8192=((a / 8192:Nat):Int):=by omega
 go_enter Tryz.func198,Tryz.ntmps198;go_wp2;go_ret;exact ⟨by rw [<- e4];rfl,rfl⟩
set_option maxRecDepth 100000 in
theorem zdJ (w:World) (s:ByteArray) (hs:s.size<=140737488355328):Calls Tryz.prog 254 #[.string s] w fun e w'=>e=.returned (.int .i64 (Yq s))∧Chg (fun _=>False) w w':=by
 have ATS:=zf (xn w s hs);have AL:=Zy s.data.toList;have AG:=zf (fun (h:0 < zI s.data.toList)=>yz s.data.toList h);have hlt:=ye s.data.toList 0;have RK:=zf (fun w=>Xb w (zL s.data.toList 0) hlt);have R:=zf (show Yq s=if zI s.data.toList=1 then ((zL s.data.toList 0 / 8192:Nat):Int) else -1 from rfl);rw [AL] at ATS;clear AL;generalize Yq s=res at *;generalize zL s.data.toList 0=a0 at *;generalize zI s.data.toList=n at *;generalize ZP s.data.toList=A at *;go_enter Tryz.func254,Tryz.ntmps254;go_wp2_with fail;(with_reducible refine ATS.out.mono ?_);rintro e w1 ⟨v1,rfl,o1,k1⟩;obtain ⟨ua,uc,rfl⟩:=zl o1;have K1:=zf k1;by_cases h1:n=1
 ·subst h1
  obtain ⟨g,rfl⟩:=Xe o1 (by omega)
  have y0:w1.cell? ⟨g,0,none⟩=some (.int .u16 (a0:Int)):=by
   rw [o1.cellAt 0 (by omega),yU,AG.out (by omega)];rfl
  have R1:=zf (show res=((a0 / 8192:Nat):Int) from R.out);clear o1 k1 ATS AG R;go_wp2_with fail;(with_reducible refine (RK.out _).mono ?_);rintro e w2 ⟨rfl,rfl⟩;go_wp2;go_ret;exact ⟨by rw [R1.out];rfl,K1.out⟩
 ·have g1:((n:Int) != 1)=true:=by rw [zlN];omega
  have g2:((n:Int) == 1)=false:=by rw [zlI];omega
  have R1:=zf (show res=-1 by rw [R.out,if_neg h1]);clear o1 k1 ATS AG R h1;go_wp2;go_ret;exact ⟨by rw [R1.out];rfl,K1.out⟩
theorem zbU (w:World) (n:Int):Calls Tryz.prog 199 #[.int .i64 n] w fun e w'=>e=.returned (.bool (XN n))∧w=w':=by
 have R:=zf (show XN n=(decide (0<=n) && decide (n<=4611686018427387904)) by unfold XN;rw [Bool.eq_iff_iff];simp);generalize XN n=res at *;by_cases h0:0<=n
 ·have g0:decide (0<=n)=true:=zlx h0
  have g1:decide (n < 0)=false:=zly (by omega);by_cases h1:n<=4611686018427387904
  ·have g2:decide (n<=4611686018427387904)=true:=zlx h1
   have g3:decide (4611686018427387904 < n)=false:=zly (by omega);have R1:=zf (show res=true by rw [R.out,g0,g2];rfl);clear h0 h1 R;go_enter Tryz.func199,Tryz.ntmps199;go_wp2;go_ret;exact ⟨by rw [R1.out];rfl,rfl⟩
  ·have g2:decide (n<=4611686018427387904)=false:=zly h1
   have g3:decide (4611686018427387904 < n)=true:=zlx (by omega);have R1:=zf (show res=false by rw [R.out,g0,g2];rfl);clear h0 h1 R;go_enter Tryz.func199,Tryz.ntmps199;go_wp2;go_ret;exact ⟨by rw [R1.out];rfl,rfl⟩
 ·have g0:decide (0<=n)=false:=zly h0
  have g1:decide (n < 0)=true:=zlx (by omega);have R1:=zf (show res=false by rw [R.out,g0];rfl);clear h0 R;go_enter Tryz.func199,Tryz.ntmps199;go_wp2;go_ret;exact ⟨by rw [R1.out];rfl,rfl⟩
theorem zh4 {w:World} {e:TypeId} {size n:Nat} {xs:List Value} (hl:xs.length=n*size) (hn:n<=maxLen):(w.alloc (.cells xs.toArray e)).ownsRow w.heap.size e size (.slice (some ⟨w.heap.size,0,none⟩) n n) n xs:=
 ⟨hl,.inr ⟨w.heap.size,n,xs.toArray,rfl,zlS _,zh _ _,zlS _,hn,by simpa using hl,by simp [<- hl]⟩⟩
set_option maxHeartbeats 8000000 in
set_option maxRecDepth 100000 in
theorem zgu (w:World) (c:zF) (sa:Option Addr) (sc:Nat) (G:Nat->Prop) (h:ZW w (.slice sa c.fr.length sc) G c) (hk1:1<=c.kind) (hk7:c.kind<=7) (hm:ZZ c.sp.data.toList=true) (hfr:xw c.fr=true):
  Calls Tryz.prog 200 #[Zn c (.slice sa c.fr.length sc)] w fun e w'=>e=.returned (.bool (Xl c))∧Chg (fun _=>False) w w':=by
 have hfl:1<=c.fr.length∧c.fr.length<=16:=by
  obtain ⟨q1,q2,_⟩:=of_decide_eq_true hfr;rw [zU] at q1 q2;exact ⟨q1,q2⟩
 obtain ⟨u,hu⟩:∃ u,c.fr[0]? = some u:=⟨_,zlz (by omega)⟩;have hum:=Zm hfr (zlB hu);obtain ⟨_,hn1,hn8,_⟩:=(Zr _).1 hum;obtain ⟨hev,_,hs8,_⟩:=(Zr _).1 hm;have hsp:=(Zq hm).1;have hus:=(Zq hum).1;have hsg:=h.sg;have R:=zf (zgP hk1 hk7 hu hum h.sg);have DR:=zf (fun (out:List ByteArray) (h2:2<=zI c.sp.data.toList) (q:yN [c.sp,Yp c.sp] out) (q2:∀ x∈[c.sp,Yp c.sp],x∈out)=>zfW (c:=c) h2 hfr q q2);have DF:=zf (show ¬ 2<=zI c.sp.data.toList->zeR c=false from fun q=>by unfold zeR;rw [zly q];rfl);have TM:=zf (Zq (zeu hm)).1;have TD:=zjc (sp:=c.sp) hev;have ATU:=zf (fun w=>xn w u (by omega));have ATS:=zf (fun w=>xn w c.sp (by omega));have AG0:=zf (fun (h:0 < zI u.data.toList)=>yz u.data.toList h);have AGL:=zf (fun (h:zI u.data.toList - 1 < zI u.data.toList)=>yz u.data.toList h);rw [Zy] at ATU ATS;have LTS:=zf (fun a (h:a∈ZP c.sp.data.toList)=>ziK h);have ALS:=zf (Zy c.sp.data.toList);have RK0:=zf (fun w=>Xb w (zL u.data.toList 0) (ye _ _));have RKL:=zf (fun w=>Xb w (zL u.data.toList (zI u.data.toList - 1)) (ye _ _));have RS:=zf (fun w=>zdJ w c.sp (by omega));obtain ⟨kind,sg,sp,fr,f,t,num⟩:=c;simp only at hu hsp hsg R DR DF TM TD ATS LTS ALS RS hfl hs8;have HS:=zf h.set.at_;simp only at HS;obtain ⟨_,_,eqn,_,hcl⟩:=HS.out;cases eqn;obtain ⟨lb,lo,rfl,_,c0',_⟩:=hcl 0 u hu;have k0:=zi (fun _=>False) w (.cells #[.int .i64 kind,.int .u16 (sg:Int),.string sp,.slice (some ⟨lb,lo,none⟩) fr.length sc,.int .i64 f,.int .i64 t,.int .i64 num] 103);have OB:=zf (zh w (.cells #[.int .i64 kind,.int .u16 (sg:Int),.string sp,.slice (some ⟨lb,lo,none⟩) fr.length sc,.int .i64 f,.int .i64 t,.int .i64 num] 103));have K0:=zf k0;have c0:=zj k0 (fun e=>e) c0';have HSB:=zf (HS.out.chg k0 (fun _ _ e=>e));simp only [Nat.add_zero] at c0;unfold Zn;simp only;clear hcl k0 h hm hfr hum hk1 hk7 HS c0' hev;generalize Xl _=res at *;generalize zeR _=db at *;generalize Yp sp=told at *;generalize Yq sp=who at *;generalize zL u.data.toList 0=a0 at *;generalize zL u.data.toList (zI u.data.toList - 1)=al at *;obtain ⟨m,hnm⟩:∃ m,zI u.data.toList=m+1:=⟨zI u.data.toList - 1,by omega⟩;have p0:=zg (o:=0) OB.out rfl;have p2:=zg (o:=2) OB.out rfl;have p3:=zg (o:=3) OB.out rfl;go_enter Tryz.func200,Tryz.ntmps200;go_wp2_with fail;generalize hw0:w.alloc (.cells #[.int .i64 kind,.int .u16 (sg:Int),.string sp,.slice (some ⟨lb,lo,none⟩) fr.length sc,.int .i64 f,.int .i64 t,.int .i64 num] 103)=w0 at *;clear hw0;(with_reducible refine (ATU.out w0).mono ?_);rintro e w1 ⟨v1,rfl,o1,k1⟩;obtain ⟨ua,uc,rfl⟩:=zl o1;obtain ⟨g,rfl⟩:=Xe o1 (by omega)
 have y0:w1.cell? ⟨g,0,none⟩=some (.int .u16 (a0:Int)):=by
  rw [o1.cellAt 0 (by omega),yU,AG0.out (by omega)];rfl
 have yl:w1.cell? ⟨g,m,none⟩=some (.int .u16 (al:Int)):=by
  have AGM:=AGL.out (by omega);rw [show zI u.data.toList - 1=m by omega] at AGM;rw [o1.cellAt m (by omega),yU,AGM];rfl
 generalize zI u.data.toList=n at *;have g1:IntKind.i64.wrap ((n:Int) - 1)=(m:Int):=by rw [IntKind.wrap_i64];omega
 have hmn:m < n:=by omega
 have h0n:0 < n:=by omega
 clear hnm;generalize hkl:al / 8192=kl at *;generalize hk0:a0 / 8192=k0 at *;clear hkl hk0;have p2':=zj k1 (fun e=>e) p2;clear ATU AG0 AGL o1;go_wp2_with fail;(with_reducible refine (RKL.out _).mono ?_);rintro e w2 ⟨rfl,rfl⟩;go_wp2_with fail;(with_reducible refine (RS.out _).mono ?_);rintro e w3 ⟨rfl,k3⟩;have k13:=k1.trans k3;have K3:=zf (K0.out.trans k13);have O3:=zf (k13.obj (fun e=>e) OB.out);have q0:=zg (o:=0) O3.out rfl;have q1:=zg (o:=1) O3.out rfl;have q2:=zg (o:=2) O3.out rfl;have q3:=zg (o:=3) O3.out rfl;have c3:=zj k13 (fun e=>e) c0;have x0:=zj k3 (fun e=>e) y0;have H3:=zf (HSB.out.chg k13 (fun _ _ e=>e));clear OB K0 HSB k1 k3 k13 p0 p2 p3 p2' c0 y0 yl RKL RS hmn g1;by_cases k1:kind=1
 ·subst k1
  have R1:=zf (show res=(decide (fr.length=1) && (decide (who=1) && (decide (n=2) && (decide (k0=3) && decide (kl=5))))) from R.out);clear R ATS DR DF;have E1:((fr.length:Int) == 1)=decide (fr.length=1):=by rw [Bool.eq_iff_iff,beq_iff_eq,zlJ];omega
  have W1:(who == 1)=decide (who=1):=by rw [Bool.eq_iff_iff,beq_iff_eq,zlJ]
  have N2:((n:Int) == 2)=decide (n=2):=by rw [Bool.eq_iff_iff,beq_iff_eq,zlJ];omega
  have KL5:((kl:Int) == 5)=decide (kl=5):=by rw [Bool.eq_iff_iff,beq_iff_eq,zlJ];omega
  have K03:((k0:Int) == 3)=decide (k0=3):=by rw [Bool.eq_iff_iff,beq_iff_eq,zlJ];omega
  generalize decide (fr.length=1)=b1 at *;generalize decide (who=1)=b2 at *;generalize decide (n=2)=b3 at *;generalize decide (k0=3)=b4 at *;generalize decide (kl=5)=b5 at *;cases b1 with
  | false=>
   go_wp2;go_ret;exact ⟨by rw [R1.out];rfl,K3.out⟩
  | true=>
   cases b2 with
   | false=>
    go_wp2;go_ret;exact ⟨by rw [R1.out];rfl,K3.out⟩
   | true=>
    cases b3 with
    | false=>
     go_wp2;go_ret;exact ⟨by rw [R1.out];rfl,K3.out⟩
    | true=>
     go_wp2_with fail;(with_reducible refine (RK0.out _).mono ?_);rintro e w4 ⟨rfl,rfl⟩;cases b4 with
     | false=>
      go_wp2;go_ret;exact ⟨by rw [R1.out];rfl,K3.out⟩
     | true=>
      cases b5 with
      | false=>
       go_wp2;go_ret;exact ⟨by rw [R1.out];rfl,K3.out⟩
      | true=>
       go_wp2;go_ret;exact ⟨by rw [R1.out];rfl,K3.out⟩
 have f1:(kind == 1)=false:=zlI.2 k1;by_cases k2:kind=2
 ·subst k2
  have R1:=zf (show res=(decide (fr.length=1) && (decide (who=1) && (decide (n=1) && decide (a0=sg)))) from R.out);clear R ATS DR DF;have E1:((fr.length:Int) == 1)=decide (fr.length=1):=by rw [Bool.eq_iff_iff,beq_iff_eq,zlJ];omega
  have W1:(who == 1)=decide (who=1):=by rw [Bool.eq_iff_iff,beq_iff_eq,zlJ]
  have N1:((n:Int) == 1)=decide (n=1):=by rw [Bool.eq_iff_iff,beq_iff_eq,zlJ];omega
  have A0:((a0:Int) == (sg:Int))=decide (a0=sg):=by rw [Bool.eq_iff_iff,beq_iff_eq,zlJ];omega
  generalize decide (fr.length=1)=b1 at *;generalize decide (who=1)=b2 at *;generalize decide (n=1)=b3 at *;generalize decide (a0=sg)=b4 at *;cases b1 with
  | false=>
   go_wp2_with fail;go_quiet (fail);rename_i nq;have KQ:=zf (K3.out.trans (show Zo w3 (w3.drewN nq) from ⟨nq,rfl⟩).chg);go_wp2;go_ret;exact ⟨by rw [R1.out];rfl,KQ.out⟩
  | true=>
   cases b2 with
   | false=>
    go_wp2_with fail;go_quiet (fail);rename_i nq;have KQ:=zf (K3.out.trans (show Zo w3 (w3.drewN nq) from ⟨nq,rfl⟩).chg);go_wp2;go_ret;exact ⟨by rw [R1.out];rfl,KQ.out⟩
   | true=>
    cases b3 with
    | false=>
     go_wp2_with fail;go_quiet (fail);rename_i nq;have KQ:=zf (K3.out.trans (show Zo w3 (w3.drewN nq) from ⟨nq,rfl⟩).chg);go_wp2;go_ret;exact ⟨by rw [R1.out];rfl,KQ.out⟩
    | true=>
     cases b4 with
     | false=>
      go_wp2_with fail;go_quiet (fail);rename_i nq;have KQ:=zf (K3.out.trans (show Zo w3 (w3.drewN nq) from ⟨nq,rfl⟩).chg);go_wp2;go_ret;exact ⟨by rw [R1.out];rfl,KQ.out⟩
     | true=>
      go_wp2_with fail;go_quiet (fail);rename_i nq;have KQ:=zf (K3.out.trans (show Zo w3 (w3.drewN nq) from ⟨nq,rfl⟩).chg);go_wp2;go_ret;exact ⟨by rw [R1.out];rfl,KQ.out⟩
 have f2:(kind == 2)=false:=zlI.2 k2;by_cases k3:kind=3
 ·subst k3
  have R1:=zf (show res=(decide (fr.length=1) && decide (who=2)) from R.out);clear R ATS DR DF;have E1:((fr.length:Int) == 1)=decide (fr.length=1):=by rw [Bool.eq_iff_iff,beq_iff_eq,zlJ];omega
  have W2:(who == 2)=decide (who=2):=by rw [Bool.eq_iff_iff,beq_iff_eq,zlJ]
  generalize decide (fr.length=1)=b1 at *;generalize decide (who=2)=b2 at *;cases b1 with
  | false=>
   go_wp2;go_ret;exact ⟨by rw [R1.out];rfl,K3.out⟩
  | true=>
   cases b2 with
   | false=>
    go_wp2;go_ret;exact ⟨by rw [R1.out];rfl,K3.out⟩
   | true=>
    go_wp2;go_ret;exact ⟨by rw [R1.out];rfl,K3.out⟩
 have f3:(kind == 3)=false:=zlI.2 k3;by_cases k4:kind=4
 ·subst k4
  have R1:=zf (show res=(decide (fr.length=1) && (decide (who=3) && (decide (n=1) && decide (kl=4)))) from R.out);clear R ATS DR DF;have E1:((fr.length:Int) == 1)=decide (fr.length=1):=by rw [Bool.eq_iff_iff,beq_iff_eq,zlJ];omega
  have W3:(who == 3)=decide (who=3):=by rw [Bool.eq_iff_iff,beq_iff_eq,zlJ]
  have N1:((n:Int) == 1)=decide (n=1):=by rw [Bool.eq_iff_iff,beq_iff_eq,zlJ];omega
  have KL4:((kl:Int) == 4)=decide (kl=4):=by rw [Bool.eq_iff_iff,beq_iff_eq,zlJ];omega
  generalize decide (fr.length=1)=b1 at *;generalize decide (who=3)=b2 at *;generalize decide (n=1)=b3 at *;generalize decide (kl=4)=b4 at *;cases b1 with
  | false=>
   go_wp2;go_ret;exact ⟨by rw [R1.out];rfl,K3.out⟩
  | true=>
   cases b2 with
   | false=>
    go_wp2;go_ret;exact ⟨by rw [R1.out];rfl,K3.out⟩
   | true=>
    cases b3 with
    | false=>
     go_wp2;go_ret;exact ⟨by rw [R1.out];rfl,K3.out⟩
    | true=>
     cases b4 with
     | false=>
      go_wp2;go_ret;exact ⟨by rw [R1.out];rfl,K3.out⟩
     | true=>
      go_wp2;go_ret;exact ⟨by rw [R1.out];rfl,K3.out⟩
 have f4:(kind == 4)=false:=zlI.2 k4;by_cases k5:kind=5
 ·subst k5
  have R1:=zf (show res=(decide (fr.length=1) && ((decide (who=1) || decide (who=2)) && (decide (1 < n) && decide (kl=5)))) from R.out);clear R ATS DR DF;have E1:((fr.length:Int) == 1)=decide (fr.length=1):=by rw [Bool.eq_iff_iff,beq_iff_eq,zlJ];omega
  have W1:(who == 1)=decide (who=1):=by rw [Bool.eq_iff_iff,beq_iff_eq,zlJ]
  have W2:(who == 2)=decide (who=2):=by rw [Bool.eq_iff_iff,beq_iff_eq,zlJ]
  have KL5:((kl:Int) == 5)=decide (kl=5):=by rw [Bool.eq_iff_iff,beq_iff_eq,zlJ];omega
  have NG:decide ((1:Int) < (n:Int))=decide (1 < n):=by rw [decide_eq_decide];omega
  generalize decide (fr.length=1)=b1 at *;generalize decide (who=1)=b2 at *;generalize decide (who=2)=b3 at *;generalize decide (1 < n)=b4 at *;generalize decide (kl=5)=b5 at *;cases b1 with
  | false=>
   go_wp2;go_ret;exact ⟨by rw [R1.out];rfl,K3.out⟩
  | true=>
   cases b2 with
   | true=>
    cases b4 with
    | false=>
     go_wp2;go_ret;exact ⟨by rw [R1.out];rfl,K3.out⟩
    | true=>
     cases b5 with
     | false=>
      go_wp2;go_ret;exact ⟨by rw [R1.out];rfl,K3.out⟩
     | true=>
      go_wp2;go_ret;exact ⟨by rw [R1.out];rfl,K3.out⟩
   | false=>
    cases b3 with
    | false=>
     go_wp2;go_ret;exact ⟨by rw [R1.out];rfl,K3.out⟩
    | true=>
     cases b4 with
     | false=>
      go_wp2;go_ret;exact ⟨by rw [R1.out];rfl,K3.out⟩
     | true=>
      cases b5 with
      | false=>
       go_wp2;go_ret;exact ⟨by rw [R1.out];rfl,K3.out⟩
      | true=>
       go_wp2;go_ret;exact ⟨by rw [R1.out];rfl,K3.out⟩
 have f5:(kind == 5)=false:=zlI.2 k5;by_cases k7:kind=7
 ·subst k7
  have R1:=zf (show res=db from R.out);clear R;have A7:=zf (ATS.out w3);go_wp2_with fail;(with_reducible refine A7.out.mono ?_);rintro e w4 ⟨v4,rfl,o4,k4⟩;obtain ⟨xa,xc,rfl⟩:=zl o4;by_cases h2:2<=zI sp.data.toList
  rotate_left
  ·have g7:decide ((zI sp.data.toList:Int) < 2)=true:=zlx (by omega)
   have R2:=zf (show res=false by rw [R1.out,DF.out h2]);have K4:=zf (K3.out.trans k4);clear o4 k4 DF DR R1 A7 ATS h2;go_wp2;go_ret;exact ⟨by rw [R2.out];rfl,K4.out⟩
  obtain ⟨g4,rfl⟩:=Xe o4 (by omega);have g7:decide ((zI sp.data.toList:Int) < 2)=false:=zly (by omega)
  have hxc:zI sp.data.toList<=xc:=by
   obtain ⟨_,⟨q,_⟩ | ⟨g',c',cur,q,_,_,q1,q2,_⟩⟩:=o4
   ·cases q
   ·cases q;exact q1
  have hxm:xc<=maxLen:=by
   obtain ⟨_,⟨q,_⟩ | ⟨g',c',cur,q,_,_,q1,q2,_⟩⟩:=o4
   ·cases q
   ·cases q;exact q2
  unfold maxLen at hxm;have O4:=zf o4;have K4:=zf (K3.out.trans k4);have OB4:=zf (k4.obj (fun e=>e) O3.out);have H4:=zf (H3.out.chg k4 (fun _ _ e=>e));generalize ZP sp.data.toList=A at *;generalize zI sp.data.toList=N at *;have z0:1≠xc:=by omega
  have z1:¬ xc=1:=by omega
  have z2:1<=xc:=by omega
  have z3:1<=N:=by omega
  have a1:A.length=N:=ALS.out;have hg4:g4 < w4.heap.size:=(o4.lt g4 rfl).2;have hl8:N<=8:=hs8;clear o4 k4 DF A7 ATS;go_wp2_with (at_builtin;refine Ye rfl (.tmp 134) (.tmp 136) 92 rfl 58 1 2 Tryz.underlying92 Tryz.elemAtom w4.heap.size _ 1 [.int .u16 1] rfl (zh4 rfl (by unfold maxLen;omega)) (some ⟨g4,1,none⟩) (N - 1) (xc - 1) (yM (A.drop 1)) rfl ?a1 ?a2 ?a3 ?a4 ?a5 ?a6 ?a7 ?next)
  case a1=>unfold yM;rw [zlD,List.length_drop,a1];omega
  case a2=>
   intro j u hj;rw [yU,List.getElem?_drop,<- yU] at hj;refine ⟨g4,1,rfl,?_⟩;have hjl:=(zlA.1 hj).1;unfold yM at hjl;rw [zlD,a1] at hjl;refine zj (zi (fun _=>False) w4 _) (fun e=>e) ?_;rw [O4.out.cellAt (1+j) (by omega)];exact hj
  case a3=>intro q;cases q
  case a4=>intro u hu;unfold yM at hu;rw [List.mem_map] at hu;obtain ⟨x,_,rfl⟩:=hu;rfl
  case a5=>omega
  case a6=>unfold maxLen;omega
  case a7=>rw [zlH];omega
  intro v5 w5 o5 gr5
  have k5:Chg (fun _=>False) w4 w5:=(zi (fun _=>False) w4 (.cells #[.int .u16 1] 58)).next (Chg.of_grown gr5) (fun x hx e=>by
   have e2:w4.heap.size=x:=by simpa [Value.ownBlock] using e
   omega)
  obtain ⟨a5,c5,rfl⟩:=zl o5;have e5:Value.int .u16 1 :: yM A.tail=yM (1 :: A.tail):=by unfold yM;rfl
  rw [e5] at o5;obtain ⟨g5,rfl⟩:=Xe o5 (by omega);have el:(1 :: A.tail).length=N:=by rw [List.length_cons,List.length_tail,a1];omega
  rw [List.drop_one] at TD
  have OF:=zf (show ∀ w6,Chg (fun _=>False) w5 w6->Calls Tryz.prog 25 #[.slice (some ⟨g5,0,none⟩) N c5] w6 fun e w'=>e=.returned (.string told)∧Chg (fun _=>False) w6 w' from fun w6 k6=>by
   have o6:=zo o5 k6 (fun _ _ e=>e)
   have OF:=zjk w6 (some ⟨g5,0,none⟩) c5 (1 :: A.tail) (by rw [el];omega) (by rw [el];omega) (fun j x hj=>by
    refine ⟨?_,g5,0,rfl,?_⟩
    ·rcases List.mem_cons.1 (zlB hj) with rfl | q
     ·omega
     ·exact LTS.out x (List.mem_of_mem_tail q)
    ·have hjl:=(zlA.1 hj).1
     rw [Nat.zero_add,o6.cellAt j (by omega),yU,hj];rfl)
   rwa [el,TD] at OF)
  have K5:=zf (K4.out.trans k5);have OB5:=zf (k5.obj (fun e=>e) OB4.out);have H5:=zf (H4.out.chg k5 (fun _ _ e=>e));have r2:w5.cell? ⟨w.heap.size,2,none⟩=some (.string sp):=zg OB5.out rfl;have r3:w5.cell? ⟨w.heap.size,3,none⟩=some (.slice (some ⟨lb,lo,none⟩) fr.length sc):=zg OB5.out rfl;clear o5 gr5 k5 K4 OB4 H4 O4 TD e5 LTS ALS q0 q1 q2 q3 x0 c3 RK0;go_wp2_with fail;refine zC (N:=147) [.rd [0,1,2,3,4],.ef 5,.ef 6,.ef 7,.ef 8,.rd [9]] (fun W=>W.cell? ⟨w.heap.size,2,none⟩=some (.string sp)∧W.cell? ⟨w.heap.size,3,none⟩=some (.slice (some ⟨lb,lo,none⟩) fr.length sc)) (by kernel_rfl) (by kernel_rfl) (by kernel_rfl) (by kernel_rfl) (Nat.le_of_ble_eq_true rfl) ⟨r2,r3⟩ ?_;refine zJ (A:=?A1) ?h1 ?h2
  case h1=>
   rintro w' ⟨z2,z3⟩ K hK;simp only [zS,zls,zlt,zlu,zlv,zlw];refine WS.out ?_
   repeat (refine Zd (fun K hK=>?_);go_simp;refine hK _ ?_;clear hK K)
   refine Zv ?_;exact hK
  have D:=zy (fun _=>False) w5;have OD:=zf (D.obj (fun e=>e) OB5.out);have HD:=zf (H5.out.chg D (fun _ _ e=>e));have KD:=zf (K5.out.trans D);have OFD:=zf (OF.out _ D);clear D r2 r3 OB5 H5 K5 OF;generalize w5.drew=wd at *;refine zQ rfl ?_;go_wp2_with fail;(with_reducible refine OFD.out.mono ?_);rintro e w7 ⟨rfl,k7⟩;have O7:=zf (k7.obj (fun e=>e) OD.out);have H7:=zf (HD.out.chg k7 (fun _ _ e=>e));have K7:=zf (KD.out.trans k7);clear k7 OD HD KD OFD;go_wp2_with fail;refine ⟨⟨zg O7.out rfl,zg O7.out rfl⟩,?_⟩;refine zQ rfl ?_;go_wp2_with fail;have kb:=zi (fun _=>False) w7 (.cells #[.string sp,.string told] 29);have O8:=zf (kb.obj (fun e=>e) O7.out);have H8:=zf (H7.out.chg kb (fun _ _ e=>e));have K8:=zf (K7.out.trans kb)
  have RG:=zf (zgx (w7.alloc (.cells #[.string sp,.string told] 29)) (.slice (some ⟨w7.heap.size,0,none⟩) 2 2) (fun k=>k=w7.heap.size) [sp,told] ⟨_,2,rfl,by unfold maxLen;simp,fun j x hj=>⟨w7.heap.size,0,rfl,rfl,by
   rw [Nat.zero_add];refine zg (zh _ _) ?_;rcases j with _ | _ | j
   ·simp at hj;subst hj;rfl
   ·simp at hj;subst hj;rfl
   ·simp at hj,by
   have hx:=zlB hj;have htm:=TM.out;unfold maxLen;simp at hx;rcases hx with rfl | rfl <;> omega⟩⟩ (by simp))
  clear kb O7 H7 K7;refine ⟨⟨zg O8.out rfl,zg O8.out rfl⟩,?_⟩;refine zQ rfl ?_;go_wp2_with fail;(with_reducible refine RG.out.mono ?_);rintro e w9 ⟨va,out,rfl,o9,ri,hall,k9⟩;obtain ⟨oa,oc,rfl⟩:=zl o9
  have hw9:=ya o9 (fun x hx=>by
   have hx2:=ri.sub x hx;have htm:=TM.out;unfold maxLen;simp at hx2;rcases hx2 with rfl | rfl <;> omega)
  have O9:=zf (k9.obj (fun e=>e) O8.out);have K9:=zf (K8.out.trans k9);have EQ:=zfn w9 _ _ _ _ fr out (H8.out.chg k9 (fun _ _ e=>e)) hw9.at_;have R2:=zf (show res=Xa fr out by rw [R1.out,DR.out out h2 ri hall]);have EQ:=zf EQ;clear k9 o9 hw9 ri hall RG O8 K8 H8 DR R1;go_wp2_with fail;refine ⟨⟨zg O9.out rfl,zg O9.out rfl⟩,?_⟩;refine zQ rfl ?_;generalize Xa fr out=rs at *;go_wp2_with fail;(with_reducible refine EQ.out.mono ?_);rintro e w10 ⟨rfl,d10⟩;have kk10:Chg (fun _=>False) w9 w10:=d10.chg;have O10:=zf (kk10.obj (fun e=>e) O9.out);have K10:=zf (K9.out.trans kk10);clear d10 kk10 O9 K9 EQ;go_wp2_with fail;refine ⟨⟨zg O10.out rfl,zg O10.out rfl⟩,?_⟩;refine zJ (A:=?A2) ?h3 ?h4
  case h3=>
   rintro w' ⟨z2,z3⟩ K hK;simp only [zS,zls,zlt,zlu,zlv,zlw];refine WS.out ?_
   repeat (refine Zd (fun K hK=>?_);go_simp;refine hK _ ?_;clear hK K)
   refine Zv ?_;exact hK
  refine Za ?_;go_wp2;go_ret;exact ⟨by rw [R2.out];rfl,K10.out⟩
 have f7:(kind == 7)=false:=zlI.2 k7
 have R1:=zf (show res=true from by
  rw [R.out];unfold zgv;rw [if_neg k1,if_neg k2,if_neg k3,if_neg k4,if_neg k5,if_neg k7])
 clear R;go_wp2;go_ret;exact ⟨by rw [R1.out];rfl,K3.out⟩
set_option maxHeartbeats 8000000 in
set_option maxRecDepth 100000 in
theorem zbj (w:World) (c:zF) (sa:Option Addr) (sc:Nat) (G:Nat->Prop) (h:ZW w (.slice sa c.fr.length sc) G c) (hsz:c.sp.size<=140737488355328) (hfs:zjI c.fr):
  Calls Tryz.prog 119 #[Zn c (.slice sa c.fr.length sc)] w (YO w (Zj c)):=by
 have hsg:=h.sg;have LK:=zf (fun w1 (q:Chg (fun _=>False) w w1) (k1:1<=c.kind) (k7:c.kind<=7) (hm:ZZ c.sp.data.toList=true) (hf:xw c.fr=true)=>zgu w1 c sa sc G (h.chg q (fun _ _ e=>e)) k1 k7 hm hf)
 have LB:=zf (fun (k:Nat) x (hx:c.fr[k]? = some x) (hlt:x.size < c.sp.size) (hm:ZZ c.sp.data.toList=true) (hf:xw c.fr=true)=>show decide (∀ w∈c.fr,zI c.sp.data.toList<=zI w.data.toList)=false from zly (fun q=>by
  have h1:=q x (zlB hx);have h2:=((Zr _).1 hm).1;have h3:=((Zr _).1 (Zm hf (zlB hx))).1;unfold zI at h1;rw [zz] at h1 h2 h3;rw [zz] at h1;omega))
 have LG:=zf (fun (hall:∀ (k:Nat) x,c.fr[k]? = some x->c.sp.size<=x.size)=>show decide (∀ w∈c.fr,zI c.sp.data.toList<=zI w.data.toList)=true from zlx (fun x hx=>by
  obtain ⟨j,hj⟩:=List.mem_iff_getElem?.1 hx;have h1:=hall j x hj;unfold zI;rw [zz,zz];omega))
 have RM:=zf (fun w=>zbW w c.sp hsz);have SM:=zf (fun w1 (q:Chg (fun _=>False) w w1)=>zax w1 _ G c.fr (h.set.at_.chg q (fun _ _ e=>e)) hfs);have N1:=zf (fun w=>zbU w c.f);have N2:=zf (fun w=>zbU w c.t);have N3:=zf (fun w=>zbU w c.n);have RK:=zf (fun w=>Xb w c.sg hsg);have HS:=zf h.set.at_;obtain ⟨_,scap',eqn,hl0,_⟩:=h.set.at_;cases eqn;have CB:=zf (show Zj c=(decide (1<=c.kind∧c.kind<=7) && ((decide (c.sg / 8192=1) && (ZZ c.sp.data.toList && (xw c.fr && (XN c.f && (XN c.t && XN c.n))))) && (decide (c.f<=c.t) && (decide (∀ w∈c.fr,zI c.sp.data.toList<=zI w.data.toList) && Xl c)))) from rfl);generalize Zj c=res at *;generalize Xl c=lb at *;generalize decide (∀ w∈c.fr,zI c.sp.data.toList<=zI w.data.toList)=b8 at *;obtain ⟨kind,sg,sp,fr,f,t,num⟩:=c;unfold Zn at LK ⊢;simp only at hsg LK LB LG RM SM N1 N2 N3 RK HS CB hl0 hsz hfs ⊢;unfold maxLen at hl0;generalize ZZ sp.data.toList=b2 at *;generalize xw fr=b3 at *;generalize XN f=b4 at *;generalize XN t=b5 at *;generalize XN num=b6 at *;generalize sg / 8192=ks at *;clear h;have k0:=zi (fun _=>False) w (.cells #[.int .i64 kind,.int .u16 (sg:Int),.string sp,.slice sa fr.length sc,.int .i64 f,.int .i64 t,.int .i64 num] 103);have OB:=zf (zh w (.cells #[.int .i64 kind,.int .u16 (sg:Int),.string sp,.slice sa fr.length sc,.int .i64 f,.int .i64 t,.int .i64 num] 103));have K0:=zf k0;clear k0;have p0:=zg (o:=0) OB.out rfl;have p1:=zg (o:=1) OB.out rfl;go_enter Tryz.func119,Tryz.ntmps119;by_cases hk1:1<=kind
 rotate_left
 ·have g1:decide (kind < 1)=true:=zlx (by omega)
  have RF:=zf (show res=false by rw [CB.out,zly (by omega)];rfl);clear hk1;go_wp2;go_ret;exact zN (by decide) RF.out K0.out
 have g1:decide (kind < 1)=false:=zly (by omega);by_cases hk7:kind<=7
 rotate_left
 ·have g2:decide (7 < kind)=true:=zlx (by omega)
  have RF:=zf (show res=false by rw [CB.out,zly (by omega)];rfl);clear hk7 hk1;go_wp2;go_ret;exact zN (by decide) RF.out K0.out
 have g2:decide (7 < kind)=false:=zly (by omega);rw [zlx ⟨hk1,hk7⟩,Bool.true_and] at CB;have HK1:=zf hk1;have HK7:=zf hk7;clear hk1 hk7;go_wp2_with fail;(with_reducible refine (RK.out _).mono ?_);rintro e w1 ⟨rfl,rfl⟩;clear RK;by_cases hks:ks=1
 rotate_left
 ·have g3:((ks:Int) != 1)=true:=by rw [zlN];omega
  have g4:((ks:Int) == 1)=false:=by rw [zlI];omega
  have RF:=zf (show res=false by rw [CB.out,zly hks];rfl);clear hks;go_wp2;go_ret;exact zN (by decide) RF.out K0.out
 rw [zlx hks,Bool.true_and] at CB;have g3:((ks:Int) != 1)=false:=by rw [zlO];omega
 have g4:((ks:Int) == 1)=true:=by rw [beq_iff_eq];omega
 have p2:=zg (o:=2) OB.out rfl;have M1:=zf (RM.out (w.alloc (.cells #[.int .i64 kind,.int .u16 (sg:Int),.string sp,.slice sa fr.length sc,.int .i64 f,.int .i64 t,.int .i64 num] 103)));clear hks RM;go_wp2_with fail;generalize hw0:w.alloc (.cells #[.int .i64 kind,.int .u16 (sg:Int),.string sp,.slice sa fr.length sc,.int .i64 f,.int .i64 t,.int .i64 num] 103)=w0 at *;clear hw0;(with_reducible refine M1.out.mono ?_);rintro e w2 ⟨rfl,k2⟩;have K2:=zf (K0.out.trans k2);have O2:=zf (k2.obj (fun e=>e) OB.out);clear k2 OB K0 M1 p0 p1 p2;have p3:=zg (o:=3) O2.out rfl;cases b2 with
 | false=>
  have RF:=zf (show res=false by rw [CB.out];rfl);go_wp2;go_ret;exact zN (by decide) RF.out K2.out
 | true=>
 rw [Bool.true_and] at CB;have M2:=zf (SM.out w2 K2.out);clear SM;go_wp2_with fail;(with_reducible refine M2.out.mono ?_);rintro e w3 ⟨rfl,k3⟩;have K3:=zf (K2.out.trans k3);have O3:=zf (k3.obj (fun e=>e) O2.out);clear k3 K2 O2 M2 p3;have p4:=zg (o:=4) O3.out rfl;have p5:=zg (o:=5) O3.out rfl;have p6:=zg (o:=6) O3.out rfl;cases b3 with
 | false=>
  have RF:=zf (show res=false by rw [CB.out];rfl);go_wp2;go_ret;exact zN (by decide) RF.out K3.out
 | true=>
 rw [Bool.true_and] at CB;go_wp2_with fail;(with_reducible refine (N1.out _).mono ?_);rintro e w4 ⟨rfl,rfl⟩;cases b4 with
 | false=>
  have RF:=zf (show res=false by rw [CB.out];rfl);go_wp2;go_ret;exact zN (by decide) RF.out K3.out
 | true=>
 rw [Bool.true_and] at CB;go_wp2_with fail;(with_reducible refine (N2.out _).mono ?_);rintro e w4 ⟨rfl,rfl⟩;cases b5 with
 | false=>
  have RF:=zf (show res=false by rw [CB.out];rfl);go_wp2;go_ret;exact zN (by decide) RF.out K3.out
 | true=>
 rw [Bool.true_and] at CB;go_wp2_with fail;(with_reducible refine (N3.out _).mono ?_);rintro e w4 ⟨rfl,rfl⟩;cases b6 with
 | false=>
  have RF:=zf (show res=false by rw [CB.out];rfl);go_wp2;go_ret;exact zN (by decide) RF.out K3.out
 | true=>
 rw [Bool.true_and] at CB;clear N1 N2 N3;by_cases hft:f<=t
 rotate_left
 ·have g5:decide (t < f)=true:=zlx (by omega)
  have RF:=zf (show res=false by rw [CB.out,zly hft];rfl);clear hft;go_wp2;go_ret;exact zN (by decide) RF.out K3.out
 have g5:decide (t < f)=false:=zly (by omega);rw [zlx hft,Bool.true_and] at CB;clear hft;go_wp2;clear g1 g2 g3 g4 g5 p4 p5 p6;go_loopw [3] (fun iv wr=>∃ k:Nat,k<=fr.length∧iv=.int .i64 k∧Hid ((∀ (j:Nat) y,j < k->fr[j]? = some y->sp.size<=y.size)∧Chg (fun _=>False) w3 wr)) (fun iv _=>fr.length - (intOf iv).toNat)
 case atStart=>exact ⟨0,by omega,rfl,zf ⟨fun j y hj=>by omega,Chg.refl _ _⟩⟩
 case round=>
  obtain ⟨k,hk,rfl,HI⟩:=hrel;have OR:=zf (HI.out.2.obj (fun e=>e) O3.out);have KR:=zf (K3.out.trans HI.out.2);have q2:=zg (o:=2) OR.out rfl;have q3:=zg (o:=3) OR.out rfl;by_cases hlt:k < fr.length
  ·obtain ⟨x,hx⟩:∃ x,fr[k]? = some x:=⟨_,zlz hlt⟩
   obtain ⟨_,_,eqn,_,hcl⟩:=HS.out.chg KR.out (fun _ _ e=>e);cases eqn;obtain ⟨lb',lo,rfl,_,c0,hxs⟩:=hcl k x hx;unfold maxLen at hxs;clear hcl;by_cases hle:sp.size<=x.size
   ·have HI2:=zf (show ∀ (j:Nat) y,j < k+1->fr[j]? = some y->sp.size<=y.size from fun j y hj hy=>by
     rcases Nat.lt_or_ge j k with q | q
     ·exact HI.out.1 j y q hy
     ·obtain rfl:j=k:=by omega
      rw [hx] at hy;cases hy;exact hle)
    have KI:=zf HI.out.2;have g1:decide ((x.size:Int) < (sp.size:Int))=false:=zly (by omega);have g2:decide (x.size < sp.size)=false:=zly (by omega);clear hx HI hle hxs LB;go_wp2_with fail;go_quiet (fail);rename_i nq;have KQ:=zf (KI.out.trans (show Chg (fun _=>False) wr (wr.drewN nq) from (show Zo wr (wr.drewN nq) from ⟨nq,rfl⟩).chg));go_wp2;go_roundw
    case rel=>exact ⟨k+1,by omega,by go_num,zf ⟨HI2.out,KQ.out⟩⟩
    case measure=>simp [intOf];omega
   ·have RF:=zf (show res=false from by rw [CB.out,LB.out k x hx (by omega) (by first | trivial | rfl) (by first | trivial | rfl)];rfl)
    have g1:decide ((x.size:Int) < (sp.size:Int))=true:=zlx (by omega);have g2:decide (x.size < sp.size)=true:=zlx (by omega);clear hx HI hle hxs LB;go_wp2_with fail;go_quiet (fail);rename_i nq;have KQ:=zf (KR.out.trans (show Chg (fun _=>False) wr (wr.drewN nq) from (show Zo wr (wr.drewN nq) from ⟨nq,rfl⟩).chg));go_wp2;go_ret;exact zN (by decide) RF.out KQ.out
  ·obtain rfl:k=fr.length:=by omega
   have RL:=zf (show res=lb from by
    rw [CB.out,LG.out (fun j x hj=>HI.out.1 j x (zlA.1 hj).1 hj)];rfl)
   have LI:=zf (LK.out wr KR.out HK1.out HK7.out (by first | trivial | rfl) (by first | trivial | rfl));have x0:=zg (o:=0) OR.out rfl;have x1:=zg (o:=1) OR.out rfl;have x4:=zg (o:=4) OR.out rfl;have x5:=zg (o:=5) OR.out rfl;have x6:=zg (o:=6) OR.out rfl;clear OR HI LK CB LB LG;go_wp2_with fail;(with_reducible refine LI.out.mono ?_);rintro e w6 ⟨rfl,k6⟩;have K6:=zf (KR.out.trans k6);clear k6 LI KR;cases lb with
   | false=>
    go_wp2;go_ret;exact zN (by decide) RL.out K6.out
   | true=>
    go_wp2;go_ret;exact zaP RL.out K6.out
end Go.Proofs.YtcilaocknhphnaaGreat
