/-
  Package proof: Cut.
-/
import Derived.Test.YthdfplafihmejaaGreatZtQNeed
namespace Go.Proofs.YthdfplafihmejaaGreat
open Go.RowKit Go.Maps
def zhN (w:World) (roots:Int) (C:List zq) (p:zL) (e:Ending) (w':World):Prop:=Chg (fun _=>False) w w' ∧
  ((yF roots C p∧∃ iv sv,e=.returned (.tuple #[.agg #[iv,sv],.int .i64 0])∧xg w' iv (fun k=>w.heap.size<=k∧k < w'.heap.size) (zgE roots C p).items∧w'.ownsRow w.heap.size 153 2 sv (zgE roots C p).steps.length (Zv (zgE roots C p).steps)) ∨
   (¬ yF roots C p∧e=.returned (.tuple #[.agg #[.slice none 0 0,.slice none 0 0],.int .i64 2])))
set_option maxHeartbeats 16000000 in
set_option maxRecDepth 100000 in
theorem zpE (w:World) (roots:Int) (v iv sv:Value) (P:List (zq × Value)) (p:zL) (G G':Nat->Prop) (hv:ym w v G P) (hp:Zz w iv sv G' p) (hG:∀ k,G' k->k < w.heap.size) (hf:xz p) (hI:p.items.length<=1000) (hC:∀ c∈zk P,c.fr.length<=1000) (hL:p.steps.length<=1000000) (hLs:∀ x∈p.items,x.paths.length<=1000∧∀ l∈x.paths,l.length<=1000000):
    Calls Tryz.prog 124 #[.int .i64 roots,v,.agg #[iv,sv]] w (zhN w roots (zk P) p):=by
  have HP:=ze hp;have HG:=ze hG;have HF:=ze hf;have HLS:=ze hLs;obtain ⟨la,lcap,hvs,_,_⟩:=id hv;obtain ⟨ia,ic,rfl⟩:=hp.items.shape;obtain ⟨sa,sc,rfl⟩:=hp.steps.shape;have k1:=zi (fun _=>False) w (.cells #[.slice ia p.items.length ic,.slice sa p.steps.length sc] 83);have k2:=zi (fun _=>False) (w.alloc (.cells #[.slice ia p.items.length ic,.slice sa p.steps.length sc] 83)) (.cells #[.slice none 0 0,.slice none 0 0] 83);have o1:=zh (w.alloc (.cells #[.slice ia p.items.length ic,.slice sa p.steps.length sc] 83)) (.cells #[.slice none 0 0,.slice none 0 0] 83);rw [zq8] at o1;have O0:=ze (k2.obj (fun e=>e) (zh w (.cells #[.slice ia p.items.length ic,.slice sa p.steps.length sc] 83)));have O1:=ze o1;have K2:=ze (k1.trans k2);have NU:=zkx ((w.alloc (.cells #[.slice ia p.items.length ic,.slice sa p.steps.length sc] 83)).alloc (.cells #[.slice none 0 0,.slice none 0 0] 83)) roots v (.slice ia p.items.length ic) (.slice sa p.steps.length sc) P p G G' (hv.chg (k1.trans k2) (fun _ _ e=>e)) (hp.chg (k1.trans k2) (fun _ _ e=>e)) hf hI hC;unfold zna at NU;have NU:=ze NU;have TBD:=ze (fun k (hk:k<=p.items.length)=>show tot (zk P) p.items k<=1000000 from Nat.le_trans (zb9 hC p.items k) (by have:=Nat.mul_le_mul_right 1000 (Nat.le_trans hk hI);omega));have OWS:=ze (fun (h:yF roots (zk P) p)=>zdB hf.steps h.last (zrj _))
  have OWP:=ze (fun (h:yF roots (zk P) p) (k:Nat) x (hk:p.items[k]? = some x) (l:zE) (hl:l∈x.paths)=>show zm8 roots (zN (zk P) p.items) p.items.length l from by
    have h1:=h.item k x hk;unfold zes at h1;rw [zrl,zrl] at h1;have hkl:=(zq1.1 hk).1;exact zdB ((hf.items x (zq2 hk)).2 l hl) (zrh.1 h1.2.2 l hl) (by omega))
  have q0:=zf (o:=0) O0.out rfl;have q1:=zf (o:=1) O0.out rfl;have hs2:((w.alloc (.cells #[.slice ia p.items.length ic,.slice sa p.steps.length sc] 83)).alloc (.cells #[.slice none 0 0,.slice none 0 0] 83)).heap.size=w.heap.size+2:=by rw [zq8,zq8]
  have HS2:=ze hs2;subst hvs;clear k1 k2 o1 hv hp hG hf hC hLs hs2;go_enter Tryz.func124,Tryz.ntmps124;go_wp2_with fail;clear q0 q1;generalize (w.alloc (.cells #[.slice ia p.items.length ic,.slice sa p.steps.length sc] 83)).alloc (.cells #[.slice none 0 0,.slice none 0 0] 83)=w1 at *;(with_reducible refine NU.out.mono ?_);rintro e w2 ⟨k2,hres⟩;have O02:=ze (k2.obj (fun e=>e) O0.out);have O12:=ze (k2.obj (fun e=>e) O1.out);have KK2:=ze (K2.out.trans k2);have hs12:w.heap.size+2<=w2.heap.size:=by have:=k2.size;have:=HS2.out;omega
  clear NU O0 O1 K2 k2;rcases hres with ⟨hco,ba,bc,rfl,hrow⟩ | ⟨hno,rfl⟩
  rotate_left
  · have kb:=zi (fun _=>False) w2 (.cells #[.int .i64 0,.slice none 0 0] 217)
    have O1b:=ze (kb.obj (fun e=>e) O12.out);have KB:=ze (KK2.out.trans kb);have NO:=ze hno;have d0:=zf (o:=0) O1b.out rfl;have e0:=zm (o:=0) O1b.out;have d1:=zf (o:=1) O1b.out rfl;have e1:=zm (o:=1) O1b.out;clear kb hno;go_wp2;obtain ⟨W,hW⟩:∃ W,W=((w2.alloc (.cells #[.int .i64 0,.slice none 0 0] 217)).setCell ⟨w.heap.size+1,0,none⟩ (.slice none 0 0)).setCell ⟨w.heap.size+1,1,none⟩ (.slice none 0 0):=⟨_,rfl⟩;rw [<- hW];obtain ⟨ob,kW⟩:=zd6 O1b.out _ _ W hW;clear hW;have z0:W.cell? ⟨w.heap.size+1,0,none⟩=some (.slice none 0 0):=zf ob rfl;have z1:W.cell? ⟨w.heap.size+1,1,none⟩=some (.slice none 0 0):=zf ob rfl;refine bodyPost_ret (v:=.tuple #[.agg #[.slice none 0 0,.slice none 0 0],.int .i64 2]) (by simp [results,Tryz.results124,go_sem,z0,z1]) rfl ?_;exact ⟨KB.out.next kW (fun k hk e=>by omega),.inr ⟨NO.out,rfl⟩⟩
  have HCO:=ze hco;have h0:=hco.root;have HROW:=ze hrow;have BL:=zaF (zk P) p.items;have SRT:=ze (zcy (zk P) p.items);have BG:=ze (fun k (hk:k<=p.items.length)=>@zfJ (zk P) p.items k hk);have NDL:=ze (zdg roots (zN (zk P) p.items) p);have NE:=fun W (kw:Chg (fun _=>False) w2 W)=>zkz W roots ba bc w1.heap.size (zk P) (.slice ia p.items.length ic) (.slice sa p.steps.length sc) p G' (zn hrow kw (fun _ _ e=>e)) (HP.out.chg (KK2.out.trans kw) (fun _ _ e=>e)) (fun k hk=>by have:=HG.out k hk;have:=kw.size;omega) HF.out hco hI;have OWS2:=ze (OWS.out hco);have OWP2:=ze (OWP.out hco);have CE:=ze (show zgE roots (zk P) p=⟨za5 roots (zN (zk P) p.items) (YU (zk P) p.items (xh roots (zN (zk P) p.items) p)) (xh roots (zN (zk P) p.items) p) p.items p.items.length,YZ roots (zN (zk P) p.items) (YU (zk P) p.items (xh roots (zN (zk P) p.items) p)) p.steps⟩ from rfl);obtain ⟨B,hB⟩:∃ B:List Nat,B=zN (zk P) p.items:=⟨_,rfl⟩;obtain ⟨need,hneed⟩:∃ need:List Bool,need=xh roots (zN (zk P) p.items) p:=⟨_,rfl⟩;rw [<- hneed] at CE NDL;simp only [<- hneed] at NE;rw [<- hB] at CE BL HROW SRT OWS2 ⊢;simp only [<- hB] at NE BG OWP2;have hBl:0 < B.length:=by omega
  have hBl2:B.length<=1000000:=by omega
  have BLH:=ze BL;clear BL;unfold znb at NE;have kb:=zi (fun _=>False) w2 (.cells #[.int .i64 roots,.slice ba B.length bc] 217);have NE:=ze (NE _ kb);have OBN:=ze (zh w2 (.cells #[.int .i64 roots,.slice ba B.length bc] 217));have O03:=ze (kb.obj (fun e=>e) O02.out);have O13:=ze (kb.obj (fun e=>e) O12.out);have K3:=ze (KK2.out.trans kb);have ROW3:=ze (zn HROW.out kb (fun _ _ e=>e));have q0:=zf (o:=0) O03.out rfl;have q1:=zf (o:=1) O03.out rfl;have n0:=zf (o:=0) OBN.out rfl;have n1:=zf (o:=1) OBN.out rfl;clear kb hco hrow hB hneed OWS OWP HROW O02 O12 KK2;go_wp2_with fail;clear q0 q1 n0 n1;generalize w2.alloc (.cells #[.int .i64 roots,.slice ba B.length bc] 217)=w3 at *;generalize w2.heap.size=bn at *;have hbn3:bn < w3.heap.size:=zr OBN.out;(with_reducible refine NE.out.mono ?_);rintro e w4 ⟨gnd,rfl,hnd,hgl,k4⟩;have hs34:=k4.size;have O04:=ze (k4.obj (fun e=>e) O03.out);have O14:=ze (k4.obj (fun e=>e) O13.out);have OBN4:=ze (k4.obj (fun e=>e) OBN.out);have ROW4:=ze (zn ROW3.out k4 (fun _ _ e=>e));have ND4:=ze hnd;have K4:=ze (K3.out.trans k4);have hgnd:gnd < w4.heap.size:=zr hnd;have q0:w4.cell? ⟨w.heap.size,0,none⟩=some (.slice ia p.items.length ic):=zf (o:=0) O04.out rfl;have hb4:w.heap.size<=w4.heap.size:=K4.out.size;obtain ⟨bi,hbi,hbz,hb1,hb2⟩:=Tryz.intInfo;clear NE O03 O13 OBN ROW3 hnd k4 K3;go_wp2_with (at_make;refine wpList_make_full _ rfl (.tmp 37) (.tmp 37) 36 rfl w.heap.size 3 bi (.int .i64 0) 1 Tryz.underlying36 hbi hbz hb1 .i64 .i64 (p.items.length:Int) (p.items.length:Int) p.items.length rfl rfl rfl rfl ?b2 ?b3 ?b4 ?next)
  case b2=>rw [hb2];omega
  case b3=>unfold maxLen;omega
  case b4=>exact hb4
  intro w5 own5 g5;have k5:=(Chg.of_grown g5).mono (T:=fun _=>False) (fun _ _ e=>by cases e);obtain ⟨GN,hGN⟩:∃ GN:Nat->List Nat,GN=ze4 (zk P) p.items need p.items.length:=⟨_,rfl⟩;obtain ⟨GT,hGT⟩:∃ GT:Nat->Nat,GT=YU (zk P) p.items need:=⟨_,rfl⟩;obtain ⟨T,hT⟩:∃ T:Nat->Nat,T=tot (zk P) p.items:=⟨_,rfl⟩;have GNS:=ze (fun k (hk:k < p.items.length)=>show GN (k+1)=(GN k).set k (GT k) from by rw [hGN,hGT];exact zkS hk);have GNL:=ze (fun k=>show (GN k).length=p.items.length from by rw [hGN];exact zhn _ _ _ _ _);have GNG:=ze (fun i (hi:i < p.items.length)=>show (GN p.items.length)[i]? = some (GT i) from by rw [hGN,hGT];exact zms hi hi);have GTS:=ze (fun k=>show GT (k+1)=GT k+(if need.getD k false then 0 else T (k+1) - T k) from by rw [hGT,hT];rfl);have GT0:=ze (show GT 0=0 from by rw [hGT];rfl);have GTB:=ze (fun k (hk:k<=p.items.length)=>show GT k<=1000000∧T k<=1000000 from by rw [hGT,hT];exact ⟨Nat.le_trans (zmr _ _ _ _) (TBD.out k hk),TBD.out k hk⟩);have TM:=ze (fun k=>show T k<=T (k+1) from by rw [hT];exact zi4 _ _ _);rw [<- hGT] at CE;rw [<- hT] at BG
  have OG5:=ze (show w5.ownsRow w.heap.size 3 1 (.slice (some ⟨w4.heap.size,0,none⟩) p.items.length p.items.length) p.items.length (Yj (GN 0)) from by
    rw [hGN,zkR,<- zqE]
    first | exact own5 | simpa using own5)
  have hgs5:w4.heap.size < w5.heap.size:=(OG5.out.lt _ rfl).2;have ka:=zi (fun _=>False) w5 (.cells #[.slice (some ⟨w4.heap.size,0,none⟩) p.items.length p.items.length] 36);have k6:=k5.trans ka;have OG6:=ze (zn OG5.out ka (fun _ _ e=>e));have K6:=ze (K4.out.trans k6);have HB0:=ze (zq7 (zr O04.out) (zrj _));have HB1:=ze (zq7 (zr O14.out) (zrj _))
  have DD:=ze (fun W (kW:Chg (fun k=>k=w4.heap.size) (w5.alloc (.cells #[.slice (some ⟨w4.heap.size,0,none⟩) p.items.length p.items.length] 36)) W)=>
    And.intro (kW.obj (Nat.ne_of_lt HB0.out) (k6.obj (fun e=>e) O04.out)) (And.intro (kW.obj (Nat.ne_of_lt HB1.out) (k6.obj (fun e=>e) O14.out)) (And.intro (kW.obj (Nat.ne_of_lt (zr OBN4.out)) (k6.obj (fun e=>e) OBN4.out)) (And.intro (kW.obj (Nat.ne_of_lt hgnd) (k6.obj (fun e=>e) ND4.out))
      (And.intro (kW.obj (Nat.ne_of_gt hgs5) (zh w5 (.cells #[.slice (some ⟨w4.heap.size,0,none⟩) p.items.length p.items.length] 36))) (zn (zn ROW4.out k6 (fun _ _ e=>e)) kW (fun k hk=>Nat.ne_of_lt (ROW4.out.lt k hk).2)))))))
  have q0:(w5.alloc (.cells #[.slice (some ⟨w4.heap.size,0,none⟩) p.items.length p.items.length] 36)).cell? ⟨w.heap.size,0,none⟩=some (.slice ia p.items.length ic):=zf (o:=0) (DD.out _ (Chg.refl _ _)).1 rfl;have hgg:w.heap.size<=w4.heap.size:=hb4;have HSZ:=ze (show bn < w4.heap.size∧w.heap.size+2<=bn∧w4.heap.size < w5.heap.size∧gnd < w4.heap.size∧w.heap.size<=gnd from ⟨by omega,hs12,hgs5,hgnd,by have:=hgl;have:=K4.out.size;omega⟩);have BLOW:=ze (fun k (hk:(Value.slice ba B.length bc).ownBlock=some k)=>(ROW4.out.lt k hk).2);clear hGN hGT hT own5 g5 k5 ka k6 hbi hbz hb1 hb2 OG5 O04 O14 OBN4 ROW4 ND4 K4 TBD HB0 HB1;go_wp2_with fail;clear q0;generalize w5.alloc (.cells #[.slice (some ⟨w4.heap.size,0,none⟩) p.items.length p.items.length] 36)=w6 at *;generalize w5.heap.size=bg at *;generalize w4.heap.size=gg at *;go_loopw [12,42] (fun ov iv wr=>∃ k:Nat,k<=p.items.length∧ov=.int .i64 (GT k:Int)∧iv=.int .i64 k∧Hid (wr.ownsRow w.heap.size 3 1 (.slice (some ⟨gg,0,none⟩) p.items.length p.items.length) p.items.length (Yj (GN k))∧Chg (fun k=>k=gg) w6 wr)) (fun _ iv _=>p.items.length - (intOf iv).toNat)
  case atStart=>exact ⟨0,by omega,by rw [GT0.out];rfl,rfl,ze ⟨OG6.out,Chg.refl _ _⟩⟩
  case round=>
    obtain ⟨k,hk,rfl,rfl,HI⟩:=hrel;have OR:=ze HI.out.1;have KC:=ze HI.out.2;clear HI;by_cases hlt:k < p.items.length
    · as_aux_lemma=>
      have hkn:k < need.length:=by rw [NDL.out];exact hlt
      obtain ⟨bq,hbq⟩:∃ bq,need[k]? = some bq:=⟨_,zq0 hkn⟩;obtain ⟨cs,hcs⟩:=zC OR.out rfl;have old:=OR.out.cellAt (j:=k) (by omega);have hgk:k < (Yj (GN k)).length:=by unfold Yj;rw [zq4,GNL.out];exact hlt
      obtain ⟨ov,hov⟩:∃ ov,(Yj (GN k))[k]? = some ov:=⟨_,zq0 hgk⟩;rw [hov] at old;have fz:=zm (o:=k) hcs;obtain ⟨r0,r1,r2,r3,r4,r5⟩:=DD.out wr KC.out;have c4:=zf (o:=0) r4 rfl;have kc:=KC.out.trans (zG wr gg k (.int .i64 (GT k:Int)));obtain ⟨s0,s1,s2,s3,s4,s5⟩:=DD.out _ kc;have c3:(wr.setCell ⟨gg,k,none⟩ (.int .i64 (GT k:Int))).cell? ⟨gnd,k,none⟩=some (.bool bq):=zf (o:=k) s3 (by rw [zqV,zrb,hbq];rfl)
      have NX:=ze (show (wr.setCell ⟨gg,k,none⟩ (.int .i64 (GT k:Int))).ownsRow w.heap.size 3 1 (.slice (some ⟨gg,0,none⟩) p.items.length p.items.length) p.items.length (Yj (GN (k+1))) from by
        have:=zhb OR.out (i:=k) (.int .i64 (GT k:Int));rw [zn0,<- GNS.out k hlt] at this;exact this)
      have KN:=ze kc;have GE:=ze (show GT (k+1)=GT k+(if bq then 0 else T (k+1) - T k) from by rw [GTS.out,zq6,hbq];rfl);have hkm:(k:Int) < (need.length:Int):=by omega
      cases bq with
      | true=>
        have R:=ze (show GT (k+1)=GT k from by rw [GE.out];simp);clear hbq hcs hov r0 r1 r2 r3 r5 s0 s1 s2 s3 s4 s5 kc GE OR KC DD;go_wp2;go_roundw
        case rel=>exact ⟨k+1,by omega,by rw [R.out],by go_num,ze ⟨NX.out,KN.out⟩⟩
        case measure=>simp [intOf];omega
      | false=>
        have R:=ze (show GT (k+1)=GT k+(T (k+1) - T k) from by rw [GE.out];simp);obtain ⟨gb,rfl⟩:=ZA s5 hBl;have n1:((wr.setCell ⟨gg,k,none⟩ (.int .i64 (GT k:Int))).drew).cell? ⟨bn,1,none⟩=some (.slice (some ⟨gb,0,none⟩) B.length bc):=zf (o:=1) s2 rfl;have hb1:=BG.out (k+1) hlt;have hb0:=BG.out k hk;have bl1:=(zq1.1 hb1).1
        have v1:((wr.setCell ⟨gg,k,none⟩ (.int .i64 (GT k:Int))).drew).cell? ⟨gb,k+1,none⟩=some (.int .i64 (T (k+1):Int)):=by
          have:=s5.cellAt (j:=k+1) (by omega);unfold Yj at this;rw [zrb,hb1] at this;exact this
        have v0:((wr.setCell ⟨gg,k,none⟩ (.int .i64 (GT k:Int))).drew).cell? ⟨gb,k,none⟩=some (.int .i64 (T k:Int)):=by
          have:=s5.cellAt (j:=k) (by omega);unfold Yj at this;rw [zrb,hb0] at this;exact this
        have tm:=TM.out k;obtain ⟨g1',g2'⟩:=GTB.out (k+1) hlt;have x1:IntKind.i64.wrap ((k:Int)+1)=(k:Int)+1:=by rw [IntKind.wrap_i64] <;> omega
        have x4:((k:Int)+1).toNat=k+1:=by omega
        have x5:0<=(k:Int)+1:=by omega
        have x2:IntKind.i64.wrap ((T (k+1):Int) - (T k:Int))=((T (k+1) - T k:Nat):Int):=by rw [IntKind.wrap_i64] <;> omega
        have x3:IntKind.i64.wrap ((GT k:Int)+((T (k+1) - T k:Nat):Int))=(GT (k+1):Int):=by
          have re:=R.out;rw [IntKind.wrap_i64] <;> omega
        have hkb1:(k:Int)+1 < (B.length:Int):=by omega
        have hkb2:k+1 < B.length:=by omega
        have hkb0:(k:Int) < (B.length:Int):=by omega
        have KND:=ze KN.out.drew;have NXD:=ze (zn NX.out (zw (fun _=>False) _) (fun _ _ e=>e));clear hbq hcs hov r0 r1 r2 r3 r5 s0 s1 s2 s3 s4 s5 kc GE OR KC DD hb1 hb0 NX KN tm;go_wp2_with fail;refine xS (by kernel_rfl) (by kernel_rfl) ?_
        repeat still_step
        refine wpStill_nil ?_;go_wp2;go_roundw
        case rel=>exact ⟨k+1,by omega,rfl,by go_num,ze ⟨NXD.out,KND.out⟩⟩
        case measure=>simp [intOf];omega
    · as_aux_lemma=>
      obtain rfl:k=p.items.length:=by omega
      obtain ⟨r0,r1,r2,r3,r4,r5⟩:=DD.out wr KC.out;have KW0:=ze (K6.out.next KC.out (fun i hi e=>by omega))
      have AN:=ze (show zfQ wr bn bg gg roots ba bc w1.heap.size B p.items.length GT from ⟨r2,r4,fun i hi=>by
        have:=OR.out.cellAt (j:=i) (by omega);unfold Yj at this;rw [zrb,GNG.out i hi] at this;exact this,r5⟩)
      have O0W:=ze r0;have O1W:=ze r1;have NDW:=ze r3;have q0:=zf (o:=0) ((zi (fun _=>False) wr (.cells #[.slice none 0 0,.slice none 0 0] 83)).obj (fun e=>e) r0) rfl;have KM:=ze (zi (fun _=>False) wr (.cells #[.slice none 0 0,.slice none 0 0] 83))
      have HZ:=ze (show w.heap.size+2<=wr.heap.size∧w1.heap.size<=wr.heap.size∧wr.heap.size < (wr.alloc (.cells #[.slice none 0 0,.slice none 0 0] 83)).heap.size from ⟨by have:=zr AN.out.on;have:=HSZ.out.2.1;omega,by
        obtain ⟨gb,hgb⟩:=ZA AN.out.row hBl;have:=(AN.out.row.lt gb (by rw [hgb];rfl));omega,by rw [zq8];omega⟩)
      have OBR:=ze (zh wr (.cells #[.slice none 0 0,.slice none 0 0] 83))
      have EE:=ze (fun W (kW:Chg (fun j=>j=wr.heap.size) (wr.alloc (.cells #[.slice none 0 0,.slice none 0 0] 83)) W)=>
        have ne:∀ {k:Nat},k < wr.heap.size->¬ k=wr.heap.size:=fun h e=>by omega
        And.intro (show zfQ W bn bg gg roots ba bc w1.heap.size B p.items.length GT from ⟨kW.obj (ne (zr AN.out.on)) (KM.out.obj (fun e=>e) AN.out.on),kW.obj (ne (zr AN.out.og)) (KM.out.obj (fun e=>e) AN.out.og),fun i hi=>zj kW (ne (World.block_lt_of_cell? wr _ (AN.out.ce i hi))) (zj KM.out (fun e=>e) (AN.out.ce i hi)),zn (zn AN.out.row KM.out (fun _ _ e=>e)) kW (fun k hk=>ne (AN.out.row.lt k hk).2)⟩)
          (And.intro (kW.obj (ne (zr O0W.out)) (KM.out.obj (fun e=>e) O0W.out)) (And.intro (kW.obj (ne (zr O1W.out)) (KM.out.obj (fun e=>e) O1W.out)) (kW.obj (ne (zr NDW.out)) (KM.out.obj (fun e=>e) NDW.out)))))
      have KWM:=ze (KW0.out.trans KM.out)
      have KP0:=ze (show XR (wr.alloc (.cells #[.slice none 0 0,.slice none 0 0] 83)) (wr.alloc (.cells #[.slice none 0 0,.slice none 0 0] 83)) wr.heap.size (.slice none 0 0) (.slice none 0 0) [] (fun _=>False) from
        ⟨OBR.out,⟨rfl,.inl ⟨rfl,rfl⟩⟩,fun x hx=>(by cases hx),fun _ e=>e.elim⟩)
      obtain ⟨KT,hKT⟩:∃ KT:Nat->List zP,KT=za5 roots B GT need p.items:=⟨_,rfl⟩;have KT0:=ze (show KT 0=[] from by rw [hKT];rfl)
      have KTN:=ze (fun k (x:zP) (hx:p.items[k]? = some x) (hn:need[k]? = some false)=>show KT (k+1)=KT k from by
        rw [hKT,zax];unfold ziA;rw [hx];simp only;rw [zq6,hn];simp)
      have KTY:=ze (fun k (x:zP) (hx:p.items[k]? = some x) (hn:need[k]? = some true)=>show KT (k+1)=KT k++[⟨x.cert,x.paths.map (YZ roots B GT)⟩] from by
        rw [hKT,zax];unfold ziA;rw [hx];simp only;rw [zq6,hn];rfl)
      have KTL:=ze (fun k=>show (KT k).length<=k from by rw [hKT];exact zay _ _ _ _ _ _);rw [<- hKT] at CE;clear hKT DD OR KC r0 r1 r2 r3 r4 r5 KM AN O0W NDW GNS GNL GNG GTS GT0 TM BG;go_wp2_with fail;clear q0;generalize wr.alloc (.cells #[.slice none 0 0,.slice none 0 0] 83)=wM at *;generalize wr.heap.size=br at *;go_loopw [73] (fun iv wr=>∃ (k:Nat) (ivv:Value) (xs:List (zP × Value)) (Gx:Nat->Prop),k<=p.items.length∧iv=.int .i64 k∧Hid (XR wM wr br ivv (.slice none 0 0) xs Gx∧Chg (fun j=>j=br) wM wr∧xs.map Prod.fst=KT k)) (fun iv _=>p.items.length - (intOf iv).toNat)
      case atStart=>exact ⟨0,_,[],_,by omega,rfl,ze ⟨KP0.out,Chg.refl _ _,by rw [KT0.out];rfl⟩⟩
      case round=>
        obtain ⟨k,ivv,xs,Gx,hk,rfl,HI⟩:=hrel;have KP:=ze HI.out.1;have KC:=ze HI.out.2.1;have XM:=ze HI.out.2.2;clear HI;by_cases hlt:k < p.items.length
        · as_aux_lemma=>
          obtain ⟨x,hx⟩:∃ x,p.items[k]? = some x:=⟨_,zq0 hlt⟩;have hkn:k < need.length:=by rw [NDL.out];exact hlt
          obtain ⟨bq,hbq⟩:∃ bq,need[k]? = some bq:=⟨_,zq0 hkn⟩;have KW:=ze (KWM.out.next KC.out (fun i hi e=>by have:=HZ.out.1;omega));obtain ⟨_,_,e1,_,hcl⟩:=HP.out.items;cases e1;obtain ⟨lb,lo,pv,rfl,_,j0,j1,hpa⟩:=hcl k _ hx;have hpl:=hpa.len;obtain ⟨pa,pc,rfl⟩:=hpa.shape;have HPA:=ze hpa;have i0:=zj KW.out (fun e=>e) j0;have i1:=zj KW.out (fun e=>e) j1;have KTN1:=ze (fun (q:bq=false)=>KTN.out k x hx (by rw [hbq,q]));have KTY1:=ze (fun (q:bq=true)=>KTY.out k x hx (by rw [hbq,q]));have OWX:=ze (OWP2.out k x hx);have LSX:=ze (HLS.out x (zq2 hx));obtain ⟨cert,paths⟩:=x;simp only at i0 i1 hpl HPA KTY1 OWX LSX;have kx:=zi (fun _=>False) wr (.cells #[.int .i64 cert,.slice pa paths.length pc] 98);have nd:=zf (o:=k) (kx.obj (fun e=>e) (EE.out wr KC.out).2.2.2) (by rw [zqV,zrb,hbq];rfl);have hkm:(k:Int) < (need.length:Int):=by omega
          have OX:=ze (zh wr (.cells #[.int .i64 cert,.slice pa paths.length pc] 98));have KPX:=ze (KP.out.chg kx);have KCX:=ze (KC.out.trans (kx.mono (fun _ _ e=>e.elim)));clear hcl hx hbq hpa j0 j1 KTN KTY OWP2 HLS KP KC kx;cases bq with
          | false=>
            have R:=ze (KTN1.out rfl);go_wp2;go_roundw
            case rel=>exact ⟨k+1,_,_,_,by omega,by go_num,ze ⟨KPX.out,KCX.out,by rw [R.out];exact XM.out⟩⟩
            case measure=>simp [intOf];omega
          | true=>
            have R:=ze (KTY1.out rfl);go_upto_region 20 with fail;clear nd i0 i1;generalize wr.alloc (.cells #[.int .i64 cert,.slice pa paths.length pc] 98)=wx at *;generalize wr.heap.size=bx at *;have x0:=zf (o:=0) OX.out rfl;have kyb:=zi (fun _=>False) wx (.cells #[.int .i64 cert,.slice none 0 0] 98);have x1:=zf (o:=1) (kyb.obj (fun e=>e) OX.out) rfl
            have PI0:=ze (show xR wx (wx.alloc (.cells #[.int .i64 cert,.slice none 0 0] 98)) wx.heap.size cert (.slice none 0 0) [] (fun _=>False) from
              ⟨zh _ _,⟨rfl,.inl ⟨rfl,rfl⟩⟩,fun z hz=>(by cases hz),fun _ e=>e.elim,kyb,zrj _⟩)
            have KWX:=ze (KWM.out.next KCX.out (fun i hi e=>by have:=HZ.out.1;omega));have ANX:=ze (EE.out wx KCX.out).1;have HZX:=ze (show wM.heap.size<=wx.heap.size from KCX.out.size);clear kyb OX KTN1 KTY1;go_wp2_with fail;clear x0 x1;generalize wx.alloc (.cells #[.int .i64 cert,.slice none 0 0] 98)=wy at *;go_loopw [89] (fun jv wr=>∃ (j:Nat) (pv:Value) (zs:List (zE × Value)) (Gz:Nat->Prop),j<=paths.length∧jv=.int .i64 j∧Hid (xR wx wr wx.heap.size cert pv zs Gz∧zs.map Prod.fst=(paths.take j).map (YZ roots B GT))) (fun jv _=>paths.length - (intOf jv).toNat)
            case atStart=>exact ⟨0,_,[],_,by omega,rfl,ze ⟨PI0.out,rfl⟩⟩
            case round=>
              obtain ⟨j,pv,zs,Gz,hj,rfl,HJ⟩:=hrel;obtain ⟨za,zc,ezv⟩:=zl HJ.out.1.row;subst ezv;have PI:=ze HJ.out.1;have ZM:=ze HJ.out.2
              have hzl:zs.length<=1000:=by
                have:=congrArg List.length ZM.out;rw [zq4,zq4,zq5] at this;have:=LSX.out.1;omega
              clear HJ PI0;by_cases hjl:j < paths.length
              · as_aux_lemma=>
                obtain ⟨l,hl⟩:∃ l,paths[j]? = some l:=⟨_,zq0 hjl⟩;have KWJ:=ze (KWX.out.trans PI.out.ch);obtain ⟨_,_,e1,_,hcl⟩:=HPA.out;cases e1;obtain ⟨lb2,lo2,pv2,rfl,_,q0',hst⟩:=hcl j l hl;obtain ⟨qa,qc,rfl⟩:=hst.shape;have q0:=zj KWJ.out (fun e=>e) q0';have AW:=ze (fun W (kW:Chg (fun _=>False) wr W)=>zjF W bn bg gg roots ba bc w1.heap.size B p.items.length GT (.slice qa l.length qc) G' l (ANX.out.chg (PI.out.ch.trans kW)) (hst.chg (KWJ.out.trans kW) (fun _ _ e=>e)) (OWX.out l (zq2 hl)) SRT.out h0 hBl hBl2 (fun i hi=>(GTB.out i (Nat.le_of_lt hi)).1) (LSX.out.2 l (zq2 hl)))
                have ZN:=ze (fun v=>show (zs++[(YZ roots B GT l,v)]).map Prod.fst=(paths.take (j+1)).map (YZ roots B GT) from by
                  rw [List.map_append,ZM.out,zri,hl,List.map_append];rfl)
                have AL:=ze (show (YZ roots B GT l).length=l.length from by unfold YZ;rw [zq4]);have y1:wr.drew.cell? ⟨wx.heap.size,1,none⟩=some (.slice za zs.length zc):=zf (o:=1) PI.out.box rfl;have hzx:wx.heap.size<=wr.heap.size:=PI.out.ch.size;clear hcl hl hst q0';go_wp2_with fail;refine Zk (N:=115) [.rd [0,1,2,3],.ef 4,.ef 5,.ef 6,.ef 7,.ef 8] 8 (fun W=>W.cell? ⟨wx.heap.size,1,none⟩=some (.slice za zs.length zc)) (by kernel_rfl) (by kernel_rfl) (by kernel_rfl) (by kernel_rfl) (by kernel_rfl) (Nat.le_of_ble_eq_true rfl) y1 ?_;refine xu (A:=?A1) ?h1 ?h2
                case h1=>
                  rintro w' z0 K hK;simp only [zM,zqT,zqU,zqV,zqW,zqX]
                  repeat still_step
                  refine wpStill_nil ?_;exact hK
                have kd:=zw (fun _=>False) wr;have AWD:=ze (AW.out _ kd);have PD:=ze (PI.out.chg kd);have hzd:wx.heap.size<=wr.drew.heap.size:=hzx;clear kd y1 q0 AW PI;generalize wr.drew=wd at *;refine zJ rfl ?_;go_wp2_with fail;(with_reducible refine AWD.out.mono ?_);rintro e wa ⟨va,rfl,hoa,ka⟩;obtain ⟨aa,ac,rfl⟩:=zl hoa;have PA:=ze (PD.out.chg ka);have hza:wx.heap.size<=wa.heap.size:=PA.out.ch.size;have HOA:=ze (ZP hoa hzd);have y2:=zf (o:=1) PA.out.box rfl;clear AWD ka hoa PD;go_wp2_with fail
                first | refine ⟨.inr y2,?_⟩ | refine ⟨y2,?_⟩
                refine zJ rfl ?_;go_wp2_with fail;have kb:=zi (fun _=>False) wa (.cells #[.slice aa l.length ac] 81);have PB:=ze (PA.out.chg kb);have HOB:=ze (zn HOA.out kb (fun _ _ e=>e));have obn:=zh wa (.cells #[.slice aa l.length ac] 81);have hzb:wx.heap.size<=(wa.alloc (.cells #[.slice aa l.length ac] 81)).heap.size:=PB.out.ch.size;have y3:=zf (o:=1) PB.out.box rfl
                first | refine ⟨.inr y3,?_⟩ | refine ⟨y3,?_⟩
                clear kb PA HOA y2;refine zJ rfl ?_;refine Zd rfl (.tmp 94) (.tmp 98) 96 rfl 81 1 24 Tryz.underlying96 Tryz.elemSteps wx.heap.size (.slice za zs.length zc) zs.length (zs.map Prod.snd) rfl PB.out.row wa.heap.size [.slice aa l.length ac] 81 (0,0) rfl obn rfl (by intro u hu;simp at hu;subst hu;rfl) (by omega) (by unfold maxLen;omega) hzb ?_;generalize wa.alloc (.cells #[.slice aa l.length ac] 81)=wb at *;intro v9 w9 o9 g9;obtain ⟨a9,c9,rfl⟩:=zl o9;have PP:=PB.out.push (l:=YZ roots B GT l) (v:=.slice aa l.length ac) (by rw [AL.out];exact HOB.out) g9 o9;have bx9:=PP.2;have PN:=ze PP.1;have y4:=zf (o:=1) bx9 rfl;have f4:=zm (o:=1) bx9;clear PP bx9 o9 g9 PB HOB obn y3;go_wp2_with fail
                first | refine ⟨.inr y4,?_⟩ | refine ⟨y4,?_⟩
                refine zJ rfl ?_;go_wp2_with fail
                first | refine ⟨.inr y4,?_⟩ | refine ⟨y4,?_⟩
                refine zJ rfl ?_;go_wp2_with fail
                first | refine ⟨.inl rfl,yA ?_⟩ | (unfold zc8;refine yA ?_)
                go_wp2;go_roundw
                case rel=>exact ⟨j+1,_,_,_,by omega,by go_num,ze ⟨PN.out,ZN.out _⟩⟩
                case measure=>simp [intOf];omega
              · as_aux_lemma=>
                obtain rfl:j=paths.length:=by omega
                rw [zrk] at ZM;obtain ⟨pd1,pd2⟩:=PI.out.done;rw [ZM.out] at pd1;have KPW:=ze (KPX.out.chg PI.out.ch);obtain ⟨va,vc,eiv⟩:=zl KPW.out.row;subst eiv
                have hxl:xs.length<=1000:=by
                  have:=congrArg List.length XM.out;rw [zq4] at this;have:=KTL.out k;omega
                have ka:=zi (fun _=>False) wr (.cells #[.int .i64 cert,.slice za zs.length zc] 98)
                have HPP:=ze (And.intro (pd1.chg ka (fun _ _ e=>e)) (fun k hk=>show wM.heap.size<=k∧∃ cs t,(wr.alloc (.cells #[.int .i64 cert,.slice za zs.length zc] 98)).heap[k]? = some (.cells cs t (0,0))∧(t=81∨t=153) from by
                  obtain ⟨h1,cs,t,q,ht⟩:=pd2 k hk;exact ⟨Nat.le_trans HZX.out h1,cs,t,ka.obj (fun e=>e) q,ht⟩))
                have KPA:=ze (KPW.out.chg ka);have KCA:=ze (KCX.out.trans ((PI.out.ch.trans ka).mono (fun _ _ e=>e.elim)));have b0:=zf (o:=0) KPW.out.box rfl;have y0:=zf (o:=0) PI.out.box rfl;have y1:=zf (o:=1) PI.out.box rfl;have hwm:wM.heap.size<=wr.heap.size:=Nat.le_trans HZX.out PI.out.ch.size;clear pd1 pd2 ka KPW;go_wp2_with (at_builtin;refine Zd rfl (.tmp 103) (.tmp 105) 80 rfl 98 2 32 Tryz.underlying80 Tryz.elemItem wM.heap.size (.slice va xs.length vc) xs.length (Xv xs) rfl KPA.out.row _ [.int .i64 cert,.slice za zs.length zc] 98 (0,0) rfl (zh _ _) rfl ?u1 ?u2 ?u3 ?u4 ?unx)
                case u1=>intro u hu;simp at hu;rcases hu with rfl | rfl <;> rfl
                case u2=>omega
                case u3=>unfold maxLen;omega
                case u4=>first | omega | (rw [zq8];omega)
                intro v5 w5 o5 g5;obtain ⟨a5,c5,rfl⟩:=zl o5;have KPP:=KPA.out.push (y:=⟨cert,paths.map (YZ roots B GT)⟩) HPP.out.1 HPP.out.2 g5 o5;have KPN:=ze KPP.1;have bx5:=KPP.2.1;have b5:=zf (o:=0) bx5 rfl;have f5:=zm (o:=0) bx5
                have KCN:=ze (KCA.out.next KPP.2.2 (fun i hi e=>by
                  rcases e with e | e
                  · exact e
                  · have:=(KPA.out.row.lt i e).1;omega))
                clear KPP bx5 o5 g5 HPP KPA KCA b0 y0 y1;go_wp2;go_roundw
                case rel=>exact ⟨k+1,_,_,_,by omega,by go_num,ze ⟨KPN.out,KCN.out,by rw [R.out,List.map_append,XM.out];rfl⟩⟩
                case measure=>simp [intOf];omega
        · as_aux_lemma=>
          obtain rfl:k=p.items.length:=by omega
          obtain ⟨an,o0,o1,_⟩:=EE.out wr KC.out;have KW:=ze (KWM.out.next KC.out (fun i hi e=>by have:=HZ.out.1;omega));have AW:=ze (zjF wr bn bg gg roots ba bc w1.heap.size B p.items.length GT (.slice sa p.steps.length sc) G' p.steps an (HP.out.steps.chg KW.out (fun _ _ e=>e)) OWS2.out SRT.out h0 hBl hBl2 (fun i hi=>(GTB.out i (Nat.le_of_lt hi)).1) hL);have q1:=zf (o:=1) o0 rfl;have O1R:=ze o1;clear an o0 o1;go_wp2_with fail;clear q1;(with_reducible refine AW.out.mono ?_);rintro e wa ⟨vs,rfl,hoa,ka⟩;have KPA:=ze (KP.out.chg ka);have HOA:=ze hoa;have O1A:=ze (ka.obj (fun e=>e) O1R.out);have KWA:=ze (KW.out.trans ka);obtain ⟨ss,sc2,evs⟩:=zl hoa;subst evs;have hwa:=ka.size;have hbl1:w.heap.size+1≠br:=by have:=HZ.out.1;omega
          have s0:=zf (o:=0) KPA.out.box rfl;have s1:=zf (o:=1) KPA.out.box rfl;have t1:=zm (o:=1) KPA.out.box;obtain ⟨va,vc,eiv⟩:=zl KPA.out.row;subst eiv;have ob1:=zt (o:=1) KPA.out.box (.slice ss p.steps.length sc2);have kb1:=zG wa br 1 (.slice ss p.steps.length sc2);have u0:(wa.setCell ⟨br,1,none⟩ (.slice ss p.steps.length sc2)).cell? ⟨br,0,none⟩=some (.slice va xs.length vc):=zf (o:=0) ob1 rfl;have u1:(wa.setCell ⟨br,1,none⟩ (.slice ss p.steps.length sc2)).cell? ⟨br,1,none⟩=some (.slice ss p.steps.length sc2):=zf (o:=1) ob1 rfl;have o1b:=kb1.obj hbl1 O1A.out;have d0:=zf (o:=0) o1b rfl;have e0:=zm (o:=0) o1b;have d1:=zf (o:=1) o1b rfl;have e1:=zm (o:=1) o1b;have O1B:=ze o1b;have KB1:=ze kb1;clear AW ka hoa ob1 kb1 o1b;go_wp2;obtain ⟨W,hW⟩:∃ W,W=((wa.setCell ⟨br,1,none⟩ (.slice ss p.steps.length sc2)).setCell ⟨w.heap.size+1,0,none⟩ (.slice va xs.length vc)).setCell ⟨w.heap.size+1,1,none⟩ (.slice ss p.steps.length sc2):=⟨_,rfl⟩;rw [<- hW];obtain ⟨ob,kW⟩:=zd6 O1B.out _ _ W hW;clear hW;have z0:W.cell? ⟨w.heap.size+1,0,none⟩=some (.slice va xs.length vc):=zf ob rfl;have z1:W.cell? ⟨w.heap.size+1,1,none⟩=some (.slice ss p.steps.length sc2):=zf ob rfl;refine bodyPost_ret (v:=.tuple #[.agg #[.slice va xs.length vc,.slice ss p.steps.length sc2],.int .i64 0]) (by simp [results,Tryz.results124,go_sem,z0,z1]) rfl ?_;have kk:Chg (fun k=>k=br∨k=w.heap.size+1) wa W:=(KB1.out.mono (fun k _ e=>.inl e)).trans (kW.mono (fun k _ e=>.inr e));have hwM:=KWM.out.size;have hz:=HZ.out;have kfin:Chg (fun _=>False) w W:=KWA.out.next kk (fun i hi e=>by rcases e with e | e <;> omega)
          have it:=zcj KPA.out.row KPA.out.ent
          have tyG:∀ k,(Gx k∨(Value.slice va xs.length vc).ownBlock=some k)->wM.heap.size<=k∧∃ cs t,wa.heap[k]? = some (.cells cs t (0,0))∧t≠83:=fun k hk=>by
            rcases hk with hk | hk
            · obtain ⟨h1,cs,t,q,ht⟩:=KPA.out.typ k hk
              exact ⟨h1,cs,t,q,by rcases ht with rfl | rfl <;> decide⟩
            · obtain ⟨cs,q⟩:=zC KPA.out.row hk
              exact ⟨(KPA.out.row.lt k hk).1,cs,_,q,by decide⟩
          have nott:∀ k,(Gx k∨(Value.slice va xs.length vc).ownBlock=some k)->¬ (k=br∨k=w.heap.size+1):=fun k hk e=>by
            obtain ⟨_,cs,t,q,ht⟩:=tyG k hk;rcases e with e | e
            · exact zZ q KPA.out.box ht e
            · exact zZ q O1A.out ht e
          have it2:=(it.chg kk nott).up (G':=fun k=>w.heap.size<=k∧k < W.heap.size) (fun k hk=>by
            obtain ⟨h1,cs,t,q,_⟩:=tyG k hk;have h2:=zr (kk.obj (nott k hk) q);exact ⟨by omega,h2⟩)
          rw [XM.out] at it2
          have hst:=zn HOA.out kk (fun k hk e=>by
            have h1:=(HOA.out.lt k hk).1;have:=KC.out.size;rcases e with e | e <;> omega)
          have e8:(YZ roots B GT p.steps).length=p.steps.length:=by unfold YZ;rw [zq4]
          refine ⟨kfin,.inl ⟨HCO.out,_,_,rfl,?_,?_⟩⟩
          · rw [CE.out]
            exact it2
          · rw [CE.out]
            simp only;rw [e8];exact ZP hst (by have:=KC.out.size;omega)
end Go.Proofs.YthdfplafihmejaaGreat
