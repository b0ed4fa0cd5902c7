/-
  Layer 23: the roots, told by the evaluator. Package node: copied, and Record. The reference's Same, of a record and itself. What an argument's reading says: a record.
-/
import Derived.KernelRfl
import Derived.Test.YtcilaocknhphnaaGreatProg
import Derived.Test.YtcilaocknhphnaaGreatZrKit2
import Derived.Test.YtcilaocknhphnaaGreatZrNWide
import Derived.Test.YtcilaocknhphnaaGreatZrCCert1
import Derived.Test.YtcilaocknhphnaaGreatZrNAt
import Derived.Test.YtcilaocknhphnaaGreatZrJModel
import Derived.Test.YtcilaocknhphnaaGreatZrANew
import Derived.Test.YtcilaocknhphnaaGreatZrARef
import Derived.Test.YtcilaocknhphnaaGreatZrAEnt
namespace Go.Proofs.YtcilaocknhphnaaGreat
open Go.RowKit
def zcq (P:Program):Ev.V2:=zbq P [24] [] Ev.H0
@[irreducible] def hR (P:Program):Ev.H:=Ev.hOf (zcq P)
def vR (P:Program):Ev.AV:=Ev.vOf (zcq P)
def zb7:Ev.AV->Bool
  | .sl _ _ n _ _=>Nat.beq n 3
  | _=>false
theorem zbY:zcq Tryz.prog=.one (vR Tryz.prog) (hR Tryz.prog):=by kernel_rfl
theorem zeq:zb7 (vR Tryz.prog)=true:=by kernel_rfl
def zgo:Code->Code
  | .seq _ (.block _ b)=>b
  | c=>c
def za7 (fn:Func):Code:=zgo ((fn.body.bind (zcO 6)).getD .skip)
def tlR (P:Program) (i:Int):List Ev.AV:=[.junk,.int .i64 i,.ptr (hR P).n 0,.junk,.junk,vR P,.junk,.junk,.junk,.junk,.junk,.junk,.junk,.junk,.junk,.junk,.junk,vR P,.int .i64 3,.int .i64 0,.junk,.junk,.junk,.junk,.junk,.junk,.junk,.junk,.junk,.junk,.junk,.junk,.junk,.junk,.junk,.junk,.junk,.junk,.junk,.junk,.junk,.junk,.junk,.junk,.junk,.junk,.junk,.junk,.junk,.junk,.junk,.junk,.junk,.junk,.junk,.junk,.junk,.junk,.junk,.junk,.junk,.junk,.junk,.junk,.junk,.junk,.junk,.junk,.junk,.junk,.junk,.junk,.junk,.junk,.junk,.junk,.junk,.junk,.junk,.junk,.junk,.junk,.junk,.junk,.junk,.junk,.junk,.junk]
def XF (P:Program) (fn:Func) (i:Int):Ev.O3:=
  (Ev.comp P false 88 (za7 fn)).run (zbq P) (Ev.argsT (tlR P i) 0 .lf) ((hR P).add .gone)
theorem zbX (i:Int):XF Tryz.prog Tryz.f4 i=.one (.exit 0) (Ev.tmOf (XF Tryz.prog Tryz.f4 i)) (Ev.hpOf (XF Tryz.prog Tryz.f4 i)):=by kernel_rfl
theorem zeG (i:Int):(Ev.acc Ev.AV.bad 1).run (Ev.tmOf (XF Tryz.prog Tryz.f4 i))=.int .i64 i:=by kernel_rfl
theorem zeF (i:Int):(Ev.acc Ev.AV.bad 2).run (Ev.tmOf (XF Tryz.prog Tryz.f4 i))=.ptr (hR Tryz.prog).n 0:=by kernel_rfl
theorem zet (a:Array Value):a=((List.range a.size).map fun k=>a.getD k undef).toArray:=by
  apply Array.ext
  · simp
  · intro k h1 h2
    simp [Array.getD_eq_getD_getElem?,Array.getElem?_eq_getElem h1]
theorem zgr (a:Array Value) (h:a.size=88):∃ g:Nat->Value,(∀ k,a.getD k undef=g k)∧a=#[g 0,g 1,g 2,g 3,g 4,g 5,g 6,g 7,g 8,g 9,g 10,g 11,g 12,g 13,g 14,g 15,g 16,g 17,g 18,g 19,g 20,g 21,g 22,g 23,g 24,g 25,g 26,g 27,g 28,g 29,g 30,g 31,g 32,g 33,g 34,g 35,g 36,g 37,g 38,g 39,g 40,g 41,g 42,g 43,g 44,g 45,g 46,g 47,g 48,g 49,g 50,g 51,g 52,g 53,g 54,g 55,g 56,g 57,g 58,g 59,g 60,g 61,g 62,g 63,g 64,g 65,g 66,g 67,g 68,g 69,g 70,g 71,g 72,g 73,g 74,g 75,g 76,g 77,g 78,g 79,g 80,g 81,g 82,g 83,g 84,g 85,g 86,g 87]:=
  ⟨fun k=>a.getD k undef,fun _=>rfl,by have:=zet a;rw [h] at this;exact this.trans (by kernel_rfl)⟩
open Go.Maps
set_option maxHeartbeats 4000000 in
set_option maxRecDepth 100000 in
theorem zdf (w:World) (x:zO) (a:Option Addr) (n c:Nat) (G:Nat->Prop) (hv:ZV w (.slice a n c) G x.2) (h1:1<=x.2.length) (h2:x.2.length<=1000):
    Calls Tryz.prog 78 #[.agg #[.int .i64 x.1,.slice a n c]] w fun e w'=>∃ v,e=.returned (.agg #[.int .i64 x.1,v])∧w'.ownsRow w.heap.size 29 1 v x.2.length (zV x.2)∧Chg (fun _=>False) w w':=by
  obtain ⟨g,o,rfl,hg⟩:=hv.some (by omega);have CL:=zf (fun w1 (k:Chg (fun _=>False) w w1)=>xU w1 g o n c G x.2 (hv.at_.chg k (fun _ _ e=>e)) h2);clear hv;obtain ⟨op,l⟩:=x;simp only at CL h1 h2 ⊢;have k1:=(zj (fun _=>False) w (.cells #[.int .i64 op,.slice (some ⟨g,o,none⟩) n c] 34)).alloc (.cells #[.int .i64 0,.slice none 0 0] 34);have o1:=Zg (.cells #[.int .i64 0,.slice none 0 0] 34) (zh w (.cells #[.int .i64 op,.slice (some ⟨g,o,none⟩) n c] 34));have o2:=zh (w.alloc (.cells #[.int .i64 op,.slice (some ⟨g,o,none⟩) n c] 34)) (.cells #[.int .i64 0,.slice none 0 0] 34);rw [zg0] at o2;have O1:=zf o1;have O2:=zf o2;have K1:=zf k1;have c0:=zg (o:=0) o1 rfl;have c1:=zg (o:=1) o1 rfl;clear k1 o1 o2;go_enter Tryz.func78,Tryz.ntmps78;go_wp2_with fail;generalize (w.alloc (.cells #[.int .i64 op,.slice (some ⟨g,o,none⟩) n c] 34)).alloc (.cells #[.int .i64 0,.slice none 0 0] 34)=w1 at *;refine Zf (N:=9) [.rd [0,1,2,3],.ef 4,.ef 5,.ef 6] 6 (fun W=>W.cell? ⟨w.heap.size,0,none⟩=some (.int .i64 op)∧W.cell? ⟨w.heap.size,1,none⟩=some (.slice (some ⟨g,o,none⟩) n c)) (by kernel_rfl) (by kernel_rfl) (by kernel_rfl) (by kernel_rfl) (by kernel_rfl) (Nat.le_of_ble_eq_true rfl) ⟨c0,c1⟩ ?_;refine YD (A:=?A1) ?h1 ?h2
  case h1=>
    rintro w' ⟨z0,z1⟩ K hK;simp only [zJ,zgL,zgM,zgN,zgO,zgP]
    repeat still_step
    refine wpStill_nil ?_;exact hK
  have KD:=zf (K1.out.drew);have D1:=zf ((zA (fun _=>False) w1).obj (fun e=>e) O1.out);have D2:=zf ((zA (fun _=>False) w1).obj (fun e=>e) O2.out);clear c0 c1 O1 O2 K1;generalize w1.drew=wd at *;have C1:=zf (CL.out wd KD.out);refine zz rfl ?_;go_wp2_with fail;(with_reducible refine C1.out.mono ?_);rintro e w2 ⟨v2,rfl,r2,k2⟩;obtain ⟨a2,c2,rfl⟩:=zq r2;have E1:=k2.obj (fun e=>e) D1.out;have E2:=k2.obj (fun e=>e) D2.out;have c0:=zg (o:=0) E1 rfl;have c1:=zg (o:=1) E1 rfl;have d0:=zg (o:=0) E2 rfl;have d1:=zg (o:=1) E2 rfl;have f0:=zn (o:=0) E2;have f1:=zn (o:=1) E2;have kk:Chg (fun k=>k=w.heap.size+1) w2 ((w2.setCell ⟨w.heap.size+1,0,none⟩ (.int .i64 op)).setCell ⟨w.heap.size+1,1,none⟩ (.slice a2 l.length c2)):=(zy w2 (w.heap.size+1) 0 (.int .i64 op)).trans (zy _ (w.heap.size+1) 1 (.slice a2 l.length c2));have ob:=zk (o:=1) (zk (o:=0) E2 (.int .i64 op)) (.slice a2 l.length c2);have hwd:w.heap.size+2<=wd.heap.size:=by have:=zl D2.out;omega
  have FIN:=zf (And.intro (zai (zo r2 kk (fun k hk e=>by have:=(r2.lt k hk).1;omega)) (show w.heap.size<=wd.heap.size by omega)) (And.intro ((KD.out.trans k2).next kk (fun k hk (e:k=w.heap.size+1)=>by omega)) ob));clear r2 k2 E1 E2 kk ob C1 CL D1 D2 KD;go_wp2_with fail
  first | refine ⟨.inr ⟨c0,c1⟩,?_⟩ | refine ⟨⟨c0,c1⟩,?_⟩
  refine zz rfl ?_;go_wp2_with fail
  first | refine ⟨.inr ⟨c0,c1⟩,?_⟩ | refine ⟨⟨c0,c1⟩,?_⟩
  refine zz rfl ?_;go_wp2_with fail
  first | refine ⟨.inl rfl,ZI ?_⟩ | (unfold xE;refine ZI ?_)
  obtain ⟨r1,r2,r3⟩:=FIN.out;have z0:=zg (o:=0) r3 rfl;have z1:=zg (o:=1) r3 rfl;go_wp2;refine bodyPost_ret (v:=.agg #[.int .i64 op,.slice a2 l.length c2]) (by simp [results,Tryz.results78,go_sem,z0,z1]) rfl ?_;exact ⟨_,rfl,r1,r2⟩
set_option maxHeartbeats 8000000 in
set_option maxRecDepth 100000 in
theorem zcT (w:World) (r:xK) (b q0:Nat) (oa:Option Addr) (oc:Nat) (G:Nat->Prop) (hb0:w.cell? ⟨b,q0+6,none⟩=some (.int .i64 r.boot)) (hb1:w.cell? ⟨b,q0+7,none⟩=some (.slice oa r.objs.length oc)) (h:zN w (.slice oa r.objs.length oc) G r.objs) (hG:∀ k,G k->k < w.heap.size)
    (hr:∀ o∈r.objs,(∀ x∈o.ents,zaq x=true)∧o.ents.length<=12) (hn:r.objs.length<=6):
    Calls Tryz.prog 21 #[.pointer (some ⟨b,q0,none⟩)] w fun e w'=>∃ v,e=.returned v∧zfh w' v (fun k=>w.heap.size<=k∧k < w'.heap.size) r∧Chg (fun _=>False) w w':=by
  have HO:=zf h;have HG:=zf hG;have HR:=zf hr;have hbw:b < w.heap.size:=World.block_lt_of_cell? w _ hb0;have ka:=zj (fun _=>False) w (.cells #[.int .i64 0,.slice none 0 0] 40);have za:w.heap.size < (w.alloc (.cells #[.int .i64 0,.slice none 0 0] 40)).heap.size:=by rw [zg0];omega
  have OA:=zf (zh w (.cells #[.int .i64 0,.slice none 0 0] 40));have e0:=zi ka (fun e=>e) hb0;have e1:=zi ka (fun e=>e) hb1;have kb:=zj (fun _=>False) (w.alloc (.cells #[.int .i64 0,.slice none 0 0] 40)) (.cells #[.int .i64 r.boot,.slice none 0 0] 40);have zb:(w.alloc (.cells #[.int .i64 0,.slice none 0 0] 40)).heap.size < ((w.alloc (.cells #[.int .i64 0,.slice none 0 0] 40)).alloc (.cells #[.int .i64 r.boot,.slice none 0 0] 40)).heap.size:=by rw [zg0 _ (.cells #[.int .i64 r.boot,.slice none 0 0] 40)];omega
  have go2:=zfl (w.alloc (.cells #[.int .i64 0,.slice none 0 0] 40)) r.boot;rw [zg0] at go2;have GO2:=zf go2;clear go2;have OA2:=zf (kb.obj (fun e=>e) OA.out);have K2:=zf (show Chg (fun k=>w.heap.size<=k) w ((w.alloc (.cells #[.int .i64 0,.slice none 0 0] 40)).alloc (.cells #[.int .i64 r.boot,.slice none 0 0] 40)) from (ka.trans kb).mono (fun _ _ e=>e.elim));have x1:=zi kb (fun e=>e) e1;have hlm:r.objs.length<=maxLen:=by unfold maxLen;omega
  obtain ⟨bo,objs⟩:=r;simp only at *;clear h hG hr ka kb hb0 hb1 OA;go_enter Tryz.func21,Tryz.ntmps21;go_wp2;clear e0 e1;generalize hA0:w.heap.size=A0 at *;have HA0:=zf hA0;clear hA0;generalize hR:A0+1=R at *;have hA0R:A0 < R:=by omega
  clear hR;generalize (w.alloc (.cells #[.int .i64 0,.slice none 0 0] 40)).alloc (.cells #[.int .i64 bo,.slice none 0 0] 40)=w2 at *;have hRw:R < w2.heap.size:=by obtain ⟨_,_,q⟩:=GO2.out;exact zl q.1
  go_loopw [21] (fun iv wr=>∃ k:Nat,k<=objs.length∧iv=.int .i64 (k:Int)∧Hid (GO wr R bo (objs.take k))∧Hid (wr.heap[A0]? = some (.cells #[.int .i64 0,.slice none 0 0] 40 (0,0)))∧Hid (Chg (fun k=>A0<=k) w wr)) (fun iv _=>objs.length - (intOf iv).toNat)
  case atStart=>exact ⟨0,by omega,rfl,GO2,OA2,K2⟩
  case round=>
    clear GO2 OA2 K2 x1 hRw;obtain ⟨k,hk,rfl,HI,HA,HC⟩:=hrel;by_cases hlt:k < objs.length
    · obtain ⟨o,ho⟩:∃ o,objs[k]? = some o:=⟨_,zgS hlt⟩
      obtain ⟨EB,e12⟩:=HR.out o (zgU ho);have EB:=zf EB;have TK:=zf (show objs.take (k+1)=objs.take k++[o] from by rw [zha,ho];rfl);obtain ⟨g,p,ea,ec,rfl,_,d0,d1,d2,he⟩:=(HO.out.chg HC.out (fun k hk (e:A0<=k)=>by have:=HG.out k hk;have:=HA0.out;omega)).get ho;have hRr:R < wr.heap.size:=by obtain ⟨_,_,q⟩:=HI.out;exact zl q.1
      obtain ⟨va,vb,ents⟩:=o;simp only at *;have kb:=zj (fun _=>False) wr (.cells #[.int .i64 va,.slice ea ents.length ec,.int .i64 vb] 37);have zb:wr.heap.size < (wr.alloc (.cells #[.int .i64 va,.slice ea ents.length ec,.int .i64 vb] 37)).heap.size:=by rw [zg0];omega
      have kn:=zj (fun x=>wr.heap.size<=x) wr (.cells #[.int .i64 va,.slice none 0 0,.int .i64 vb] 37);have GE3:=zf (zfm wr va vb);have KW0:=zf kn;have OBT:=zh wr (.cells #[.int .i64 va,.slice ea ents.length ec,.int .i64 vb] 37);have y1:=zg (o:=1) OBT rfl;have fy:=zn (o:=1) OBT;have HE:=zf he;clear he kb kn OBT ho;go_wp2;clear y1 fy d0 d1 d2;have zT:wr.heap.size < (wr.alloc (.cells #[.int .i64 va,.slice none 0 0,.int .i64 vb] 37)).heap.size:=by rw [zg0];omega
      generalize wr.alloc (.cells #[.int .i64 va,.slice none 0 0,.int .i64 vb] 37)=w3 at *;generalize hwo:wr=wo at *;clear hwo;generalize hT:wo.heap.size=T at *;have HT:=zf hT;clear hT zb;go_loopw [30] (fun jv wr=>∃ j:Nat,j<=ents.length∧jv=.int .i64 (j:Int)∧Hid (GE wr T va vb (ents.take j))∧Hid (Chg (fun x=>T<=x) wo wr)) (fun jv _=>ents.length - (intOf jv).toNat)
      case atStart=>exact ⟨0,by omega,rfl,GE3,KW0⟩
      case round=>
        clear GE3 KW0;obtain ⟨j,hj,rfl,HGE0,KW⟩:=hrel;obtain ⟨ev,E,hge⟩:=HGE0.out;have hEl:E.length=j:=by have:=hge.2.2.len;rw [zgX] at this;omega
        obtain ⟨sa0,sc0,rfl⟩:=zq hge.2.1;have HGE:=zf hge;rw [hEl] at HGE;have c1:=zg (o:=1) HGE.out.1 rfl;have hTw:T < wr.heap.size:=zl hge.1;have HEw:=zf (HE.out.chg KW.out (fun k hk (e:T<=k)=>by have:=HG.out k hk;have:=HA0.out;omega));by_cases hlt2:j < ents.length
        · obtain ⟨x,hx⟩:∃ x,ents[j]? = some x:=⟨_,zgS hlt2⟩
          have hxb:=EB.out x (zgU hx);obtain ⟨l1,l16⟩:=YC (ZU.1 hxb).2
          have SZW:=zf (show ∀ y∈x.2,y.size<=maxLen from fun y hy=>by
            have:=Xe (yJ (ZU.1 hxb).2 hy);unfold maxLen;rw [<- zt];omega)
          have TX:=zf (show ents.take (j+1)=ents.take j++[x] from by rw [zha,hx];rfl);obtain ⟨g2,p2,sa,sc,rfl,_,y0,y1,hs⟩:=HEw.out.get hx;obtain ⟨op,who⟩:=x;simp only at *;have HRY:=zf (fun q (hq:(Value.slice sa0 j sc0).ownBlock=some q)=>show q < wr.heap.size from (HGE.out.ne hq).2);have kx:=zj (fun _=>False) wr (.cells #[.int .i64 op,.slice sa who.length sc] 34);have OX:=zf (zh wr (.cells #[.int .i64 op,.slice sa who.length sc] 34));have HGx:=zf (HGE.out.chg kx (fun k h1 h2 e=>e));have KX:=zf (KW.out.trans (kx.mono (fun _ _ e=>e.elim)));have HSx:=zf (hs.chg kx (fun _ _ e=>e));have cx:=zg (o:=1) HGx.out.1 rfl;have x0:=zg (o:=0) OX.out rfl;have x1:=zg (o:=1) OX.out rfl;clear kx hs hge HGE0 c1 hx;go_wp2_with fail;clear y0 y1;generalize hY:wr.heap.size=Y at *;clear hY;generalize wr.alloc (.cells #[.int .i64 op,.slice sa who.length sc] 34)=wx at *;refine Zf (N:=50) [.rd [0,1,2],.ef 3,.ef 4,.ef 5,.ef 6,.ef 7] 7 (fun W=>W.cell? ⟨T,1,none⟩=some (.slice sa0 j sc0)∧W.cell? ⟨Y,0,none⟩=some (.int .i64 op)∧W.cell? ⟨Y,1,none⟩=some (.slice sa who.length sc)) (by kernel_rfl) (by kernel_rfl) (by kernel_rfl) (by kernel_rfl) (by kernel_rfl) (Nat.le_of_ble_eq_true rfl) ⟨cx,x0,x1⟩ ?_;refine YD (A:=?A1) ?h1 ?h2
          case h1=>
            rintro w' ⟨z0,z1,z2⟩ K hK;simp only [zJ,zgL,zgM,zgN,zgO,zgP]
            repeat still_step
            refine wpStill_nil ?_;exact hK
          have kd:=zA (fun _=>False) wx;have HGd:=zf (HGx.out.chg kd (fun k h1 h2 e=>e));have KD:=zf (KX.out.trans (kd.mono (fun _ _ e=>e.elim)));have OD:=zf (kd.obj (fun e=>e) OX.out);have CP:=zf (zdf wx.drew (op,who) sa who.length sc G (HSx.out.chg kd (fun _ _ e=>e)) l1 (by simp only;omega));clear kd cx x0 x1 HGx KX OX HSx HGE KW HEw;generalize wx.drew=wd at *;simp only at CP;refine zz rfl ?_;go_wp2_with fail;(with_reducible refine CP.out.mono ?_);rintro e wb ⟨sv,rfl,ob,kb⟩;have HGb:=zf (HGd.out.chg kb (fun k h1 h2 e=>e));have Kb:=zf (KD.out.trans (kb.mono (fun _ _ e=>e.elim)));have OBb:=kb.obj (fun e=>e) OD.out
          have SA:=zf ((yK ob SZW.out).up (G':=fun y=>T < y∧y < wb.heap.size∧(Value.slice sa0 j sc0).ownBlock≠some y) (fun y hy=>by
            have h1:=ob.lt y hy;have h2:T < wd.heap.size:=zl HGd.out.1;exact ⟨by omega,h1.2,fun e=>by have:=(HGd.out.ne e).2;omega⟩))
          have cb:=zg (o:=1) HGb.out.1 rfl;have b0:=zg (o:=0) OBb rfl;have b1:=zg (o:=1) OBb rfl;obtain ⟨va1,vc1,rfl⟩:=zq ob;have OBY:=zf OBb;clear ob kb CP HGd KD OD OBb;go_wp2_with fail
          first | refine ⟨.inr ⟨cb,b0,b1⟩,?_⟩ | refine ⟨⟨cb,b0,b1⟩,?_⟩
          refine zz rfl ?_;have kc:=zj (fun _=>False) wb (.cells #[.int .i64 op,.slice va1 who.length vc1] 34);have zc:wb.heap.size < (wb.alloc (.cells #[.int .i64 op,.slice va1 who.length vc1] 34)).heap.size:=by rw [zg0];omega
          have HGc:=zf (HGb.out.chg kc (fun k h1 h2 e=>e));have SAc:=zf ((SA.out.chg kc (fun k hk e=>e)).up (G':=fun y=>T < y∧y < (wb.alloc (.cells #[.int .i64 op,.slice va1 who.length vc1] 34)).heap.size∧(Value.slice sa0 j sc0).ownBlock≠some y) (fun y hy=>⟨hy.1,by omega,hy.2.2⟩));have Kc:=zf (Kb.out.trans (kc.mono (fun _ _ e=>e.elim)));have OX:=zf (zh wb (.cells #[.int .i64 op,.slice va1 who.length vc1] 34));have OYc:=kc.obj (fun e=>e) OBY.out;have cc:=zg (o:=1) HGc.out.1 rfl;have b0':=zg (o:=0) OYc rfl;have b1':=zg (o:=1) OYc rfl;have hYw:Y < wb.heap.size:=zl OBY.out;have OYC:=zf OYc;clear kc HGb SA Kb cb b0 b1 OYc OBY;go_wp2_with fail;generalize hXX:wb.heap.size=X at *;clear hXX;generalize wb.alloc (.cells #[.int .i64 op,.slice va1 who.length vc1] 34)=wc at *
          first | refine ⟨.inr ⟨cc,b0',b1'⟩,?_⟩ | refine ⟨⟨cc,b0',b1'⟩,?_⟩
          refine zz rfl ?_;have OWN:=HGc.out.2.1;rw [hEl] at OWN;have hTc:T < wc.heap.size:=zl HGc.out.1;refine zR rfl (.tmp 35) (.tmp 38) 35 rfl 34 2 32 Tryz.underlying35 Tryz.elemEntry T (.slice sa0 j sc0) j (zH E) rfl OWN X [.int .i64 op,.slice va1 who.length vc1] 34 (0,0) rfl OX.out rfl (by intro u hu;simp at hu;rcases hu with rfl | rfl <;> rfl) (by omega) (by unfold maxLen;omega) (by omega) ?_;intro v5 w10 o5 g5 sn;obtain ⟨a5,c5,rfl⟩:=zq o5;obtain ⟨p1,p2⟩:=HGc.out.push (x:=(op,who)) (ev':=.slice a5 (j+1) c5) SAc.out (by rw [hEl];exact o5) (Chg.of_grown g5) sn;rw [<- TX.out] at p1;have P1:=zf p1;have P2:=zf (Kc.out.trans p2);have h10:=(Chg.of_grown g5).obj (fun e=>by have:=(HGc.out.ne e).1;omega) HGc.out.1;have hYne:(Value.slice sa0 j sc0).ownBlock≠some Y:=fun e=>by have:=HRY.out Y e;omega
          have hy10:=(Chg.of_grown g5).obj hYne OYC.out;have q1:=zg (o:=1) h10 rfl;have q2:=zg (o:=0) hy10 rfl;have q3:=zg (o:=1) hy10 rfl;have f1:=zn (o:=1) h10;clear p1 p2 o5 g5 sn OWN OX HGc SAc Kc cc h10 hy10;go_wp2_with fail
          first | refine ⟨.inr ⟨q1,q2,q3⟩,?_⟩ | refine ⟨⟨q1,q2,q3⟩,?_⟩ | skip
          refine zz rfl ?_;go_wp2_with fail
          first | refine ⟨.inr ⟨q1,q2,q3⟩,?_⟩ | refine ⟨⟨q1,q2,q3⟩,?_⟩ | skip
          refine zz rfl ?_;refine Za rfl 35 (.tmp 40) (.tmp 39) rfl T 1 rfl (.slice a5 (j+1) c5) rfl rfl rfl Tryz.sizeEntries _ q1 f1 ?_;intro w11 hw11;rw [<- hw11] at P1 P2
          first | refine ⟨.inl rfl,ZI ?_⟩ | (unfold xE;refine ZI ?_)
          clear hw11 q1 f1 q2 q3;go_wp2;go_roundw
          case rel=>exact ⟨j+1,by omega,by go_num,zf ⟨_,_,P1.out⟩,P2⟩
          case measure=>simp [intOf];omega
        · obtain rfl:j=ents.length:=by omega
          obtain ⟨ov,EO,hgo0⟩:=HI.out;obtain ⟨xa,xc,rfl⟩:=zq hgo0.2.1;have hEO:EO.length=k:=by have:=hgo0.2.2.len;rw [zgX] at this;omega
          have OVT:=zf (fun q (hq:(Value.slice xa EO.length xc).ownBlock=some q)=>show q < T from by have:=(hgo0.ne hq).2;have:=HT.out;omega);have hgw:=hgo0.chg KW.out (fun q h1 h2 (e:T<=q)=>by have:=HT.out;omega);rw [hEO] at hgw OVT;have HAW:=zf (KW.out.obj (fun (e:T<=A0)=>by omega) HA.out);have hge2:=HGE.out;rw [zhc] at hge2;have EA:=hge2.done;have r1:=zg (o:=1) hgw.1 rfl;have t0:=zg (o:=0) hge2.1 rfl;have t2:=zg (o:=2) hge2.1 rfl;have kx:=zj (fun _=>False) wr (.cells #[.int .i64 va,.slice sa0 ents.length sc0,.int .i64 vb] 37);have zx:wr.heap.size < (wr.alloc (.cells #[.int .i64 va,.slice sa0 ents.length sc0,.int .i64 vb] 37)).heap.size:=by rw [zg0];omega
          have HGX:=zf (hgw.chg kx (fun k h1 h2 e=>e));have EAX:=zf ((EA.chg kx (fun k hk e=>e)).up (G':=fun y=>R < y∧y < (wr.alloc (.cells #[.int .i64 va,.slice sa0 ents.length sc0,.int .i64 vb] 37)).heap.size∧(Value.slice xa k xc).ownBlock≠some y) (fun q hq=>⟨by omega,by omega,fun e=>by have:=OVT.out q e;omega⟩));have kxw:=zf kx;clear hgo0 hgw hge2 EA kx HI HGE hge HGE0 HEw HE;have OWN:=HGX.out.2.1;rw [hEO] at OWN;go_wp2_with (at_builtin;refine zR rfl (.tmp 43) (.tmp 45) 38 rfl 37 3 40 Tryz.underlying38 Tryz.elemObject R (.slice xa k xc) k (yb EO) rfl OWN wr.heap.size [.int .i64 va,.slice sa0 ents.length sc0,.int .i64 vb] 37 (0,0) rfl ?b2 rfl ?b3 ?b4 ?b5 ?b6 ?b7)
          case b2=>exact zh _ _
          case b3=>intro u hu;simp at hu;rcases hu with rfl | rfl | rfl <;> rfl
          case b4=>omega
          case b5=>unfold maxLen;omega
          case b6=>omega
          intro v5 w10 o5 g5 sn;obtain ⟨a5,c5,rfl⟩:=zq o5;obtain ⟨p1,p2⟩:=HGX.out.push (x:=⟨va,vb,ents⟩) (ov':=.slice a5 (k+1) c5) EAX.out (by rw [hEO];exact o5) (Chg.of_grown g5) sn;rw [<- TK.out] at p1;have P1:=zf p1;have P4:=zf (p2.obj (fun (e:R<=A0)=>by omega) (kxw.out.obj (fun e=>e) HAW.out));have P2:=zf (HC.out.trans ((KW.out.mono (fun x _ (e:T<=x)=>by show A0<=x;omega)).trans ((kxw.out.mono (fun _ _ e=>e.elim)).trans (p2.mono (fun x _ e=>by show A0<=x;have:R<=x:=e;omega)))));have h10:=(Chg.of_grown g5).obj (fun e=>by have:=(HGX.out.ne e).1;omega) HGX.out.1;have q1:=zg (o:=1) h10 rfl;have f1:=zn (o:=1) h10;clear p1 p2 o5 g5 sn OWN HGX EAX h10 kxw HAW KW HC HA;go_wp2;go_roundw
          case rel=>exact ⟨k+1,by omega,by go_num,zf ⟨_,_,P1.out⟩,P4,P2⟩
          case measure=>simp [intOf];omega
    · obtain rfl:k=objs.length:=by omega
      obtain ⟨ov,EO,hgo⟩:=HI.out;rw [zhc] at hgo;obtain ⟨xa,xc,rfl⟩:=zq hgo.2.1;have hEO:EO.length=objs.length:=hgo.2.2.len;rw [hEO] at hgo;have s0:=zg (o:=0) hgo.1 rfl;have s1:=zg (o:=1) hgo.1 rfl;have a0:=zg (o:=0) HA.out rfl;have a1:=zg (o:=1) HA.out rfl;have fa0:=zn (o:=0) HA.out;have fa1:=zn (o:=1) HA.out;have HGG:=zf hgo;clear hgo HI;go_wp2;have kc:=(zy wr A0 0 (.int .i64 bo)).trans (zy (wr.setCell ⟨A0,0,none⟩ (.int .i64 bo)) A0 1 (.slice xa objs.length xc));have OF:=zk (o:=1) (zk (o:=0) HA.out (.int .i64 bo)) (.slice xa objs.length xc);have z0:=zg (o:=0) OF rfl;have z1:=zg (o:=1) OF rfl;have GF:=(HGG.out.chg kc (fun q h1 h2 (e:q=A0)=>by omega)).done;have KF:=(Chg.refl (fun _=>False) w).next (HC.out.trans (kc.mono (fun q _ (e:q=A0)=>by show A0<=q;omega))) (fun q hq (e:A0<=q)=>by have:=HA0.out;omega)
      have GF:=zf (GF.up (G':=fun q=>w.heap.size<=q∧q < _) (fun q hq=>⟨by have:=HA0.out;omega,hq.2⟩));refine bodyPost_ret (v:=.agg #[.int .i64 bo,.slice xa objs.length xc]) (by simp [results,Tryz.results21,go_sem,z0,z1]) rfl ?_;exact ⟨_,rfl,⟨_,rfl,GF.out⟩,KF⟩
set_option maxHeartbeats 8000000 in
set_option maxRecDepth 100000 in
theorem zcP (w:World) (r:xK) (oa ob:Option Addr) (oc od:Nat) (G G':Nat->Prop) (h:zN w (.slice oa r.objs.length oc) G r.objs) (h':zN w (.slice ob r.objs.length od) G' r.objs):
    Calls Tryz.prog 27 #[.agg #[.int .i64 r.boot,.slice oa r.objs.length oc],.agg #[.int .i64 r.boot,.slice ob r.objs.length od]] w fun e w'=>e=.returned (.bool true)∧Chg (fun _=>False) w w':=by
  have H:=zf h;have H':=zf h';have k1:=(zj (fun _=>False) w (.cells #[.int .i64 r.boot,.slice oa r.objs.length oc] 40)).alloc (.cells #[.int .i64 r.boot,.slice ob r.objs.length od] 40);have o1:=Zg (.cells #[.int .i64 r.boot,.slice ob r.objs.length od] 40) (zh w (.cells #[.int .i64 r.boot,.slice oa r.objs.length oc] 40));have o2:=zh (w.alloc (.cells #[.int .i64 r.boot,.slice oa r.objs.length oc] 40)) (.cells #[.int .i64 r.boot,.slice ob r.objs.length od] 40);rw [zg0] at o2;have O1:=zf o1;have O2:=zf o2;have K1:=zf k1;have a0:=zg (o:=0) o1 rfl;have a1:=zg (o:=1) o1 rfl;have b0:=zg (o:=0) o2 rfl;have b1:=zg (o:=1) o2 rfl;have hlm:r.objs.length<=maxLen:=by obtain ⟨_,_,e,h1,h2,_⟩:=h.shape;cases e;omega
  unfold maxLen at hlm;obtain ⟨bo,objs⟩:=r;simp only at *;clear h h' k1 o1 o2;go_enter Tryz.func27,Tryz.ntmps27;go_wp2;generalize (w.alloc (.cells #[.int .i64 bo,.slice oa objs.length oc] 40)).alloc (.cells #[.int .i64 bo,.slice ob objs.length od] 40)=w1 at *;have hw1:w.heap.size+1 < w1.heap.size:=zl O2.out;clear a0 a1 b0 b1;go_loopw [5] (fun iv wr=>∃ k:Nat,k<=objs.length∧iv=.int .i64 (k:Int)∧Hid (Chg (fun _=>False) w1 wr)) (fun iv _=>objs.length - (intOf iv).toNat)
  case atStart=>exact ⟨0,by omega,rfl,zf (Chg.refl _ _)⟩
  case round=>
    obtain ⟨k,hk,rfl,HC⟩:=hrel;have a1:=zg (o:=1) (HC.out.obj (fun e=>e) O1.out) rfl;have b1:=zg (o:=1) (HC.out.obj (fun e=>e) O2.out) rfl;by_cases hlt:k < objs.length
    · obtain ⟨o,ho⟩:∃ o,objs[k]? = some o:=⟨_,zgS hlt⟩
      have KK:=zf (K1.out.trans HC.out);obtain ⟨g,p,ea,ec,rfl,_,d0,d1,d2,he⟩:=(H.out.chg KK.out (fun _ _ e=>e)).get ho;obtain ⟨g',p',fa,fc,rfl,_,e0,e1,e2,he'⟩:=(H'.out.chg KK.out (fun _ _ e=>e)).get ho;obtain ⟨va,vb,ents⟩:=o;simp only at *;have hem:ents.length<=maxLen:=by obtain ⟨_,_,e,h1,h2⟩:=he.shape;cases e;omega
      unfold maxLen at hem;have k2:=zj (fun _=>False) wr (.cells #[.int .i64 va,.slice ea ents.length ec,.int .i64 vb] 37);have x0:=zi k2 (fun e=>e) e0;have x1:=zi k2 (fun e=>e) e1;have x2:=zi k2 (fun e=>e) e2;have xb:=zi k2 (fun e=>e) b1;have p1:=zh wr (.cells #[.int .i64 va,.slice ea ents.length ec,.int .i64 vb] 37);have k3:=zj (fun _=>False) (wr.alloc (.cells #[.int .i64 va,.slice ea ents.length ec,.int .i64 vb] 37)) (.cells #[.int .i64 va,.slice fa ents.length fc,.int .i64 vb] 37);have p2:=zh (wr.alloc (.cells #[.int .i64 va,.slice ea ents.length ec,.int .i64 vb] 37)) (.cells #[.int .i64 va,.slice fa ents.length fc,.int .i64 vb] 37);rw [zg0] at p2;have p1':=k3.obj (fun e=>e) p1;have K4:=zf (HC.out.trans (k2.trans k3));have P1:=zf p1';have P2:=zf p2;have HE:=zf ((he.chg k2 (fun _ _ e=>e)).chg k3 (fun _ _ e=>e));have HE':=zf ((he'.chg k2 (fun _ _ e=>e)).chg k3 (fun _ _ e=>e));have y0:=zg (o:=0) p1' rfl;have y1:=zg (o:=1) p1' rfl;have y2:=zg (o:=2) p1' rfl;have z0:=zg (o:=0) p2 rfl;have z1:=zg (o:=1) p2 rfl;have z2:=zg (o:=2) p2 rfl;clear he he' k2 k3 p1 p1' p2 ho HC KK;go_wp2;clear d0 d1 d2 e0 e1 e2 x0 x1 x2 xb y0 y1 y2 z0 z1 z2 a1 b1;generalize (wr.alloc (.cells #[.int .i64 va,.slice ea ents.length ec,.int .i64 vb] 37)).alloc (.cells #[.int .i64 va,.slice fa ents.length fc,.int .i64 vb] 37)=w4 at *;generalize hT:wr.heap.size=T at *;clear hT;go_loopw [8] (fun jv wr=>∃ j:Nat,j<=ents.length∧jv=.int .i64 (j:Int)∧Hid (Chg (fun _=>False) w4 wr)) (fun jv _=>ents.length - (intOf jv).toNat)
      case atStart=>exact ⟨0,by omega,rfl,zf (Chg.refl _ _)⟩
      case round=>
        obtain ⟨j,hj,rfl,HD⟩:=hrel;have y1:=zg (o:=1) (HD.out.obj (fun e=>e) P1.out) rfl;have z1:=zg (o:=1) (HD.out.obj (fun e=>e) P2.out) rfl;by_cases hlt2:j < ents.length
        · obtain ⟨x,hx⟩:∃ x,ents[j]? = some x:=⟨_,zgS hlt2⟩
          obtain ⟨g2,q2,sa,sc,rfl,_,u0,u1,hs⟩:=(HE.out.chg HD.out (fun _ _ e=>e)).get hx;obtain ⟨g3,q3,ta,tc,rfl,_,v0,v1,hs'⟩:=(HE'.out.chg HD.out (fun _ _ e=>e)).get hx;have kd:=zA (fun _=>False) wr;have SM:=XG wr.drew x x sa ta x.2.length sc x.2.length tc G G' (hs.at_.chg kd (fun _ _ e=>e)) (hs'.at_.chg kd (fun _ _ e=>e));rw [show eqB x x=true from zgQ rfl] at SM;have SM:=zf SM;have KD:=zf (HD.out.trans kd);obtain ⟨op,who⟩:=x;simp only at *;clear hs hs' kd hx HD;go_wp2_with fail;refine zI (N:=80) [.rd [0,1,2,3,4,5,6,7,8,9],.ef 10,.rd [11]] (fun w'=>w'.cell? ⟨T,1,none⟩=some (.slice (some ⟨g2,q2,none⟩) ents.length ec)∧w'.cell? ⟨T+1,1,none⟩=some (.slice (some ⟨g3,q3,none⟩) ents.length fc)∧w'.cell? ⟨g2,q2+j*2,none⟩=some (.int .i64 op)∧w'.cell? ⟨g2,q2+j*2+1,none⟩=some (.slice sa who.length sc)∧w'.cell? ⟨g3,q3+j*2,none⟩=some (.int .i64 op)∧w'.cell? ⟨g3,q3+j*2+1,none⟩=some (.slice ta who.length tc)) (by kernel_rfl) (by kernel_rfl) (by kernel_rfl) (by kernel_rfl) (Nat.le_of_ble_eq_true rfl) ⟨y1,z1,u0,u1,v0,v1⟩ ?_;refine zS (A:=?A1) ?h1 ?h2
          case h1=>
            rintro w' ⟨z0,z1,z2,z3,z4,z5⟩ K hK;simp only [zJ,zgL,zgM,zgN,zgO,zgP]
            repeat still_step
            refine wpStill_nil ?_;exact hK
          have D:=zf (zA (fun _=>False) wr);have f0:=zi D.out (fun e=>e) y1;have f1:=zi D.out (fun e=>e) z1;have f2:=zi D.out (fun e=>e) u0;have f3:=zi D.out (fun e=>e) u1;have f4:=zi D.out (fun e=>e) v0;have f5:=zi D.out (fun e=>e) v1;clear D y1 z1 u0 u1 v0 v1;generalize wr.drew=wd at *;refine Zk rfl ?_;go_wp2_with fail;(with_reducible refine SM.out.mono ?_);rintro e w5 ⟨rfl,k5⟩;have K5:=zf (KD.out.trans k5);have g0:=zi k5 (fun e=>e) f0;have g1:=zi k5 (fun e=>e) f1;have g4:=zi k5 (fun e=>e) f2;have g5:=zi k5 (fun e=>e) f3;have g6:=zi k5 (fun e=>e) f4;have g7:=zi k5 (fun e=>e) f5;clear k5 f0 f1 f2 f3 f4 f5 SM KD;go_wp2_with fail;refine ⟨⟨g0,g1,g4,g5,g6,g7⟩,?_⟩;refine zS (A:=?A2) ?h3 ?h4
          case h3=>
            rintro w' _ K hK;simp only [zJ,zgL,zgM,zgN,zgO,zgP]
            repeat still_step
            refine wpStill_nil ?_;exact hK
          refine ZT ?_;clear g0 g1 g4 g5 g6 g7;go_wp2;go_roundw
          case rel=>exact ⟨j+1,by omega,by go_num,K5⟩
          case measure=>simp [intOf];omega
        · go_wp2
          have FIN:=zf (K4.out.trans HD.out);go_roundw
          case rel=>exact ⟨k+1,by omega,by go_num,FIN⟩
          case measure=>simp [intOf];omega
    · have FIN:=zf (K1.out.trans HC.out)
      go_wp2;go_ret;exact ⟨rfl,FIN.out⟩
open Go.ChangeShapes Go.WideShapes Go.ChangeAt
theorem Tryz.cellsEntry:Tryz.prog.cellsOf 34=2:=by kernel_rfl
theorem Tryz.cellsSet:Tryz.prog.cellsOf 32=1:=by kernel_rfl
theorem Tryz.cellsEntries:Tryz.prog.cellsOf 35=1:=by kernel_rfl
theorem Tryz.cellsObject:Tryz.prog.cellsOf 37=3:=by kernel_rfl
theorem Tryz.cellsObjects:Tryz.prog.cellsOf 38=1:=by kernel_rfl
theorem Tryz.cellsInt64:Tryz.prog.cellsOf 2=1:=by kernel_rfl
theorem Tryz.cellsRecord:Tryz.prog.cellsOf 40=2:=by kernel_rfl
section
variable {W:World} {H:Type} {enc:TypeId × Value->H}
theorem za6 {α:Type} [Inhabited α] {P:Program} {t e:TypeId} {fuel N:Nat} {cs:List Value} {x:DataW H × List MemPlace} (ht:P.underlying t=some (.slice e)) (hN:P.cellsOf e=N) (hN0:0 < N) (h:DataW.trod enc P W 0 (fun _=>true) true fuel t cs=some x)
    {R:List Value->α->Prop} (hR:∀ k cs y,DataW.trod enc P W 0 (fun _=>true) true k e cs=some y->∃ a,R cs a):
    ∃ la cap,∃ L:List α,cs=[.slice la L.length cap]∧L.length<=cap∧cap<=maxLen∧(la=none->cap=0) ∧
      ∀ (j:Nat) a,L[j]? = some a->∃ g o vs,la=some ⟨g,o,none⟩∧g < W.heap.size∧R vs a∧∀ i,i < N->W.cell? ⟨g,o+j*N+i,none⟩=vs[i]?:=by
  rcases Deep.open_slice ht h with ⟨rfl,_⟩ | ⟨ad,len,cap,m,k,D,Pl,rfl,_,hl,hm,hmm,hd,hel⟩
  · exact ⟨none,0,[],rfl,zhb _,by unfold maxLen;omega,fun _=>rfl,fun j a hj=>by simp at hj⟩
  · simp at hmm
    obtain rfl:cap=m:=hmm.symm;rw [hN] at hel
    have hv:∀ i,i < cap->∃ a:α,∃ cs,W.cells? 0 (ad.add (i*N)) N=some cs∧R cs a:=by
      intro i hi;obtain ⟨cs,h1,h2⟩:=hel i hi;obtain ⟨v,q⟩:=hR _ _ _ h2;exact ⟨v,cs,h1,q⟩
    obtain ⟨f,hf2⟩:=Deep.choose_lt hv;refine ⟨some ad,cap,(List.range len).map f,by simp,by simpa using hl,hm,(fun e=>by cases e),fun j a hj=>?_⟩;rw [zg3] at hj
    have hjn:j < len:=by
      rcases Nat.lt_or_ge j len with h | h
      · exact h
      · rw [zg8 (by simpa using h)] at hj;simp at hj
    rw [List.getElem?_range hjn] at hj;simp at hj;subst hj;obtain ⟨cs,h1,h2⟩:=hf2 j (by omega);have g:=(World.cells?_some h1).2.2;have hlen:=(World.cells?_some h1).2.1;obtain ⟨cs0,h3,_⟩:=hf2 0 (by omega);have g0:=(World.cells?_some h3).2.2 0 hN0;have hlen0:=(World.cells?_some h3).2.1;obtain ⟨b,off,spot⟩:=ad
    have hs:spot=none:=by
      rw [zgS (by omega)] at g0
      simpa [Addr.add] using World.cell?_spot g0
    subst hs;simp only [ZG] at g;have gz:=g 0 hN0;rw [zgS (by omega)] at gz;exact ⟨b,off,cs,rfl,World.block_lt_of_cell? W _ gz,h2,fun i hi=>by have:=g i hi;exact this⟩
theorem zcN {fuel:Nat} {cs:List Value} {x:DataW H × List MemPlace} (h:DataW.trod enc Tryz.prog W 0 (fun _=>true) true fuel 32 cs=some x):
    ∃ v l,cs=[v]∧ZV W v (· < W.heap.size) l:=by
  rcases open_strings Tryz.underlying32 Tryz.underlying29 Tryz.cellsWord h with ⟨hcs,_⟩ | ⟨a,len,cap,ss,hcs,_,hl,hm,hz,_,hcell,hws⟩
  · exact ⟨_,[],hcs,⟨none,0,rfl,by simp,fun j x hj=>by simp at hj⟩,fun n c e=>by cases e;exact ⟨rfl,rfl⟩⟩
  · simp at hz
    have hl2:(ss.take len).length=len:=by simp;omega
    refine ⟨_,ss.take len,hcs,⟨some a,cap,by rw [hl2],by rw [hl2];omega,fun j s hj=>?_⟩,fun n c e=>by cases e⟩
    have hjn:j < len:=by
      have:=(zgT.1 hj).1;omega
    have h1:=hcell j (by omega);have h10:=hcell 0 (by omega);obtain ⟨b,off,spot⟩:=a;have hs:spot=none:=by simpa [Addr.add] using World.cell?_spot h10
    subst hs;rw [ZG] at h1;refine ⟨b,off,rfl,World.block_lt_of_cell? W _ h1,?_,hws s (List.mem_of_mem_take (zgU hj))⟩;rw [h1];rw [List.getElem?_take,if_pos hjn] at hj;rw [zgY,hj];rfl
set_option maxRecDepth 100000 in
theorem ze9 {fuel:Nat} {cs:List Value} {x:DataW H × List MemPlace} (h:DataW.trod enc Tryz.prog W 0 (fun _=>true) true fuel 34 cs=some x):
    ∃ r:zO × Value,cs=[.int .i64 r.1.1,r.2]∧ZV W r.2 (· < W.heap.size) r.1.2:=by
  obtain ⟨y0,y1,n,e,hl,t0,t1⟩:=zer Tryz.underlying34 h;rw [Tryz.cellsEntry] at hl
  match cs,hl with
  | [c0,c1],_=>
    simp only [Tryz.cellsInt,Tryz.cellsSet,List.drop_zero,List.drop_succ_cons,List.take_succ_cons,List.take_zero] at t0 t1;obtain ⟨s,e0,f0,hs⟩:=DataW.trod_int Tryz.underlying3 t0;obtain ⟨u,l,e1,hu⟩:=zcN t1;simp at e0 e1;subst e0 e1;exact ⟨((s,l),c1),rfl,hu⟩
theorem zal {α β:Type} {f:α->β} {l:List α} {j:Nat} {y:β} (h:(l.map f)[j]? = some y):∃ a,l[j]? = some a∧y=f a:=by
  rw [zg3] at h;cases e:l[j]? with
  | none=>rw [e] at h;cases h
  | some a=>rw [e] at h;cases h;exact ⟨a,rfl,rfl⟩
theorem zcb {fuel:Nat} {cs:List Value} {x:DataW H × List MemPlace} (h:DataW.trod enc Tryz.prog W 0 (fun _=>true) true fuel 35 cs=some x):∃ v L,cs=[v]∧zW W v (· < W.heap.size) L:=by
  have:Inhabited (zO × Value):=⟨((0,[]),undef)⟩;obtain ⟨la,cap,L,rfl,h1,h2,h3,h4⟩:=za6 (R:=fun cs (r:zO × Value)=>cs=[.int .i64 r.1.1,r.2]∧ZV W r.2 (· < W.heap.size) r.1.2) Tryz.underlying35 Tryz.cellsEntry (by decide) h (fun k cs y hy=>ze9 hy);refine ⟨_,L.map (·.1),rfl,L.map (fun a=>(a.1.1,a.2)),la,cap,by rw [zgW],by rw [zgW];exact h1,h2,h3,⟨by simp,fun j e y q1 q2=>?_⟩,fun j u hj=>?_⟩
  · obtain ⟨a,z1,rfl⟩:=zal q1
    obtain ⟨b,z2,rfl⟩:=zal q2;rw [z1] at z2;cases z2;obtain ⟨_,_,_,_,_,⟨_,z⟩,_⟩:=h4 j a z1;exact ⟨rfl,z⟩
  · obtain ⟨k,r,hk,hq⟩:=zd6 hj
    obtain ⟨a,z1,rfl⟩:=zal hk;obtain ⟨g,o,vs,e1,e2,⟨rfl,_⟩,e4⟩:=h4 k a z1;refine ⟨g,o,e1,e2,?_⟩;rcases hq with ⟨rfl,rfl⟩ | ⟨rfl,rfl⟩
    · exact e4 0 (by decide)
    · rw [<- Nat.add_assoc];exact e4 1 (by decide)
set_option maxRecDepth 100000 in
theorem zf1 {fuel:Nat} {cs:List Value} {x:DataW H × List MemPlace} (h:DataW.trod enc Tryz.prog W 0 (fun _=>true) true fuel 37 cs=some x):
    ∃ r:yE × Value,cs=[.int .i64 r.1.val,r.2,.int .i64 r.1.ver]∧zW W r.2 (· < W.heap.size) r.1.ents:=by
  obtain ⟨xs,n,_,he,hl,hlen,hp⟩:=DataW.trod_struct Tryz.underlying37 h;rw [Tryz.cellsObject] at hl
  match cs,hl with
  | [c0,c1,c2],_=>
  match xs,hlen with
  | [y0,y1,y2],_=>
  have t0:DataW.trod enc Tryz.prog W 0 (fun _=>true) true n 2 [c0]=some y0:=hp 0 _ rfl;have t1:DataW.trod enc Tryz.prog W 0 (fun _=>true) true n 35 [c1]=some y1:=hp 1 _ rfl;have t2:DataW.trod enc Tryz.prog W 0 (fun _=>true) true n 2 [c2]=some y2:=hp 2 _ rfl;obtain ⟨a,e0,_,_⟩:=DataW.trod_int Tryz.underlying2 t0;obtain ⟨b,e2,_,_⟩:=DataW.trod_int Tryz.underlying2 t2;obtain ⟨v,L,e1,hL⟩:=zcb t1;simp at e0 e1 e2;subst e0 e1 e2;exact ⟨(⟨a,b,L⟩,c1),rfl,hL⟩
theorem zb2 {fuel:Nat} {cs:List Value} {x:DataW H × List MemPlace} (h:DataW.trod enc Tryz.prog W 0 (fun _=>true) true fuel 38 cs=some x):∃ v L,cs=[v]∧zN W v (· < W.heap.size) L:=by
  have:Inhabited (yE × Value):=⟨(⟨0,0,[]⟩,undef)⟩;obtain ⟨la,cap,L,rfl,h1,h2,h3,h4⟩:=za6 (R:=fun cs (r:yE × Value)=>cs=[.int .i64 r.1.val,r.2,.int .i64 r.1.ver]∧zW W r.2 (· < W.heap.size) r.1.ents) Tryz.underlying38 Tryz.cellsObject (by decide) h (fun k cs y hy=>zf1 hy);refine ⟨_,L.map (·.1),rfl,la,cap,by rw [zgW],by rw [zgW];exact h1,h2,h3,fun j y hj=>?_⟩;obtain ⟨a,z1,rfl⟩:=zal hj;obtain ⟨g,o,vs,e1,e2,⟨rfl,e3⟩,e4⟩:=h4 j a z1;exact ⟨g,o,a.2,e1,e2,e4 0 (by decide),e4 1 (by decide),e4 2 (by decide),e3⟩
set_option maxRecDepth 100000 in
theorem za8 {cs:Array Value} {d:DataW H} {ps:List MemPlace} (h:DataW.Trod enc Tryz.prog W 0 (fun _=>true) true 40 (.agg cs) d ps):
    ∃ (r:xK) (oa:Option Addr) (oc:Nat),Value.agg cs=.agg #[.int .i64 r.boot,.slice oa r.objs.length oc]∧zN W (.slice oa r.objs.length oc) (· < W.heap.size) r.objs:=by
  obtain ⟨fuel,hf⟩:=h;have hf':DataW.trod enc Tryz.prog W 0 (fun _=>true) true fuel 40 cs.toList=some (d,ps):=hf;obtain ⟨xs,n,_,he,hl,hlen,hp⟩:=DataW.trod_struct Tryz.underlying40 hf';rw [Tryz.cellsRecord] at hl
  have hcs:∃ c0 c1,cs=#[c0,c1]:=by
    match cs,hl with
    | ⟨[c0,c1]⟩,_=>exact ⟨c0,c1,rfl⟩
  obtain ⟨c0,c1,rfl⟩:=hcs
  match xs,hlen with
  | [y0,y1],_=>
  have t0:DataW.trod enc Tryz.prog W 0 (fun _=>true) true n 2 [c0]=some y0:=hp 0 _ rfl;have t1:DataW.trod enc Tryz.prog W 0 (fun _=>true) true n 38 [c1]=some y1:=hp 1 _ rfl;obtain ⟨a,e0,_,_⟩:=DataW.trod_int Tryz.underlying2 t0;obtain ⟨v,L,e1,hL⟩:=zb2 t1;simp at e0 e1;subst e0 e1;obtain ⟨oa,oc,rfl,_⟩:=hL.shape;exact ⟨⟨a,L⟩,oa,oc,rfl,hL⟩
end
def zbH (W:World) (v:Value) (r:xK):Prop:=∃ oa oc,v=.agg #[.int .i64 r.boot,.slice oa r.objs.length oc]∧zN W (.slice oa r.objs.length oc) (· < W.heap.size) r.objs
theorem za9 {W:World} {H:Type} {enc:TypeId × Value->H} {cs:Array Value} {d:DataW H} {ps:List MemPlace} (h:DataW.Trod enc Tryz.prog W 0 (fun _=>true) true 40 (.agg cs) d ps):∃ r,zbH W (.agg cs) r:=by
  obtain ⟨r,oa,oc,h1,h2⟩:=za8 h;exact ⟨r,oa,oc,h1,h2⟩
end Go.Proofs.YtcilaocknhphnaaGreat
