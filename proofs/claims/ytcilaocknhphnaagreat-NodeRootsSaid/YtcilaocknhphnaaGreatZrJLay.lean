/-
  Package journal: Open. Package journal: head. Package journal: lay, Commit.
-/
import Derived.Test.YtcilaocknhphnaaGreatZrCCert1
import Derived.Test.YtcilaocknhphnaaGreatZrJJour
import Derived.Test.YtcilaocknhphnaaGreatZrKit2
namespace Go.Proofs.YtcilaocknhphnaaGreat
open Go.RowKit
theorem zfY (n c:Nat) (hn:n < 72057594037927936) (hc:c < 256):bits BinOp.or IntKind.u64 (IntKind.u64.wrap ((n:Int)*256)) (IntKind.u64.wrap (c:Int))=((n*256+c:Nat):Int):=by
  have e1:IntKind.u64.wrap ((n:Int)*256)=((n*256:Nat):Int):=by rw [IntKind.wrap_u64];omega
  have e2:IntKind.u64.wrap (c:Int)=(c:Int):=by rw [IntKind.wrap_u64];omega
  rw [e1,e2,bits_or_u64_nat _ _ (by omega) (by omega),nat_join 8 (n*256) c (by simp) (by omega)]
theorem za0 (n:Nat) (hn:n < 18446744073709551616):wrap64 (n:Int)=ze2 n:=by
  unfold wrap64 ze2;split <;> omega
theorem zgI:(256:Nat) ^ 8=18446744073709551616:=by simp
theorem zf0 (a c:Nat) (ha:a < 256) (hc:c < 256):bits BinOp.or IntKind.i64 ((a*256:Nat):Int) (c:Int)=((a*256+c:Nat):Int):=by
  have h1:(BitVec.ofInt 64 ((a*256:Nat):Int)).toNat=a*256:=by
    rw [BitVec.ofInt_natCast,BitVec.toNat_ofNat];exact Nat.mod_eq_of_lt (by omega)
  have h2:(BitVec.ofInt 64 (c:Int)).toNat=c:=by
    rw [BitVec.ofInt_natCast,BitVec.toNat_ofNat];exact Nat.mod_eq_of_lt (by omega)
  show IntKind.i64.wrap ((BitVec.ofInt 64 ((a*256:Nat):Int) ||| BitVec.ofInt 64 (c:Int)).toNat:Int)=_;rw [BitVec.toNat_or,h1,h2,nat_join 8 (a*256) c (by simp) (by omega),IntKind.wrap_i64];omega
theorem zan (l:List UInt8) (k:Nat) (h:k < l.length):∃ x:Nat,x < 256∧Hid ((l.getD k 0).toNat=x)∧wrap64 ((({ data:=l.toArray }:ByteArray)[k]'(by simpa [ByteArray.size] using h)).toNat:Int)=(x:Int):=by
  refine ⟨(l.getD k 0).toNat,UInt8.toNat_lt _,rfl,?_⟩
  have e:(({ data:=l.toArray }:ByteArray)[k]'(by simpa [ByteArray.size] using h))=l.getD k 0:=by
    rw [zgY,zgS h];rfl
  rw [e];have:=UInt8.toNat_lt (l.getD k 0);unfold wrap64;omega
def zfi (w:World) (B:DB) (d:Dev) (e:Ending) (w':World):Prop:=
  (d.bad∧e=.returned (.tuple #[.pointer none,.int .i64 2])∧Chg (fun _=>False) w w') ∨
  (¬ d.bad∧∃ b,e=.returned (.tuple #[zbL b,.int .i64 0])∧JAt w' B b ⟨zfT d.hd,xA d.hd,⟨d.text.toArray⟩⟩∧Chg (fun _=>False) w w'∧w.heap.size<=b∧b < w'.heap.size)
theorem Tryz.byteInfo:(Tryz.prog.info? 5).map (fun i=>(i.zero,i.size,i.bytes))=some (some (.int .u8 0),1,1):=by kernel_rfl
set_option maxHeartbeats 1000000 in
set_option maxRecDepth 100000 in
theorem zcu (w:World) (B:DB) (d:Dev) (h:zF w B d):
    Calls Tryz.prog 56 #[B.ptr] w (zfi w B d):=by
  have c0:=h.c0;have n65:=h.ok.hi;have n3:=h.ok.lo;have H:=zf h;clear h;unfold DB.ptr;have s0:=ZD H.out.ok.wnow (i:=0) (by rw [H.out.ok.lnow];omega);have RD:=zf (zdG w B d 0 H.out (by omega));have hm:d.m=(B.n - 1) / 2:=by unfold Dev.m;rw [H.out.ok.lnow]
  have HM:=zf hm;change (d.hd).length=32 at s0;change Hid (Calls Tryz.prog 135 #[B.ptr,.int .i64 0] w fun e w'=>e=.returned (.string ⟨(d.hd).toArray⟩)∧w=w') at RD;generalize hhd:d.hd=hd at *;have HHD:=zf hhd;clear hm hhd;go_enter Tryz.func56,Tryz.ntmps56;go_wp2_with fail;refine (Xh _ _ _ _ _ _ _ c0 (by omega) (by omega)).mono ?_;rintro e w' ⟨rfl,rfl⟩;go_wp2_with fail;refine (RD.out).mono ?_;rintro e w' ⟨rfl,rfl⟩;go_wp2;go_loop [5,20] (fun x i=>∃ k:Nat,k<=8∧i=.int .i64 k∧x=.int .u64 (be (hd.take k))) (fun _ i=>8 - (intOf i).toNat)
  case atStart=>exact ⟨0,by omega,rfl,by simp [be]⟩
  case round=>
    obtain ⟨k,hk,rfl,rfl⟩:=hrel;have lt0:=zgt (hd.take k);rw [zgX] at lt0;have lt1:be (hd.take k) < 256 ^ k:=zgZ lt0 (Nat.pow_le_pow_right (by decide) (by omega));by_cases hlt:k < 8
    · have lt2:be (hd.take k) < 72057594037927936:=zgZ lt1 (Nat.le_trans (Nat.pow_le_pow_right (by decide) (by omega:k<=7)) (by decide))
      have sn:=zfK (hd.take k) (hd[k]'(by omega));rw [<- List.take_succ_eq_append_getElem] at sn;have SN:=zf sn;have LT:=zf lt2;clear sn lt0 lt1 lt2;generalize be (hd.take k)=n at *;go_wp2;go_round
      case rel=>
        refine ⟨k+1,by omega,by go_num,?_⟩;rw [SN.out];exact congrArg (Value.int .u64) (zfY n _ LT.out (UInt8.toNat_lt _))
      case measure=>simp [intOf];omega
    · obtain rfl:k=8:=by omega
      have hnum8:wrap64 (be (hd.take 8):Int)=zfT hd:=by
        rw [zgI] at lt1;exact za0 _ lt1
      have HN:=zf hnum8;clear lt0 lt1 hnum8;generalize hn:be (hd.take 8)=n at *;clear hn;obtain ⟨x8,q8,HX8,e8⟩:=zan hd 8 (by omega);obtain ⟨x9,q9,HX9,e9⟩:=zan hd 9 (by omega);obtain ⟨x10,q10,HX10,e10⟩:=zan hd 10 (by omega);have e9':=e9;have e10':=e10;unfold wrap64 at e9' e10';rw [<- IntKind.wrap_i64] at e9' e10';have m9:IntKind.i64.wrap ((x9:Int)*256)=(x9:Int)*256:=by rw [IntKind.wrap_i64];omega
      obtain ⟨sz,hsz,o1⟩:∃ sz:Nat,Hid (Yj hd=sz)∧bits BinOp.or IntKind.i64 ((x9:Int)*256) (x10:Int)=(sz:Int):=
        ⟨x9*256+x10,by show Yj hd=_;unfold Yj;rw [HX9.out,HX10.out],by rw [show ((x9:Int)*256)=((x9*256:Nat):Int) from by omega];exact zf0 x9 x10 q9 q10⟩
      have hszl:sz < 65536:=by have:=ze3 hd;rw [hsz.out] at this;exact this
      have HBAD:=zf (show d.bad↔(1 < x8∨(B.n - 1) / 2*32 < sz) by unfold Dev.bad;rw [HHD.out,HM.out,hsz.out,show xA hd=x8 from HX8.out]);go_wp2;obtain ⟨w1,hw1⟩:∃ w1,w1=w.alloc (.cells #[.pointer (some ⟨B.b,0,none⟩),.int .i64 (wrap64 n),.int .i64 x8,.string ⟨#[]⟩] 262):=⟨_,rfl⟩;rw [<- hw1];have k1:Chg (fun _=>False) w w1:=by rw [hw1];exact zj _ _ _
      have j1:w1.heap[w.heap.size]? = some (.cells #[.pointer (some ⟨B.b,0,none⟩),.int .i64 (wrap64 n),.int .i64 x8,.string ⟨#[]⟩] 262 (0,0)):=by rw [hw1];exact zh _ _
      have K1:=zf k1;have J1:=zf j1;clear hw1 k1 j1;refine Zh (by kernel_rfl) (by kernel_rfl) ?_
      repeat still_step
      refine wpStill_nil ?_;have K2:=zf K1.out.drew;have J2:Hid (w1.drew.heap[w.heap.size]? = _):=zf J1.out;have D2:=zf (H.out.chg K2.out (fun _ _ e=>e));clear K1 J1;generalize w1.drew=w2 at *;have d0:=D2.out.c0;have j0:w2.cell? ⟨w.heap.size,0,none⟩=some (.pointer (some ⟨B.b,0,none⟩)):=zg J2.out rfl;have j2:w2.cell? ⟨w.heap.size,2,none⟩=some (.int .i64 x8):=zg J2.out rfl;by_cases h1:1 < x8
      · go_wp2
        go_ret2;exact .inl ⟨HBAD.out.2 (.inl h1),rfl,K2.out⟩
      · have hh1:decide (1 < (x8:Int))=false:=by simp;omega
        have ROOM:=zf (zdA w2 w.heap.size B j0 d0 n3 n65);have hle:(B.n - 1) / 2<=32:=by omega
        generalize hms:(B.n - 1) / 2=m at *;go_wp2_with fail;refine (ROOM.out).mono ?_;rintro e w' ⟨rfl,rfl⟩;by_cases h2:m*32 < sz
        · go_wp2
          go_ret2;exact .inl ⟨HBAD.out.2 (.inr h2),rfl,K2.out⟩
        · have hh2:decide (((m*32:Nat):Int) < (sz:Int))=false:=by simp;omega
          have hm1:1<=m:=by omega
          obtain ⟨i5,hi5,z50,z51,z52⟩:=info_parts Tryz.byteInfo;have SEC:=zf (yX w2 w.heap.size B j0 d0 n3 n65);rw [hms] at SEC;have HMS:=zf hms;clear hms;have kz:=K2.out.size;have jz:=zl J2.out;go_wp2_with fail;refine (ROOM.out).mono ?_;rintro e w' ⟨rfl,rfl⟩;go_wp2_with (at_make;refine wpList_make_own _ rfl (.const (.int .i64 0)) (.tmp 59) 23 rfl w2.heap.size 5 i5 _ 1 Tryz.underlying23 hi5 z50 z51 _ _ _ (m*32) rfl rfl rfl ?b2 ?b3 (zhb _) ?next)
          case b2=>rw [z52];omega
          case b3=>unfold maxLen;omega
          case next=>
            intro w3 own3 g3;have K3:=zf (K2.out.grown g3 (fun k e=>by cases e));have C3:=zf (Chg.of_grown g3);have J3:=zf (C3.out.obj (fun e=>by cases e) J2.out);have D3:=zf (D2.out.chg C3.out (fun _ _ e=>by cases e));have O3:=zf own3;have SEC3:=zf (yX w3 w.heap.size B (zg J3.out rfl) D3.out.c0 n3 n65);rw [HMS.out] at SEC3;have wz:=g3.size;clear own3 g3 j0 j2 d0 SEC ROOM;go_wp2_with fail;refine (SEC3.out).mono ?_;rintro e w' ⟨rfl,rfl⟩;go_wp2;go_loopw [9,63] (fun v i wr=>∃ k:Nat,k<=m∧i=.int .i64 k∧wr.ownsRow w2.heap.size 5 1 v (32*k) (zu (d.areaTo x8 k))∧Chg (fun k=>w2.heap.size<=k) w3 wr) (fun _ i _=>m - (intOf i).toNat)
            case atStart=>exact ⟨0,Nat.zero_le _,rfl,by simpa [Dev.areaTo,zu] using O3.out,Chg.refl _ _⟩
            case round=>
              obtain ⟨k,hk,rfl,hown,hc⟩:=hrel;have HO:=zf hown;have HC:=zf hc;have JR:=zf (HC.out.obj (by omega) J3.out)
              have DR:=zf (D3.out.chg HC.out (fun k hk hk'=>by
                have:k < w.heap.size:=by
                  rcases hk with rfl | rfl | rfl | rfl
                  · exact zl H.out.hb
                  · exact zl H.out.hn
                  · exact zl H.out.hs
                  · exact zl H.out.hp
                omega))
              clear hown hc;by_cases hlt:k < m
              · have j2:wr.cell? ⟨w.heap.size,2,none⟩=some (.int .i64 x8):=zg JR.out rfl
                have FST:=zf (zcB wr w.heap.size B x8 (zg JR.out rfl) DR.out.c0 n3 n65 (by omega) (by omega));rw [HMS.out] at FST;have hx8:x8*m<=m:=by rcases (by omega:x8=0∨x8=1) with rfl | rfl <;> omega
                have READ:=zf (zdG wr B d (1+x8*m+k) DR.out (by have:=HMS.out;omega));have AR:=zf (Dev.areaTo_succ d x8 k);rw [HM.out] at AR;have LN:=zf (ZD D3.out.ok.wnow (i:=1+x8*m+k) (by rw [D3.out.ok.lnow];have:=HMS.out;omega));have px:(x8:Int)*(m:Int)=((x8*m:Nat):Int):=by push_cast;rfl
                rw [px] at FST;generalize x8*m=p at *;clear px;go_wp2_with fail;refine (FST.out).mono ?_;rintro e w' ⟨rfl,rfl⟩;go_wp2_with fail;rw [show ((1:Int)+(p:Int)+(k:Int))=((1+p+k:Nat):Int) from by omega];refine (READ.out).mono ?_;rintro e w' ⟨rfl,rfl⟩;generalize d.now.getD (1+p+k) []=sec at *;have hsz':(⟨sec.toArray⟩:ByteArray).size=32:=by simpa [ByteArray.size] using LN.out
                have HSZ:=zf hsz';clear hsz';go_wp2_with (at_builtin;refine Yy rfl (.tmp 66) (.tmp 76) 23 9 rfl 5 Tryz.underlying23 Tryz.underlying9 Tryz.byteInfo w2.heap.size _ _ _ rfl HO.out ⟨sec.toArray⟩ rfl ?p1 ?p2 ?next2)
                case p1=>rw [HSZ.out];omega
                case p2=>have:=HC.out.size;omega
                case next2=>
                  intro v' w4 own4 g4;have O4:=zf own4;have G4:=zf g4;clear own4 g4;go_wp2;go_roundw
                  case rel=>
                    refine ⟨k+1,by omega,by go_num,?_,HC.out.grown G4.out (fun j hj _=>(own_lt HO.out j hj).1)⟩;have:=O4.out;rw [LN.out] at this;rw [AR.out,show 32*(k+1)=32*k+32 from by omega]
                    simpa [zu] using this
                  case measure=>simp [intOf];omega
              · obtain rfl:k=m:=by omega
                obtain ⟨g,cap,rfl,hg,hcap,hcm,hcell⟩:=zdJ HO.out (by omega);have la:=Dev.areaTo_length D3.out.ok x8 (by omega) k (by rw [HM.out];exact zhb _)
                have hcv:=run_convert_bytes_arg (P:=Tryz.prog) wr 23 5 Tryz.underlying23 Tryz.underlying5 g 0 sz cap ((((d.areaTo x8 k).take sz)).map fun c=>(c.toNat:Int)) (by rw [zgW,zgX];omega)
                  (fun i hi=>by
                    rw [Nat.zero_add];refine hcell i _ ?_
                    have e:(zu (d.areaTo x8 k))[i]? = (zu ((d.areaTo x8 k).take sz))[i]?:=by
                      unfold zu;rw [List.map_take,List.getElem?_take,if_pos hi]
                    rw [e];exact Yh _ _ (by rw [zgX];omega)) 9 Tryz.underlying9
                rw [Zu] at hcv;have TX:=zf (show (d.areaTo x8 k).take sz=d.text by unfold Dev.text Dev.area;rw [HHD.out,HM.out,hsz.out,show xA hd=x8 from HX8.out]);unfold maxLen at hcm;have j3:wr.cell? ⟨w.heap.size,3,none⟩=some (.string ⟨#[]⟩):=zg JR.out rfl;have f3:wr.frozen? ⟨w.heap.size,3,none⟩=false:=zn JR.out;have HLA:=zf la;clear hcell la;generalize (d.areaTo x8 k).take sz=tx at *;go_wp2;go_ret2
                have k4:Chg (fun _=>False) w wr:=⟨HC.out.os.trans K3.out.os,HC.out.tape.trans K3.out.tape,HC.out.output.trans K3.out.output,Nat.le_trans K3.out.size HC.out.size,
                  fun i hi _=>by rw [HC.out.block i (by have:=K3.out.size;omega) (by omega)];exact K3.out.block i hi (fun e=>e)⟩
                have kk:Chg (fun _=>False) w (wr.setCell ⟨w.heap.size,3,none⟩ (.string ⟨tx.toArray⟩)):=k4.setCell (fun e=>absurd e (Nat.lt_irrefl _)) _;refine .inr ⟨fun hb=>?_,w.heap.size,rfl,⟨?_⟩,kk,zhb _,?_⟩
                · rcases HBAD.out.1 hb with h | h <;> omega
                · rw [zk JR.out]
                  rw [HHD.out,<- HN.out,<- TX.out,show xA hd=x8 from HX8.out];rfl
                · have:=zl JR.out;simpa [World.setCell] using this
theorem zbU {P:Program} (w:World) (src e dst:TypeId) (hs:P.underlying src=some (.slice e)) (he:P.underlying e=some (.int .u8)) (hd:P.underlying dst=some .string) (g o n cap:Nat) (cur:List Value) (t:TypeId) (fz:Nat × Nat)
    (hg:w.heap[g]? = some (.cells cur.toArray t fz)) (l:List UInt8) (hl:l.length=n) (hseg:(cur.drop o).take n=zu l):
    (convert src dst (.slice (some ⟨g,o,none⟩) n cap)).run P w=.ok (.string ⟨l.toArray⟩) w:=by
  have:=run_convert_bytes_arg (P:=P) w src e hs he g o n cap (l.map fun c=>(c.toNat:Int)) (by rw [zgW,hl]) (fun i hi=>by
    refine zg hg ?_;rw [<- Yh l i (by omega),<- hseg,List.getElem?_take,if_pos hi,List.getElem?_drop,zgN]) dst hd
  rw [Zu] at this;exact this
def Zm (l:List UInt8) (k:Nat):List Value:=zu (l.take k)++Yx (l.length - k) (.int .u8 0)
theorem xo (l:List UInt8) (k:Nat) (hk:k < l.length):(Zm l k).toArray[k]? = some (.int .u8 0):=by
  have:(zu (l.take k)).length=k:=by rw [Zj,zgX];omega
  rw [zgN];unfold Zm Yx;rw [List.getElem?_append_right (by omega),this,Nat.sub_self,List.getElem?_replicate,if_pos (by omega)]
theorem YK (l:List UInt8) (k j:Nat) (hk:k<=j) (hj:j < l.length):(Zm l k).toArray[j]? = some (.int .u8 0):=by
  have:(zu (l.take k)).length=k:=by rw [Zj,zgX];omega
  rw [zgN];unfold Zm Yx;rw [List.getElem?_append_right (by omega),this,List.getElem?_replicate,if_pos (by omega)]
theorem yj (l:List UInt8) (k:Nat) (hk:k < l.length) (v:Value) (hv:v=Yu (l.getD k 0)):(Zm l k).toArray.setIfInBounds k v=(Zm l (k+1)).toArray:=by
  have h1:(zu (l.take k)).length=k:=by rw [Zj,zgX];omega
  rw [List.setIfInBounds_toArray]
  congr 1
  unfold Zm Yx;obtain ⟨m,hm⟩:∃ m,l.length - k=m+1:=⟨l.length - k - 1,by omega⟩;rw [List.set_append_right _ _ (by omega),h1,Nat.sub_self,hm,show l.length - (k+1)=m from by omega,List.replicate_succ,List.set_cons_zero];rw [List.take_succ_eq_append_getElem hk,hv,zgY,zgS hk];unfold zu;rw [List.map_append,List.append_assoc];rfl
theorem zaj (l:List UInt8):Zm l 0=Yx l.length (.int .u8 0):=by simp [Zm,zu]
theorem zbh (l:List UInt8):Zm l l.length=zu l:=by simp [Zm,Yx]
theorem zao (x:Int) (half n k:Nat) (hk:k < 8):
    Value.int .u8 (IntKind.u64.wrap x / 2 ^ (8*(7 - k)) % 256)=Yu ((zm x half n).getD k 0):=by
  have e:(zm x half n).getD k 0=UInt8.ofNat (Zx x k):=by
    unfold zm;rw [zgY,List.getElem?_append_left (by simpa using hk),zg3,List.getElem?_range hk];rfl
  rw [e];unfold Yu
  have h2:(UInt8.ofNat (Zx x k)).toNat=Zx x k:=by
    rw [UInt8.toNat_ofNat'];unfold Zx;omega
  rw [h2,IntKind.wrap_u64];unfold Zx
  congr 1
  have hnn:0<=x % 18446744073709551616:=Int.emod_nonneg _ (by decide);rw [Int.natCast_emod,Int.natCast_ediv,Int.natCast_pow,Int.toNat_of_nonneg hnn];rfl
theorem zd8 (m:Nat) (z:Int) (hz:z=m % 256):Value.int .u8 z=Yu (UInt8.ofNat m):=by
  subst hz;unfold Yu;rw [UInt8.toNat_ofNat'];congr 1
set_option maxRecDepth 100000 in
theorem ze4 (w:World) (x:Int) (half n:Nat) (hh:half<=1) (hn:n<=2000):
    Calls Tryz.prog 142 #[.int .i64 x,.int .i64 half,.int .i64 n] w fun e w'=>e=.returned (.string ⟨(zm x half n).toArray⟩)∧Chg (fun _=>False) w w':=by
  have ll:=ZR x half n;have HNUM:=zf (fun k hk=>zao x half n k hk);have B8:=zf (show (zm x half n).getD 8 0=UInt8.ofNat half from rfl);have B9:=zf (show (zm x half n).getD 9 0=UInt8.ofNat (n / 256) from rfl);have B10:=zf (show (zm x half n).getD 10 0=UInt8.ofNat n from rfl);generalize zm x half n=L at *;have LL:=zf ll;clear ll;go_enter Tryz.func142,Tryz.ntmps142;go_wp2;go_loopw [9] (fun i wr=>∃ k:Nat,k<=8∧i=.int .i64 k∧wr.heap[w.heap.size]? = some (.cells (Zm L k).toArray 324 (0,0))∧Chg (fun _=>False) w wr) (fun i _=>8 - (intOf i).toNat)
  case atStart=>exact ⟨0,by omega,rfl,by rw [zaj,LL.out];exact zh _ _,zj _ _ _⟩
  case round=>
    obtain ⟨k,hk,rfl,hb,hc⟩:=hrel;by_cases hlt:k < 8
    · have cc:wr.cell? ⟨w.heap.size,k,none⟩=some (.int .u8 0):=zg hb (xo L k (by rw [LL.out];omega))
      have ff:wr.frozen? ⟨w.heap.size,k,none⟩=false:=zn hb;have HB:=zf hb;have HC:=zf hc;clear hb hc;go_wp2;go_roundw
      case rel=>
        refine ⟨k+1,by omega,by go_num,?_,HC.out.setCell (fun e=>absurd e (Nat.lt_irrefl _)) _⟩;rw [zk HB.out,yj L k (by rw [LL.out];omega) _ (HNUM.out k hlt)]
      case measure=>simp [intOf];omega
    · obtain rfl:k=8:=by omega
      have c8:wr.cell? ⟨w.heap.size,8,none⟩=some (.int .u8 0):=zg hb (xo L 8 (by rw [LL.out];omega));have f8:wr.frozen? ⟨w.heap.size,8,none⟩=false:=zn hb;have c9:wr.cell? ⟨w.heap.size,9,none⟩=some (.int .u8 0):=zg hb (YK L 8 9 (by omega) (by rw [LL.out];omega));have f9:wr.frozen? ⟨w.heap.size,9,none⟩=false:=zn hb;have c10:wr.cell? ⟨w.heap.size,10,none⟩=some (.int .u8 0):=zg hb (YK L 8 10 (by omega) (by rw [LL.out];omega));have f10:wr.frozen? ⟨w.heap.size,10,none⟩=false:=zn hb;obtain ⟨w5,hw5⟩:∃ w5,w5=((wr.setCell ⟨w.heap.size,8,none⟩ (.int .u8 half)).setCell ⟨w.heap.size,9,none⟩ (.int .u8 ((n:Int) / 256))).setCell ⟨w.heap.size,10,none⟩ (.int .u8 ((n:Int) % 256)):=⟨_,rfl⟩
      have h5:w5.heap[w.heap.size]? = some (.cells (zu L).toArray 324 (0,0)):=by
        rw [hw5,zk (zk (zk hb _) _) _,yj L 8 (by rw [LL.out];omega) _ (by rw [B8.out];exact Yg half _ (by omega) rfl),
          yj L 9 (by rw [LL.out];omega) _ (by rw [B9.out];exact Yg (n / 256) _ (by omega) (by omega)),yj L 10 (by rw [LL.out];omega) _ (by rw [B10.out];exact zd8 n _ (by omega))]
        have:=zbh L;rw [LL.out] at this;rw [this]
      have k5:Chg (fun _=>False) w w5:=by
        rw [hw5];exact ((hc.setCell (fun e=>absurd e (Nat.lt_irrefl _)) _).setCell (fun e=>absurd e (Nat.lt_irrefl _)) _).setCell (fun e=>absurd e (Nat.lt_irrefl _)) _
      have hcv:=zbU (P:=Tryz.prog) w5 23 5 9 Tryz.underlying23 Tryz.underlying5 Tryz.underlying9 w.heap.size 0 11 11 (zu L) 324 (0,0) h5 L LL.out (by rw [List.drop_zero,List.take_of_length_le (by rw [Zj,LL.out];omega)]);have K5:=zf k5;have HB:=zf hb;have HC:=zf hc;rw [hw5] at hcv;have HW5:=zf hw5;clear hb hc h5 k5 hw5;go_wp2;go_ret;rw [<- HW5.out];exact ⟨rfl,K5.out⟩
theorem ze7 (s:ByteArray) (n:Nat):(s.extract 0 n).data.toList=s.data.toList.take n:=by
  simp [ByteArray.data_extract]
theorem ze8 (s:ByteArray) (n:Nat):(s.extract n s.size).data.toList=s.data.toList.drop n:=by
  have h:s.size=s.data.toList.length:=(zt s).symm;rw [ByteArray.data_extract,Array.toList_extract,List.extract_eq_take_drop,h,<- List.length_drop,zhc]
set_option maxHeartbeats 1000000 in
set_option maxRecDepth 100000 in
theorem zfG (w:World) (B:DB) (b:Nat) (d:Dev) (j:Jr) (f:Nat) (s:ByteArray) (h:zF w B d) (hj:JAt w B b j) (hb:¬ B.S b) (hf:f<=1) (hs:s.size<=(B.n - 1) / 2*32):
    Calls Tryz.prog 140 #[zbL b,.int .i64 f,.string s] w fun e w'=>e=.returned (.int .i64 (d.lay (1+f*((B.n - 1) / 2)) s.data.toList).2)∧zF w' B (d.lay (1+f*((B.n - 1) / 2)) s.data.toList).1∧Chg B.S w w':=by
  have n65:=h.ok.hi;have n3:=h.ok.lo;have H:=zf h;clear h;have HJ:=zf hj;clear hj;have hle:(B.n - 1) / 2<=32:=by omega
  obtain ⟨m,hm⟩:∃ m,(B.n - 1) / 2=m:=⟨_,rfl⟩;rw [hm] at hs hle ⊢;have HM:=zf hm;clear hm;have hfm:f*m<=32:=by rcases (by omega:f=0∨f=1) with rfl | rfl <;> omega
  have FM:=zf (show (f:Int)*(m:Int)=((f*m:Nat):Int) by push_cast;rfl);unfold zbL;go_enter Tryz.func140,Tryz.ntmps140;go_wp2;go_loopw [2,7] (fun t i wr=>∃ (k:Nat) (s':ByteArray) (d':Dev),i=.int .i64 k∧t=.string s'∧32*k+s'.size<=m*32+31∧(0 < s'.size->32*k+s'.size<=m*32)∧Hid (d.lay (1+f*m) s.data.toList=d'.lay (1+f*m+k) s'.data.toList)∧zF wr B d'∧Chg B.S w wr) (fun t _ _=>match t with | .string s'=>s'.size | _=>0)
  case atStart=>exact ⟨0,s,d,rfl,rfl,by omega,fun _=>by omega,rfl,H.out,Chg.refl _ _⟩
  case round=>
    obtain ⟨k,s',d',rfl,rfl,hk1,hk2,HL,hd,hc⟩:=hrel;have HD:=zf hd;have HC:=zf hc;have JR:=zf (HJ.out.chg hc hb);clear hd hc;have j0:=JR.out.c0;by_cases h0:0 < s'.size
    · have hk3:=hk2 h0
      clear hk2 hk1;have FST:=zf (zcB wr.drew b B f j0 HD.out.c0 n3 n65 (by omega) (by omega));rw [HM.out,FM.out] at FST;have HDD:=zf (HD.out.chg (zA (fun _=>False) wr) (fun _ _ e=>e));have EI:=zf (show (1+(f:Int)*(m:Int)+(k:Int))=((1+f*m+k:Nat):Int) by push_cast;omega);have hfm:f*m<=m:=by have:=Nat.mul_le_mul_right m hf;omega
      have WI:IntKind.i64.wrap (1+(f:Int)*(m:Int)+(k:Int))=((1+f*m+k:Nat):Int):=by
        rw [EI.out,IntKind.wrap_i64];omega
      have LU:=zf (zb5 d' (1+f*m+k) s'.data.toList (by rw [zt];exact h0));have Z1:=zf (ze7 s' 32);have Z2:=zf (ze8 s' 32);have SZ:=zf (zt s');by_cases h32:s'.size<=32
      · have T32:=zf (List.take_of_length_le (i:=32) (l:=s'.data.toList) (by rw [zt];exact h32))
        have D32:=zf (List.drop_of_length_le (i:=32) (l:=s'.data.toList) (by rw [zt];exact h32));rw [T32.out] at LU;have MN:min (s'.size:Int) 32=(s'.size:Int):=by omega
        have b2:(s'.size:Int)<=(s'.size:Int):=Int.le_refl _;go_wp2;refine yg 12 (by kernel_rfl) (by kernel_rfl) ?_;simp only [List.take_succ_cons,List.take_zero,List.drop_succ_cons,List.drop_zero]
        repeat still_step
        still_call (FST.out.mono fun _ _ h=>⟨h.1,h.2.symm⟩)
        repeat still_step
        refine wpStill_nil ?_;go_wp2_with fail
        try rw [EI.out]
        refine (xL wr.drew B d' _ s' HDD.out (by unfold maxLen;omega)).mono ?_;rintro e w1 ⟨rfl,d1,k1⟩;have D1:=zf d1;have K1:=zf k1;clear d1 k1;generalize d'.write ((1+f*m+k:Nat):Int) s'.data.toList=A at *;by_cases hr:A.2=0
        · rw [if_pos hr,D32.out] at LU
          rw [hr];clear hr;go_wp2;go_roundw
          case rel=>
            refine ⟨k+1,_,A.1,by go_num,rfl,?_,?_,?_,D1.out,(HC.out.drew).trans K1.out⟩
            · first | (simp;done) | (simp;omega)
            · intro hx;simp at hx
            · show _=_
              rw [HL.out,LU.out];rfl
          case measure=>simp;omega
        · rw [if_neg hr] at LU
          have hr1:(A.2 == 0)=false:=by simpa using hr
          have hr2:(A.2 != 0)=true:=by simpa using hr
          clear hr;go_wp2;go_ret;rw [HL.out,LU.out];exact ⟨rfl,D1.out,(HC.out.drew).trans K1.out⟩
      · have h33:32<=s'.size:=by omega
        have h34:(32:Int)<=s'.size:=by omega
        have MN:min (s'.size:Int) 32=32:=by omega
        rw [<- Z1.out,<- Z2.out] at LU;go_wp2;refine yg 12 (by kernel_rfl) (by kernel_rfl) ?_;simp only [List.take_succ_cons,List.take_zero,List.drop_succ_cons,List.drop_zero]
        repeat still_step
        still_call (FST.out.mono fun _ _ h=>⟨h.1,h.2.symm⟩)
        repeat still_step
        refine wpStill_nil ?_;go_wp2_with fail
        try rw [EI.out]
        refine (xL wr.drew B d' _ (s'.extract 0 32) HDD.out (by unfold maxLen;simp;omega)).mono ?_;rintro e w1 ⟨rfl,d1,k1⟩;have D1:=zf d1;have K1:=zf k1;clear d1 k1;generalize d'.write ((1+f*m+k:Nat):Int) (s'.extract 0 32).data.toList=A at *;by_cases hr:A.2=0
        · rw [if_pos hr] at LU
          rw [hr];clear hr;go_wp2;go_roundw
          case rel=>
            refine ⟨k+1,_,A.1,by go_num,rfl,?_,?_,?_,D1.out,(HC.out.drew).trans K1.out⟩
            · simp;omega
            · intro hx;simp;omega
            · show _=_
              rw [HL.out,LU.out];rfl
          case measure=>simp;omega
        · rw [if_neg hr] at LU
          have hr1:(A.2 == 0)=false:=by simpa using hr
          have hr2:(A.2 != 0)=true:=by simpa using hr
          clear hr;go_wp2;go_ret;rw [HL.out,LU.out];exact ⟨rfl,D1.out,(HC.out.drew).trans K1.out⟩
    · have hz:s'.size=0:=by omega
      have LU:=zf (zdO d' (1+f*m+k) s'.data.toList (by rw [zt];exact hz));have hd0:decide (0 < (s'.size:Int))=false:=by rw [decide_eq_false_iff_not];omega
      clear hz hk1 hk2;go_wp2_with fail;refine (Xl _ B d' HD.out).mono ?_;rintro e w1 ⟨rfl,d1,k1⟩;have D1:=zf d1;have K1:=zf k1;clear d1 k1;go_wp2;go_ret;rw [HL.out,LU.out];exact ⟨rfl,D1.out,HC.out.trans K1.out⟩
set_option maxHeartbeats 1000000 in
set_option maxRecDepth 100000 in
theorem XS (w:World) (B:DB) (b:Nat) (d:Dev) (j:Jr) (s:ByteArray) (h:zF w B d) (hj:JAt w B b j) (hb:¬ B.S b) (hh:j.half<=1) (hn0:-9223372036854775808<=j.number) (hn1:j.number<=9223372036854775807) (hm:s.size<=maxLen):
    Calls Tryz.prog 57 #[zbL b,.string s] w fun e w'=>
      e=.returned (.int .i64 (commit d j s).2.1)∧zF w' B (commit d j s).1∧JAt w' B b (commit d j s).2.2∧Chg (fun k=>B.S k∨k=b) w w':=by
  have n65:=h.ok.hi;have n3:=h.ok.lo;have j0:=hj.c0;have j1:=hj.c1;have j2:=hj.c2;have d0:=h.c0;have H:=zf h;have HJ:=zf hj;have hmm:d.m=(B.n - 1) / 2:=by unfold Dev.m;rw [h.ok.lnow]
  clear h hj;have DEAD:=zf (zfc w B d H.out);have ROOM:=zf (zdA w b B j0 d0 n3 n65);unfold zbL;by_cases hdd:d.dead=true
  · have e:commit d j s=(d,20,j):=by simp [commit,hdd]
    rw [e];rw [hdd] at DEAD;clear e hdd;go_enter Tryz.func57,Tryz.ntmps57;go_wp2_with fail;refine (DEAD.out).mono ?_;rintro e w' ⟨rfl,rfl⟩;go_wp2;go_ret;exact ⟨rfl,H.out,HJ.out,Chg.refl _ _⟩
  have hdd:d.dead=false:=by simpa using hdd
  have HDD:=zf hdd;rw [hdd] at DEAD;clear hdd;have HMM:=zf hmm;have hle:(B.n - 1) / 2<=32:=by omega
  obtain ⟨m,hme⟩:∃ m,(B.n - 1) / 2=m:=⟨_,rfl⟩;rw [hme] at HMM ROOM hle;have HME:=zf hme;clear hme hmm;unfold maxLen at hm;by_cases hr:m*32 < s.size
  · have e:commit d j s=(d,4,j):=by simp [commit,HDD.out,HMM.out,hr]
    rw [e];clear e;go_enter Tryz.func57,Tryz.ntmps57;go_wp2_with fail;refine (DEAD.out).mono ?_;rintro e w' ⟨rfl,rfl⟩;go_wp2_with fail;refine (ROOM.out).mono ?_;rintro e w' ⟨rfl,rfl⟩;go_wp2;go_ret;exact ⟨rfl,H.out,HJ.out,Chg.refl _ _⟩
  by_cases hnn:4611686018427387904<=j.number
  · have e:commit d j s=(d,3,j):=by simp [commit,HDD.out,HMM.out,hr,hnn]
    rw [e];clear e;go_enter Tryz.func57,Tryz.ntmps57;go_wp2_with fail;refine (DEAD.out).mono ?_;rintro e w' ⟨rfl,rfl⟩;go_wp2_with fail;refine (ROOM.out).mono ?_;rintro e w' ⟨rfl,rfl⟩;go_wp2;go_ret;exact ⟨rfl,H.out,HJ.out,Chg.refl _ _⟩
  have LAY:=zf (zfG w B b d j (1 - j.half) s H.out HJ.out hb (by omega) (by rw [HME.out];omega));rw [HME.out] at LAY
  have CE:=zf (show commit d j s=(let a:=d.lay (1+(1 - j.half)*m) s.data.toList
    if a.2≠0 then (a.1,a.2,j)
    else
      let b:=a.1.write 0 (zm (j.number+1) (1 - j.half) s.size)
      if b.2≠0 then (b.1,b.2,j)
      else
        let c:=b.1.barrier
        if c.2≠0 then (c.1,c.2,j) else (c.1,0,⟨j.number+1,1 - j.half,s⟩)) by
    unfold commit;rw [HDD.out,HMM.out,if_neg (by decide),if_neg hr,if_neg hnn])
  generalize hA:d.lay (1+(1 - j.half)*m) s.data.toList=A at *;have EH:=zf (show (1 - (j.half:Int))=((1 - j.half:Nat):Int) by omega);have hx1:1 - j.half<=1:=by omega
  generalize hX:1 - j.half=X at *;have HX:=zf hX;clear hA hX;go_enter Tryz.func57,Tryz.ntmps57;go_wp2_with fail;refine (DEAD.out).mono ?_;rintro e w' ⟨rfl,rfl⟩;go_wp2_with fail;refine (ROOM.out).mono ?_;rintro e w' ⟨rfl,rfl⟩;go_wp2_with fail;rw [EH.out];refine (LAY.out).mono ?_;rintro e w1 ⟨rfl,d1,k1⟩;have D1:=zf d1;have K1:=zf k1;have J1:=zf (HJ.out.chg k1 hb);clear d1 k1;by_cases ha:A.2=0
  · rw [ha]
    simp only [ha,ne_eq,not_true_eq_false,if_false] at CE;clear ha;have q0:=J1.out.c0;have q1:=J1.out.c1;have D1':=zf (D1.out.chg (zA (fun _=>False) w1) (fun _ _ e=>e));have HL:=zf (ZR (j.number+1) X s.size);have hs2:s.size<=2000:=by omega
    have WR:=zf (fun w2 (D2:zF w2 B A.1)=>(show Calls Tryz.prog 141 #[B.ptr,.int .i64 0,.string ⟨(zm (j.number+1) X s.size).toArray⟩] w2 fun e w'=>e=.returned (.int .i64 (A.1.write 0 (zm (j.number+1) X s.size)).2)∧zF w' B (A.1.write 0 (zm (j.number+1) X s.size)).1∧Chg B.S w2 w' from
      xL w2 B A.1 0 _ D2 (by show (zm (j.number+1) X s.size).toArray.size<=maxLen;rw [List.size_toArray,HL.out];unfold maxLen;omega)))
    generalize A.1.write 0 (zm (j.number+1) X s.size)=Bw at *;have hnn':j.number < 4611686018427387904:=by omega
    go_wp2;refine zI (N:=80) [.rd [0,1,2,3,4,5,6,7,8,9,10,11],.ef 12,.ef 13,.rd [14]] (fun w'=>w'.cell? ⟨b,0,none⟩=some (.pointer (some ⟨B.b,0,none⟩))∧w'.cell? ⟨b,1,none⟩=some (.int .i64 j.number)) (by kernel_rfl) (by kernel_rfl) (by kernel_rfl) (by kernel_rfl) (Nat.le_of_ble_eq_true rfl) ⟨q0,q1⟩ ?_;refine zS (A:=?A1) ?h1 ?h2
    case h1=>
      intro w' hS K hK;obtain ⟨s0,s1⟩:=hS;simp only [zJ,zgL,zgM,zgN,zgO,zgP]
      repeat still_step
      refine wpStill_nil ?_;exact hK
    refine Zk rfl ?_;go_wp2_with fail;refine (ze4 _ (j.number+1) X s.size hx1 hs2).mono ?_;rintro e w2 ⟨rfl,k2⟩;have K2:=zf k2;have D2:=zf (D1'.out.chg k2 (fun _ _ e=>e));have J2:=zf ((J1.out.chg (zA (fun _=>False) w1) (fun e=>e)).chg k2 (fun e=>e));clear k2;go_wp2_with fail;refine ⟨⟨J2.out.c0,J2.out.c1⟩,?_⟩;refine Zk rfl ?_;go_wp2_with fail;refine (WR.out w2 D2.out).mono ?_;rintro e w3 ⟨rfl,d3,k3⟩;have D3:=zf d3;have K3:=zf k3;have J3:=zf (J2.out.chg k3 hb);clear d3 k3;go_wp2_with fail;refine ⟨⟨J3.out.c0,J3.out.c1⟩,?_⟩;refine zS (A:=?A2) ?h3 ?h4
    case h3=>
      intro w' hS K hK;clear hS;simp only [zJ,zgL,zgM,zgN,zgO,zgP]
      repeat still_step
      refine wpStill_nil ?_;exact hK
    refine ZT ?_;by_cases hbw:Bw.2=0
    · rw [hbw]
      simp only [hbw,not_true_eq_false,if_false] at CE;clear hbw;have q0':=J3.out.c0;have BAR:=zf (Xl w3 B Bw.1 D3.out);generalize Bw.1.barrier=Cb at *;go_wp2_with fail;refine (BAR.out).mono ?_;rintro e w4 ⟨rfl,d4,k4⟩;have D4:=zf d4;have K4:=zf k4;have J4:=zf (J3.out.chg k4 hb);clear d4 k4 q0 q1 q0';have K5:=zf (show Chg B.S w w4 from (K1.out.drew).trans ((K2.out.mono (fun _ _ e=>e.elim)).trans (K3.out.trans K4.out)));by_cases hcb:Cb.2=0
      · rw [hcb]
        simp only [hcb,not_true_eq_false,if_false] at CE;clear hcb;have r1:=J4.out.c1;have r2:=J4.out.c2;have r3:=J4.out.c3;have f1:w4.frozen? ⟨b,1,none⟩=false:=zn J4.out.hb;have f2:w4.frozen? ⟨b,2,none⟩=false:=zn J4.out.hb;have f3:w4.frozen? ⟨b,3,none⟩=false:=zn J4.out.hb;go_wp2;go_ret;rw [CE.out];have q:=((zy w4 b 1 (.int .i64 (j.number+1))).trans (zy _ b 2 (.int .i64 X))).trans (zy _ b 3 (.string s));refine ⟨rfl,D4.out.chg q (fun k hk e=>hb (e ▸ hk)),⟨?_⟩,(K5.out.mono (fun k _ h=>.inl h)).trans (q.mono (fun k _ h=>.inr h))⟩;rw [zk (zk (zk J4.out.hb _) _) _];rfl
      · have hcb1:(Cb.2 == 0)=false:=by simpa using hcb
        have hcb2:(Cb.2 != 0)=true:=by simpa using hcb
        simp only [hcb,not_false_eq_true,if_true] at CE;clear hcb;go_wp2;go_ret;rw [CE.out];exact ⟨rfl,D4.out,J4.out,K5.out.mono (fun k _ h=>.inl h)⟩
    · have hbw1:(Bw.2 == 0)=false:=by simpa using hbw
      have hbw2:(Bw.2 != 0)=true:=by simpa using hbw
      simp only [hbw,not_false_eq_true,if_true] at CE;clear hbw;have K4:=zf (show Chg B.S w w3 from (K1.out.drew).trans ((K2.out.mono (fun _ _ e=>e.elim)).trans K3.out));go_wp2;go_ret;rw [CE.out];exact ⟨rfl,D3.out,J3.out,K4.out.mono (fun k _ h=>.inl h)⟩
  · have ha1:(A.2 == 0)=false:=by simpa using ha
    have ha2:(A.2 != 0)=true:=by simpa using ha
    simp only [ne_eq,ha,not_false_eq_true,if_true] at CE;clear ha;go_wp2;go_ret;rw [CE.out];exact ⟨rfl,D1.out,J1.out,K1.out.mono (fun k _ h=>.inl h)⟩
end Go.Proofs.YtcilaocknhphnaaGreat
