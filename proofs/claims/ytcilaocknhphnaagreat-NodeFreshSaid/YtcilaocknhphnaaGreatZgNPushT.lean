/-
  The reference's messages (layer 22): Decode of a letter of kind Open. Layer 23: NodeOwner, walked. What an argument's reading says: a record. Append of a slice of another type.
-/
import Derived.Test.YtcilaocknhphnaaGreatZgNRIn6
import Derived.Test.YtcilaocknhphnaaGreatZgNNode3
import Derived.Test.YtcilaocknhphnaaGreatZgKit2
import Derived.Test.YtcilaocknhphnaaGreatZgTAt
import Derived.Test.YtcilaocknhphnaaGreatZgANew
import Derived.Test.YtcilaocknhphnaaGreatZgCSet
import Derived.Test.YtcilaocknhphnaaGreatZgURun
import Derived.Test.YtcilaocknhphnaaGreatZgRBase
namespace Go.Proofs.YtcilaocknhphnaaGreat
open Go.RowKit Go.Maps
theorem zfS {L:List zF} {k:Nat} {c:zF} (h:L[k]? = some c):(L.drop k).flatMap (fun c=>YS (Zk c))=zW (Zk c).length++(Zk c++(L.drop (k+1)).flatMap (fun c=>YS (Zk c))):=by
 rw [List.drop_eq_getElem?_toList_append,h];simp [YS]
theorem zc5 {s:ByteArray} {q m:Nat} {l r:List UInt8} (h:s.data.toList.drop q=l++r) (hm:m=l.length):(s.extract q (q+m)).data.toList=l:=by
 subst hm;rw [ByteArray.data_extract,Array.toList_extract,List.extract_eq_take_drop,Nat.add_sub_cancel_left,h,List.take_left]
set_option maxHeartbeats 8000000 in
set_option maxRecDepth 100000 in
theorem zcK (w:World) (c:Nat) (L:List zF) (s:ByteArray) (hs:s.data.toList=Yu c L) (hc:c / 8192=2) (hl:L.length<=8) (hb:∀ x∈L,Zj x=true) (hz:s.size<=4000):
  Calls Tryz.prog 19 #[.string s] w fun e w'=>∃ (ca:Option Addr) (cn cc:Nat),e=.returned (.tuple #[.agg #[.int .i64 1,.int .u16 (c:Int),.int .i64 0,.int .i64 0,.int .i64 0,.int .i64 0,.int .i64 0,.slice none 0 0,.int .i64 0,.int .i64 0,.string ⟨#[]⟩,.slice ca cn cc],.int .i64 0])∧Chg (fun _=>False) w w':=by
 have HB:=zf hb;have hz6:s.size<=1000000:=by omega
 have hc6:c < 65536:=by omega
 have SZ:=zf (zz s);unfold Yu zbD at hs;have D0:=zf (show s.data.toList.drop 0=zW 1++_ from hs);have D1:=zf (Zb D0.out);have D2:=zf (Zb D1.out);have D3:=zf (Zb D2.out);clear hs hb;have g4:decide (4000 < (s.size:Int))=false:=zly (by omega);have g4':decide (4000 < s.size)=false:=zly (by omega);have o0:=zh w (.cells #[.int .i64 0,.int .u16 0,.int .i64 0,.int .i64 0,.int .i64 0,.int .i64 0,.int .i64 0,.slice none 0 0,.int .i64 0,.int .i64 0,.string ⟨#[]⟩,.slice none 0 0] 61);have k0:=zi (fun _=>False) w (.cells #[.int .i64 0,.int .u16 0,.int .i64 0,.int .i64 0,.int .i64 0,.int .i64 0,.int .i64 0,.slice none 0 0,.int .i64 0,.int .i64 0,.string ⟨#[]⟩,.slice none 0 0] 61);have k1:=zi (fun _=>False) (w.alloc (.cells #[.int .i64 0,.int .u16 0,.int .i64 0,.int .i64 0,.int .i64 0,.int .i64 0,.int .i64 0,.slice none 0 0,.int .i64 0,.int .i64 0,.string ⟨#[]⟩,.slice none 0 0] 61)) (.cells #[.int .i64 0,.int .u16 0,.int .i64 0,.int .i64 0,.int .i64 0,.int .i64 0,.int .i64 0,.slice none 0 0,.int .i64 0,.int .i64 0,.string ⟨#[]⟩,.slice none 0 0] 61);have o2:=zh ((w.alloc (.cells #[.int .i64 0,.int .u16 0,.int .i64 0,.int .i64 0,.int .i64 0,.int .i64 0,.int .i64 0,.slice none 0 0,.int .i64 0,.int .i64 0,.string ⟨#[]⟩,.slice none 0 0] 61)).alloc (.cells #[.int .i64 0,.int .u16 0,.int .i64 0,.int .i64 0,.int .i64 0,.int .i64 0,.int .i64 0,.slice none 0 0,.int .i64 0,.int .i64 0,.string ⟨#[]⟩,.slice none 0 0] 61)) (.cells #[.string s,.int .i64 0,.bool false] 181);have k2:=zi (fun _=>False) ((w.alloc (.cells #[.int .i64 0,.int .u16 0,.int .i64 0,.int .i64 0,.int .i64 0,.int .i64 0,.int .i64 0,.slice none 0 0,.int .i64 0,.int .i64 0,.string ⟨#[]⟩,.slice none 0 0] 61)).alloc (.cells #[.int .i64 0,.int .u16 0,.int .i64 0,.int .i64 0,.int .i64 0,.int .i64 0,.int .i64 0,.slice none 0 0,.int .i64 0,.int .i64 0,.string ⟨#[]⟩,.slice none 0 0] 61)) (.cells #[.string s,.int .i64 0,.bool false] 181);have o3:=zh (((w.alloc (.cells #[.int .i64 0,.int .u16 0,.int .i64 0,.int .i64 0,.int .i64 0,.int .i64 0,.int .i64 0,.slice none 0 0,.int .i64 0,.int .i64 0,.string ⟨#[]⟩,.slice none 0 0] 61)).alloc (.cells #[.int .i64 0,.int .u16 0,.int .i64 0,.int .i64 0,.int .i64 0,.int .i64 0,.int .i64 0,.slice none 0 0,.int .i64 0,.int .i64 0,.string ⟨#[]⟩,.slice none 0 0] 61)).alloc (.cells #[.string s,.int .i64 0,.bool false] 181)) (.cells #[.int .i64 0,.int .u16 0,.int .i64 0,.int .i64 0,.int .i64 0,.int .i64 0,.int .i64 0,.slice none 0 0,.int .i64 0,.int .i64 0,.string ⟨#[]⟩,.slice none 0 0] 61);have k3:=zi (fun _=>False) (((w.alloc (.cells #[.int .i64 0,.int .u16 0,.int .i64 0,.int .i64 0,.int .i64 0,.int .i64 0,.int .i64 0,.slice none 0 0,.int .i64 0,.int .i64 0,.string ⟨#[]⟩,.slice none 0 0] 61)).alloc (.cells #[.int .i64 0,.int .u16 0,.int .i64 0,.int .i64 0,.int .i64 0,.int .i64 0,.int .i64 0,.slice none 0 0,.int .i64 0,.int .i64 0,.string ⟨#[]⟩,.slice none 0 0] 61)).alloc (.cells #[.string s,.int .i64 0,.bool false] 181)) (.cells #[.int .i64 0,.int .u16 0,.int .i64 0,.int .i64 0,.int .i64 0,.int .i64 0,.int .i64 0,.slice none 0 0,.int .i64 0,.int .i64 0,.string ⟨#[]⟩,.slice none 0 0] 61);rw [zlH,zlH,zlH] at o3;rw [zlH,zlH] at o2;have OM0:=zf o3;have RI0:=zf (show RIn _ (w.heap.size+1+1) s 0 from k3.obj (fun e=>e) o2);have OR0:=zf (k3.obj (fun e=>e) (k2.obj (fun e=>e) (k1.obj (fun e=>e) o0)));have K0:=zf (((k0.trans k1).trans k2).trans k3);clear o0 o2 o3 k0 k1 k2 k3;go_enter Tryz.func19,Tryz.ntmps19;go_wp2_with fail;have S0:w.heap.size+1+1+1 < ((((w.alloc (.cells #[.int .i64 0,.int .u16 0,.int .i64 0,.int .i64 0,.int .i64 0,.int .i64 0,.int .i64 0,.slice none 0 0,.int .i64 0,.int .i64 0,.string ⟨#[]⟩,.slice none 0 0] 61)).alloc (.cells #[.int .i64 0,.int .u16 0,.int .i64 0,.int .i64 0,.int .i64 0,.int .i64 0,.int .i64 0,.slice none 0 0,.int .i64 0,.int .i64 0,.string ⟨#[]⟩,.slice none 0 0] 61)).alloc (.cells #[.string s,.int .i64 0,.bool false] 181)).alloc (.cells #[.int .i64 0,.int .u16 0,.int .i64 0,.int .i64 0,.int .i64 0,.int .i64 0,.int .i64 0,.slice none 0 0,.int .i64 0,.int .i64 0,.string ⟨#[]⟩,.slice none 0 0] 61)).heap.size:=zu OM0.out;generalize (((w.alloc (.cells #[.int .i64 0,.int .u16 0,.int .i64 0,.int .i64 0,.int .i64 0,.int .i64 0,.int .i64 0,.slice none 0 0,.int .i64 0,.int .i64 0,.string ⟨#[]⟩,.slice none 0 0] 61)).alloc (.cells #[.int .i64 0,.int .u16 0,.int .i64 0,.int .i64 0,.int .i64 0,.int .i64 0,.int .i64 0,.slice none 0 0,.int .i64 0,.int .i64 0,.string ⟨#[]⟩,.slice none 0 0] 61)).alloc (.cells #[.string s,.int .i64 0,.bool false] 181)).alloc (.cells #[.int .i64 0,.int .u16 0,.int .i64 0,.int .i64 0,.int .i64 0,.int .i64 0,.int .i64 0,.slice none 0 0,.int .i64 0,.int .i64 0,.string ⟨#[]⟩,.slice none 0 0] 61)=w0 at *;generalize hM:w.heap.size+1+1+1=bM at *;generalize hI:w.heap.size+1+1=bI at *;have i1:w.heap.size < bI:=by omega
 have i2:bI < bM:=by omega
 clear hM hI;have N0:=zf (yu w0 bI s 0 1 5 _ RI0.out D0.out (by omega) (by omega) hz6);(with_reducible refine N0.out.mono ?_);rintro e w1 ⟨rfl,r1,k1⟩;have oc1:=k1.obj (fun e=>by omega) OM0.out;have q0:=zg (o:=0) oc1 rfl;have z0:=zk (o:=0) oc1;have kc1:=zA w1 bM 0 (.int .i64 1);have OM1:=zf (zR (o:=0) oc1 (.int .i64 1) (ds:=#[.int .i64 1,.int .u16 0,.int .i64 0,.int .i64 0,.int .i64 0,.int .i64 0,.int .i64 0,.slice none 0 0,.int .i64 0,.int .i64 0,.string ⟨#[]⟩,.slice none 0 0]) rfl);have RI1:=zf (r1.chg kc1 (fun e=>by omega));have OR1:=zf (kc1.obj (fun e=>by omega) (k1.obj (fun e=>by omega) OR0.out));have K1:=zf (Chg.next (Chg.next K0.out k1 (fun j hj e=>by omega)) kc1 (fun j hj e=>by omega));clear oc1 r1 k1 kc1 OM0 RI0 OR0 K0 N0;have a1:IntKind.u16.wrap (c:Int)=(c:Int):=by rw [IntKind.wrap_u16];omega
 have q0:=zg (o:=0) OM1.out rfl;go_wp2_with fail;generalize w1.setCell ⟨bM,0,none⟩ (.int .i64 1)=u1 at *;have N1:=zf (yu u1 bI s _ c 65535 _ RI1.out D1.out (by omega) (by omega) hz6);(with_reducible refine N1.out.mono ?_);rintro e w2 ⟨rfl,r1,k1⟩;have oc1:=k1.obj (fun e=>by omega) OM1.out;have q1:=zg (o:=1) oc1 rfl;have z1:=zk (o:=1) oc1;have kc1:=zA w2 bM 1 (.int .u16 (c:Int));have OM2:=zf (zR (o:=1) oc1 (.int .u16 (c:Int)) (ds:=#[.int .i64 1,.int .u16 (c:Int),.int .i64 0,.int .i64 0,.int .i64 0,.int .i64 0,.int .i64 0,.slice none 0 0,.int .i64 0,.int .i64 0,.string ⟨#[]⟩,.slice none 0 0]) rfl);have RI2:=zf (r1.chg kc1 (fun e=>by omega));have OR2:=zf (kc1.obj (fun e=>by omega) (k1.obj (fun e=>by omega) OR1.out));have K2:=zf (Chg.next (Chg.next K1.out k1 (fun j hj e=>by omega)) kc1 (fun j hj e=>by omega));clear oc1 r1 k1 kc1 OM1 RI1 OR1 K1 N1 q0;have q0:=zg (o:=0) OM2.out rfl;go_wp2_with fail;clear q0;generalize w2.setCell ⟨bM,1,none⟩ (.int .u16 (c:Int))=u2 at *;have N2:=zf (yu u2 bI s _ L.length 8 _ RI2.out D2.out (by omega) (by omega) hz6);have QS:=zf (ZN D2.out (yd _));(with_reducible refine N2.out.mono ?_);rintro e w3 ⟨rfl,r1,k1⟩;obtain ⟨q3,hq3⟩:∃ q3,q3=0+(zW 1).length+(zW c).length+(zW L.length).length:=⟨_,rfl⟩;rw [<- hq3] at r1;have hq:q3<=s.size:=by have:=QS.out;omega
 have D3:=zf (show s.data.toList.drop q3=(L.drop 0).flatMap (fun c=>YS (Zk c)) by rw [hq3];exact D3.out);have OM3:=zf (k1.obj (fun e=>by omega) OM2.out);have RI3:=zf r1;have OR3:=zf (k1.obj (fun e=>by omega) OR2.out);have K3:=zf (Chg.next K2.out k1 (fun j hj e=>by omega));have S3:bM < w3.heap.size:=zu OM3.out;clear r1 k1 OM2 RI2 OR2 K2 N2 D0 D1 D2 QS hq3;go_wp2_with fail;go_loopw [8] (fun kv wr=>∃ (k q:Nat) (v:Value) (xs:List (zF × Value)),k<=L.length∧kv=.int .i64 k∧Hid (RIn wr bI s q∧s.data.toList.drop q=(L.drop k).flatMap (fun c=>YS (Zk c))∧q<=s.size∧wr.heap[bM]? = some (.cells #[.int .i64 1,.int .u16 (c:Int),.int .i64 0,.int .i64 0,.int .i64 0,.int .i64 0,.int .i64 0,.slice none 0 0,.int .i64 0,.int .i64 0,.string ⟨#[]⟩,v] 61 (0,0))∧zf4 wr w3.heap.size v xs∧xs.map Prod.fst=L.take k∧xs.length=k∧wr.heap[w.heap.size]? = some (.cells #[.int .i64 0,.int .u16 0,.int .i64 0,.int .i64 0,.int .i64 0,.int .i64 0,.int .i64 0,.slice none 0 0,.int .i64 0,.int .i64 0,.string ⟨#[]⟩,.slice none 0 0] 61 (0,0))∧w3.heap.size<=wr.heap.size∧Chg (fun _=>False) w wr)) (fun kv _=>L.length - (intOf kv).toNat)
 case atStart=>exact ⟨0,q3,.slice none 0 0,[],by omega,rfl,zf ⟨RI3.out,D3.out,hq,OM3.out,⟨World.ownsRow_nil _ _ _ _,fun p hp=>(List.not_mem_nil hp).elim,List.Pairwise.nil⟩,rfl,rfl,OR3.out,zlS _,K3.out⟩⟩
 case round=>
  obtain ⟨k,q,v,xs,hk,rfl,HI⟩:=hrel;obtain ⟨hri,hdq,hq,hom,hcr,hmp,hxl,hor,hsz,hkc⟩:=HI.out;obtain ⟨la,lc,rfl⟩:=zl hcr.row;have RI:=zf hri;have DQ:=zf hdq;have OM:=zf hom;have CR:=zf hcr;have MP:=zf hmp;have XL:=zf hxl;have OR:=zf hor;have KC:=zf hkc;have hx8:xs.length<=8:=by omega
  clear HI hri hdq hom hcr hmp hor hkc RI3 D3 OM3 OR3 K3 hxl;by_cases hlt:k < L.length
  ·obtain ⟨x,hx⟩:∃ x,L[k]? = some x:=⟨_,zlz hlt⟩
   have hcb:=HB.out x (zlB hx);have D1:=zf (DQ.out.trans (zfS hx));have D2:=zf (Zb D1.out);have D3:=zf (Zb D2.out);have TK:=zf (show L.take (k+1)=L.take k++[x] by rw [zlR,hx];rfl);have hm4:=Yl hcb
   have hm1:1<=(Zk x).length:=by
    unfold Zk;have:=yd x.kind.toNat;rw [zlC];omega
   have QS:=ZN D2.out hm1;obtain ⟨m,hm⟩:∃ m,m=(Zk x).length:=⟨_,rfl⟩;have EX:=zf (zc5 D2.out hm);rw [<- hm] at D1 D3 QS hm4 EX;have NT:=zf (zfj wr bI s q m 4000 _ RI.out D1.out (by rw [zlC,<- hm];omega) (by omega) hz6);obtain ⟨q4,hq4⟩:∃ q4,q4=q+(zW m).length+m:=⟨_,rfl⟩;have hq4s:q4<=s.size:=by omega
   rw [<- hq4] at D3 NT;have NC:=zf (fun w1=>zfl w1 x (s.extract (q+(zW m).length) q4) hcb (by rw [hq4];exact EX.out) (by rw [ByteArray.size_extract];omega));have HCB:=zf hcb;clear hcb hm4 hm1 QS hm EX hq4 D1 D2 DQ RI;obtain ⟨kind,sg,sp,fr,f,t,n⟩:=x;unfold Zn at NC;simp only at NC;go_wp2_with fail;(with_reducible refine NT.out.mono ?_);rintro e w4 ⟨rfl,r1,k1⟩;go_wp2_with fail;(with_reducible refine (NC.out w4).mono ?_);rintro e w5 ⟨sv,rfl,ow,k2⟩;obtain ⟨sa,sc,rfl⟩:=zl ow;have hw4:wr.heap.size<=w4.heap.size:=k1.size;have hw5:w4.heap.size<=w5.heap.size:=k2.size;have ka:=zi (fun _=>False) w5 (.cells #[.int .i64 kind,.int .u16 (sg:Int),.string sp,.slice sa fr.length sc,.int .i64 f,.int .i64 t,.int .i64 n] 103);have kb:=zi (fun _=>False) (w5.alloc (.cells #[.int .i64 kind,.int .u16 (sg:Int),.string sp,.slice sa fr.length sc,.int .i64 f,.int .i64 t,.int .i64 n] 103)) (.cells #[.int .i64 kind,.int .u16 (sg:Int),.string sp,.slice sa fr.length sc,.int .i64 f,.int .i64 t,.int .i64 n] 103);have om5:=k2.obj (fun e=>e) (k1.obj (fun e=>by omega) OM.out);have om6:=ka.obj (fun e=>e) om5;have om7:=kb.obj (fun e=>e) om6;have q11:=zg (o:=11) om6 rfl;have obn:=zh (w5.alloc (.cells #[.int .i64 kind,.int .u16 (sg:Int),.string sp,.slice sa fr.length sc,.int .i64 f,.int .i64 t,.int .i64 n] 103)) (.cells #[.int .i64 kind,.int .u16 (sg:Int),.string sp,.slice sa fr.length sc,.int .i64 f,.int .i64 t,.int .i64 n] 103);rw [zlH] at obn;have OBN:=zf obn;clear obn;have CR4:=zf (CR.out.chg k1 (fun j h1 h2 e=>by omega));have OM7:=zf om7;have RI7:=zf (((r1.chg k2 (fun e=>e)).chg ka (fun e=>e)).chg kb (fun e=>e));have OR7:=zf (kb.obj (fun e=>e) (ka.obj (fun e=>e) (k2.obj (fun e=>e) (k1.obj (fun e=>by omega) OR.out))));have K7:=zf ((((KC.out.next k1 (fun j hj e=>by omega)).trans k2).trans ka).trans kb);have OWN:=zf (zo (zo (zo CR4.out.row k2 (fun _ _ e=>e)) ka (fun _ _ e=>e)) kb (fun _ _ e=>e));have KK:=zf ((k2.trans ka).trans kb);have OW:=zf (zo (zo ow ka (fun _ _ e=>e)) kb (fun _ _ e=>e));clear k1 k2 r1 ow om5 om6 om7 CR OM OR KC NT NC ka kb;go_wp2_with (at_builtin;refine zK rfl (.tmp 49) (.tmp 51) 59 rfl 103 7 80 Tryz.underlying59 Tryz.elemCert w3.heap.size _ xs.length (Ym xs) rfl ?a1 (w5.heap.size+1) [.int .i64 kind,.int .u16 (sg:Int),.string sp,.slice sa fr.length sc,.int .i64 f,.int .i64 t,.int .i64 n] 103 (0,0) rfl ?a2 rfl ?a3 ?a4 ?a5 ?a6 ?a7)
   case a1=>exact OWN.out
   case a2=>exact OBN.out
   case a3=>intro u hu;simp at hu;rcases hu with rfl | rfl | rfl | rfl | rfl | rfl | rfl <;> rfl
   case a4=>omega
   case a5=>unfold maxLen;omega
   case a6=>simp;omega
   intro v6 w6 o6 g6 _;obtain ⟨a6,c6,rfl⟩:=zl o6;have k6:=Chg.of_grown g6;have CR6:=zf (zf4.push (c:=⟨kind,sg,sp,fr,f,t,n⟩) CR4.out (by omega) KK.out OW.out k6 o6);have om8:=k6.obj (fun e=>by have:=(OWN.out.lt _ e).1;omega) OM7.out;have q11:=zg (o:=11) om8 rfl;have z11:=zk (o:=11) om8;have kc:=zA w6 bM 11 (.slice a6 (xs.length+1) c6);have OM9:=zf (zR (o:=11) om8 (.slice a6 (xs.length+1) c6) (ds:=#[.int .i64 1,.int .u16 (c:Int),.int .i64 0,.int .i64 0,.int .i64 0,.int .i64 0,.int .i64 0,.slice none 0 0,.int .i64 0,.int .i64 0,.string ⟨#[]⟩,.slice a6 (xs.length+1) c6]) rfl);have RI9:=zf ((RI7.out.chg k6 (fun e=>by have:=(OWN.out.lt _ e).1;omega)).chg kc (fun e=>by omega));have OR9:=zf (kc.obj (fun e=>by omega) (k6.obj (fun e=>by have:=(OWN.out.lt _ e).1;omega) OR7.out));have CR9:=zf (CR6.out.chg kc (fun j h1 h2 e=>by omega));have K9:=zf ((K7.out.next k6 (fun j hj e=>by have:=(OWN.out.lt j e).1;omega)).next kc (fun j hj e=>by omega))
   have hs9:w3.heap.size<=(w6.setCell ⟨bM,11,none⟩ (.slice a6 (xs.length+1) c6)).heap.size:=by
    have:=KK.out.size;have:=k6.size;have:=kc.size;omega
   have MP9:=zf (show (xs++[((⟨kind,sg,sp,fr,f,t,n⟩:zF),Value.slice sa fr.length sc)]).map Prod.fst=L.take (k+1) by rw [TK.out,List.map_append,MP.out];rfl);have XL9:=zf (show (xs++[((⟨kind,sg,sp,fr,f,t,n⟩:zF),Value.slice sa fr.length sc)]).length=k+1 by rw [zlC,XL.out];rfl);clear o6 g6 k6 om8 kc CR4 KK OW OWN OM7 RI7 OR7 K7 CR6 MP XL TK OBN;go_wp2;go_roundw
   case rel=>exact ⟨k+1,q4,_,_,by omega,by go_num,zf ⟨RI9.out,D3.out,hq4s,OM9.out,CR9.out,MP9.out,XL9.out,OR9.out,hs9,K9.out⟩⟩
   case measure=>simp [intOf];omega
  ·obtain rfl:k=L.length:=by omega
   have hend:q=s.size:=by
    have h1:=DQ.out;rw [List.drop_length] at h1;have h2:=congrArg List.length h1;have h3:=zz s;simp at h2;omega
   subst hend
   have hbx:∀ p∈xs,Zj p.1=true:=fun p hp=>by
    refine HB.out p.1 ?_;have h1:p.1∈xs.map Prod.fst:=List.mem_map_of_mem hp;rw [MP.out] at h1;exact List.mem_of_mem_take h1
   have HBX:=zf hbx;have RD:=zf (zbe wr bI s RI.out);clear hbx DQ RI HB XL MP;go_wp2_with fail;(with_reducible refine RD.out.mono ?_);rintro e w4 ⟨rfl,r1,k1⟩;have om:=k1.obj (fun e=>e) OM.out;have OM4:=zf om;have cr:=CR.out.chg k1 (fun _ _ _ e=>e);have FT:=zf (zfm w4 c hc (.slice la xs.length lc) _ xs (zaQ (by rw [<- zeS];exact cr.row) (zhf cr HBX.out)) hx8 HBX.out);have OR4:=zf (k1.obj (fun e=>e) OR.out);have K4:=zf (KC.out.trans k1);have q0:=zg (o:=0) om rfl;have q1:=zg (o:=1) om rfl;have q2:=zg (o:=2) om rfl;have q3:=zg (o:=3) om rfl;have q4:=zg (o:=4) om rfl;have q5:=zg (o:=5) om rfl;have q6:=zg (o:=6) om rfl;have q7:=zg (o:=7) om rfl;have q8:=zg (o:=8) om rfl;have q9:=zg (o:=9) om rfl;have q10:=zg (o:=10) om rfl;have q11:=zg (o:=11) om rfl;clear om cr k1 r1 RD OM CR OR KC HBX;go_wp2_with fail;(with_reducible refine FT.out.mono ?_);rintro e w5 ⟨rfl,k2⟩;have om:=k2.obj (fun e=>e) OM4.out;have orr:=k2.obj (fun e=>e) OR4.out;have K5:=zf (K4.out.trans k2);clear q0 q1 q2 q3 q4 q5 q6 q7 q8 q9 q10 q11 k2 FT OM4 OR4 K4;have q0:=zg (o:=0) om rfl;have q1:=zg (o:=1) om rfl;have q2:=zg (o:=2) om rfl;have q3:=zg (o:=3) om rfl;have q4:=zg (o:=4) om rfl;have q5:=zg (o:=5) om rfl;have q6:=zg (o:=6) om rfl;have q7:=zg (o:=7) om rfl;have q8:=zg (o:=8) om rfl;have q9:=zg (o:=9) om rfl;have q10:=zg (o:=10) om rfl;have q11:=zg (o:=11) om rfl;have y0:=zg (o:=0) orr rfl;have f0:=zk (o:=0) orr;have y1:=zg (o:=1) orr rfl;have f1:=zk (o:=1) orr;have y2:=zg (o:=2) orr rfl;have f2:=zk (o:=2) orr;have y3:=zg (o:=3) orr rfl;have f3:=zk (o:=3) orr;have y4:=zg (o:=4) orr rfl;have f4:=zk (o:=4) orr;have y5:=zg (o:=5) orr rfl;have f5:=zk (o:=5) orr;have y6:=zg (o:=6) orr rfl;have f6:=zk (o:=6) orr;have y7:=zg (o:=7) orr rfl;have f7:=zk (o:=7) orr;have y8:=zg (o:=8) orr rfl;have f8:=zk (o:=8) orr;have y9:=zg (o:=9) orr rfl;have f9:=zk (o:=9) orr;have y10:=zg (o:=10) orr rfl;have f10:=zk (o:=10) orr;have y11:=zg (o:=11) orr rfl;have f11:=zk (o:=11) orr;clear om;go_wp2_with fail;have or0:=orr;have or1:=zR (o:=0) or0 (.int .i64 1) (ds:=#[.int .i64 1,.int .u16 0,.int .i64 0,.int .i64 0,.int .i64 0,.int .i64 0,.int .i64 0,.slice none 0 0,.int .i64 0,.int .i64 0,.string ⟨#[]⟩,.slice none 0 0]) rfl;clear or0;have or2:=zR (o:=1) or1 (.int .u16 (c:Int)) (ds:=#[.int .i64 1,.int .u16 (c:Int),.int .i64 0,.int .i64 0,.int .i64 0,.int .i64 0,.int .i64 0,.slice none 0 0,.int .i64 0,.int .i64 0,.string ⟨#[]⟩,.slice none 0 0]) rfl;clear or1;have or3:=zR (o:=2) or2 (.int .i64 0) (ds:=#[.int .i64 1,.int .u16 (c:Int),.int .i64 0,.int .i64 0,.int .i64 0,.int .i64 0,.int .i64 0,.slice none 0 0,.int .i64 0,.int .i64 0,.string ⟨#[]⟩,.slice none 0 0]) rfl;clear or2;have or4:=zR (o:=3) or3 (.int .i64 0) (ds:=#[.int .i64 1,.int .u16 (c:Int),.int .i64 0,.int .i64 0,.int .i64 0,.int .i64 0,.int .i64 0,.slice none 0 0,.int .i64 0,.int .i64 0,.string ⟨#[]⟩,.slice none 0 0]) rfl;clear or3;have or5:=zR (o:=4) or4 (.int .i64 0) (ds:=#[.int .i64 1,.int .u16 (c:Int),.int .i64 0,.int .i64 0,.int .i64 0,.int .i64 0,.int .i64 0,.slice none 0 0,.int .i64 0,.int .i64 0,.string ⟨#[]⟩,.slice none 0 0]) rfl;clear or4;have or6:=zR (o:=5) or5 (.int .i64 0) (ds:=#[.int .i64 1,.int .u16 (c:Int),.int .i64 0,.int .i64 0,.int .i64 0,.int .i64 0,.int .i64 0,.slice none 0 0,.int .i64 0,.int .i64 0,.string ⟨#[]⟩,.slice none 0 0]) rfl;clear or5;have or7:=zR (o:=6) or6 (.int .i64 0) (ds:=#[.int .i64 1,.int .u16 (c:Int),.int .i64 0,.int .i64 0,.int .i64 0,.int .i64 0,.int .i64 0,.slice none 0 0,.int .i64 0,.int .i64 0,.string ⟨#[]⟩,.slice none 0 0]) rfl;clear or6;have or8:=zR (o:=7) or7 (.slice none 0 0) (ds:=#[.int .i64 1,.int .u16 (c:Int),.int .i64 0,.int .i64 0,.int .i64 0,.int .i64 0,.int .i64 0,.slice none 0 0,.int .i64 0,.int .i64 0,.string ⟨#[]⟩,.slice none 0 0]) rfl;clear or7;have or9:=zR (o:=8) or8 (.int .i64 0) (ds:=#[.int .i64 1,.int .u16 (c:Int),.int .i64 0,.int .i64 0,.int .i64 0,.int .i64 0,.int .i64 0,.slice none 0 0,.int .i64 0,.int .i64 0,.string ⟨#[]⟩,.slice none 0 0]) rfl;clear or8;have or10:=zR (o:=9) or9 (.int .i64 0) (ds:=#[.int .i64 1,.int .u16 (c:Int),.int .i64 0,.int .i64 0,.int .i64 0,.int .i64 0,.int .i64 0,.slice none 0 0,.int .i64 0,.int .i64 0,.string ⟨#[]⟩,.slice none 0 0]) rfl;clear or9;have or11:=zR (o:=10) or10 (.string ⟨#[]⟩) (ds:=#[.int .i64 1,.int .u16 (c:Int),.int .i64 0,.int .i64 0,.int .i64 0,.int .i64 0,.int .i64 0,.slice none 0 0,.int .i64 0,.int .i64 0,.string ⟨#[]⟩,.slice none 0 0]) rfl;clear or10;have or12:=zR (o:=11) or11 (.slice la xs.length lc) (ds:=#[.int .i64 1,.int .u16 (c:Int),.int .i64 0,.int .i64 0,.int .i64 0,.int .i64 0,.int .i64 0,.slice none 0 0,.int .i64 0,.int .i64 0,.string ⟨#[]⟩,.slice la xs.length lc]) rfl;clear or11;have kk:=(((((((((((zA w5 w.heap.size 0 (.int .i64 1)).trans (zA _ w.heap.size 1 (.int .u16 (c:Int)))).trans (zA _ w.heap.size 2 (.int .i64 0))).trans (zA _ w.heap.size 3 (.int .i64 0))).trans (zA _ w.heap.size 4 (.int .i64 0))).trans (zA _ w.heap.size 5 (.int .i64 0))).trans (zA _ w.heap.size 6 (.int .i64 0))).trans (zA _ w.heap.size 7 (.slice none 0 0))).trans (zA _ w.heap.size 8 (.int .i64 0))).trans (zA _ w.heap.size 9 (.int .i64 0))).trans (zA _ w.heap.size 10 (.string ⟨#[]⟩))).trans (zA _ w.heap.size 11 (.slice la xs.length lc));have KF:=zf (K5.out.next kk (fun j hj e=>by omega));clear q0 q1 q2 q3 q4 q5 q6 q7 q8 q9 q10 q11 y0 f0 y1 f1 y2 f2 y3 f3 y4 f4 y5 f5 y6 f6 y7 f7 y8 f8 y9 f9 y10 f10 y11 f11 kk K5;generalize ((((((((((((w5.setCell ⟨w.heap.size,0,none⟩ (.int .i64 1)).setCell ⟨w.heap.size,1,none⟩ (.int .u16 (c:Int))).setCell ⟨w.heap.size,2,none⟩ (.int .i64 0)).setCell ⟨w.heap.size,3,none⟩ (.int .i64 0)).setCell ⟨w.heap.size,4,none⟩ (.int .i64 0)).setCell ⟨w.heap.size,5,none⟩ (.int .i64 0)).setCell ⟨w.heap.size,6,none⟩ (.int .i64 0)).setCell ⟨w.heap.size,7,none⟩ (.slice none 0 0)).setCell ⟨w.heap.size,8,none⟩ (.int .i64 0)).setCell ⟨w.heap.size,9,none⟩ (.int .i64 0)).setCell ⟨w.heap.size,10,none⟩ (.string ⟨#[]⟩)).setCell ⟨w.heap.size,11,none⟩ (.slice la xs.length lc))=wf at *;have q0:=zg (o:=0) or12 rfl;have q1:=zg (o:=1) or12 rfl;have q2:=zg (o:=2) or12 rfl;have q3:=zg (o:=3) or12 rfl;have q4:=zg (o:=4) or12 rfl;have q5:=zg (o:=5) or12 rfl;have q6:=zg (o:=6) or12 rfl;have q7:=zg (o:=7) or12 rfl;have q8:=zg (o:=8) or12 rfl;have q9:=zg (o:=9) or12 rfl;have q10:=zg (o:=10) or12 rfl;have q11:=zg (o:=11) or12 rfl;refine bodyPost_ret (v:=.tuple #[.agg #[.int .i64 1,.int .u16 (c:Int),.int .i64 0,.int .i64 0,.int .i64 0,.int .i64 0,.int .i64 0,.slice none 0 0,.int .i64 0,.int .i64 0,.string ⟨#[]⟩,.slice la xs.length lc],.int .i64 0]) (by simp [results,Tryz.results19,go_sem,q0,q1,q2,q3,q4,q5,q6,q7,q8,q9,q10,q11]) rfl ?_;exact ⟨_,_,_,rfl,KF.out⟩
theorem zhk {S:Nat->Prop} {w w':World} (h:Ev.Ch S w w'):Chg S w w':=⟨h.os,h.tape,h.output,h.size,h.block⟩
def zgH (c:Nat):Nat × Bool:=
  if c < 16385∨24576<=c then (0,false)
  else if 40<=(c - 16385) % 50∨3<=(c - 16385) / 50 / 41∨(c - 16385) / 50 % 41 < 1 then (0,false)
  else (8292+50*((c - 16385) / 50 / 41)+(c - 16385) / 50 % 41,true)
theorem zdU (w:World) (i b:Nat) (hi:i < 3) (hb:b < 50):Calls Tryz.prog 63 #[.int .i64 (i:Int),.int .i64 (b:Int)] w fun e w'=>e=.returned (.int .u16 ((8292+50*i+b:Nat):Int))∧w=w':=by
 have e1:IntKind.i64.wrap (50*(i:Int))=50*(i:Int):=by rw [IntKind.wrap_i64];omega
 have e2:IntKind.i64.wrap (8292+50*(i:Int))=8292+50*(i:Int):=by rw [IntKind.wrap_i64];omega
 have e3:IntKind.i64.wrap (b:Int)=(b:Int):=by rw [IntKind.wrap_i64];omega
 have e4:IntKind.i64.wrap (8292+50*(i:Int)+(b:Int))=8292+50*(i:Int)+(b:Int):=by rw [IntKind.wrap_i64];omega
 have e5:IntKind.u16.wrap (8292+50*(i:Int)+(b:Int))=((8292+50*i+b:Nat):Int):=by rw [IntKind.wrap_u16];omega
 go_enter Tryz.func63,Tryz.ntmps63;go_wp2;go_ret;exact ⟨rfl,rfl⟩
theorem zh5 {c:Nat} (h:c < 16385):zgH c=(0,false):=by unfold zgH;rw [if_pos (.inl h)]
theorem zgG {c:Nat} (h:24576<=c):zgH c=(0,false):=by unfold zgH;rw [if_pos (.inr h)]
theorem zeE {N:Nat} (h:N < 8191):zgH (16385+N)=if 40<=N % 50∨3<=N / 50 / 41∨N / 50 % 41 < 1 then (0,false) else (8292+50*(N / 50 / 41)+N / 50 % 41,true):=by
 unfold zgH;rw [if_neg (by omega),show 16385+N - 16385=N by omega]
set_option maxHeartbeats 4000000 in
set_option maxRecDepth 100000 in
theorem zcN (w:World) (c:Nat) (hc:c < 65536):Calls Tryz.prog 28 #[.int .u16 (c:Int)] w fun e w'=>e=.returned (.tuple #[.int .u16 ((zgH c).1:Int),.bool (zgH c).2])∧w=w':=by
 have e1:IntKind.i64.wrap (c:Int)=(c:Int):=by rw [IntKind.wrap_i64];omega
 have e2:IntKind.i64.wrap ((c:Int) - 16384)=(c:Int) - 16384:=by rw [IntKind.wrap_i64];omega
 by_cases h1:c < 16385
 ·have e3:IntKind.i64.wrap ((c:Int) - 16384 - 1)=(c:Int) - 16384 - 1:=by rw [IntKind.wrap_i64];omega
  have g1:decide ((c:Int) - 16384 - 1 < 0)=true:=zlx (by omega);rw [zh5 h1];go_enter Tryz.func28,Tryz.ntmps28;go_wp2;go_ret2;exact ⟨rfl,rfl⟩
 by_cases h2:24576<=c
 ·have e3:IntKind.i64.wrap ((c:Int) - 16384 - 1)=(c:Int) - 16384 - 1:=by rw [IntKind.wrap_i64];omega
  have g1:decide ((c:Int) - 16384 - 1 < 0)=false:=zly (by omega);have g2:decide (8191<=(c:Int) - 16384 - 1)=true:=zlx (by omega);rw [zgG h2];go_enter Tryz.func28,Tryz.ntmps28;go_wp2;go_ret2;exact ⟨rfl,rfl⟩
 obtain ⟨N,rfl⟩:∃ N,c=16385+N:=⟨c - 16385,by omega⟩;have e3:IntKind.i64.wrap (((16385+N:Nat):Int) - 16384 - 1)=(N:Int):=by rw [IntKind.wrap_i64];omega
 have g1:decide ((N:Int) < 0)=false:=zly (by omega);have g2:decide (8191<=(N:Int))=false:=zly (by omega);rw [zeE (by omega)];have hN:N < 8191:=by omega
 clear e1 e2 h1 h2;by_cases h3:40<=N % 50
 ·have g3:decide (40<=(N:Int) % 50)=true:=zlx (by omega)
  rw [if_pos (.inl h3)];go_enter Tryz.func28,Tryz.ntmps28;go_wp2;go_ret2;exact ⟨rfl,rfl⟩
 have g3:decide (40<=(N:Int) % 50)=false:=zly (by omega);by_cases h4:3<=N / 50 / 41
 ·have g4:decide (3<=(N:Int) / 50 / 41)=true:=zlx (by omega)
  rw [if_pos (.inr (.inl h4))];go_enter Tryz.func28,Tryz.ntmps28;go_wp2;go_ret2;exact ⟨rfl,rfl⟩
 have g4:decide (3<=(N:Int) / 50 / 41)=false:=zly (by omega);by_cases h5:N / 50 % 41 < 1
 ·have g5:decide ((N:Int) / 50 % 41 < 1)=true:=zlx (by omega)
  rw [if_pos (.inr (.inr h5))];go_enter Tryz.func28,Tryz.ntmps28;go_wp2;go_ret2;exact ⟨rfl,rfl⟩
 have g5:decide ((N:Int) / 50 % 41 < 1)=false:=zly (by omega);rw [if_neg (by rintro (h | h | h) <;> omega)];have NK:=zdU w (N / 50 / 41) (N / 50 % 41) (by omega) (by omega);rw [show ((N / 50 / 41:Nat):Int)=(16385+(N:Int) - 16384 - 1) / 50 / 41 from by omega,show ((N / 50 % 41:Nat):Int)=(16385+(N:Int) - 16384 - 1) / 50 % 41 from by omega] at NK;have NK:=zf NK;go_enter Tryz.func28,Tryz.ntmps28;go_wp2_with fail;refine (NK.out).mono ?_;rintro e w1 ⟨rfl,rfl⟩;go_wp2;go_ret2;exact ⟨rfl,rfl⟩
open Go.ChangeShapes Go.WideShapes Go.ChangeAt
theorem Tryz.cellsEntry:Tryz.prog.cellsOf 34=2:=by kernel_rfl
theorem Tryz.cellsSet:Tryz.prog.cellsOf 32=1:=by kernel_rfl
theorem Tryz.cellsEntries:Tryz.prog.cellsOf 35=1:=by kernel_rfl
theorem Tryz.cellsObject:Tryz.prog.cellsOf 37=3:=by kernel_rfl
theorem Tryz.cellsObjects:Tryz.prog.cellsOf 38=1:=by kernel_rfl
theorem Tryz.cellsInt64:Tryz.prog.cellsOf 2=1:=by kernel_rfl
theorem Tryz.cellsRecord:Tryz.prog.cellsOf 40=2:=by kernel_rfl
section
variable {W:World} {H:Type} {enc:TypeId × Value->H}
theorem xX {α:Type} [Inhabited α] {P:Program} {t e:TypeId} {fuel N:Nat} {cs:List Value} {x:DataW H × List MemPlace} (ht:P.underlying t=some (.slice e)) (hN:P.cellsOf e=N) (hN0:0 < N) (h:DataW.trod enc P W 0 (fun _=>true) true fuel t cs=some x)
  {R:List Value->α->Prop} (hR:∀ k cs y,DataW.trod enc P W 0 (fun _=>true) true k e cs=some y->∃ a,R cs a):
  ∃ la cap,∃ L:List α,cs=[.slice la L.length cap]∧L.length<=cap∧cap<=maxLen∧(la=none->cap=0) ∧
   ∀ (j:Nat) a,L[j]? = some a->∃ g o vs,la=some ⟨g,o,none⟩∧g < W.heap.size∧R vs a∧∀ i,i < N->W.cell? ⟨g,o+j*N+i,none⟩=vs[i]?:=by
 rcases Deep.open_slice ht h with ⟨rfl,_⟩ | ⟨ad,len,cap,m,k,D,Pl,rfl,_,hl,hm,hmm,hd,hel⟩
 ·exact ⟨none,0,[],rfl,zlS _,by unfold maxLen;omega,fun _=>rfl,fun j a hj=>by simp at hj⟩
 ·simp at hmm
  obtain rfl:cap=m:=hmm.symm;rw [hN] at hel
  have hv:∀ i,i < cap->∃ a:α,∃ cs,W.cells? 0 (ad.add (i*N)) N=some cs∧R cs a:=by
   intro i hi;obtain ⟨cs,h1,h2⟩:=hel i hi;obtain ⟨v,q⟩:=hR _ _ _ h2;exact ⟨v,cs,h1,q⟩
  obtain ⟨f,hf2⟩:=Deep.choose_lt hv;refine ⟨some ad,cap,(List.range len).map f,by simp,by simpa using hl,hm,(fun e=>by cases e),fun j a hj=>?_⟩;rw [zlK] at hj
  have hjn:j < len:=by
   rcases Nat.lt_or_ge j len with h | h
   ·exact h
   ·rw [zlP (by simpa using h)] at hj;simp at hj
  rw [List.getElem?_range hjn] at hj;simp at hj;subst hj;obtain ⟨cs,h1,h2⟩:=hf2 j (by omega);have g:=(World.cells?_some h1).2.2;have hlen:=(World.cells?_some h1).2.1;obtain ⟨cs0,h3,_⟩:=hf2 0 (by omega);have g0:=(World.cells?_some h3).2.2 0 hN0;have hlen0:=(World.cells?_some h3).2.1;obtain ⟨b,off,spot⟩:=ad
  have hs:spot=none:=by
   rw [zlz (by omega)] at g0
   simpa [Addr.add] using World.cell?_spot g0
  subst hs;simp only [yj] at g;have gz:=g 0 hN0;rw [zlz (by omega)] at gz;exact ⟨b,off,cs,rfl,World.block_lt_of_cell? W _ gz,h2,fun i hi=>by have:=g i hi;exact this⟩
theorem zfh {fuel:Nat} {cs:List Value} {x:DataW H × List MemPlace} (h:DataW.trod enc Tryz.prog W 0 (fun _=>true) true fuel 32 cs=some x):
  ∃ v l,cs=[v]∧yR W v (· < W.heap.size) l:=by
 rcases open_strings Tryz.underlying32 Tryz.underlying29 Tryz.cellsWord h with ⟨hcs,_⟩ | ⟨a,len,cap,ss,hcs,_,hl,hm,hz,_,hcell,hws⟩
 ·exact ⟨_,[],hcs,⟨none,0,rfl,by simp,fun j x hj=>by simp at hj⟩,fun n c e=>by cases e;exact ⟨rfl,rfl⟩⟩
 ·simp at hz
  have hl2:(ss.take len).length=len:=by simp;omega
  refine ⟨_,ss.take len,hcs,⟨some a,cap,by rw [hl2],by rw [hl2];omega,fun j s hj=>?_⟩,fun n c e=>by cases e⟩
  have hjn:j < len:=by
   have:=(zlA.1 hj).1;omega
  have h1:=hcell j (by omega);have h10:=hcell 0 (by omega);obtain ⟨b,off,spot⟩:=a;have hs:spot=none:=by simpa [Addr.add] using World.cell?_spot h10
  subst hs;rw [yj] at h1;refine ⟨b,off,rfl,World.block_lt_of_cell? W _ h1,?_,hws s (List.mem_of_mem_take (zlB hj))⟩;rw [h1];rw [List.getElem?_take,if_pos hjn] at hj;rw [zlF,hj];rfl
set_option maxRecDepth 100000 in
theorem ziy {fuel:Nat} {cs:List Value} {x:DataW H × List MemPlace} (h:DataW.trod enc Tryz.prog W 0 (fun _=>true) true fuel 34 cs=some x):
  ∃ r:ZE × Value,cs=[.int .i64 r.1.1,r.2]∧yR W r.2 (· < W.heap.size) r.1.2:=by
 obtain ⟨y0,y1,n,e,hl,t0,t1⟩:=zhP Tryz.underlying34 h;rw [Tryz.cellsEntry] at hl
 match cs,hl with
 | [c0,c1],_=>
  simp only [Tryz.cellsInt,Tryz.cellsSet,List.drop_zero,List.drop_succ_cons,List.take_succ_cons,List.take_zero] at t0 t1;obtain ⟨s,e0,f0,hs⟩:=DataW.trod_int Tryz.underlying3 t0;obtain ⟨u,l,e1,hu⟩:=zfh t1;simp at e0 e1;subst e0 e1;exact ⟨((s,l),c1),rfl,hu⟩
theorem zb4 {α β:Type} {f:α->β} {l:List α} {j:Nat} {y:β} (h:(l.map f)[j]? = some y):∃ a,l[j]? = some a∧y=f a:=by
 rw [zlK] at h;cases e:l[j]? with
 | none=>rw [e] at h;cases h
 | some a=>rw [e] at h;cases h;exact ⟨a,rfl,rfl⟩
theorem zeb {fuel:Nat} {cs:List Value} {x:DataW H × List MemPlace} (h:DataW.trod enc Tryz.prog W 0 (fun _=>true) true fuel 35 cs=some x):∃ v L,cs=[v]∧ZG W v (· < W.heap.size) L:=by
 have:Inhabited (ZE × Value):=⟨((0,[]),undef)⟩;obtain ⟨la,cap,L,rfl,h1,h2,h3,h4⟩:=xX (R:=fun cs (r:ZE × Value)=>cs=[.int .i64 r.1.1,r.2]∧yR W r.2 (· < W.heap.size) r.1.2) Tryz.underlying35 Tryz.cellsEntry (by decide) h (fun k cs y hy=>ziy hy);refine ⟨_,L.map (·.1),rfl,L.map (fun a=>(a.1.1,a.2)),la,cap,by rw [zlD],by rw [zlD];exact h1,h2,h3,⟨by simp,fun j e y q1 q2=>?_⟩,fun j u hj=>?_⟩
 ·obtain ⟨a,z1,rfl⟩:=zb4 q1
  obtain ⟨b,z2,rfl⟩:=zb4 q2;rw [z1] at z2;cases z2;obtain ⟨_,_,_,_,_,⟨_,z⟩,_⟩:=h4 j a z1;exact ⟨rfl,z⟩
 ·obtain ⟨k,r,hk,hq⟩:=zhe hj
  obtain ⟨a,z1,rfl⟩:=zb4 hk;obtain ⟨g,o,vs,e1,e2,⟨rfl,_⟩,e4⟩:=h4 k a z1;refine ⟨g,o,e1,e2,?_⟩;rcases hq with ⟨rfl,rfl⟩ | ⟨rfl,rfl⟩
  ·exact e4 0 (by decide)
  ·rw [<- Nat.add_assoc];exact e4 1 (by decide)
set_option maxRecDepth 100000 in
theorem zke {fuel:Nat} {cs:List Value} {x:DataW H × List MemPlace} (h:DataW.trod enc Tryz.prog W 0 (fun _=>true) true fuel 37 cs=some x):
  ∃ r:Yr × Value,cs=[.int .i64 r.1.val,r.2,.int .i64 r.1.ver]∧ZG W r.2 (· < W.heap.size) r.1.ents:=by
 obtain ⟨xs,n,_,he,hl,hlen,hp⟩:=DataW.trod_struct Tryz.underlying37 h;rw [Tryz.cellsObject] at hl
 match cs,hl with
 | [c0,c1,c2],_=>
 match xs,hlen with
 | [y0,y1,y2],_=>
 have t0:DataW.trod enc Tryz.prog W 0 (fun _=>true) true n 2 [c0]=some y0:=hp 0 _ rfl;have t1:DataW.trod enc Tryz.prog W 0 (fun _=>true) true n 35 [c1]=some y1:=hp 1 _ rfl;have t2:DataW.trod enc Tryz.prog W 0 (fun _=>true) true n 2 [c2]=some y2:=hp 2 _ rfl;obtain ⟨a,e0,_,_⟩:=DataW.trod_int Tryz.underlying2 t0;obtain ⟨b,e2,_,_⟩:=DataW.trod_int Tryz.underlying2 t2;obtain ⟨v,L,e1,hL⟩:=zeb t1;simp at e0 e1 e2;subst e0 e1 e2;exact ⟨(⟨a,b,L⟩,c1),rfl,hL⟩
theorem zdS {fuel:Nat} {cs:List Value} {x:DataW H × List MemPlace} (h:DataW.trod enc Tryz.prog W 0 (fun _=>true) true fuel 38 cs=some x):∃ v L,cs=[v]∧ZC W v (· < W.heap.size) L:=by
 have:Inhabited (Yr × Value):=⟨(⟨0,0,[]⟩,undef)⟩;obtain ⟨la,cap,L,rfl,h1,h2,h3,h4⟩:=xX (R:=fun cs (r:Yr × Value)=>cs=[.int .i64 r.1.val,r.2,.int .i64 r.1.ver]∧ZG W r.2 (· < W.heap.size) r.1.ents) Tryz.underlying38 Tryz.cellsObject (by decide) h (fun k cs y hy=>zke hy);refine ⟨_,L.map (·.1),rfl,la,cap,by rw [zlD],by rw [zlD];exact h1,h2,h3,fun j y hj=>?_⟩;obtain ⟨a,z1,rfl⟩:=zb4 hj;obtain ⟨g,o,vs,e1,e2,⟨rfl,e3⟩,e4⟩:=h4 j a z1;exact ⟨g,o,a.2,e1,e2,e4 0 (by decide),e4 1 (by decide),e4 2 (by decide),e3⟩
set_option maxRecDepth 100000 in
theorem zcH {cs:Array Value} {d:DataW H} {ps:List MemPlace} (h:DataW.Trod enc Tryz.prog W 0 (fun _=>true) true 40 (.agg cs) d ps):
  ∃ (r:zcn) (oa:Option Addr) (oc:Nat),Value.agg cs=.agg #[.int .i64 r.boot,.slice oa r.objs.length oc]∧ZC W (.slice oa r.objs.length oc) (· < W.heap.size) r.objs:=by
 obtain ⟨fuel,hf⟩:=h;have hf':DataW.trod enc Tryz.prog W 0 (fun _=>true) true fuel 40 cs.toList=some (d,ps):=hf;obtain ⟨xs,n,_,he,hl,hlen,hp⟩:=DataW.trod_struct Tryz.underlying40 hf';rw [Tryz.cellsRecord] at hl
 have hcs:∃ c0 c1,cs=#[c0,c1]:=by
  match cs,hl with
  | ⟨[c0,c1]⟩,_=>exact ⟨c0,c1,rfl⟩
 obtain ⟨c0,c1,rfl⟩:=hcs
 match xs,hlen with
 | [y0,y1],_=>
 have t0:DataW.trod enc Tryz.prog W 0 (fun _=>true) true n 2 [c0]=some y0:=hp 0 _ rfl;have t1:DataW.trod enc Tryz.prog W 0 (fun _=>true) true n 38 [c1]=some y1:=hp 1 _ rfl;obtain ⟨a,e0,_,_⟩:=DataW.trod_int Tryz.underlying2 t0;obtain ⟨v,L,e1,hL⟩:=zdS t1;simp at e0 e1;subst e0 e1;obtain ⟨oa,oc,rfl,_⟩:=hL.shape;exact ⟨⟨a,L⟩,oa,oc,rfl,hL⟩
end
def zhF (W:World) (v:Value) (r:zcn):Prop:=∃ oa oc,v=.agg #[.int .i64 r.boot,.slice oa r.objs.length oc]∧ZC W (.slice oa r.objs.length oc) (· < W.heap.size) r.objs
theorem zcI {W:World} {H:Type} {enc:TypeId × Value->H} {cs:Array Value} {d:DataW H} {ps:List MemPlace} (h:DataW.Trod enc Tryz.prog W 0 (fun _=>true) true 40 (.agg cs) d ps):∃ r,zhF W (.agg cs) r:=by
 obtain ⟨r,oa,oc,h1,h2⟩:=zcH h;exact ⟨r,oa,oc,h1,h2⟩
theorem Xt {P:Program} {w:World} {t t2 ty e e2:TypeId} {args:Array Value} (ht:P.underlying t=some (.slice e)) (ht2:P.underlying t2=some (.slice e2)):(Builtin.append_ #[t,t2] ty args).run P w=(Builtin.append_ #[t,t] ty args).run P w:=by
 have e0:(#[t,t2]:Array TypeId)[0]? = some t:=rfl;have e1:(#[t,t2]:Array TypeId)[1]? = some t2:=rfl;have e2:(#[t,t]:Array TypeId)[0]? = some t:=rfl;have e3:(#[t,t]:Array TypeId)[1]? = some t:=rfl;unfold Builtin.append_;simp only [e0,e1,e2,e3];cases h0:args[0]? with
 | none=>rfl
 | some s=>
  cases h1:args[1]? with
  | none=>rfl
  | some x=>
   simp only [Sem.run_bind,run_underlying ht,Result.andThen_ok];cases s with
   | slice a n c=>
    simp only [Sem.run_bind,run_underlying ht,run_underlying ht2,Result.andThen_ok,Sem.run_pure]
   | _=>rfl
theorem zbL {P:Program} {w:World} {ops:Array Oper} {rest:List Oper} {o:Oper} {a:Act} {Q:Exit->Act->World->Prop} (hgd:o.guard=none) (s x:Operand) (t t2:TypeId)
  (ho:o.op=.call { callee:=.builtin .append,args:=#[s,x],argTypes:=#[t,t2] }) (e e2:TypeId) (size bytes:Nat) (ht:P.underlying t=some (.slice e)) (ht2:P.underlying t2=some (.slice e2)) (hE:Zc P e size bytes)
  (base:Nat) (v:Value) (n:Nat) (xs:List Value) (hs:a.eval s=v) (hown:w.ownsRow base e size v n xs)
  (xa:Option Addr) (m c:Nat) (news:List Value) (hx:a.eval x=.slice xa m c) (hl:news.length=m*size) (hc:∀ (j:Nat) u,news[j]? = some u->∃ g o,xa=some ⟨g,o,none⟩∧w.cell? ⟨g,o+j,none⟩=some u) (hnil:xa=none->m=0∧c=0)
  (h1:∀ u∈news,u.oneCell'=true) (hbytes:(n+m)*bytes<=140737488355328) (h63:n+m<=maxLen) (hbase:base<=w.heap.size)
  (h:∀ v' w',w'.ownsRow base e size v' (n+m) (xs++news)->w.grownBy w' v.ownBlock->wpList P ops Q rest (a.put o.dst v') w'):wpList P ops Q (o :: rest) a w:=by
 obtain ⟨i,z,hi,hz,q1,q2,q3,q4⟩:=hE;refine wpList_plain hgd fun K hK=>?_;cases xa with
 | none=>
  obtain ⟨rfl,rfl⟩:=hnil rfl;have:news=[]:=List.eq_nil_of_length_eq_zero (by rw [hl];omega);subst this;have hrun:=run_append_owned_none (P:=P) (w:=w) base t o.type e i size ht hi v n xs hown;rw [<- Xt ht ht2] at hrun;unfold Oper.wp;simp [execOp,ho,resolve,invoke,builtin,hs,hx,hrun,Result.andThen];exact hK _ _ (h v w (by simpa using hown) ⟨rfl,rfl,rfl,zlS _,fun _ _ _=>rfl⟩)
 | some ad=>
  have hnews:∀ j u,news[j]? = some u->w.cell? (ad.add j)=some u:=fun j u hj=>by
   obtain ⟨g,oo,e1,hcell⟩:=hc j u hj;cases e1;rw [yj];exact hcell
  obtain ⟨v',w',hr,h2,h3,_⟩:=run_append_own (P:=P) w base t o.type e i z size bytes ht hi hz q1 q2 q3 q4 v n xs hown ad m c news hl hnews h1 h63 hbytes hbase;rw [<- Xt ht ht2] at hr;unfold Oper.wp execOp;simp only [ho,resolve,invoke,builtin,Sem.run_bind,Sem.run_pure,Result.andThen_ok,List.map_toArray,List.map_cons,List.map_nil,hs,hx,hr];exact hK _ _ (h v' w' h2 h3)
end Go.Proofs.YtcilaocknhphnaaGreat
