/-
  Package record: Encode. Package pack: numbers that are read. Package pack: In: what is read where it stands. Package pack: In: words and sets that are read. Package pack: In: sets that are read; its end.
-/
import Derived.Test.YtcilaocknhphnaaGreatZrCCert1
import Derived.Test.YtcilaocknhphnaaGreatZrNOut
import Derived.Test.YtcilaocknhphnaaGreatZrNAt
namespace Go.Proofs.YtcilaocknhphnaaGreat
open Go.RowKit Go.Maps
theorem zeA {l:List ByteArray} (h:zbJ l=true):(zco l).length<=273:=by
  have h1:=YT l (fun x hx=>yJ h hx);have h2:l.length<=16:=(YC h).2;unfold zco;rw [List.length_cons];omega
theorem zfa {x:zO} (h:zaq x=true):(zbr x).length<=282:=by
  obtain ⟨h1,h2⟩:=ZU.1 h;have:=zeA h2;have:=zdn (z:=x.1) (by omega);unfold zbr;rw [zgV];omega
theorem Xk:∀ (l:List zO),(∀ x∈l,zaq x=true)->(l.flatMap zbr).length<=282*l.length
  | [],_=>by simp
  | x :: l,h=>by
    have h1:=zfa (h x List.mem_cons_self);have h2:=Xk l (fun y hy=>h y (List.mem_cons_of_mem _ hy));rw [List.flatMap_cons,zgV,List.length_cons];omega
theorem zeM {o:yE} (h:yM o=true):(zaZ o).length<=3411:=by
  obtain ⟨h1,h2,_⟩:=xI.1 h;obtain ⟨h3,h4⟩:=yq h;have:=Xk o.ents h3;have:=zdn (z:=o.val) h1.2;have:=zdn (z:=o.ver) h2.2;have:=(yN (n:=o.ents.length) (by omega)).2;unfold zaZ;simp only [zgV];omega
theorem YH:∀ (l:List yE),(∀ x∈l,yM x=true)->(l.flatMap zaZ).length<=3411*l.length
  | [],_=>by simp
  | x :: l,h=>by
    have h1:=zeM (h x List.mem_cons_self);have h2:=YH l (fun y hy=>h y (List.mem_cons_of_mem _ hy));rw [List.flatMap_cons,zgV,List.length_cons];omega
theorem zbo {α:Type} {f:α->List UInt8} {l:List α} {k:Nat} {x:α} (hx:l[k]? = some x):(l.take (k+1)).flatMap f=(l.take k).flatMap f++f x:=by
  rw [zha,hx,List.flatMap_append];simp
set_option maxHeartbeats 4000000 in
set_option maxRecDepth 100000 in
theorem XJ (w:World) (r:xK) (oa:Option Addr) (oc:Nat) (G:Nat->Prop) (h:zN w (.slice oa r.objs.length oc) G r.objs) (hf:∀ o∈r.objs,o.ents.length<=1000) (hG:∀ k,G k->k < w.heap.size):
    Calls Tryz.prog 55 #[.agg #[.int .i64 r.boot,.slice oa r.objs.length oc]] w fun e w'=>
      ((Yl r=true∧e=.returned (.tuple #[.string ⟨(xH r).toArray⟩,.int .i64 0]))∨(Yl r=false∧e=.returned (.tuple #[.string ⟨#[]⟩,.int .i64 2])))∧Chg (fun _=>False) w w':=by
  have H:=zf h;have HG:=zf hG;have kb:=zj (fun _=>False) w (.cells #[.int .i64 r.boot,.slice oa r.objs.length oc] 40);have OB:=zf (zh w (.cells #[.int .i64 r.boot,.slice oa r.objs.length oc] 40));have sz0:(w.alloc (.cells #[.int .i64 r.boot,.slice oa r.objs.length oc] 40)).heap.size=w.heap.size+1:=zg0 _ _;have MY:=zf (XI (w.alloc (.cells #[.int .i64 r.boot,.slice oa r.objs.length oc] 40)) r oa oc G (h.chg kb (fun _ _ e=>e)) hf);have KB:=zf kb;have RE:=zf (show xH r=zZ r.boot.toNat++(zZ r.objs.length++r.objs.flatMap zaZ) from rfl);have RM:=zf (fun e:Yl r=true=>Zv.1 e);generalize xH r=re at *;generalize Yl r=rb at *;obtain ⟨boot,objs⟩:=r;simp only at *;have c0:=zg (o:=0) OB.out rfl;have c1:=zg (o:=1) OB.out rfl;clear h kb hf hG;go_enter Tryz.func55,Tryz.ntmps55;go_wp2_with fail;(with_reducible refine MY.out.mono ?_);rintro e w1 ⟨rfl,k1⟩;clear MY c0 c1;cases rb with
  | false=>
    have K:=zf (KB.out.trans k1);go_wp2;go_ret2
    first | exact ⟨.inr ⟨rfl,rfl⟩,K.out⟩ | exact ⟨rfl,K.out⟩
  | true=>
    obtain ⟨m1,m2,m3,m4⟩:=RM.out rfl;have M4:=zf m4;have K01:=zf (KB.out.trans k1);have OB1:=zf (k1.obj (fun e=>e) OB.out);have hz1:w.heap.size+1<=w1.heap.size:=by have:=k1.size;omega
    clear RM m4 KB OB k1 sz0;have ka:=zj (fun _=>False) w1 (.cells #[.int .i64 0,.slice none 0 0] 255);have hsz2:(w1.alloc (.cells #[.int .i64 0,.slice none 0 0] 255)).heap.size=w1.heap.size+1:=zg0 _ _;have N1:=zf (zez (w1.alloc (.cells #[.int .i64 0,.slice none 0 0] 255)) (fun k=>w1.heap.size<=k) w1.heap.size [] boot ⟨⟨_,zh _ _,World.ownsRow_nil _ _ _ _,fun k e=>by cases e⟩,zhb _⟩ (fun k hk=>by rw [hsz2] at hk;show w1.heap.size<=k;omega) m1 (by omega) (by simp));have KA:=zf (K01.out.trans ka);have OB2:=zf (ka.obj (fun e=>e) OB1.out);have b0:=zg (o:=0) OB2.out rfl;clear ka OB1 K01;go_wp2_with fail;generalize w1.alloc (.cells #[.int .i64 0,.slice none 0 0] 255)=w2 at *;generalize hB:w1.heap.size=B at *;clear hB b0;(with_reducible refine N1.out.mono ?_);rintro e w3 ⟨rfl,o3,k3⟩;have hz3:w2.heap.size<=w3.heap.size:=k3.size;have OB3:=zf (k3.obj (fun e=>by omega) OB2.out);have b1:=zg (o:=1) OB3.out rfl;have K3:=zf (show Chg (fun k=>B<=k) w w3 from (KA.out.mono (fun _ _ e=>e.elim)).trans k3);have N2:=zf (zad w3 (fun k=>B<=k) B _ objs.length o3 (fun k hk=>by show B<=k;omega) (by omega) (by have:=zdn (z:=boot) (by omega);simp;omega));clear o3 k3 N1 KA OB2;go_wp2_with fail;(with_reducible refine N2.out.mono ?_);rintro e w4 ⟨rfl,o4,k4⟩;have O4:=zf o4;have K4:=zf (K3.out.trans k4);have hz4:B < w4.heap.size:=by have:=k4.size;omega
    have OB4:=k4.obj (fun e=>by omega) OB3.out;have b1':=zg (o:=1) OB4 rfl;have HW:=zf (fun (w':World) (k:Chg (fun k=>B<=k) w w')=>H.out.chg k (fun k hk e=>by have:=HG.out k hk;omega))
    have LL:=zf (show ([]++zZ boot.toNat++zZ objs.length).length<=18∧1<=([]++zZ boot.toNat++zZ objs.length).length from by
      have:=zdn (z:=boot) (by omega);have:=yN (n:=objs.length) (by omega);simp only [zgV,List.length_nil];omega)
    have RE2:=zf (show ([]++zZ boot.toNat++zZ objs.length)++objs.flatMap zaZ=re from by rw [RE.out];simp);generalize []++zZ boot.toNat++zZ objs.length=p0 at *;clear o4 k4 N2 b1 OB3 OB4 K3 RE hz3;go_wp2;clear b1';go_loopw [22] (fun iv wr=>∃ k:Nat,k<=objs.length∧iv=.int .i64 k∧Hid (Xp wr (fun k=>B<=k) B (p0++(objs.take k).flatMap zaZ))∧Hid (Chg (fun k=>B<=k) w wr)) (fun iv _=>objs.length - (intOf iv).toNat)
    case atStart=>exact ⟨0,by omega,rfl,zf (by simpa using O4.out),K4⟩
    case round=>
      clear O4 K4 hz4;obtain ⟨k,hk,rfl,HO,HC⟩:=hrel;have hBr:B < wr.heap.size:=zl HO.out.row.choose_spec.1;by_cases hlt:k < objs.length
      · obtain ⟨o,ho⟩:∃ o,objs[k]? = some o:=⟨_,zgS hlt⟩
        obtain ⟨g,p,ea,ec,rfl,_,d0,d1,d2,he⟩:=(HW.out _ HC.out).get ho;have hob:=M4.out o (zgU ho);obtain ⟨v1,v2,_⟩:=xI.1 hob;obtain ⟨EB,e12⟩:=yq hob;have EB:=zf EB;have FT:=zf (show p0++(objs.take (k+1)).flatMap zaZ=(p0++(objs.take k).flatMap zaZ)++zaZ o from by rw [zbo ho,List.append_assoc]);have L0:=YH (objs.take k) (fun y hy=>M4.out y (List.mem_of_mem_take hy));rw [zgX] at L0;have OE:=zf (show zaZ o=zZ o.val.toNat++(zZ o.ver.toNat++(zZ o.ents.length++o.ents.flatMap zbr)) from rfl);have LC:(p0++(objs.take k).flatMap zaZ).length<=15000:=by rw [zgV];have:=LL.out;omega
        generalize p0++(objs.take k).flatMap zaZ=cur at *;generalize zaZ o=oe at *;obtain ⟨val,ver,ents⟩:=o;simp only at *;have ka:=zj (fun _=>False) wr (.cells #[.int .i64 val,.slice ea ents.length ec,.int .i64 ver] 37);have sz:=zg0 wr (.cells #[.int .i64 val,.slice ea ents.length ec,.int .i64 ver] 37);have OBJ:=zf (zh wr (.cells #[.int .i64 val,.slice ea ents.length ec,.int .i64 ver] 37));have O1:=zf ((HO.out.to (T:=fun k=>B<=k∧k≠wr.heap.size) (fun k hk e=>⟨e,by omega⟩)).chg ka (fun _ _ e=>e));have K1:=zf (HC.out.trans (ka.mono (fun _ _ e=>e.elim)));have HE:=zf (he.chg ka (fun _ _ e=>e));have p0':=zg (o:=0) OBJ.out rfl;have N1:=zf (zez _ _ B cur val O1.out (fun k hk=>⟨by omega,by omega⟩) v1.1 v1.2 (by omega));clear ka he hob;go_wp2_with fail;generalize hT:wr.heap.size=T at *;generalize wr.alloc (.cells #[.int .i64 val,.slice ea ents.length ec,.int .i64 ver] 37)=wa at *;(with_reducible refine N1.out.mono ?_);rintro e w5 ⟨rfl,o5,k5⟩;have z5:wa.heap.size<=w5.heap.size:=k5.size;have OB5:=k5.obj (fun e=>e.2 rfl) OBJ.out;have q2:=zg (o:=2) OB5 rfl;have N2:=zf (zez w5 _ B _ ver o5 (fun k hk=>⟨by omega,by omega⟩) v2.1 v2.2 (by have:=zdn (z:=val) v1.2;rw [zgV];omega));have K5:=zf k5;clear o5 k5 N1 O1 p0';go_wp2_with fail;(with_reducible refine N2.out.mono ?_);rintro e w6 ⟨rfl,o6,k6⟩;have z6:w5.heap.size<=w6.heap.size:=k6.size;have OB6:=k6.obj (fun e=>e.2 rfl) OB5;have q1:=zg (o:=1) OB6 rfl;have N3:=zf (zad w6 _ B _ ents.length o6 (fun k hk=>⟨by omega,by omega⟩) (by omega) (by have:=zdn (z:=val) v1.2;have:=zdn (z:=ver) v2.2;rw [zgV,zgV];omega));have K6:=zf (K5.out.trans k6);clear o6 k6 N2 OB5 q2 K5;go_wp2_with fail;(with_reducible refine N3.out.mono ?_);rintro e w7 ⟨rfl,o7,k7⟩;have z7:w6.heap.size<=w7.heap.size:=k7.size;have OB7:=k7.obj (fun e=>e.2 rfl) OB6;have q1':=zg (o:=1) OB7 rfl;have O7:=zf o7;have K7:=zf (K6.out.trans k7)
        have LD:(cur++zZ val.toNat++zZ ver.toNat++zZ ents.length).length<=15027:=by
          have:=zdn (z:=val) v1.2;have:=zdn (z:=ver) v2.2;have:=(yN (n:=ents.length) (by omega)).2;simp only [zgV];omega
        have OE2:=zf (show (cur++zZ val.toNat++zZ ver.toNat++zZ ents.length)++ents.flatMap zbr=cur++oe from by rw [OE.out];simp);generalize cur++zZ val.toNat++zZ ver.toNat++zZ ents.length=cur2 at *;clear o7 k7 N3 OB6 q1 K6 OBJ OE;go_wp2;clear q1';go_loopw [39] (fun jv wr=>∃ j:Nat,j<=ents.length∧jv=.int .i64 j∧Hid (Xp wr (fun k=>B<=k∧k≠T) B (cur2++(ents.take j).flatMap zbr))∧Hid (Chg (fun k=>B<=k∧k≠T) wa wr)) (fun jv _=>ents.length - (intOf jv).toNat)
        case atStart=>exact ⟨0,by omega,rfl,zf (by simpa using O7.out),K7⟩
        case round=>
          clear O7 K7;obtain ⟨j,hj,rfl,HO2,HC2⟩:=hrel;have z8:wa.heap.size<=wr.heap.size:=HC2.out.size;by_cases hlt2:j < ents.length
          · obtain ⟨x,hx⟩:∃ x,ents[j]? = some x:=⟨_,zgS hlt2⟩
            obtain ⟨g2,p2,sa,sc,rfl,_,e0,e1,hs⟩:=(HE.out.chg HC2.out (fun k hk e=>by have:=HG.out k hk;omega)).get hx;obtain ⟨⟨x1,x2⟩,x3⟩:=ZU.1 (EB.out x (zgU hx));have L1:=Xk (ents.take j) (fun y hy=>EB.out y (List.mem_of_mem_take hy));rw [zgX] at L1;have FX:=zf (show cur2++(ents.take (j+1)).flatMap zbr=(cur2++(ents.take j).flatMap zbr)++zZ x.1.toNat++zco x.2 from by rw [zbo hx];unfold zbr;simp);have LE:(cur2++(ents.take j).flatMap zbr).length<=20000:=by rw [zgV];omega
            generalize cur2++(ents.take j).flatMap zbr=cur3 at *;obtain ⟨op,who⟩:=x;simp only at *;have kb:=zj (fun _=>False) wr (.cells #[.int .i64 op,.slice sa who.length sc] 34);have szb:=zg0 wr (.cells #[.int .i64 op,.slice sa who.length sc] 34);have OBX:=zf (zh wr (.cells #[.int .i64 op,.slice sa who.length sc] 34));have O8:=zf ((HO2.out.to (T:=fun k=>B<=k∧k≠T∧k≠wr.heap.size) (fun k hk e=>⟨e.1,e.2,by omega⟩)).chg kb (fun _ _ e=>e));have K8:=zf (HC2.out.trans (kb.mono (fun _ _ e=>e.elim)));have HS8:=zf (hs.at_.chg kb (fun _ _ e=>e));have y0:=zg (o:=0) OBX.out rfl;have N4:=zf (zez _ _ B cur3 op O8.out (fun k hk=>⟨by omega,by omega,by omega⟩) x1 (by omega) (by omega));clear kb hs hx HO2 HC2;go_wp2_with fail;generalize hT2:wr.heap.size=T2 at *;generalize wr.alloc (.cells #[.int .i64 op,.slice sa who.length sc] 34)=wb at *;(with_reducible refine N4.out.mono ?_);rintro e w9 ⟨rfl,o9,k9⟩;have z9:wb.heap.size<=w9.heap.size:=k9.size;have OB9:=k9.obj (fun e=>e.2.2 rfl) OBX.out;have y1:=zg (o:=1) OB9 rfl;have N5:=zf (zey w9 _ B _ who sa who.length sc G o9 (fun k hk=>⟨by omega,by omega,by omega⟩) (HS8.out.chg k9 (fun k hk e=>by have:=HG.out k hk;omega)) (fun k hk e=>by have:=HG.out k hk;omega) x3 (by have:=zdn (z:=op) (by omega);rw [zgV];omega));have K9:=zf (K8.out.trans (k9.mono (fun k _ e=>⟨e.1,e.2.1⟩)));clear o9 k9 N4 O8 y0 K8;go_wp2_with fail;(with_reducible refine N5.out.mono ?_);rintro e w10 ⟨rfl,o10,k10⟩;rw [<- FX.out] at o10;have O10:=zf (o10.to (T:=fun k=>B<=k∧k≠T) (fun k _ e=>⟨e.1,e.2.1⟩));have K10:=zf (K9.out.trans (k10.mono (fun k _ e=>⟨e.1,e.2.1⟩)));clear o10 k10 N5 K9 y1 OB9 FX;go_wp2;go_roundw
            case rel=>exact ⟨j+1,by omega,by go_num,O10,K10⟩
            case measure=>simp [intOf];omega
          · obtain rfl:j=ents.length:=by omega
            have FO:=HO2.out;rw [zhc,OE2.out,<- FT.out] at FO;have FO:=zf (FO.to (T:=fun k=>B<=k) (fun k _ e=>e.1));have KO:=zf (K1.out.trans (HC2.out.mono (fun k _ e=>e.1)));clear HO2 HC2 OE2 FT K1;go_wp2;go_roundw
            case rel=>exact ⟨k+1,by omega,by go_num,FO,KO⟩
            case measure=>simp [intOf];omega
      · obtain rfl:k=objs.length:=by omega
        have FO:=HO.out;rw [zhc,RE2.out] at FO;have DN:=zf (zdK wr 0 B re FO.at_ (by rw [<- RE2.out,zgV];have:=LL.out;omega) (by rw [<- RE2.out,zgV];have:=LL.out;have:=YH objs M4.out;omega));clear FO HO;go_wp2_with fail;(with_reducible refine DN.out.mono ?_);rintro e w9 ⟨rfl,rfl⟩;go_wp2;go_ret2;have KF:=(Chg.refl (fun _=>False) w).next HC.out (fun k hk (e:B<=k)=>by omega)
        first | exact ⟨.inl ⟨rfl,rfl⟩,KF⟩ | exact ⟨rfl,KF⟩
def xx (w:World) (b:Nat) (s:ByteArray) (n:Nat):Prop:=w.heap[b]? = some (.cells #[.int .i64 0,.string s,.int .i64 (n:Int)] 326 (0,0))
theorem yO (w:World) (b:Nat) (s:ByteArray) (n:Nat) (h:xx w b s n):Calls Tryz.prog 208 #[.pointer (some ⟨b,0,none⟩)] w fun e w'=>e=.returned (.bool true)∧w=w':=by
  have c0:=zg (o:=0) h rfl;clear h;go_enter Tryz.func208,Tryz.ntmps208;go_wp2;go_ret;exact ⟨rfl,rfl⟩
theorem ze6 (w:World) (s:ByteArray):Calls Tryz.prog 144 #[.string s] w fun e w'=>e=.returned (.pointer (some ⟨w.heap.size,0,none⟩))∧xx w' w.heap.size s 0∧Chg (fun _=>False) w w'∧w.heap.size < w'.heap.size:=by
  have OB:=zf (zh w (.cells #[.int .i64 0,.string s,.int .i64 0] 326));have K:=zf (zj (fun _=>False) w (.cells #[.int .i64 0,.string s,.int .i64 0] 326));have sz:(w.alloc (.cells #[.int .i64 0,.string s,.int .i64 0] 326)).heap.size=w.heap.size+1:=zg0 _ _;go_enter Tryz.func144,Tryz.ntmps144;go_wp2;go_ret;exact ⟨rfl,OB.out,K.out,by omega⟩
theorem zga:∀ x:Fin 256,bits BinOp.and IntKind.u8 ((x.val:Nat):Int) 127=((x.val % 128:Nat):Int):=by decide +kernel
theorem zff (b:UInt8):bits BinOp.and IntKind.u8 (b.toNat:Int) 127=((b.toNat % 128:Nat):Int):=zga ⟨b.toNat,b.toNat_lt⟩
theorem zeR {n k:Nat} {pre rest l:List UInt8} (hl:l=pre++(zZ n++rest)) (hk:pre.length=k):l[k]? = some (UInt8.ofNat (if n < 128 then n else n % 128+128)):=by
  subst hl hk;rw [List.getElem?_append_right (zhb _),Nat.sub_self];by_cases h:n < 128
  · rw [Zr h,if_pos h];rfl
  · rw [yZ (by omega),if_neg h];rfl
theorem zeN {n:Nat} {pre rest l:List UInt8} (hl:l=pre++(zZ n++rest)) (h:128<=n):l=(pre++[UInt8.ofNat (n % 128+128)])++(zZ (n / 128)++rest):=by
  rw [hl,yZ h];simp
theorem ZF {l p r:List UInt8} {n:Nat} (h:l.drop n=p++r):l.drop (n+p.length)=r:=by
  rw [<- List.drop_drop,h,List.drop_left]
theorem zeQ (n k m:Nat) (hm:m=n / 128 ^ k):n % 128 ^ k ||| (m % 128)*2 ^ (7*k)=n % 128 ^ (k+1):=by
  have h1:n % 128 ^ k < 2 ^ (7*k):=by rw [<- zb1];exact Nat.mod_lt _ (Nat.pow_pos (by decide))
  rw [<- Nat.shiftLeft_eq,zeL h1,hm,<- zb1,zeO]
theorem zeP {n k:Nat} (h:n / 128 ^ k < 128):n % 128 ^ (k+1)=n:=by
  refine Nat.mod_eq_of_lt ?_;rw [Nat.pow_succ];exact (Nat.div_lt_iff_lt_mul (Nat.pow_pos (by decide))).1 h |> (by rw [Nat.mul_comm];exact ·)
set_option maxHeartbeats 4000000 in
set_option maxRecDepth 100000 in
theorem zc2 (w:World) (s:ByteArray) (n:Nat) (rest:List UInt8) (hn:n<=4611686018427387904) (hs:s.data.toList=zZ n++rest) (hm:s.size<=1000000):
    Calls Tryz.prog 211 #[.string s] w fun e w'=>e=.returned (.tuple #[.int .i64 (n:Int),.int .i64 ((zZ n).length:Int)])∧w=w':=by
  have HS:=zf hs;have HSZ:=zf (zt s);clear hs;go_enter Tryz.func211,Tryz.ntmps211;go_wp2;go_loopw [4,5] (fun av kv wr=>∃ k m A:Nat,k<=8∧kv=.int .i64 (k:Int)∧av=.int .u64 (A:Int)∧w=wr∧Hid (A=n % 128 ^ k∧m=n / 128 ^ k∧(0 < k->0 < m)∧k+(zZ m).length=(zZ n).length∧∃ pre,pre.length=k∧s.data.toList=pre++(zZ m++rest))) (fun _ kv _=>9 - (intOf kv).toNat)
  case atStart=>exact ⟨0,n,0,by omega,rfl,rfl,rfl,zf ⟨by simp [Nat.mod_one],by simp,by omega,by omega,[],rfl,by simpa using HS.out⟩⟩
  case round=>
    obtain ⟨k,m,A,hk,rfl,rfl,rfl,HI⟩:=hrel;obtain ⟨eA,em,hpos,hlen,pre,hp,hl⟩:=HI.out;clear HI;have hget:=zeR hl hp
    have hk2:k < s.size:=by
      have:=(zgT.1 hget).1;rw [HSZ.out] at this;exact this
    obtain ⟨c,hc⟩:∃ c:Nat,c=if m < 128 then m else m % 128+128:=⟨_,rfl⟩
    have hc256:c < 256:=by rw [hc];split <;> omega
    have hcm:c % 128=m % 128:=by rw [hc];split <;> omega
    have hcb:c < 128↔m < 128:=by rw [hc];split <;> omega
    have hcz:m < 128->c=m:=fun h=>by rw [hc,if_pos h]
    have qc:(s[k]'hk2).toNat=c:=by
      have e:s.data.toList[k]? = some (s[k]'hk2):=by
        rw [zgS (by rw [HSZ.out];exact hk2)];rfl
      rw [hget,<- hc] at e;have e:=Option.some.inj e;rw [<- e,UInt8.toNat_ofNat'];omega
    have hle:m % 128*2 ^ (7*k)<=n:=by
      rw [<- zb1,em];exact Nat.le_trans (Nat.mul_le_mul_right _ (Nat.mod_le _ _)) (Nat.div_mul_le_self _ _)
    have hA:A<=4611686018427387904:=by rw [eA];exact Nat.le_trans (Nat.mod_le _ _) hn
    obtain ⟨sh,hsh⟩:∃ sh:Nat,sh=c % 128*2 ^ (7*k):=⟨_,rfl⟩;obtain ⟨B,hB⟩:∃ B:Nat,B=n % 128 ^ (k+1):=⟨_,rfl⟩;have hsh2:sh<=4611686018427387904:=by rw [hsh,hcm];omega
    have hB2:B<=4611686018427387904:=by rw [hB];exact Nat.le_trans (Nat.mod_le _ _) hn
    have e2:IntKind.u64.wrap (IntKind.u64.wrap (bits BinOp.and IntKind.u8 (c:Int) 127)*2 ^ (7*k))=(sh:Int):=by
      have h1:=zff (UInt8.ofNat c);rw [UInt8.toNat_ofNat',Nat.mod_eq_of_lt hc256] at h1;have h2:IntKind.u64.wrap ((c % 128:Nat):Int)=((c % 128:Nat):Int):=by rw [IntKind.wrap_u64];omega
      have h3:((c % 128:Nat):Int)*2 ^ (7*k)=(sh:Int):=by rw [hsh];push_cast;rfl
      rw [h1,h2,h3,IntKind.wrap_u64];omega
    have e3:bits BinOp.or IntKind.u64 (A:Int) (sh:Int)=(B:Int):=by
      rw [bits_or_u64_nat _ _ (by omega) (by omega),hsh,hcm,eA,hB,zeQ n k m em]
    have g1:decide ((k:Int) < (s.size:Int))=true:=zgQ (by omega);have g2:decide (k < s.size)=true:=zgQ hk2;have g3:decide ((k:Int) < 9)=true:=zgQ (by omega);have a1:IntKind.i64.wrap (7*(k:Int))=7*(k:Int):=by rw [IntKind.wrap_i64];omega
    have t1:(7*(k:Int)).toNat=7*k:=by omega
    by_cases hb:m < 128
    · have hBn:B=n:=by rw [hB];exact zeP (by rw [<- em];exact hb)
      have hcc:c < 128:=hcb.2 hb;have h128:decide (128<=(c:Int))=false:=zgR (by omega);have g5:decide (4611686018427387904 < (B:Int))=false:=zgR (by omega);have hkz:0 < k->0 < c:=fun h=>by rw [hcz hb];exact hpos h
      have hlen2:k+1=(zZ n).length:=by rw [<- hlen,Zr hb];rfl
      have FIN:=zf (And.intro hBn hlen2);have hw:wrap64 (B:Int)=(B:Int):=by unfold wrap64;omega
      clear hBn hlen2 eA em hpos hlen hl hp hget hc hcm hcb hcz hle hsh hB;by_cases hk0:0 < k
      · have g6:decide (0 < (k:Int))=true:=zgQ (by omega)
        have g6':decide (0 < k)=true:=zgQ hk0;have hc0:0 < c:=hkz hk0;have g7:((c:Int) == 0)=false:=by rw [zg1];omega
        have g8:(c == 0)=false:=by rw [zg1];omega
        have g9:decide (c=0)=false:=zgR (by omega);have g9':decide ((c:Int)=0)=false:=zgR (by omega);go_wp2;go_ret2;exact ⟨by show Ending.returned (.tuple #[.int .i64 (wrap64 (B:Int)),.int .i64 ((k:Int)+1)])=_;rw [hw,FIN.out.1,<- FIN.out.2];rfl,rfl⟩
      · have g6:decide (0 < (k:Int))=false:=zgR (by omega)
        have g6':decide (0 < k)=false:=zgR hk0;go_wp2;go_ret2;exact ⟨by show Ending.returned (.tuple #[.int .i64 (wrap64 (B:Int)),.int .i64 ((k:Int)+1)])=_;rw [hw,FIN.out.1,<- FIN.out.2];rfl,rfl⟩
    · have hcc:¬ c < 128:=fun h=>hb (hcb.1 h)
      have h128:decide (128<=(c:Int))=true:=zgQ (by omega)
      have hk8:k < 8:=by
        rcases Nat.lt_or_ge k 8 with q | q
        · exact q
        · exfalso
          have hk9:k=8:=by omega
          subst hk9;have:n / 128 ^ 8 < 128:=by rw [Nat.div_lt_iff_lt_mul (by decide)];omega
          omega
      have NX:=zf (show B=n % 128 ^ (k+1)∧m / 128=n / 128 ^ (k+1)∧(0 < k+1->0 < m / 128)∧k+1+(zZ (m / 128)).length=(zZ n).length∧∃ pre,pre.length=k+1∧s.data.toList=pre++(zZ (m / 128)++rest) from
        ⟨hB,by rw [em,Nat.div_div_eq_div_mul,Nat.pow_succ],fun _=>by omega,by rw [<- hlen,yZ (n:=m) (by omega),List.length_cons];omega,_,by rw [zgV,hp];rfl,zeN (n:=m) hl (by omega)⟩)
      clear eA em hpos hlen hl hp hget hc hcm hcb hcz hle hsh hB;go_wp2;go_roundw
      case rel=>exact ⟨k+1,m / 128,B,by omega,by go_num,by first | rfl | trivial,by first | rfl | trivial,NX⟩
      case measure=>simp [intOf];omega
theorem zdS (s:ByteArray) (n:Nat):(s.extract n s.size).data.toList=s.data.toList.drop n:=by
  have h:s.size=s.data.toList.length:=(zt s).symm;rw [ByteArray.data_extract,Array.toList_extract,List.extract_eq_take_drop,h,<- List.length_drop,zhc]
theorem zcx (s:ByteArray) (a b:Nat):(s.extract a b).data.toList=(s.data.toList.drop a).take (b - a):=by
  rw [ByteArray.data_extract,Array.toList_extract,List.extract_eq_take_drop]
theorem xx.set {w:World} {b:Nat} {s:ByteArray} {n:Nat} (h:xx w b s n) (m:Nat):xx (w.setCell ⟨b,2,none⟩ (.int .i64 (m:Int))) b s m:=zk (o:=2) h _
theorem xx.chg {S:Nat->Prop} {w w':World} {b:Nat} {s:ByteArray} {n:Nat} (h:xx w b s n) (hc:Chg S w w') (hs:¬ S b):xx w' b s n:=hc.obj hs h
theorem yd {s:ByteArray} {p:Nat} {l r:List UInt8} (hd:s.data.toList.drop p=l++r) (hl:1<=l.length):p+l.length+r.length=s.size:=by
  have:=congrArg List.length hd;rw [List.length_drop,zgV,zt] at this;omega
set_option maxHeartbeats 2000000 in
set_option maxRecDepth 100000 in
theorem Ya (w:World) (b:Nat) (s:ByteArray) (p n:Nat) (most:Int) (rest:List UInt8) (h:xx w b s p) (hd:s.data.toList.drop p=zZ n++rest) (hn:n<=4611686018427387904) (hm:(n:Int)<=most) (hs:s.size<=1000000):
    Calls Tryz.prog 145 #[.pointer (some ⟨b,0,none⟩),.int .i64 most] w fun e w'=>e=.returned (.int .i64 (n:Int))∧xx w' b s (p+(zZ n).length)∧Chg (fun k=>k=b) w w':=by
  have H:=zf h;have IW:=zf (yO w b s p h);obtain ⟨l1,l9⟩:=yN hn;have hsz:=yd hd l1;have NM:=zf (fun w=>zc2 w (s.extract p s.size) n rest hn (by rw [zdS];exact hd) (by rw [ByteArray.size_extract];omega));generalize (zZ n).length=L at *;have c1:=zg (o:=1) h rfl;have c2:=zg (o:=2) h rfl;have f2:=zn (o:=2) h;have hp1:p<=s.size:=by omega
  have hp2:(p:Int)<=(s.size:Int):=by omega
  have t1:((p:Int)).toNat=p:=by omega
  have g1:((L:Int) == 0)=false:=by rw [zg1];omega
  have g1':decide ((L:Int)=0)=false:=zgR (by omega);have g1'':(L == 0)=false:=by rw [zg1];omega
  have g2:decide (most < (n:Int))=false:=zgR (by omega);have a1:IntKind.i64.wrap ((p:Int)+(L:Int))=((p+L:Nat):Int):=by rw [IntKind.wrap_i64];omega
  clear h hd hsz;go_enter Tryz.func145,Tryz.ntmps145;go_wp2_with fail;(with_reducible refine IW.out.mono ?_);rintro e w1 ⟨rfl,rfl⟩;go_wp2_with fail;refine Zh (by kernel_rfl) (by kernel_rfl) ?_
  repeat still_step
  still_call ((NM.out _).mono fun _ _ h=>⟨h.1,h.2.symm⟩)
  repeat still_step
  refine wpStill_nil ?_;have H2:Hid (xx w.drew b s p):=zf (H.out.chg (zA (fun _=>False) w) (fun e=>e));have K2:=zf (zA (fun k=>k=b) w);have c2':w.drew.cell? ⟨b,2,none⟩=some (.int .i64 (p:Int)):=c2;have f2':w.drew.frozen? ⟨b,2,none⟩=false:=f2;clear c1 c2 f2 IW NM H;generalize w.drew=w2 at *;go_wp2;have FIN:=zf (And.intro (H2.out.set (p+L)) (K2.out.trans (zy w2 b 2 (.int .i64 ((p+L:Nat):Int)))));go_ret;exact ⟨rfl,FIN.out.1,FIN.out.2⟩
theorem zc4 {x y:ByteArray} (h:x.data.toList=y.data.toList):x=y:=by
  obtain ⟨⟨l⟩⟩:=x;obtain ⟨⟨m⟩⟩:=y;simp at h;subst h;rfl
set_option maxHeartbeats 2000000 in
set_option maxRecDepth 100000 in
theorem zbj (w:World) (b:Nat) (s:ByteArray) (p m:Nat) (h:xx w b s p) (hm:p+m<=s.size) (hs:s.size<=1000000):
    Calls Tryz.prog 257 #[.pointer (some ⟨b,0,none⟩),.int .i64 (m:Int)] w fun e w'=>e=.returned (.string (s.extract p (p+m)))∧xx w' b s (p+m)∧Chg (fun k=>k=b) w w':=by
  have H:=zf h;have IW:=zf (fun w h=>yO w b s p h);have c1:=zg (o:=1) h rfl;have c2:=zg (o:=2) h rfl;have g1:decide ((s.size:Int) - (p:Int) < (m:Int))=false:=zgR (by omega);have a0:IntKind.i64.wrap ((s.size:Int) - (p:Int))=(s.size:Int) - (p:Int):=by rw [IntKind.wrap_i64];omega
  have a1:IntKind.i64.wrap ((p:Int)+(m:Int))=((p+m:Nat):Int):=by rw [IntKind.wrap_i64];omega
  have hp1:p+m<=s.size:=hm;have hp2:((p+m:Nat):Int)<=(s.size:Int):=by omega
  have hp3:(p:Int)<=((p+m:Nat):Int):=by omega
  have hp4:p<=p+m:=by omega
  have b0:0<=(p:Int)+(m:Int):=by omega
  have b1:(p:Int)<=(p:Int)+(m:Int):=by omega
  have b2:(p:Int)+(m:Int)<=(s.size:Int):=by omega
  have t1:((p:Int)).toNat=p:=by omega
  have t2:((p:Int)+(m:Int)).toNat=p+m:=by omega
  clear h;go_enter Tryz.func257,Tryz.ntmps257;go_wp2_with fail;refine Zh (by kernel_rfl) (by kernel_rfl) ?_
  repeat still_step
  still_call ((IW.out _ (H.out.chg (zA (fun _=>False) w) (fun e=>e))).mono fun _ _ h=>⟨h.1,h.2.symm⟩)
  repeat still_step
  refine wpStill_nil ?_;have H2:Hid (xx w.drew b s p):=zf (H.out.chg (zA (fun _=>False) w) (fun e=>e));have K2:=zf (zA (fun k=>k=b) w);clear c1 c2 H;generalize w.drew=w2 at *;have c1:=zg (o:=1) H2.out rfl;have c2:=zg (o:=2) H2.out rfl;go_wp2_with fail;(with_reducible refine (IW.out _ H2.out).mono ?_);rintro e w1 ⟨rfl,rfl⟩;go_wp2_with fail;refine Zh (by kernel_rfl) (by kernel_rfl) ?_
  repeat still_step
  refine wpStill_nil ?_;have H3:Hid (xx w2.drew b s p):=zf (H2.out.chg (zA (fun _=>False) w2) (fun e=>e));have K3:=zf (K2.out.drew);clear c1 c2 H2 K2 IW;generalize w2.drew=w3 at *;have c2:=zg (o:=2) H3.out rfl;have f2:=zn (o:=2) H3.out;go_wp2;have FIN:=zf (And.intro (H3.out.set (p+m)) (K3.out.trans (zy w3 b 2 (.int .i64 ((p+m:Nat):Int)))));go_ret;exact ⟨rfl,FIN.out.1,FIN.out.2⟩
set_option maxHeartbeats 2000000 in
set_option maxRecDepth 100000 in
theorem XP (w:World) (b:Nat) (s:ByteArray) (p n:Nat) (most:Int) (rest:List UInt8) (h:xx w b s p) (hd:s.data.toList.drop p=UInt8.ofNat n :: rest) (h1:1<=n) (hn:n < 256) (hm:(n:Int)<=most) (hs:s.size<=1000000):
    Calls Tryz.prog 212 #[.pointer (some ⟨b,0,none⟩),.int .i64 most] w fun e w'=>e=.returned (.int .i64 (n:Int))∧xx w' b s (p+1)∧Chg (fun k=>k=b) w w':=by
  have hsz:=yd (l:=[UInt8.ofNat n]) (r:=rest) (by simpa using hd) (by simp);simp only [List.length_singleton] at hsz;have TK:=zbj w b s p 1 h (by omega) hs;rw [show ((1:Nat):Int)=1 from rfl] at TK;have TK:=zf TK
  have hq:(s.extract p (p+1)).data.toList=[UInt8.ofNat n]:=by
    rw [zcx,hd,show p+1 - p=1 by omega];rfl
  have hqs:(s.extract p (p+1)).size=1:=by rw [<- zt,hq];rfl
  generalize s.extract p (p+1)=q at *
  have qc:(q[0]'(by omega)).toNat=n:=by
    have e:q.data.toList[0]? = some (q[0]'(by omega)):=by
      rw [zgS (by rw [zt];omega)];rfl
    rw [hq] at e;have e:=Option.some.inj e;rw [<- e,UInt8.toNat_ofNat'];omega
  have g1:decide ((n:Int) < 1)=false:=zgR (by omega);have g1':decide (n < 1)=false:=zgR (by omega);have g2:decide (most < (n:Int))=false:=zgR (by omega);have b1:(0:Int) < (q.size:Int):=by omega
  have b2:0 < q.size:=by omega
  clear hd hq hsz h;go_enter Tryz.func212,Tryz.ntmps212;go_wp2_with fail;(with_reducible refine TK.out.mono ?_);rintro e w1 ⟨rfl,h1',k1⟩;have H1:=zf h1';have K1:=zf k1;have IW:=zf (yO w1 b s _ h1');clear h1' k1 TK;go_wp2_with fail;(with_reducible refine IW.out.mono ?_);rintro e w2 ⟨rfl,rfl⟩;clear IW;go_wp2;go_ret;exact ⟨rfl,H1.out,K1.out⟩
set_option maxHeartbeats 2000000 in
set_option maxRecDepth 100000 in
theorem zdQ (w:World) (b:Nat) (s:ByteArray) (p:Nat) (x:ByteArray) (rest:List UInt8) (h:xx w b s p) (hd:s.data.toList.drop p=Yi x++rest) (hx:ZO x.data.toList=true) (hs:s.size<=1000000):
    Calls Tryz.prog 213 #[.pointer (some ⟨b,0,none⟩)] w fun e w'=>e=.returned (.string x)∧xx w' b s (p+(Yi x).length)∧Chg (fun k=>k=b) w w':=by
  obtain ⟨l2,l8⟩:=Xe hx;have l1:1<=zG x.data.toList:=((Zn _).1 hx).2.1;have hsz:=yd hd (by unfold Yi;simp);have hwl:(Yi x).length=1+2*zG x.data.toList:=by unfold Yi;rw [List.length_cons,l2];omega
  have hd1:s.data.toList.drop p=UInt8.ofNat (zG x.data.toList) :: (x.data.toList++rest):=by rw [hd];unfold Yi;rfl
  have hd2:s.data.toList.drop (p+1)=x.data.toList++rest:=by
    have:=ZF (l:=s.data.toList) (n:=p) (p:=[UInt8.ofNat (zG x.data.toList)]) (r:=x.data.toList++rest) (by simpa using hd1)
    simpa using this
  have CN:=zf (XP w b s p (zG x.data.toList) 8 _ h hd1 l1 (by omega) (by omega) hs);have TK:=zf (fun w h=>zbj w b s (p+1) (2*zG x.data.toList) h (by omega) hs)
  have hq:s.extract (p+1) (p+1+2*zG x.data.toList)=x:=zc4 (by
    rw [zcx,hd2,show p+1+2*zG x.data.toList - (p+1)=2*zG x.data.toList by omega,<- l2,List.take_left])
  rw [hq] at TK;rw [hwl,show p+(1+2*zG x.data.toList)=p+1+2*zG x.data.toList by omega];have MY:=XY (w:=w) (s:=x);have MY:=zf (fun w=>XY w x (by unfold maxLen;rw [<- zt,l2];omega));rw [hx] at MY;clear hd hd1 hd2 hq hx hwl h l2;generalize zG x.data.toList=n at *;have a1:IntKind.i64.wrap (2*(n:Int))=((2*n:Nat):Int):=by rw [IntKind.wrap_i64];omega
  go_enter Tryz.func213,Tryz.ntmps213;go_wp2_with fail;(with_reducible refine CN.out.mono ?_);rintro e w1 ⟨rfl,h1,k1⟩;have TK1:=TK.out w1 h1;rw [show ((2*n:Nat):Int)=2*(n:Int) by omega] at TK1;have TK1:=zf TK1;have K1:=zf k1;clear h1 k1 CN TK;go_wp2_with fail;(with_reducible refine TK1.out.mono ?_);rintro e w2 ⟨rfl,h2,k2⟩;have H2:=zf h2;have K2:=zf (K1.out.trans k2);have MY2:=zf (MY.out w2);clear h2 k2 TK1 K1 MY;go_wp2_with fail;(with_reducible refine MY2.out.mono ?_);rintro e w3 ⟨rfl,k3⟩;have H3:=zf (H2.out.chg k3 (fun e=>e));have K3:=zf (K2.out.trans (k3.mono (fun _ _ e=>e.elim)));clear k3 H2 K2 MY2;go_wp2;go_ret;exact ⟨rfl,H3.out,K3.out⟩
theorem Tryz.zdL (w:World) (n:Nat) (hn:n<=16):(Instr.makeSlice 32 (.int .i64 0) (.int .i64 n)).run Tryz.prog w=.ok (.slice (some ⟨w.heap.size,0,none⟩) 0 n) (w.alloc (.cells (Yx n (.string ⟨#[]⟩)).toArray 29)):=by
  obtain ⟨i,hi,hz0,hz1,hz2⟩:=info_parts (show (Tryz.prog.info? 29).map (fun i=>(i.zero,i.size,i.bytes))=some (some (.string ⟨#[]⟩),1,16) by kernel_rfl);have:=run_make (P:=Tryz.prog) w 32 29 i _ Tryz.underlying32 hi hz0 .i64 .i64 0 n (by omega) (by omega) (by rw [hz2];omega) (by omega);rw [this,hz1];simp only [Int.toNat_natCast,Value.cells,Nat.mul_one];rw [YL];rfl
theorem zcI {l:List ByteArray} {k:Nat} {x:ByteArray} (hx:l[k]? = some x):zX (l.drop k)=Yi x++zX (l.drop (k+1)):=by
  have hk:=(zgT.1 hx);obtain ⟨h1,h2⟩:=hk;rw [List.drop_eq_getElem_cons h1,h2];rfl
theorem zbR (l:List ByteArray) (k:Nat):zX l=zX (l.take k)++zX (l.drop k):=by
  unfold zX;rw [<- List.flatMap_append,zg5]
set_option maxHeartbeats 4000000 in
set_option maxRecDepth 100000 in
theorem ze0 (w:World) (b:Nat) (s:ByteArray) (p:Nat) (l:List ByteArray) (rest:List UInt8) (h:xx w b s p) (hd:s.data.toList.drop p=zco l++rest) (hl:zbJ l=true) (hs:s.size<=1000000):
    Calls Tryz.prog 146 #[.pointer (some ⟨b,0,none⟩)] w fun e w'=>∃ v,e=.returned v∧w'.ownsRow w.heap.size 29 1 v l.length (zV l)∧xx w' b s (p+(zco l).length)∧Chg (fun k=>k=b) w w':=by
  obtain ⟨l1,l16⟩:=YC hl;have MAY:=zf (show ∀ x∈l,ZO x.data.toList=true from fun x hx=>yJ hl hx)
  have SZ:=zf (show ∀ x∈l,x.size<=maxLen from fun x hx=>by
    have:=Xe (MAY.out x hx);unfold maxLen;rw [<- zt];omega)
  have HL:=zf hl;have hbw:=zl h;have hd1:s.data.toList.drop p=UInt8.ofNat l.length :: (zX l++rest):=by rw [hd];unfold zco;rfl
  have hd2:s.data.toList.drop (p+1)=zX l++rest:=by
    have:=ZF (l:=s.data.toList) (n:=p) (p:=[UInt8.ofNat l.length]) (r:=zX l++rest) (by simpa using hd1)
    simpa using this
  have hsl:(zco l).length=1+(zX l).length:=by unfold zco;rw [List.length_cons];omega
  have CN:=zf (XP w b s p l.length 16 _ h hd1 l1 (by omega) (by omega) hs)
  have DR:=zf (fun k x (hx:l[k]? = some x)=>show s.data.toList.drop (p+1+(zX (l.take k)).length)=Yi x++(zX (l.drop (k+1))++rest) from by
    rw [<- List.append_assoc,<- zcI hx];exact ZF (by rw [hd2,zbR l k,List.append_assoc]))
  rw [hsl,<- Nat.add_assoc];clear h hd hd1 hd2 hl hsl;have MK:=fun w=>Tryz.zdL w l.length l16;go_enter Tryz.func146,Tryz.ntmps146;go_wp2_with fail;(with_reducible refine CN.out.mono ?_);rintro e w1 ⟨rfl,h1,k1⟩;have z1:w.heap.size<=w1.heap.size:=k1.size;have ka:=zj (fun _=>False) w1 (.cells (Yx l.length (.string ⟨#[]⟩)).toArray 29);have H2:=zf (h1.chg ka (fun e=>e));have K2:=zf (k1.trans (ka.mono (fun _ _ e=>e.elim)))
  have O2:=zf (show (w1.alloc (.cells (Yx l.length (.string ⟨#[]⟩)).toArray 29)).ownsRow w.heap.size 29 1 (.slice (some ⟨w1.heap.size,0,none⟩) 0 l.length) 0 (zV []) from
    ⟨rfl,.inr ⟨w1.heap.size,l.length,_,rfl,z1,zh _ _,by omega,by unfold maxLen;omega,by simp [Yx],by simp [zV]⟩⟩)
  clear h1 k1 CN ka;go_wp2;clear MK;generalize w1.alloc (.cells (Yx l.length (.string ⟨#[]⟩)).toArray 29)=w2 at *;go_loopw [4,10] (fun sv kv wr=>∃ k:Nat,k<=l.length∧kv=.int .i64 k∧Hid (wr.ownsRow w.heap.size 29 1 sv k (zV (l.take k))∧xx wr b s (p+1+(zX (l.take k)).length)∧Chg (fun x=>x=b) w wr)) (fun _ kv _=>l.length - (intOf kv).toNat)
  case atStart=>exact ⟨0,by omega,rfl,zf ⟨by simpa using O2.out,by simpa [zX] using H2.out,K2.out⟩⟩
  case round=>
    clear O2 H2 K2;obtain ⟨k,hk,rfl,HI⟩:=hrel;by_cases hlt:k < l.length
    · obtain ⟨x,hx⟩:∃ x,l[k]? = some x:=⟨_,zgS hlt⟩
      have IW:=zf (zdQ wr b s _ x _ HI.out.2.1 (DR.out k x hx) (MAY.out x (zgU hx)) hs);have OW:=zf HI.out.1;have KW:=zf HI.out.2.2
      have TW:=zf (show zV (l.take k)++[Value.string x]=zV (l.take (k+1)) from by
        unfold zV;rw [zha,hx,List.map_append];rfl)
      have TE:=zf (show p+1+(zX (l.take k)).length+(Yi x).length=p+1+(zX (l.take (k+1))).length from by
        rw [xS hx,zgV];omega)
      obtain ⟨sa,sc,rfl⟩:=zq OW.out;clear HI hx;go_wp2_with fail;(with_reducible refine IW.out.mono ?_);rintro e w3 ⟨rfl,h3,k3⟩;have z3:w.heap.size<=w3.heap.size:=by have:=KW.out.size;have:=k3.size;omega
      have O3:=zf (zo OW.out k3 (fun j hj e=>by have:=(OW.out.lt j hj).1;omega));rw [TE.out] at h3;have ka:=zj (fun _=>False) w3 (.cells #[.string x] 29);have H3:=zf (h3.chg ka (fun e=>e));have K3:=zf (KW.out.trans (k3.trans (ka.mono (fun _ _ e=>e.elim))));have O4:=zf (zo O3.out ka (fun _ _ e=>e));clear h3 k3 IW OW KW O3 ka TE;go_wp2_with (at_builtin;refine zR rfl (.tmp 12) (.tmp 15) 32 rfl 29 1 16 Tryz.underlying32 Tryz.elemWord w.heap.size _ k _ rfl O4.out w3.heap.size [.string x] 29 (0,0) rfl ?a2 rfl ?a3 ?a4 ?a5 ?a6 ?a7)
      case a2=>exact zh _ _
      case a3=>intro u hu;simp at hu;subst hu;rfl
      case a4=>omega
      case a5=>unfold maxLen;omega
      case a6=>rw [zg0];omega
      intro v5 w5 o5 g5 _;rw [TW.out] at o5;have O5:=zf o5;have H5:=zf (H3.out.chg (Chg.of_grown g5) (fun e=>by have:=(O4.out.lt b e).1;omega));have K5:=zf (K3.out.next (Chg.of_grown g5) (fun j hj e=>by have:=(O4.out.lt j e).1;omega));clear o5 g5 H3 K3 O4 TW;go_wp2;go_roundw
      case rel=>exact ⟨k+1,by omega,by go_num,zf ⟨O5.out,H5.out,K5.out⟩⟩
      case measure=>simp [intOf];omega
    · obtain rfl:k=l.length:=by omega
      have O6:=HI.out.1;have H6:=HI.out.2.1;rw [zhc] at O6 H6;have SA:=yK O6 SZ.out;have SM:=YW wr _ _ l SA.at_;rw [HL.out] at SM;obtain ⟨sa,sc,rfl⟩:=zq O6;have SM:=zf SM;have O6:=zf O6;have H6:=zf H6;have K6:=zf HI.out.2.2;have IW:=zf (yO wr b s _ H6.out);clear HI SA;go_wp2_with fail;(with_reducible refine IW.out.mono ?_);rintro e w7 ⟨rfl,rfl⟩;go_wp2_with fail;(with_reducible refine SM.out.mono ?_);rintro e w8 ⟨rfl,d8⟩;have k8:Chg (fun _=>False) wr w8:=d8.chg;have FIN:=zf (And.intro (zo O6.out k8 (fun _ _ e=>e)) (And.intro (H6.out.chg k8 (fun e=>e)) (K6.out.trans (k8.mono (fun _ _ e=>e.elim)))));clear d8 k8 SM IW O6 H6 K6;go_wp2;go_ret;exact ⟨_,rfl,FIN.out.1,FIN.out.2.1,FIN.out.2.2⟩
set_option maxRecDepth 100000 in
theorem zdT (w:World) (b:Nat) (s:ByteArray) (h:xx w b s s.size) (hs:s.size<=1000000):
    Calls Tryz.prog 147 #[.pointer (some ⟨b,0,none⟩)] w fun e w'=>e=.returned (.int .i64 0)∧xx w' b s s.size∧Chg (fun _=>False) w w':=by
  have LEFT:Calls Tryz.prog 214 #[.pointer (some ⟨b,0,none⟩)] w fun e w'=>e=.returned (.int .i64 0)∧w'=w.drew:=by
    have IW:=zf (yO w b s _ h);have c1:=zg (o:=1) h rfl;have c2:=zg (o:=2) h rfl;have a0:IntKind.i64.wrap ((s.size:Int) - (s.size:Int))=0:=by rw [IntKind.wrap_i64];omega
    have a1:(s.size:Int) - (s.size:Int)=0:=by omega
    go_enter Tryz.func214,Tryz.ntmps214;go_wp2_with fail;(with_reducible refine IW.out.mono ?_);rintro e w1 ⟨rfl,rfl⟩;go_wp2_with fail;refine Zh (by kernel_rfl) (by kernel_rfl) ?_
    repeat still_step
    refine wpStill_nil ?_;go_wp2;go_ret;exact ⟨by simp;rfl,rfl⟩
  have LEFT:=zf LEFT;have H2:=zf (h.chg (zA (fun _=>False) w) (fun e=>e));clear h;go_enter Tryz.func147,Tryz.ntmps147;go_wp2_with fail;(with_reducible refine LEFT.out.mono ?_);rintro e w1 ⟨rfl,rfl⟩;have c0:=zg (o:=0) H2.out rfl;go_wp2;go_ret;exact ⟨rfl,H2.out,zA _ _⟩
end Go.Proofs.YtcilaocknhphnaaGreat
