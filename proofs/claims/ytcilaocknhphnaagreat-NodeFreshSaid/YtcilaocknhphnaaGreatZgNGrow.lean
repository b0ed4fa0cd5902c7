/-
  Package pack: numbers that are read. Package pack: In: what is read where it stands. Package pack: In: words and sets that are read. Package pack: In: sets that are read; its end. Rows of objects that grow.
-/
import Derived.Test.YtcilaocknhphnaaGreatZgRBase
import Derived.Test.YtcilaocknhphnaaGreatZgANew
import Derived.Test.YtcilaocknhphnaaGreatZgCSet
namespace Go.Proofs.YtcilaocknhphnaaGreat
open Go.RowKit Go.Maps
def XW (w:World) (b:Nat) (s:ByteArray) (n:Nat):Prop:=w.heap[b]? = some (.cells #[.int .i64 0,.string s,.int .i64 (n:Int)] 326 (0,0))
theorem YZ (w:World) (b:Nat) (s:ByteArray) (n:Nat) (h:XW w b s n):Calls Tryz.prog 208 #[.pointer (some ⟨b,0,none⟩)] w fun e w'=>e=.returned (.bool true)∧w=w':=by
 have c0:=zg (o:=0) h rfl;clear h;go_enter Tryz.func208,Tryz.ntmps208;go_wp2;go_ret;exact ⟨rfl,rfl⟩
theorem ziu (w:World) (s:ByteArray):Calls Tryz.prog 144 #[.string s] w fun e w'=>e=.returned (.pointer (some ⟨w.heap.size,0,none⟩))∧XW w' w.heap.size s 0∧Chg (fun _=>False) w w'∧w.heap.size < w'.heap.size:=by
 have OB:=zf (zh w (.cells #[.int .i64 0,.string s,.int .i64 0] 326));have K:=zf (zi (fun _=>False) w (.cells #[.int .i64 0,.string s,.int .i64 0] 326));have sz:(w.alloc (.cells #[.int .i64 0,.string s,.int .i64 0] 326)).heap.size=w.heap.size+1:=zlH _ _;go_enter Tryz.func144,Tryz.ntmps144;go_wp2;go_ret;exact ⟨rfl,OB.out,K.out,by omega⟩
theorem zky:∀ x:Fin 256,bits BinOp.and IntKind.u8 ((x.val:Nat):Int) 127=((x.val % 128:Nat):Int):=by decide +kernel
theorem ziL (b:UInt8):bits BinOp.and IntKind.u8 (b.toNat:Int) 127=((b.toNat % 128:Nat):Int):=zky ⟨b.toNat,b.toNat_lt⟩
theorem zeL {n k:Nat} {pre rest l:List UInt8} (hl:l=pre++(zW n++rest)) (hk:pre.length=k):l[k]? = some (UInt8.ofNat (if n < 128 then n else n % 128+128)):=by
 subst hl hk;rw [List.getElem?_append_right (zlS _),Nat.sub_self];by_cases h:n < 128
 ·rw [ZQ h,if_pos h];rfl
 ·rw [Yh (by omega),if_neg h];rfl
theorem zeH {n:Nat} {pre rest l:List UInt8} (hl:l=pre++(zW n++rest)) (h:128<=n):l=(pre++[UInt8.ofNat (n % 128+128)])++(zW (n / 128)++rest):=by
 rw [hl,Yh h];simp
theorem zeQ {l r:List UInt8} {n:Nat} {c:UInt8} (h:l.drop n=c :: r):l[n]? = some c:=by
 have:=congrArg (fun l=>l[0]?) h
 simpa using this
theorem zg5 {l r:List UInt8} {n:Nat} (h:l.drop n=r) (hr:1<=r.length):n+r.length=l.length:=by
 have:=congrArg List.length h;rw [List.length_drop] at this;omega
theorem Zb {l p r:List UInt8} {n:Nat} (h:l.drop n=p++r):l.drop (n+p.length)=r:=by
 rw [<- List.drop_drop,h,List.drop_left]
theorem zeK (n k m:Nat) (hm:m=n / 128 ^ k):n % 128 ^ k ||| (m % 128)*2 ^ (7*k)=n % 128 ^ (k+1):=by
 have h1:n % 128 ^ k < 2 ^ (7*k):=by rw [<- zdN];exact Nat.mod_lt _ (Nat.pow_pos (by decide))
 rw [<- Nat.shiftLeft_eq,zh7 h1,hm,<- zdN,zeI]
theorem zeJ {n k:Nat} (h:n / 128 ^ k < 128):n % 128 ^ (k+1)=n:=by
 refine Nat.mod_eq_of_lt ?_;rw [Nat.pow_succ];exact (Nat.div_lt_iff_lt_mul (Nat.pow_pos (by decide))).1 h |> (by rw [Nat.mul_comm];exact ·)
set_option maxHeartbeats 4000000 in
set_option maxRecDepth 100000 in
theorem zfz (w:World) (s:ByteArray) (n:Nat) (rest:List UInt8) (hn:n<=4611686018427387904) (hs:s.data.toList=zW n++rest) (hm:s.size<=1000000):
  Calls Tryz.prog 211 #[.string s] w fun e w'=>e=.returned (.tuple #[.int .i64 (n:Int),.int .i64 ((zW n).length:Int)])∧w=w':=by
 have HS:=zf hs;have HSZ:=zf (zz s);clear hs;go_enter Tryz.func211,Tryz.ntmps211;go_wp2;go_loopw [4,5] (fun av kv wr=>∃ k m A:Nat,k<=8∧kv=.int .i64 (k:Int)∧av=.int .u64 (A:Int)∧w=wr∧Hid (A=n % 128 ^ k∧m=n / 128 ^ k∧(0 < k->0 < m)∧k+(zW m).length=(zW n).length∧∃ pre,pre.length=k∧s.data.toList=pre++(zW m++rest))) (fun _ kv _=>9 - (intOf kv).toNat)
 case atStart=>exact ⟨0,n,0,by omega,rfl,rfl,rfl,zf ⟨by simp [Nat.mod_one],by simp,by omega,by omega,[],rfl,by simpa using HS.out⟩⟩
 case round=>
  obtain ⟨k,m,A,hk,rfl,rfl,rfl,HI⟩:=hrel;obtain ⟨eA,em,hpos,hlen,pre,hp,hl⟩:=HI.out;clear HI;have hget:=zeL hl hp
  have hk2:k < s.size:=by
   have:=(zlA.1 hget).1;rw [HSZ.out] at this;exact this
  obtain ⟨c,hc⟩:∃ c:Nat,c=if m < 128 then m else m % 128+128:=⟨_,rfl⟩
  have hc256:c < 256:=by rw [hc];split <;> omega
  have hcm:c % 128=m % 128:=by rw [hc];split <;> omega
  have hcb:c < 128↔m < 128:=by rw [hc];split <;> omega
  have hcz:m < 128->c=m:=fun h=>by rw [hc,if_pos h]
  have qc:(s[k]'hk2).toNat=c:=by
   have e:s.data.toList[k]? = some (s[k]'hk2):=by
    rw [zlz (by rw [HSZ.out];exact hk2)];rfl
   rw [hget,<- hc] at e;have e:=Option.some.inj e;rw [<- e,UInt8.toNat_ofNat'];omega
  have hle:m % 128*2 ^ (7*k)<=n:=by
   rw [<- zdN,em];exact Nat.le_trans (Nat.mul_le_mul_right _ (Nat.mod_le _ _)) (Nat.div_mul_le_self _ _)
  have hA:A<=4611686018427387904:=by rw [eA];exact Nat.le_trans (Nat.mod_le _ _) hn
  obtain ⟨sh,hsh⟩:∃ sh:Nat,sh=c % 128*2 ^ (7*k):=⟨_,rfl⟩;obtain ⟨B,hB⟩:∃ B:Nat,B=n % 128 ^ (k+1):=⟨_,rfl⟩;have hsh2:sh<=4611686018427387904:=by rw [hsh,hcm];omega
  have hB2:B<=4611686018427387904:=by rw [hB];exact Nat.le_trans (Nat.mod_le _ _) hn
  have e2:IntKind.u64.wrap (IntKind.u64.wrap (bits BinOp.and IntKind.u8 (c:Int) 127)*2 ^ (7*k))=(sh:Int):=by
   have h1:=ziL (UInt8.ofNat c);rw [UInt8.toNat_ofNat',Nat.mod_eq_of_lt hc256] at h1;have h2:IntKind.u64.wrap ((c % 128:Nat):Int)=((c % 128:Nat):Int):=by rw [IntKind.wrap_u64];omega
   have h3:((c % 128:Nat):Int)*2 ^ (7*k)=(sh:Int):=by rw [hsh];push_cast;rfl
   rw [h1,h2,h3,IntKind.wrap_u64];omega
  have e3:bits BinOp.or IntKind.u64 (A:Int) (sh:Int)=(B:Int):=by
   rw [bits_or_u64_nat _ _ (by omega) (by omega),hsh,hcm,eA,hB,zeK n k m em]
  have g1:decide ((k:Int) < (s.size:Int))=true:=zlx (by omega);have g2:decide (k < s.size)=true:=zlx hk2;have g3:decide ((k:Int) < 9)=true:=zlx (by omega);have a1:IntKind.i64.wrap (7*(k:Int))=7*(k:Int):=by rw [IntKind.wrap_i64];omega
  have t1:(7*(k:Int)).toNat=7*k:=by omega
  by_cases hb:m < 128
  ·have hBn:B=n:=by rw [hB];exact zeJ (by rw [<- em];exact hb)
   have hcc:c < 128:=hcb.2 hb;have h128:decide (128<=(c:Int))=false:=zly (by omega);have g5:decide (4611686018427387904 < (B:Int))=false:=zly (by omega);have hkz:0 < k->0 < c:=fun h=>by rw [hcz hb];exact hpos h
   have hlen2:k+1=(zW n).length:=by rw [<- hlen,ZQ hb];rfl
   have FIN:=zf (And.intro hBn hlen2);have hw:wrap64 (B:Int)=(B:Int):=by unfold wrap64;omega
   clear hBn hlen2 eA em hpos hlen hl hp hget hc hcm hcb hcz hle hsh hB;by_cases hk0:0 < k
   ·have g6:decide (0 < (k:Int))=true:=zlx (by omega)
    have g6':decide (0 < k)=true:=zlx hk0;have hc0:0 < c:=hkz hk0;have g7:((c:Int) == 0)=false:=by rw [zlI];omega
    have g8:(c == 0)=false:=by rw [zlI];omega
    have g9:decide (c=0)=false:=zly (by omega);have g9':decide ((c:Int)=0)=false:=zly (by omega);go_wp2;go_ret2;exact ⟨by show Ending.returned (.tuple #[.int .i64 (wrap64 (B:Int)),.int .i64 ((k:Int)+1)])=_;rw [hw,FIN.out.1,<- FIN.out.2];rfl,rfl⟩
   ·have g6:decide (0 < (k:Int))=false:=zly (by omega)
    have g6':decide (0 < k)=false:=zly hk0;go_wp2;go_ret2;exact ⟨by show Ending.returned (.tuple #[.int .i64 (wrap64 (B:Int)),.int .i64 ((k:Int)+1)])=_;rw [hw,FIN.out.1,<- FIN.out.2];rfl,rfl⟩
  ·have hcc:¬ c < 128:=fun h=>hb (hcb.1 h)
   have h128:decide (128<=(c:Int))=true:=zlx (by omega)
   have hk8:k < 8:=by
    rcases Nat.lt_or_ge k 8 with q | q
    ·exact q
    ·exfalso
     have hk9:k=8:=by omega
     subst hk9;have:n / 128 ^ 8 < 128:=by rw [Nat.div_lt_iff_lt_mul (by decide)];omega
     omega
   have NX:=zf (show B=n % 128 ^ (k+1)∧m / 128=n / 128 ^ (k+1)∧(0 < k+1->0 < m / 128)∧k+1+(zW (m / 128)).length=(zW n).length∧∃ pre,pre.length=k+1∧s.data.toList=pre++(zW (m / 128)++rest) from
    ⟨hB,by rw [em,Nat.div_div_eq_div_mul,Nat.pow_succ],fun _=>by omega,by rw [<- hlen,Yh (n:=m) (by omega),List.length_cons];omega,_,by rw [zlC,hp];rfl,zeH (n:=m) hl (by omega)⟩)
   clear eA em hpos hlen hl hp hget hc hcm hcb hcz hle hsh hB;go_wp2;go_roundw
   case rel=>exact ⟨k+1,m / 128,B,by omega,by go_num,by first | rfl | trivial,by first | rfl | trivial,NX⟩
   case measure=>simp [intOf];omega
theorem zg4 (s:ByteArray) (n:Nat):(s.extract n s.size).data.toList=s.data.toList.drop n:=by
 have h:s.size=s.data.toList.length:=(zz s).symm;rw [ByteArray.data_extract,Array.toList_extract,List.extract_eq_take_drop,h,<- List.length_drop,zlT]
theorem zb7 (s:ByteArray) (a b:Nat):(s.extract a b).data.toList=(s.data.toList.drop a).take (b - a):=by
 rw [ByteArray.data_extract,Array.toList_extract,List.extract_eq_take_drop]
theorem XW.set {w:World} {b:Nat} {s:ByteArray} {n:Nat} (h:XW w b s n) (m:Nat):XW (w.setCell ⟨b,2,none⟩ (.int .i64 (m:Int))) b s m:=zq (o:=2) h _
theorem XW.chg {S:Nat->Prop} {w w':World} {b:Nat} {s:ByteArray} {n:Nat} (h:XW w b s n) (hc:Chg S w w') (hs:¬ S b):XW w' b s n:=hc.obj hs h
theorem ZN {s:ByteArray} {p:Nat} {l r:List UInt8} (hd:s.data.toList.drop p=l++r) (hl:1<=l.length):p+l.length+r.length=s.size:=by
 have:=congrArg List.length hd;rw [List.length_drop,zlC,zz] at this;omega
set_option maxHeartbeats 2000000 in
set_option maxRecDepth 100000 in
theorem xq (w:World) (b:Nat) (s:ByteArray) (p n:Nat) (most:Int) (rest:List UInt8) (h:XW w b s p) (hd:s.data.toList.drop p=zW n++rest) (hn:n<=4611686018427387904) (hm:(n:Int)<=most) (hs:s.size<=1000000):
  Calls Tryz.prog 145 #[.pointer (some ⟨b,0,none⟩),.int .i64 most] w fun e w'=>e=.returned (.int .i64 (n:Int))∧XW w' b s (p+(zW n).length)∧Chg (fun k=>k=b) w w':=by
 have H:=zf h;have IW:=zf (YZ w b s p h);obtain ⟨l1,l9⟩:=YX hn;have hsz:=ZN hd l1;have NM:=zf (fun w=>zfz w (s.extract p s.size) n rest hn (by rw [zg4];exact hd) (by rw [ByteArray.size_extract];omega));generalize (zW n).length=L at *;have c1:=zg (o:=1) h rfl;have c2:=zg (o:=2) h rfl;have f2:=zk (o:=2) h;have hp1:p<=s.size:=by omega
 have hp2:(p:Int)<=(s.size:Int):=by omega
 have t1:((p:Int)).toNat=p:=by omega
 have g1:((L:Int) == 0)=false:=by rw [zlI];omega
 have g1':decide ((L:Int)=0)=false:=zly (by omega);have g1'':(L == 0)=false:=by rw [zlI];omega
 have g2:decide (most < (n:Int))=false:=zly (by omega);have a1:IntKind.i64.wrap ((p:Int)+(L:Int))=((p+L:Nat):Int):=by rw [IntKind.wrap_i64];omega
 clear h hd hsz;go_enter Tryz.func145,Tryz.ntmps145;go_wp2_with fail;(with_reducible refine IW.out.mono ?_);rintro e w1 ⟨rfl,rfl⟩;go_wp2_with fail;refine zP (by kernel_rfl) (by kernel_rfl) ?_
 repeat still_step
 still_call ((NM.out _).mono fun _ _ h=>⟨h.1,h.2.symm⟩)
 repeat still_step
 refine wpStill_nil ?_;have H2:Hid (XW w.drew b s p):=zf (H.out.chg (zy (fun _=>False) w) (fun e=>e));have K2:=zf (zy (fun k=>k=b) w);have c2':w.drew.cell? ⟨b,2,none⟩=some (.int .i64 (p:Int)):=c2;have f2':w.drew.frozen? ⟨b,2,none⟩=false:=f2;clear c1 c2 f2 IW NM H;generalize w.drew=w2 at *;go_wp2;have FIN:=zf (And.intro (H2.out.set (p+L)) (K2.out.trans (zA w2 b 2 (.int .i64 ((p+L:Nat):Int)))));go_ret;exact ⟨rfl,FIN.out.1,FIN.out.2⟩
theorem zbw {x y:ByteArray} (h:x.data.toList=y.data.toList):x=y:=by
 obtain ⟨⟨l⟩⟩:=x;obtain ⟨⟨m⟩⟩:=y;simp at h;subst h;rfl
set_option maxHeartbeats 2000000 in
set_option maxRecDepth 100000 in
theorem zc1 (w:World) (b:Nat) (s:ByteArray) (p m:Nat) (h:XW w b s p) (hm:p+m<=s.size) (hs:s.size<=1000000):
  Calls Tryz.prog 257 #[.pointer (some ⟨b,0,none⟩),.int .i64 (m:Int)] w fun e w'=>e=.returned (.string (s.extract p (p+m)))∧XW w' b s (p+m)∧Chg (fun k=>k=b) w w':=by
 have H:=zf h;have IW:=zf (fun w h=>YZ w b s p h);have c1:=zg (o:=1) h rfl;have c2:=zg (o:=2) h rfl;have g1:decide ((s.size:Int) - (p:Int) < (m:Int))=false:=zly (by omega);have a0:IntKind.i64.wrap ((s.size:Int) - (p:Int))=(s.size:Int) - (p:Int):=by rw [IntKind.wrap_i64];omega
 have a1:IntKind.i64.wrap ((p:Int)+(m:Int))=((p+m:Nat):Int):=by rw [IntKind.wrap_i64];omega
 have hp1:p+m<=s.size:=hm;have hp2:((p+m:Nat):Int)<=(s.size:Int):=by omega
 have hp3:(p:Int)<=((p+m:Nat):Int):=by omega
 have hp4:p<=p+m:=by omega
 have b0:0<=(p:Int)+(m:Int):=by omega
 have b1:(p:Int)<=(p:Int)+(m:Int):=by omega
 have b2:(p:Int)+(m:Int)<=(s.size:Int):=by omega
 have t1:((p:Int)).toNat=p:=by omega
 have t2:((p:Int)+(m:Int)).toNat=p+m:=by omega
 clear h;go_enter Tryz.func257,Tryz.ntmps257;go_wp2_with fail;refine zP (by kernel_rfl) (by kernel_rfl) ?_
 repeat still_step
 still_call ((IW.out _ (H.out.chg (zy (fun _=>False) w) (fun e=>e))).mono fun _ _ h=>⟨h.1,h.2.symm⟩)
 repeat still_step
 refine wpStill_nil ?_;have H2:Hid (XW w.drew b s p):=zf (H.out.chg (zy (fun _=>False) w) (fun e=>e));have K2:=zf (zy (fun k=>k=b) w);clear c1 c2 H;generalize w.drew=w2 at *;have c1:=zg (o:=1) H2.out rfl;have c2:=zg (o:=2) H2.out rfl;go_wp2_with fail;(with_reducible refine (IW.out _ H2.out).mono ?_);rintro e w1 ⟨rfl,rfl⟩;go_wp2_with fail;refine zP (by kernel_rfl) (by kernel_rfl) ?_
 repeat still_step
 refine wpStill_nil ?_;have H3:Hid (XW w2.drew b s p):=zf (H2.out.chg (zy (fun _=>False) w2) (fun e=>e));have K3:=zf (K2.out.drew);clear c1 c2 H2 K2 IW;generalize w2.drew=w3 at *;have c2:=zg (o:=2) H3.out rfl;have f2:=zk (o:=2) H3.out;go_wp2;have FIN:=zf (And.intro (H3.out.set (p+m)) (K3.out.trans (zA w3 b 2 (.int .i64 ((p+m:Nat):Int)))));go_ret;exact ⟨rfl,FIN.out.1,FIN.out.2⟩
set_option maxHeartbeats 2000000 in
set_option maxRecDepth 100000 in
theorem zbv (w:World) (b:Nat) (s:ByteArray) (p n:Nat) (most:Int) (rest:List UInt8) (h:XW w b s p) (hd:s.data.toList.drop p=UInt8.ofNat n :: rest) (h1:1<=n) (hn:n < 256) (hm:(n:Int)<=most) (hs:s.size<=1000000):
  Calls Tryz.prog 212 #[.pointer (some ⟨b,0,none⟩),.int .i64 most] w fun e w'=>e=.returned (.int .i64 (n:Int))∧XW w' b s (p+1)∧Chg (fun k=>k=b) w w':=by
 have hsz:=ZN (l:=[UInt8.ofNat n]) (r:=rest) (by simpa using hd) (by simp);simp only [List.length_singleton] at hsz;have TK:=zc1 w b s p 1 h (by omega) hs;rw [show ((1:Nat):Int)=1 from rfl] at TK;have TK:=zf TK
 have hq:(s.extract p (p+1)).data.toList=[UInt8.ofNat n]:=by
  rw [zb7,hd,show p+1 - p=1 by omega];rfl
 have hqs:(s.extract p (p+1)).size=1:=by rw [<- zz,hq];rfl
 generalize s.extract p (p+1)=q at *
 have qc:(q[0]'(by omega)).toNat=n:=by
  have e:q.data.toList[0]? = some (q[0]'(by omega)):=by
   rw [zlz (by rw [zz];omega)];rfl
  rw [hq] at e;have e:=Option.some.inj e;rw [<- e,UInt8.toNat_ofNat'];omega
 have g1:decide ((n:Int) < 1)=false:=zly (by omega);have g1':decide (n < 1)=false:=zly (by omega);have g2:decide (most < (n:Int))=false:=zly (by omega);have b1:(0:Int) < (q.size:Int):=by omega
 have b2:0 < q.size:=by omega
 clear hd hq hsz h;go_enter Tryz.func212,Tryz.ntmps212;go_wp2_with fail;(with_reducible refine TK.out.mono ?_);rintro e w1 ⟨rfl,h1',k1⟩;have H1:=zf h1';have K1:=zf k1;have IW:=zf (YZ w1 b s _ h1');clear h1' k1 TK;go_wp2_with fail;(with_reducible refine IW.out.mono ?_);rintro e w2 ⟨rfl,rfl⟩;clear IW;go_wp2;go_ret;exact ⟨rfl,H1.out,K1.out⟩
set_option maxHeartbeats 2000000 in
set_option maxRecDepth 100000 in
theorem zg0 (w:World) (b:Nat) (s:ByteArray) (p:Nat) (x:ByteArray) (rest:List UInt8) (h:XW w b s p) (hd:s.data.toList.drop p=ZX x++rest) (hx:ZZ x.data.toList=true) (hs:s.size<=1000000):
  Calls Tryz.prog 213 #[.pointer (some ⟨b,0,none⟩)] w fun e w'=>e=.returned (.string x)∧XW w' b s (p+(ZX x).length)∧Chg (fun k=>k=b) w w':=by
 obtain ⟨l2,l8⟩:=YY hx;have l1:1<=zI x.data.toList:=((Zr _).1 hx).2.1;have hsz:=ZN hd (by unfold ZX;simp);have hwl:(ZX x).length=1+2*zI x.data.toList:=by unfold ZX;rw [List.length_cons,l2];omega
 have hd1:s.data.toList.drop p=UInt8.ofNat (zI x.data.toList) :: (x.data.toList++rest):=by rw [hd];unfold ZX;rfl
 have hd2:s.data.toList.drop (p+1)=x.data.toList++rest:=by
  have:=Zb (l:=s.data.toList) (n:=p) (p:=[UInt8.ofNat (zI x.data.toList)]) (r:=x.data.toList++rest) (by simpa using hd1)
  simpa using this
 have CN:=zf (zbv w b s p (zI x.data.toList) 8 _ h hd1 l1 (by omega) (by omega) hs);have TK:=zf (fun w h=>zc1 w b s (p+1) (2*zI x.data.toList) h (by omega) hs)
 have hq:s.extract (p+1) (p+1+2*zI x.data.toList)=x:=zbw (by
  rw [zb7,hd2,show p+1+2*zI x.data.toList - (p+1)=2*zI x.data.toList by omega,<- l2,List.take_left])
 rw [hq] at TK;rw [hwl,show p+(1+2*zI x.data.toList)=p+1+2*zI x.data.toList by omega];have MY:=xg (w:=w) (s:=x);have MY:=zf (fun w=>xg w x (by unfold maxLen;rw [<- zz,l2];omega));rw [hx] at MY;clear hd hd1 hd2 hq hx hwl h l2;generalize zI x.data.toList=n at *;have a1:IntKind.i64.wrap (2*(n:Int))=((2*n:Nat):Int):=by rw [IntKind.wrap_i64];omega
 go_enter Tryz.func213,Tryz.ntmps213;go_wp2_with fail;(with_reducible refine CN.out.mono ?_);rintro e w1 ⟨rfl,h1,k1⟩;have TK1:=TK.out w1 h1;rw [show ((2*n:Nat):Int)=2*(n:Int) by omega] at TK1;have TK1:=zf TK1;have K1:=zf k1;clear h1 k1 CN TK;go_wp2_with fail;(with_reducible refine TK1.out.mono ?_);rintro e w2 ⟨rfl,h2,k2⟩;have H2:=zf h2;have K2:=zf (K1.out.trans k2);have MY2:=zf (MY.out w2);clear h2 k2 TK1 K1 MY;go_wp2_with fail;(with_reducible refine MY2.out.mono ?_);rintro e w3 ⟨rfl,k3⟩;have H3:=zf (H2.out.chg k3 (fun e=>e));have K3:=zf (K2.out.trans (k3.mono (fun _ _ e=>e.elim)));clear k3 H2 K2 MY2;go_wp2;go_ret;exact ⟨rfl,H3.out,K3.out⟩
theorem Tryz.zd3 (w:World) (n:Nat) (hn:n<=16):(Instr.makeSlice 32 (.int .i64 0) (.int .i64 n)).run Tryz.prog w=.ok (.slice (some ⟨w.heap.size,0,none⟩) 0 n) (w.alloc (.cells (xQ n (.string ⟨#[]⟩)).toArray 29)):=by
 obtain ⟨i,hi,hz0,hz1,hz2⟩:=info_parts (show (Tryz.prog.info? 29).map (fun i=>(i.zero,i.size,i.bytes))=some (some (.string ⟨#[]⟩),1,16) by kernel_rfl);have:=run_make (P:=Tryz.prog) w 32 29 i _ Tryz.underlying32 hi hz0 .i64 .i64 0 n (by omega) (by omega) (by rw [hz2];omega) (by omega);rw [this,hz1];simp only [Int.toNat_natCast,Value.cells,Nat.mul_one];rw [Xk];rfl
theorem za8 {l:List ByteArray} {k:Nat} {x:ByteArray} (hx:l[k]? = some x):Zh (l.drop k)=ZX x++Zh (l.drop (k+1)):=by
 have hk:=(zlA.1 hx);obtain ⟨h1,h2⟩:=hk;rw [List.drop_eq_getElem_cons h1,h2];rfl
theorem zaq (l:List ByteArray) (k:Nat):Zh l=Zh (l.take k)++Zh (l.drop k):=by
 unfold Zh;rw [<- List.flatMap_append,zlM]
set_option maxHeartbeats 4000000 in
set_option maxRecDepth 100000 in
theorem zil (w:World) (b:Nat) (s:ByteArray) (p:Nat) (l:List ByteArray) (rest:List UInt8) (h:XW w b s p) (hd:s.data.toList.drop p=xK l++rest) (hl:xw l=true) (hs:s.size<=1000000):
  Calls Tryz.prog 146 #[.pointer (some ⟨b,0,none⟩)] w fun e w'=>∃ v,e=.returned v∧w'.ownsRow w.heap.size 29 1 v l.length (zO l)∧XW w' b s (p+(xK l).length)∧Chg (fun k=>k=b) w w':=by
 obtain ⟨l1,l16⟩:=xY hl;have MAY:=zf (show ∀ x∈l,ZZ x.data.toList=true from fun x hx=>Zm hl hx)
 have SZ:=zf (show ∀ x∈l,x.size<=maxLen from fun x hx=>by
  have:=YY (MAY.out x hx);unfold maxLen;rw [<- zz];omega)
 have HL:=zf hl;have hbw:=zu h;have hd1:s.data.toList.drop p=UInt8.ofNat l.length :: (Zh l++rest):=by rw [hd];unfold xK;rfl
 have hd2:s.data.toList.drop (p+1)=Zh l++rest:=by
  have:=Zb (l:=s.data.toList) (n:=p) (p:=[UInt8.ofNat l.length]) (r:=Zh l++rest) (by simpa using hd1)
  simpa using this
 have hsl:(xK l).length=1+(Zh l).length:=by unfold xK;rw [List.length_cons];omega
 have CN:=zf (zbv w b s p l.length 16 _ h hd1 l1 (by omega) (by omega) hs)
 have DR:=zf (fun k x (hx:l[k]? = some x)=>show s.data.toList.drop (p+1+(Zh (l.take k)).length)=ZX x++(Zh (l.drop (k+1))++rest) from by
  rw [<- List.append_assoc,<- za8 hx];exact Zb (by rw [hd2,zaq l k,List.append_assoc]))
 rw [hsl,<- Nat.add_assoc];clear h hd hd1 hd2 hl hsl;have MK:=fun w=>Tryz.zd3 w l.length l16;go_enter Tryz.func146,Tryz.ntmps146;go_wp2_with fail;(with_reducible refine CN.out.mono ?_);rintro e w1 ⟨rfl,h1,k1⟩;have z1:w.heap.size<=w1.heap.size:=k1.size;have ka:=zi (fun _=>False) w1 (.cells (xQ l.length (.string ⟨#[]⟩)).toArray 29);have H2:=zf (h1.chg ka (fun e=>e));have K2:=zf (k1.trans (ka.mono (fun _ _ e=>e.elim)))
 have O2:=zf (show (w1.alloc (.cells (xQ l.length (.string ⟨#[]⟩)).toArray 29)).ownsRow w.heap.size 29 1 (.slice (some ⟨w1.heap.size,0,none⟩) 0 l.length) 0 (zO []) from
  ⟨rfl,.inr ⟨w1.heap.size,l.length,_,rfl,z1,zh _ _,by omega,by unfold maxLen;omega,by simp [xQ],by simp [zO]⟩⟩)
 clear h1 k1 CN ka;go_wp2;clear MK;generalize w1.alloc (.cells (xQ l.length (.string ⟨#[]⟩)).toArray 29)=w2 at *;go_loopw [4,10] (fun sv kv wr=>∃ k:Nat,k<=l.length∧kv=.int .i64 k∧Hid (wr.ownsRow w.heap.size 29 1 sv k (zO (l.take k))∧XW wr b s (p+1+(Zh (l.take k)).length)∧Chg (fun x=>x=b) w wr)) (fun _ kv _=>l.length - (intOf kv).toNat)
 case atStart=>exact ⟨0,by omega,rfl,zf ⟨by simpa using O2.out,by simpa [Zh] using H2.out,K2.out⟩⟩
 case round=>
  clear O2 H2 K2;obtain ⟨k,hk,rfl,HI⟩:=hrel;by_cases hlt:k < l.length
  ·obtain ⟨x,hx⟩:∃ x,l[k]? = some x:=⟨_,zlz hlt⟩
   have IW:=zf (zg0 wr b s _ x _ HI.out.2.1 (DR.out k x hx) (MAY.out x (zlB hx)) hs);have OW:=zf HI.out.1;have KW:=zf HI.out.2.2
   have TW:=zf (show zO (l.take k)++[Value.string x]=zO (l.take (k+1)) from by
    unfold zO;rw [zlR,hx,List.map_append];rfl)
   have TE:=zf (show p+1+(Zh (l.take k)).length+(ZX x).length=p+1+(Zh (l.take (k+1))).length from by
    rw [YD hx,zlC];omega)
   obtain ⟨sa,sc,rfl⟩:=zl OW.out;clear HI hx;go_wp2_with fail;(with_reducible refine IW.out.mono ?_);rintro e w3 ⟨rfl,h3,k3⟩;have z3:w.heap.size<=w3.heap.size:=by have:=KW.out.size;have:=k3.size;omega
   have O3:=zf (zo OW.out k3 (fun j hj e=>by have:=(OW.out.lt j hj).1;omega));rw [TE.out] at h3;have ka:=zi (fun _=>False) w3 (.cells #[.string x] 29);have H3:=zf (h3.chg ka (fun e=>e));have K3:=zf (KW.out.trans (k3.trans (ka.mono (fun _ _ e=>e.elim))));have O4:=zf (zo O3.out ka (fun _ _ e=>e));clear h3 k3 IW OW KW O3 ka TE;go_wp2_with (at_builtin;refine zK rfl (.tmp 12) (.tmp 15) 32 rfl 29 1 16 Tryz.underlying32 Tryz.elemWord w.heap.size _ k _ rfl O4.out w3.heap.size [.string x] 29 (0,0) rfl ?a2 rfl ?a3 ?a4 ?a5 ?a6 ?a7)
   case a2=>exact zh _ _
   case a3=>intro u hu;simp at hu;subst hu;rfl
   case a4=>omega
   case a5=>unfold maxLen;omega
   case a6=>rw [zlH];omega
   intro v5 w5 o5 g5 _;rw [TW.out] at o5;have O5:=zf o5;have H5:=zf (H3.out.chg (Chg.of_grown g5) (fun e=>by have:=(O4.out.lt b e).1;omega));have K5:=zf (K3.out.next (Chg.of_grown g5) (fun j hj e=>by have:=(O4.out.lt j e).1;omega));clear o5 g5 H3 K3 O4 TW;go_wp2;go_roundw
   case rel=>exact ⟨k+1,by omega,by go_num,zf ⟨O5.out,H5.out,K5.out⟩⟩
   case measure=>simp [intOf];omega
  ·obtain rfl:k=l.length:=by omega
   have O6:=HI.out.1;have H6:=HI.out.2.1;rw [zlT] at O6 H6;have SA:=ya O6 SZ.out;have SM:=Yt wr _ _ l SA.at_;rw [HL.out] at SM;obtain ⟨sa,sc,rfl⟩:=zl O6;have SM:=zf SM;have O6:=zf O6;have H6:=zf H6;have K6:=zf HI.out.2.2;have IW:=zf (YZ wr b s _ H6.out);clear HI SA;go_wp2_with fail;(with_reducible refine IW.out.mono ?_);rintro e w7 ⟨rfl,rfl⟩;go_wp2_with fail;(with_reducible refine SM.out.mono ?_);rintro e w8 ⟨rfl,d8⟩;have k8:Chg (fun _=>False) wr w8:=d8.chg;have FIN:=zf (And.intro (zo O6.out k8 (fun _ _ e=>e)) (And.intro (H6.out.chg k8 (fun e=>e)) (K6.out.trans (k8.mono (fun _ _ e=>e.elim)))));clear d8 k8 SM IW O6 H6 K6;go_wp2;go_ret;exact ⟨_,rfl,FIN.out.1,FIN.out.2.1,FIN.out.2.2⟩
set_option maxRecDepth 100000 in
theorem zg6 (w:World) (b:Nat) (s:ByteArray) (h:XW w b s s.size) (hs:s.size<=1000000):
  Calls Tryz.prog 147 #[.pointer (some ⟨b,0,none⟩)] w fun e w'=>e=.returned (.int .i64 0)∧XW w' b s s.size∧Chg (fun _=>False) w w':=by
 have LEFT:Calls Tryz.prog 214 #[.pointer (some ⟨b,0,none⟩)] w fun e w'=>e=.returned (.int .i64 0)∧w'=w.drew:=by
  have IW:=zf (YZ w b s _ h);have c1:=zg (o:=1) h rfl;have c2:=zg (o:=2) h rfl;have a0:IntKind.i64.wrap ((s.size:Int) - (s.size:Int))=0:=by rw [IntKind.wrap_i64];omega
  have a1:(s.size:Int) - (s.size:Int)=0:=by omega
  go_enter Tryz.func214,Tryz.ntmps214;go_wp2_with fail;(with_reducible refine IW.out.mono ?_);rintro e w1 ⟨rfl,rfl⟩;go_wp2_with fail;refine zP (by kernel_rfl) (by kernel_rfl) ?_
  repeat still_step
  refine wpStill_nil ?_;go_wp2;go_ret;exact ⟨by simp;rfl,rfl⟩
 have LEFT:=zf LEFT;have H2:=zf (h.chg (zy (fun _=>False) w) (fun e=>e));clear h;go_enter Tryz.func147,Tryz.ntmps147;go_wp2_with fail;(with_reducible refine LEFT.out.mono ?_);rintro e w1 ⟨rfl,rfl⟩;have c0:=zg (o:=0) H2.out rfl;go_wp2;go_ret;exact ⟨rfl,H2.out,zy _ _⟩
def yY:List (Int × Value × Int)->List Value
  | []=>[]
  | x :: l=>.int .i64 x.1 :: x.2.1 :: .int .i64 x.2.2 :: yY l
theorem Xf:∀ l m,yY (l++m)=yY l++yY m
 | [],m=>rfl
 | x :: l,m=>by simp only [List.cons_append,yY,Xf l m]
theorem zbm:∀ (l:List (Int × Value × Int)) (j:Nat) x,l[j]? = some x->(yY l)[j*3]? = some (.int .i64 x.1)∧(yY l)[j*3+1]? = some x.2.1∧(yY l)[j*3+2]? = some (.int .i64 x.2.2)
 | [],j,x,h=>by simp at h
 | y :: l,0,x,h=>by simp at h;subst h;exact ⟨rfl,rfl,rfl⟩
 | y :: l,j+1,x,h=>by
  obtain ⟨h1,h2,h3⟩:=zbm l j x (by simpa using h);refine ⟨?_,?_,?_⟩
  ·rw [show (j+1)*3=j*3+3 by omega];exact h1
  ·rw [show (j+1)*3+1=j*3+1+3 by omega];exact h2
  ·rw [show (j+1)*3+2=j*3+2+3 by omega];exact h3
structure zeW (w:World) (G:Nat->Prop) (E:List (Int × Value × Int)) (L:List Yr):Prop where
  len:E.length=L.length
  obj:∀ (j:Nat) e x,E[j]? = some e->L[j]? = some x->e.1=x.val∧e.2.2=x.ver∧ZG w e.2.1 G x.ents
theorem zeW.nil (w:World) (G:Nat->Prop):zeW w G [] []:=⟨rfl,fun j e x h=>by simp at h⟩
theorem zeW.chg {S:Nat->Prop} {w w':World} {G:Nat->Prop} {E:List (Int × Value × Int)} {L:List Yr} (h:zeW w G E L) (hc:Chg S w w') (hs:∀ k,G k->¬ S k):zeW w' G E L:=
 ⟨h.len,fun j e x h1 h2=>⟨(h.obj j e x h1 h2).1,(h.obj j e x h1 h2).2.1,(h.obj j e x h1 h2).2.2.chg hc hs⟩⟩
theorem zeW.up {w:World} {G G':Nat->Prop} {E:List (Int × Value × Int)} {L:List Yr} (h:zeW w G E L) (hg:∀ k,G k->G' k):zeW w G' E L:=
 ⟨h.len,fun j e x h1 h2=>⟨(h.obj j e x h1 h2).1,(h.obj j e x h1 h2).2.1,(h.obj j e x h1 h2).2.2.up hg⟩⟩
theorem zeW.snoc {w:World} {G:Nat->Prop} {E:List (Int × Value × Int)} {L:List Yr} (h:zeW w G E L) {x:Yr} {v:Value} (hx:ZG w v G x.ents):zeW w G (E++[(x.val,v,x.ver)]) (L++[x]):=by
 refine ⟨by simp [h.len],fun j e' x' q1 q2=>?_⟩;rcases Nat.lt_or_ge j E.length with q | q
 ·rw [List.getElem?_append_left q] at q1
  rw [List.getElem?_append_left (by rw [<- h.len];exact q)] at q2;exact h.obj j e' x' q1 q2
 ·rw [List.getElem?_append_right q] at q1
  rw [List.getElem?_append_right (by rw [<- h.len];exact q)] at q2
  have hj:j - E.length=0:=by
   have:=(zlA.1 q1).1;simp at this;omega
  rw [hj] at q1;rw [<- h.len,hj] at q2;simp at q1 q2;subst q1 q2;exact ⟨rfl,rfl,hx⟩
theorem Tryz.elemObject:Zc Tryz.prog 37 3 40:=zX (z:=.agg #[.int .i64 0,.slice none 0 0,.int .i64 0]) (by kernel_rfl) rfl (by decide)
theorem zfx {w:World} {base:Nat} {v:Value} {G:Nat->Prop} {E:List (Int × Value × Int)} {L:List Yr} (h:w.ownsRow base 37 3 v E.length (yY E)) (hE:zeW w G E L) (hG:∀ k,v.ownBlock=some k->G k):ZC w v G L:=by
 have h0:=h;obtain ⟨h1,⟨rfl,h2⟩ | ⟨g,cap,cur,rfl,hg,hh,q1,q2,q3,q4⟩⟩:=h
 ·have hn:L=[]:=List.eq_nil_of_length_eq_zero (by rw [<- hE.len,h2])
  subst hn;exact zfy w G
 ·refine ⟨_,cap,by rw [hE.len],by rw [<- hE.len];exact q1,q2,(fun e=>by cases e),fun j x hj=>?_⟩
  have hjl:=(zlA.1 hj).1;obtain ⟨e,he⟩:∃ e,E[j]? = some e:=⟨_,zlz (by rw [hE.len];exact hjl)⟩;obtain ⟨r1,r2,r3⟩:=hE.obj j e x he hj;obtain ⟨g1,g2,g3⟩:=zbm E j e he;have hlt:j < E.length:=by rw [hE.len];exact hjl
  refine ⟨g,0,e.2.1,rfl,hG g rfl,?_,?_,?_,r3⟩
  ·rw [Nat.zero_add,h0.cellAt (j:=j*3) (by omega),g1,r1]
  ·rw [Nat.zero_add,h0.cellAt (j:=j*3+1) (by omega),g2]
  ·rw [Nat.zero_add,h0.cellAt (j:=j*3+2) (by omega),g3,r2]
def GEs (w:World) (T:Nat) (val ver:Int) (ev:Value) (E:List (Int × Value)) (L:List ZE):Prop:=
  w.heap[T]? = some (.cells #[.int .i64 val,ev,.int .i64 ver] 37 (0,0))∧w.ownsRow T 34 2 ev E.length (ZB E) ∧
    zdn w (fun k=>T < k∧k < w.heap.size∧ev.ownBlock≠some k) E L
def GE (w:World) (T:Nat) (val ver:Int) (L:List ZE):Prop:=∃ ev E,GEs w T val ver ev E L
theorem GEs.ne {w:World} {T:Nat} {val ver:Int} {ev:Value} {E:List (Int × Value)} {L:List ZE} (h:GEs w T val ver ev E L) {k:Nat} (hk:ev.ownBlock=some k):T < k∧k < w.heap.size:=by
 have h1:=h.2.1.lt k hk;refine ⟨?_,h1.2⟩;rcases Nat.lt_or_ge T k with q | q
 ·exact q
 ·have:k=T:=by omega
  subst this;obtain ⟨cs,hcs⟩:=zM h.2.1 hk;rw [h.1] at hcs;cases hcs
theorem GEs.chg {S:Nat->Prop} {w w':World} {T:Nat} {val ver:Int} {ev:Value} {E:List (Int × Value)} {L:List ZE} (h:GEs w T val ver ev E L) (hc:Chg S w w') (hs:∀ k,T<=k->k < w.heap.size->¬ S k):GEs w' T val ver ev E L:=
 ⟨hc.obj (hs T (zlS _) (zu h.1)) h.1,zo h.2.1 hc (fun k hk=>hs k (Nat.le_of_lt (h.ne hk).1) (h.ne hk).2),
  (h.2.2.chg hc (fun k hk=>hs k (Nat.le_of_lt hk.1) hk.2.1)).up (fun k hk=>⟨hk.1,zlG hk.2.1 hc.size,hk.2.2⟩)⟩
theorem GE.chg {S:Nat->Prop} {w w':World} {T:Nat} {val ver:Int} {L:List ZE} (h:GE w T val ver L) (hc:Chg S w w') (hs:∀ k,T<=k->k < w.heap.size->¬ S k):GE w' T val ver L:=by
 obtain ⟨ev,E,h⟩:=h;exact ⟨ev,E,h.chg hc hs⟩
theorem zi0 (w:World) (val ver:Int):GE (w.alloc (.cells #[.int .i64 val,.slice none 0 0,.int .i64 ver] 37)) w.heap.size val ver []:=
 ⟨.slice none 0 0,[],zh _ _,World.ownsRow_nil _ _ _ _,⟨rfl,fun j e x h=>by simp at h⟩⟩
theorem GEs.push {w3 w4:World} {T:Nat} {val ver:Int} {ev ev':Value} {E:List (Int × Value)} {L:List ZE} (h:GEs w3 T val ver ev E L) {x:ZE} {sv:Value}
  (hs:yR w3 sv (fun k=>T < k∧k < w3.heap.size∧ev.ownBlock≠some k) x.2) (ho:w4.ownsRow T 34 2 ev' (E.length+1) (ZB E++[.int .i64 x.1,sv])) (hg:Chg (fun k=>ev.ownBlock=some k) w3 w4) (sn:yJ w3 ev ev'):
  GEs (w4.setCell ⟨T,1,none⟩ ev') T val ver ev' (E++[(x.1,sv)]) (L++[x])∧Chg (fun k=>T<=k) w3 (w4.setCell ⟨T,1,none⟩ ev'):=by
 have h4:=hg.obj (fun e=>by have:=(h.ne e).1;omega) h.1;have kc:=zA w4 T 1 ev';have hz:(w4.setCell ⟨T,1,none⟩ ev').heap.size=w4.heap.size:=by simp [World.setCell]
 have hz4:=hg.size
 have hne:∀ k,ev'.ownBlock=some k->k≠T:=fun k hk e=>by
  subst e;obtain ⟨cs,hcs⟩:=zM ho hk;rw [h4] at hcs;cases hcs
 have hup:∀ k,(T < k∧k < w3.heap.size∧ev.ownBlock≠some k)->(T < k∧k < (w4.setCell ⟨T,1,none⟩ ev').heap.size∧ev'.ownBlock≠some k):=fun k hk=>by
  refine ⟨hk.1,by omega,fun e=>?_⟩;rcases sn with q | q
  ·rw [q] at e;exact hk.2.2 e
  ·have:=q k e;omega
 have EE:ZB (E++[(x.1,sv)])=ZB E++[.int .i64 x.1,sv]:=by rw [Xp];rfl
 refine ⟨⟨zq (o:=1) h4 ev',?_,?_⟩,(hg.mono (fun k _ e=>Nat.le_of_lt (h.ne e).1)).trans (kc.mono (fun k _ e=>by show T<=k;omega))⟩
 ·rw [EE,zlC]
  exact zo ho kc (fun k hk e=>hne k hk e)
 ·have q1:=(((h.2.2.chg hg (fun k hk e=>hk.2.2 e)).chg kc (fun k hk e=>by have:=hk.1;omega)).up hup)
  have q2:=((hs.chg hg (fun k hk e=>hk.2.2 e)).chg kc (fun k hk e=>by have:=hk.1;omega)).up hup;exact q1.snoc rfl q2
theorem GEs.done {w:World} {T:Nat} {val ver:Int} {ev:Value} {E:List (Int × Value)} {L:List ZE} (h:GEs w T val ver ev E L):ZG w ev (fun k=>T < k∧k < w.heap.size) L:=
 zbx h.2.1 (h.2.2.up (fun k hk=>⟨hk.1,hk.2.1⟩)) (fun k hk=>h.ne hk)
def GOs (w:World) (R:Nat) (boot:Int) (ov:Value) (E:List (Int × Value × Int)) (L:List Yr):Prop:=
  w.heap[R]? = some (.cells #[.int .i64 boot,ov] 40 (0,0))∧w.ownsRow R 37 3 ov E.length (yY E) ∧
    zeW w (fun k=>R < k∧k < w.heap.size∧ov.ownBlock≠some k) E L
def GO (w:World) (R:Nat) (boot:Int) (L:List Yr):Prop:=∃ ov E,GOs w R boot ov E L
theorem GOs.ne {w:World} {R:Nat} {boot:Int} {ov:Value} {E:List (Int × Value × Int)} {L:List Yr} (h:GOs w R boot ov E L) {k:Nat} (hk:ov.ownBlock=some k):R < k∧k < w.heap.size:=by
 have h1:=h.2.1.lt k hk;refine ⟨?_,h1.2⟩;rcases Nat.lt_or_ge R k with q | q
 ·exact q
 ·have:k=R:=by omega
  subst this;obtain ⟨cs,hcs⟩:=zM h.2.1 hk;rw [h.1] at hcs;cases hcs
theorem GOs.chg {S:Nat->Prop} {w w':World} {R:Nat} {boot:Int} {ov:Value} {E:List (Int × Value × Int)} {L:List Yr} (h:GOs w R boot ov E L) (hc:Chg S w w') (hs:∀ k,R<=k->k < w.heap.size->¬ S k):GOs w' R boot ov E L:=
 ⟨hc.obj (hs R (zlS _) (zu h.1)) h.1,zo h.2.1 hc (fun k hk=>hs k (Nat.le_of_lt (h.ne hk).1) (h.ne hk).2),
  (h.2.2.chg hc (fun k hk=>hs k (Nat.le_of_lt hk.1) hk.2.1)).up (fun k hk=>⟨hk.1,zlG hk.2.1 hc.size,hk.2.2⟩)⟩
theorem GO.chg {S:Nat->Prop} {w w':World} {R:Nat} {boot:Int} {L:List Yr} (h:GO w R boot L) (hc:Chg S w w') (hs:∀ k,R<=k->k < w.heap.size->¬ S k):GO w' R boot L:=by
 obtain ⟨ov,E,h⟩:=h;exact ⟨ov,E,h.chg hc hs⟩
theorem ziZ (w:World) (boot:Int):GO (w.alloc (.cells #[.int .i64 boot,.slice none 0 0] 40)) w.heap.size boot []:=
 ⟨.slice none 0 0,[],zh _ _,World.ownsRow_nil _ _ _ _,zeW.nil _ _⟩
theorem GOs.push {w3 w4:World} {R:Nat} {boot:Int} {ov ov':Value} {E:List (Int × Value × Int)} {L:List Yr} (h:GOs w3 R boot ov E L) {x:Yr} {ev:Value}
  (hs:ZG w3 ev (fun k=>R < k∧k < w3.heap.size∧ov.ownBlock≠some k) x.ents) (ho:w4.ownsRow R 37 3 ov' (E.length+1) (yY E++[.int .i64 x.val,ev,.int .i64 x.ver])) (hg:Chg (fun k=>ov.ownBlock=some k) w3 w4) (sn:yJ w3 ov ov'):
  GOs (w4.setCell ⟨R,1,none⟩ ov') R boot ov' (E++[(x.val,ev,x.ver)]) (L++[x])∧Chg (fun k=>R<=k) w3 (w4.setCell ⟨R,1,none⟩ ov'):=by
 have h4:=hg.obj (fun e=>by have:=(h.ne e).1;omega) h.1;have kc:=zA w4 R 1 ov';have hz:(w4.setCell ⟨R,1,none⟩ ov').heap.size=w4.heap.size:=by simp [World.setCell]
 have hz4:=hg.size
 have hne:∀ k,ov'.ownBlock=some k->k≠R:=fun k hk e=>by
  subst e;obtain ⟨cs,hcs⟩:=zM ho hk;rw [h4] at hcs;cases hcs
 have hup:∀ k,(R < k∧k < w3.heap.size∧ov.ownBlock≠some k)->(R < k∧k < (w4.setCell ⟨R,1,none⟩ ov').heap.size∧ov'.ownBlock≠some k):=fun k hk=>by
  refine ⟨hk.1,by omega,fun e=>?_⟩;rcases sn with q | q
  ·rw [q] at e;exact hk.2.2 e
  ·have:=q k e;omega
 have EE:yY (E++[(x.val,ev,x.ver)])=yY E++[.int .i64 x.val,ev,.int .i64 x.ver]:=by rw [Xf];rfl
 refine ⟨⟨zq (o:=1) h4 ov',?_,?_⟩,(hg.mono (fun k _ e=>Nat.le_of_lt (h.ne e).1)).trans (kc.mono (fun k _ e=>by show R<=k;omega))⟩
 ·rw [EE,zlC]
  exact zo ho kc (fun k hk e=>hne k hk e)
 ·have q1:=(((h.2.2.chg hg (fun k hk e=>hk.2.2 e)).chg kc (fun k hk e=>by have:=hk.1;omega)).up hup)
  have q2:=((hs.chg hg (fun k hk e=>hk.2.2 e)).chg kc (fun k hk e=>by have:=hk.1;omega)).up hup;exact q1.snoc q2
theorem GOs.done {w:World} {R:Nat} {boot:Int} {ov:Value} {E:List (Int × Value × Int)} {L:List Yr} (h:GOs w R boot ov E L):ZC w ov (fun k=>R < k∧k < w.heap.size) L:=
 zfx h.2.1 (h.2.2.up (fun k hk=>⟨hk.1,hk.2.1⟩)) (fun k hk=>h.ne hk)
end Go.Proofs.YtcilaocknhphnaaGreat
