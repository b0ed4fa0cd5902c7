/-
  Sets of words: Less, May, Has, Equal, of the program and of the reference. slices.Sort at []int: by the shelf's contract, over a row of the call's own. Where words stand: what the machine collects at a place, sorted, is the list of the words that begin there. Package match: here. Package match: All, First, Len.
-/
import Derived.Test.YthdfplafihmejaaGreatZtMMach1
import Derived.Ground.NamesProg
import Derived.Shelf.Lay
import Derived.Shelf.Sort.Plain
import Derived.Shelf.Slices.In.SortNone
import Derived.Laws.AppendOwnNone
namespace Go.Proofs.YthdfplafihmejaaGreat
open Go.RowKit Go.Maps
def ye (a b:Wd):Bool:=if a.length=b.length then Op.bytesLess a b else decide (a.length < b.length)
theorem zdQ (w:World) (a b:ByteArray):
  Calls Tryz.prog 87 #[.string a,.string b] w fun e w'=>e=.returned (.bool (ye a.data.toList b.data.toList))∧w=w':=by
 by_cases h:a.size=b.size
 ·have RES:=ze (show ye a.data.toList b.data.toList=Op.bytesLess a.toList b.toList by
   unfold ye;rw [zA,zA,if_pos h,ByteArray.toList_eq,ByteArray.toList_eq])
  have hne:((a.size:Int) != (b.size:Int))=false:=by rw [zrf];omega
  have hne2:((a.size:Int) == (b.size:Int))=true:=by rw [beq_iff_eq];omega
  clear h;go_enter Tryz.func87,Tryz.ntmps87;go_wp2;go_ret;exact ⟨by rw [RES.out];rfl,rfl⟩
 ·have RES:=ze (show ye a.data.toList b.data.toList=decide (a.size < b.size) by
   unfold ye;rw [zA,zA,if_neg h])
  have hne:((a.size:Int) != (b.size:Int))=true:=by rw [zre];omega
  have hne2:((a.size:Int) == (b.size:Int))=false:=by rw [zq9];omega
  clear h;go_enter Tryz.func87,Tryz.ntmps87;go_wp2;go_ret;exact ⟨by rw [RES.out];rfl,rfl⟩
theorem zmj {a b:Wd} {i:Nat} {x y:UInt8} (hx:a[i]? = some x) (hy:b[i]? = some y):Op.bytesLess (a.drop i) (b.drop i)=if x=y then Op.bytesLess (a.drop (i+1)) (b.drop (i+1)) else decide (x.toNat < y.toNat):=by
 have ha:=(zq1.1 hx);have hb:=(zq1.1 hy);obtain ⟨ha1,ha2⟩:=ha;obtain ⟨hb1,hb2⟩:=hb;rw [List.drop_eq_getElem_cons ha1,List.drop_eq_getElem_cons hb1,ha2,hb2];show (decide (x < y) || (x == y && Op.bytesLess _ _))=_;by_cases h:x=y
 ·subst h
  rw [if_pos rfl];simp
 ·rw [if_neg h]
  rw [zq9.2 h,Bool.false_and,Bool.or_false];rfl
theorem zmS {s:ByteArray} {i:Nat} (h:i < s.size):s.data.toList[i]? = some s[i]:=by
 rw [zq0 (by rw [zA];exact h)];rfl
def zfN (l:List Wd):Prop:=1<=l.length∧l.length<=16∧∀ j,j < l.length->Zp (l.getD j [])=true∧(0 < j->ye (l.getD (j - 1) []) (l.getD j [])=true)
instance (l:List Wd):Decidable (zfN l):=by unfold zfN;infer_instance
def zaJ (l:List ByteArray):Bool:=decide (zfN (ZC l))
theorem Xc {l:List ByteArray} {j:Nat} {x:ByteArray} (h:l[j]? = some x):(ZC l).getD j []=x.data.toList:=by
 unfold ZC;rw [zq6,zrb,h];rfl
theorem Zr (l:List ByteArray):(ZC l).length=l.length:=by unfold ZC;rw [zq4]
theorem yu {w w':World} {p:Addr} {v:Value} (h:ZJ w w') (hc:w.cell? p=some v):w'.cell? p=some v:=by
 obtain ⟨n,rfl⟩:=h;exact hc
set_option maxHeartbeats 1000000 in
set_option maxRecDepth 100000 in
theorem zbh (w:World) (v:Value) (G:Nat->Prop) (l:List ByteArray) (hv:zx w v G l):
  Calls Tryz.prog 58 #[v] w fun e w'=>e=.returned (.bool (zaJ l))∧ZJ w w':=by
 obtain ⟨la,cap,rfl,hl0,hcl⟩:=hv;have HCL:=ze hcl;unfold maxLen at hl0;clear hcl;have NO:=ze (show ∀ h:¬ zfN (ZC l),zaJ l=false from fun h=>zqZ h);by_cases h1:l.length < 1
 ·have R:=ze (NO.out (fun q=>by have:=q.1;rw [Zr] at this;omega))
  have g1:decide ((l.length:Int) < 1)=true:=by rw [decide_eq_true_eq];omega
  go_enter Tryz.func58,Tryz.ntmps58;go_wp2;go_ret;exact ⟨by rw [R.out];rfl,ZJ.refl _⟩
 have g1:decide ((l.length:Int) < 1)=false:=by rw [decide_eq_false_iff_not];omega
 by_cases h2:16 < l.length
 ·have R:=ze (NO.out (fun q=>by have:=q.2.1;rw [Zr] at this;omega))
  have g2:decide (16 < (l.length:Int))=true:=by rw [decide_eq_true_eq];omega
  go_enter Tryz.func58,Tryz.ntmps58;go_wp2;go_ret;exact ⟨by rw [R.out];rfl,ZJ.refl _⟩
 have g2:decide (16 < (l.length:Int))=false:=by rw [decide_eq_false_iff_not];omega
 go_enter Tryz.func58,Tryz.ntmps58;go_wp2;go_loopw [15] (fun iv wr=>∃ k:Nat,k<=l.length∧iv=.int .i64 k∧Hid ((∀ j,j < k->Zp ((ZC l).getD j [])=true∧(0 < j->ye ((ZC l).getD (j - 1) []) ((ZC l).getD j [])=true))∧ZJ w wr)) (fun iv _=>l.length - (intOf iv).toNat)
 case atStart=>exact ⟨0,by omega,rfl,ze ⟨fun j hj=>by omega,ZJ.refl _⟩⟩
 case round=>
  obtain ⟨k,hk,rfl,HI⟩:=hrel;by_cases hlt:k < l.length
  ·obtain ⟨x,hx⟩:∃ x,l[k]? = some x:=⟨_,zq0 hlt⟩
   obtain ⟨lb,lo,rfl,_,c0',hxm⟩:=HCL.out k x hx;have c0:=yu HI.out.2 c0';have GX:=ze (Xc hx);have DR:=ze HI.out.2;have PRE:=ze HI.out.1;have MA:=ze (zi0 wr x hxm);clear c0' HI hx;cases hm:Zp x.data.toList with
   | false=>
    rw [hm] at MA;have R:=ze (NO.out (fun q=>by have:=(q.2.2 k (by rw [Zr];exact hlt)).1;rw [GX.out,hm] at this;cases this));clear hm;go_wp2_with fail;(with_reducible refine MA.out.mono ?_);rintro e w1 ⟨rfl,d1⟩;go_wp2;go_ret;exact ⟨by rw [R.out];rfl,DR.out.trans d1⟩
   | true=>
    rw [hm] at MA;by_cases hk0:k=0
    ·have g3:decide (0 < (k:Int))=false:=by rw [decide_eq_false_iff_not];omega
     have g4:decide (0 < k)=false:=by rw [decide_eq_false_iff_not];omega
     have PR:=ze (show ∀ j,j < k+1->Zp ((ZC l).getD j [])=true∧(0 < j->ye ((ZC l).getD (j - 1) []) ((ZC l).getD j [])=true) from fun j hj=>by
      obtain rfl:j=k:=by omega
      exact ⟨by rw [GX.out];exact hm,fun h=>by omega⟩)
     clear hm hk0;go_wp2_with fail;(with_reducible refine MA.out.mono ?_);rintro e w1 ⟨rfl,d1⟩;have D1:=ze (DR.out.trans d1);clear d1;go_wp2;go_roundw
     case rel=>exact ⟨k+1,by omega,by go_num,ze ⟨PR.out,D1.out⟩⟩
     case measure=>simp [intOf];omega
    ·obtain ⟨y,hy⟩:∃ y,l[k - 1]? = some y:=⟨_,zq0 (by omega)⟩
     obtain ⟨lb',lo',e1,_,c1',hym⟩:=HCL.out (k - 1) y hy;cases e1;have GY:=ze (Xc hy);obtain ⟨n,hn⟩:∃ n,n=k - 1:=⟨_,rfl⟩;rw [<- hn] at c1' GY;have c1:=yu DR.out c1';have g3:decide (0 < (k:Int))=true:=by rw [decide_eq_true_eq];omega
     have g4:decide (0 < k)=true:=by rw [decide_eq_true_eq];omega
     have hnk:(k:Int) - 1=(n:Int):=by omega
     have hnl:n < l.length:=by omega
     have HN:=ze hn;have LS:=ze (fun w=>zdQ w y x);have HM:=ze hm;clear hy hn c1' hm;cases hl:ye y.data.toList x.data.toList with
     | false=>
      rw [hl] at LS;have R:=ze (NO.out (fun q=>by have:=(q.2.2 k (by rw [Zr];exact hlt)).2 (by omega);rw [GX.out,<- HN.out,GY.out,hl] at this;cases this));clear hl;go_wp2_with fail;(with_reducible refine MA.out.mono ?_);rintro e w1 ⟨rfl,d1⟩;have c2:=yu d1 c1;have D1:=ze (DR.out.trans d1);clear d1;go_wp2_with fail;(with_reducible refine (LS.out _).mono ?_);rintro e w2 ⟨rfl,rfl⟩;go_wp2;go_ret;exact ⟨by rw [R.out];rfl,D1.out⟩
     | true=>
      rw [hl] at LS
      have PR:=ze (show ∀ j,j < k+1->Zp ((ZC l).getD j [])=true∧(0 < j->ye ((ZC l).getD (j - 1) []) ((ZC l).getD j [])=true) from fun j hj=>by
       rcases Nat.lt_or_ge j k with q | q
       ·exact PRE.out j q
       ·obtain rfl:j=k:=by omega
        exact ⟨by rw [GX.out];exact HM.out,fun _=>by rw [GX.out,<- HN.out,GY.out];exact hl⟩)
      clear hl;go_wp2_with fail;(with_reducible refine MA.out.mono ?_);rintro e w1 ⟨rfl,d1⟩;have c2:=yu d1 c1;have D1:=ze (DR.out.trans d1);clear d1;go_wp2_with fail;(with_reducible refine (LS.out _).mono ?_);rintro e w2 ⟨rfl,rfl⟩;go_wp2;go_roundw
      case rel=>exact ⟨k+1,by omega,by go_num,ze ⟨PR.out,D1.out⟩⟩
      case measure=>simp [intOf];omega
  ·obtain rfl:k=l.length:=by omega
   have R:=ze (show zaJ l=true from zqY ⟨by rw [Zr];omega,by rw [Zr];omega,fun j hj=>HI.out.1 j (by rw [Zr] at hj;exact hj)⟩);go_wp2;go_ret;exact ⟨by rw [R.out];rfl,HI.out.2⟩
instance:LawfulBEq ByteArray where
 eq_of_beq {a b} h:=ByteArray.ext (eq_of_beq (show (a.data == b.data)=true from h))
 rfl {a}:=(beq_self_eq_true a.data:(a.data == a.data)=true)
theorem xC (a b:ByteArray):(a.toList == b.toList)=decide (a=b):=by
 rw [ByteArray.toList_eq,ByteArray.toList_eq,Bool.eq_iff_iff,beq_iff_eq,decide_eq_true_eq];exact ⟨fun h=>ByteArray.ext (Array.ext' h),fun h=>by rw [h]⟩
theorem zi8 (a b:ByteArray):(a.toList != b.toList)=!decide (a=b):=by unfold bne;rw [xC]
def zhP (l:List ByteArray) (x:ByteArray):Int:=if x∈l then (l.idxOf x:Nat) else -1
theorem zmn {α:Type} [BEq α] [LawfulBEq α] {l:List α} {x:α} {k:Nat} (h:l[k]? = some x) (hn:∀ j,j < k->l[j]?≠some x):x∈l∧l.idxOf x=k:=by
 have hm:=zq2 h;have h1:=List.idxOf_lt_length_of_mem hm;have h2:=List.getElem_idxOf h1;refine ⟨hm,?_⟩;rcases Nat.lt_trichotomy (l.idxOf x) k with q | q | q
 ·exact absurd (by rw [zq0 h1,h2]) (hn _ q)
 ·exact q
 ·have hk:=(zq1.1 h).1
  have:=List.not_of_lt_findIdx (p:=(· == x)) q;rw [zq0 hk] at h;rw [Option.some.inj h] at this;simp at this
theorem zcl {α:Type} {l:List α} {x:α} (hn:∀ j,j < l.length->l[j]?≠some x):x ∉ l:=by
 intro h;obtain ⟨j,hj⟩:=List.mem_iff_getElem?.1 h;exact hn j (zq1.1 hj).1 hj
def Xw (l:List ByteArray) (x:ByteArray):Bool:=decide (x∈l)
def zce (l m:List ByteArray):Bool:=decide (l=m)
theorem zlF {l m:List ByteArray} (hl:l.length=m.length) (h:∀ j,j < l.length->l[j]? = m[j]?):l=m:=by
 apply List.ext_getElem?;intro j;rcases Nat.lt_or_ge j l.length with q | q
 ·exact h j q
 ·rw [zrg q,zrg (by omega)]
end Go.Proofs.YthdfplafihmejaaGreat
namespace Go.Proofs
open Go.Shelf
shelf_lay Lays.n189 Nm 189 at Tryz as Tryz.laysSort
end Go.Proofs
namespace Go.Proofs.YthdfplafihmejaaGreat
open Go.RowKit Go.Shelf Go.Sort
def zaI (l:List Nat):List Nat:=l.mergeSort fun x y=>decide (x<=y)
theorem zbM (l:List Nat):(zaI l).Perm l:=List.mergeSort_perm l _
theorem zas (l:List Nat):(zaI l).length=l.length:=(zbM l).length_eq
theorem zd4 (l:List Nat):(zaI l).Pairwise (· <= ·):=by
 have:=List.pairwise_mergeSort (le:=fun x y:Nat=>decide (x<=y)) (fun a b c=>by simp;omega) (fun a b=>by simp;omega) l;exact this.imp (fun h=>by simpa using h)
theorem zh7 (l:List Nat):((l.map fun (n:Nat)=>(n:Int)).mergeSort fun x y=>decide (x<=y)).map (Value.int .i64)=Yj (zaI l):=by
 unfold zaI Yj;rw [<- List.map_mergeSort (r:=fun x y:Nat=>decide (x<=y)) (s:=fun x y:Int=>decide (x<=y)) (f:=fun (n:Nat)=>(n:Int)) (fun a _ b _=>by rw [decide_eq_decide];omega),List.map_map];rfl
theorem zgS {w:World} {g n:Nat} {e:TypeId} {cur:Array Value} (ys:List Int) (hg:w.heap[g]? = some (.cells cur e (0,0))) (hy:ys.length=n) (hc:n<=cur.size) (q:Nat) (os:Array Obj):
  (grow (putRow (Value.int .i64) (Sort.ahead w q) g 0 ys.toArray) os).heap[g]? = some (.cells ((ys.map (Value.int .i64))++cur.toList.drop n).toArray e (0,0))∧Chg (·=g) w (grow (putRow (Value.int .i64) (Sort.ahead w q) g 0 ys.toArray) os):=by
 have hlt:=zr hg
 have h1:(putRow (Value.int .i64) (Sort.ahead w q) g 0 ys.toArray).heap[g]? = some (.cells (putCells (Value.int .i64) 0 ys.toArray cur) e (0,0)):=by
  show (w.heap.modify g (onCells _))[g]? = _;rw [Array.getElem?_modify,if_pos rfl,hg];rfl
 have h2:putCells (Value.int .i64) 0 ys.toArray cur=((ys.map (Value.int .i64))++cur.toList.drop n).toArray:=by
  apply Array.ext
  ·simp [putCells];omega
  ·intro i h3 h4
   simp only [putCells,Array.size_mapIdx] at h3;simp only [putCells,Array.getElem_mapIdx,List.getElem_toArray];by_cases hi:i < n
   ·rw [if_pos ⟨by omega,by simp;omega⟩,List.getElem_append_left (by simp;omega)]
    simp [hy,hi]
   ·rw [if_neg (by simp;omega),List.getElem_append_right (by simp;omega)]
    simp [hy]
    congr 1;omega
 refine ⟨?_,?_⟩
 ·rw [heap_grow_old _ os (by rw [size_putRow];exact hlt),h1,h2]
 ·have hz:=size_putRow (Value.int .i64) (Sort.ahead w q) g 0 ys.toArray
  refine ⟨rfl,rfl,rfl,by rw [grow,Array.size_append,hz];show w.heap.size<=w.heap.size+os.size;omega,fun k hk hne=>?_⟩;rw [heap_grow_old _ os (by rw [size_putRow];exact hk)];show (w.heap.modify g (onCells _))[k]? = _;rw [Array.getElem?_modify,if_neg (fun e=>hne e.symm)]
theorem zjb (w:World) (base:Nat) (v:Value) (l:List Nat) (h:w.ownsRow base 3 1 v l.length (Yj l)) (hl:l.length<=1000000):
  Calls Tryz.prog 188 #[v] w fun e w'=>e=.returned (.tuple #[])∧w'.ownsRow base 3 1 v l.length (Yj (zaI l))∧Chg (fun x=>v.ownBlock=some x) w w':=by
 have h0:=h;obtain ⟨h1,⟨rfl,h2⟩ | ⟨g,cap,cur,rfl,hg,hh,q1,q2,q3,q4⟩⟩:=h
 ·refine (Any.slices_Sort_int_none Tryz.laysSort none 0 w).mono ?_
  rintro e w' ⟨rfl,rfl⟩;have:l=[]:=List.eq_nil_of_length_eq_zero h2;subst this;exact ⟨rfl,by simpa [zaI] using h0,Chg.refl _ _⟩
 ·have hcs:cur.size=cap:=by omega
  have e1:(l.map fun (n:Nat)=>(n:Int)).length=l.length:=zq4 ..
  have hH:Holds (Value.int .i64) w g 0 (l.map fun (n:Nat)=>(n:Int)).toArray:=by
   intro j hj;have hj:j < l.length:=by simpa using hj
   refine ⟨?_,zm hh⟩;rw [Nat.zero_add];have:=h0.cellAt (j:=j) (by omega);rw [this];unfold Yj;rw [zrb,zq0 hj,getElem!_pos _ j (by simpa using hj)];simp
  have hs:=Any.slices_Sort_int Tryz.laysSort g 0 cap (l.map fun (n:Nat)=>(n:Int)) w hH (zr hh) (by rw [e1];omega);rw [e1] at hs;refine Calls.mono hs ?_;rintro e w' ⟨rfl,q,os,rfl⟩;have hyl:((l.map fun (n:Nat)=>(n:Int)).mergeSort fun x y=>decide (x<=y)).length=l.length:=by rw [List.length_mergeSort,e1]
  obtain ⟨r1,r2⟩:=zgS _ hh hyl (by omega) q os;rw [zh7] at r1;have il:(Yj (zaI l)).length=l.length:=by unfold Yj;rw [zq4,zas]
  refine ⟨rfl,⟨by rw [il];omega,.inr ⟨g,cap,_,rfl,hg,r1,q1,q2,?_,?_⟩⟩,r2.mono (fun x _ e=>by rw [e];rfl)⟩
  ·simp [il];omega
  ·rw [Nat.mul_one,List.take_append_of_le_length (by rw [il];exact zrj _),List.take_of_length_le (by rw [il];exact zrj _)]
def zbf (wh:List Nat->List Nat) (A:List Nat):Nat->List Nat
 | 0=>[]
 | j+1=>zbf wh A j++wh (A.take (j+1))
theorem zcD {wh:List Nat->List Nat} {A:List Nat}:∀ {j i:Nat},i∈zbf wh A j↔∃ t,1<=t∧t<=j∧i∈wh (A.take t)
 | 0,i=>by simp [zbf];intro t h1 h2;omega
 | j+1,i=>by
  rw [zbf,zrc,zcD];constructor
  ·rintro (⟨t,h1,h2,h3⟩ | h)
   ·exact ⟨t,h1,by omega,h3⟩
   ·exact ⟨j+1,by omega,by omega,h⟩
  ·rintro ⟨t,h1,h2,h3⟩
   rcases Nat.lt_or_ge j t with q | q
   ·obtain rfl:t=j+1:=by omega
    exact .inr h3
   ·exact .inl ⟨t,h1,q,h3⟩
theorem Xi {l:List (List UInt8)} {n i:Nat} {q:List Nat}:i∈Zi l n q↔i < n∧Zp (l.getD i [])=true∧zT (l.getD i [])=q:=by
 unfold Zi;simp [List.mem_filter]
theorem zfT (l:List (List UInt8)) (n:Nat) (q:List Nat):(Zi l n q).Nodup:=List.Pairwise.filter _ List.nodup_range
theorem zb1 (l:List (List UInt8)) (n:Nat) (A:List Nat):∀ j,j<=A.length->(zbf (Zi l n) A j).Nodup
 | 0,_=>by simp [zbf]
 | j+1,hj=>by
  rw [zbf,List.nodup_append];refine ⟨zb1 l n A j (by omega),zfT l n _,fun a ha b hb=>?_⟩;rintro rfl;obtain ⟨t,h1,h2,h3⟩:=zcD.1 ha;have e1:=(Xi.1 h3).2.2;have e2:=(Xi.1 hb).2.2;have:=congrArg List.length (e1.symm.trans e2);simp only [zq5] at this;omega
theorem zhJ (l:List (List UInt8)) (n:Nat) (A:List Nat) (j:Nat) (hj:j<=A.length):(zbf (Zi l n) A j).length<=n:=by
 have hn:=zb1 l n A j hj
 have hs:zbf (Zi l n) A j ⊆ List.range n:=fun i hi=>by
  obtain ⟨t,_,_,h3⟩:=zcD.1 hi;exact List.mem_range.2 (Xi.1 h3).1
 have:=hn.length_le_of_subset hs
 simpa using this
theorem zhR.take {ps:List (List Nat)} (h:zhR ps) (A:List Nat):∀ (d j:Nat),A.take (j+d)∈ps->A.take j∈ps
 | 0,j,hm=>hm
 | d+1,j,hm=>by
  rcases Nat.lt_or_ge (j+d) A.length with q | q
  ·refine zhR.take h A d j ?_
   have:A.take (j+(d+1))=A.take (j+d)++[A[j+d]]:=by
    rw [show j+(d+1)=j+d+1 from by omega,List.take_succ_eq_append_getElem q]
   rw [this] at hm;exact h.down _ _ hm
  ·refine zhR.take h A d j ?_
   rw [List.take_of_length_le q];rw [List.take_of_length_le (by omega)] at hm;exact hm
theorem zca:∀ {a b:List Nat},a.Pairwise (· <= ·)->b.Pairwise (· <= ·)->a.Nodup->b.Nodup->(∀ x,x∈a↔x∈b)->a=b
 | [],[],_,_,_,_,_=>rfl
 | [],y :: b,_,_,_,_,h=>by have:=(h y).2 (by simp);simp at this
 | x :: a,[],_,_,_,_,h=>by have:=(h x).1 (by simp);simp at this
 | x :: a,y :: b,ha,hb,na,nb,h=>by
  rw [List.pairwise_cons] at ha hb;rw [List.nodup_cons] at na nb
  have hxy:x=y:=by
   have h1:x∈y :: b:=(h x).1 (by simp);have h2:y∈x :: a:=(h y).2 (by simp);rw [List.mem_cons] at h1 h2;rcases h1 with h1 | h1
   ·exact h1
   ·rcases h2 with h2 | h2
    ·exact h2.symm
    ·have:=hb.1 x h1;have:=ha.1 y h2;omega
  subst hxy
  congr 1
  refine zca ha.2 hb.2 na.2 nb.2 (fun z=>?_);have:=h z;rw [List.mem_cons,List.mem_cons] at this;constructor
  ·intro hz
   rcases this.1 (.inr hz) with rfl | q
   ·exact absurd hz na.1
   ·exact q
  ·intro hz
   rcases this.2 (.inr hz) with rfl | q
   ·exact absurd hz nb.1
   ·exact q
theorem zn5 (l:List (List UInt8)) (w:List UInt8) (place j:Nat) (hj:j<=((zT w).drop place).length) (hs:j=((zT w).drop place).length∨((zT w).drop place).take (j+1) ∉ Zl l l.length):
  zaI (zbf (Zi l l.length) ((zT w).drop place) j)=zbU l w place:=by
 have np:(zbf (Zi l l.length) ((zT w).drop place) j).Nodup:=zb1 _ _ _ _ hj;refine zca (zd4 _) ?_ ((zbM _).nodup_iff.2 np) (List.Pairwise.filter _ List.nodup_range) (fun i=>?_)
 ·exact (List.Pairwise.filter _ List.pairwise_lt_range).imp (fun h=>Nat.le_of_lt h)
 ·rw [(zbM _).mem_iff,zcD]
  unfold zbU YN;simp only [List.mem_filter,List.mem_range,zrl,List.isPrefixOf_iff_prefix];constructor
  ·rintro ⟨t,h1,h2,h3⟩
   obtain ⟨q1,q2,q3⟩:=Xi.1 h3;exact ⟨q1,q2,by rw [q3];exact List.take_prefix _ _⟩
  ·rintro ⟨q1,q2,q3⟩
   have hl:1<=(zT (l.getD i [])).length:=by rw [zU];exact ((Zh _).1 q2).2.1
   have ht:((zT w).drop place).take (zT (l.getD i [])).length=zT (l.getD i []):=(List.prefix_iff_eq_take.1 q3).symm;refine ⟨(zT (l.getD i [])).length,hl,?_,Xi.2 ⟨q1,q2,ht.symm⟩⟩;have hle:=q3.length_le;rcases hs with hs | hs
   ·omega
   ·rcases Nat.lt_or_ge j (zT (l.getD i [])).length with q | q
    ·exfalso
     apply hs;have hm:=zbQ l l.length i q1 q2;refine (YA l l.length).take ((zT w).drop place) ((zT (l.getD i [])).length - (j+1)) (j+1) ?_;rw [show j+1+((zT (l.getD i [])).length - (j+1))=(zT (l.getD i [])).length from by omega,ht];exact hm
    ·exact q
open Go.Maps
theorem ze5 (l:List UInt8) {place j:Nat} (h:place+j < zz l):((zT l).drop place).take (j+1)=((zT l).drop place).take j++[zO l (place+j)]:=by
 have hl:j < ((zT l).drop place).length:=by rw [List.length_drop,zU];omega
 rw [List.take_succ_eq_append_getElem hl]
 congr 2
 have:=yC l h;rw [List.getElem_drop];rw [zq0 (by rw [zU];exact h)] at this;exact Option.some.inj this
theorem zoi (l:List UInt8) (place:Nat):((zT l).drop place).length=zz l - place:=by rw [List.length_drop,zU]
theorem zbJ {P:Program} {w:World} {ops:Array Oper} {rest:List Oper} {o:Oper} {a:Act} {Q:Exit->Act->World->Prop} (hgd:o.guard=none) (s x:Operand) (t:TypeId)
  (ho:o.op=.call { callee:=.builtin .append,args:=#[s,x],argTypes:=#[t,t] }) (e:TypeId) (size bytes:Nat) (ht:P.underlying t=some (.slice e)) (hE:Zt P e size bytes)
  (base:Nat) (v:Value) (n:Nat) (xs:List Value) (hs:a.eval s=v) (hown:w.ownsRow base e size v n xs)
  (base2:Nat) (u:Value) (m:Nat) (ys:List Value) (hx:a.eval x=u) (hu:w.ownsRow base2 e size u m ys) (h1:∀ z∈ys,z.oneCell'=true)
  (hbytes:(n+m)*bytes<=140737488355328) (h63:n+m<=maxLen) (hbase:base<=w.heap.size)
  (h:∀ v' w',w'.ownsRow base e size v' (n+m) (xs++ys)->w.grownBy w' v.ownBlock->wpList P ops Q rest (a.put o.dst v') w'):wpList P ops Q (o :: rest) a w:=by
 obtain ⟨i,z,hi,hz,q1,q2,q3,q4⟩:=hE;have hu0:=hu;obtain ⟨hl,⟨rfl,rfl⟩ | ⟨g,cap,cur,rfl,hg,hh,r1,r2,r3,r4⟩⟩:=hu
 ·have:ys=[]:=List.eq_nil_of_length_eq_zero (by simpa using hl)
  subst this;refine wpList_append_own_none hgd s x t ho base e i size ht hi v n xs hs hown hx ?_;exact h v w (by simpa using hown) ⟨rfl,rfl,rfl,zrj _,fun _ _ _=>rfl⟩
 ·exact wpList_append_own w hgd s x t ho base e i z size bytes ht hi hz q1 q2 q3 q4 v n xs hs hown ⟨g,0,none⟩ m cap ys hx hl (hu0.cells (g:=g) rfl) h1 h63 hbytes hbase (fun v' w' h2 h3 _=>h v' w' h2 h3)
theorem zn1 (l:List Nat):∀ v∈Yj l,v.oneCell'=true:=by
 intro v hv;simp [Yj] at hv;obtain ⟨c,_,rfl⟩:=hv;rfl
theorem ziB (a b:List Nat):Yj (a++b)=Yj a++Yj b:=by unfold Yj;rw [List.map_append]
theorem Chg.own {w w1 w2:World} {v:Value} {e:TypeId} {size n:Nat} {xs:List Value} (h:Chg (fun _=>False) w w1) (ho:w1.ownsRow w.heap.size e size v n xs) (hc:Chg (fun x=>v.ownBlock=some x) w1 w2):Chg (fun _=>False) w w2:=
 ⟨hc.os.trans h.os,hc.tape.trans h.tape,hc.output.trans h.output,Nat.le_trans h.size hc.size,fun i hi _=>by
  rw [hc.block i (by have:=h.size;omega) (fun e=>by have:=(ho.lt i e).1;omega)];exact h.block i hi (fun e=>e)⟩
set_option maxHeartbeats 4000000 in
set_option maxRecDepth 100000 in
theorem zn6 (w:World) (base:Nat) (B:MB) (cs:List (Value × Value)) (L:List (List UInt8)) (s:ByteArray) (place:Nat) (h:Zf w base B cs (Zl L L.length) (Zi L L.length)) (hs:s.size<=400) (hp:place < zz s.data.toList) (hL:L.length<=410):
  Calls Tryz.prog 182 #[.pointer (some ⟨B.b,0,none⟩),.string s,.int .i64 (place:Int)] w fun e w'=>∃ v,e=.returned v∧w'.ownsRow w.heap.size 3 1 v (zbU L s.data.toList place).length (Yj (zbU L s.data.toList place))∧Chg (fun _=>False) w w':=by
 have hsl:=zA s;have LEN:=ze (fun w=>ZO w s (by unfold maxLen;omega));have AT:=ze (fun w k hk=>zi1 w s k (by unfold maxLen;omega) hk);have hn2:zz s.data.toList<=200:=by unfold zz;omega
 have TK:=ze (fun j hj=>ze5 s.data.toList (place:=place) (j:=j) hj);have AL:=ze (zoi s.data.toList place);have ALT:=ze (fun k=>yT s.data.toList k);have FIN:=ze (fun j hj hq=>zn5 L s.data.toList place j hj hq);have ACL:=ze (fun j hj=>zhJ L L.length ((zT s.data.toList).drop place) j hj);have HT:=ze (YA L L.length);have H:=ze h;have hpl:=XX L L.length;clear hs hsl h;generalize zbU L s.data.toList place=res at *;generalize (zT s.data.toList).drop place=A at *;generalize Zl L L.length=P at *;generalize Zi L L.length=wh at *;generalize zz s.data.toList=n at *;go_enter Tryz.func182,Tryz.ntmps182;go_wp2;go_loopw [7,8,9] (fun lv av iv wr=>∃ j:Nat,place+j<=n∧iv=.int .i64 ((place+j:Nat):Int)∧Hid (A.take j∈P)∧av=.int .i64 ((P.idxOf (A.take j):Nat):Int)∧wr.ownsRow w.heap.size 3 1 lv (zbf wh A j).length (Yj (zbf wh A j))∧Chg (fun _=>False) w wr) (fun _ _ iv _=>n - (intOf iv).toNat)
 case atStart=>
  refine ⟨0,by omega,rfl,ze (by rw [List.take_zero];exact HT.out.mem_nil),?_,World.ownsRow_nil _ _ _ _,Chg.refl _ _⟩;rw [List.take_zero]
  have e0:P.idxOf []=0:=by
   cases P with
   | nil=>rfl
   | cons a r=>have:=HT.out.root;simp at this;subst this;simp
  rw [e0];rfl
 case round=>
  obtain ⟨j,hj,rfl,PM,rfl,ho,hc⟩:=hrel;have HO:=ze ho;have HC:=ze hc;have acl:=ACL.out j (by rw [AL.out];omega);clear ho hc;by_cases hlt:place+j < n
  ·have hM:=H.out.chg HC.out
   have TK1:=ze (TK.out j hlt);have hak:=ALT.out (place+j);obtain ⟨i0,hi0⟩:∃ i0:Nat,place+j=i0:=⟨_,rfl⟩;rw [hi0] at hlt hak TK1 ⊢;have HI0:=ze hi0;generalize hav:zO s.data.toList i0=ak at *;have HP:=ze (zjy PM.out);obtain ⟨ix,hix⟩:∃ ix,P.idxOf (A.take j)=ix:=⟨_,rfl⟩;rw [hix] at HP ⊢;have hixl:ix < P.length:=by rw [<- hix];exact List.idxOf_lt_length_of_mem PM.out
   clear hix hi0;obtain ⟨c,hcc⟩:∃ c,cs[ix]? = some c:=⟨_,zq0 (by rw [hM.len];exact hixl)⟩;obtain ⟨mv,vv⟩:=c;have HCC:=ze hcc;have hcl:ix < cs.length:=by rw [hM.len];exact hixl
   have cb:wr.cell? ⟨B.b,0,none⟩=some (.slice (some ⟨B.g,0,none⟩) cs.length B.cap):=zf hM.hb rfl;have cm:wr.cell? ⟨B.g,ix*2,none⟩=some mv:=(hM.mcell hcc).1;have HM:=ze hM;have CLEN:=ze hM.len;clear hM hcc;have b1:(0:Int)<=(ix:Int):=by omega
   have b2:(ix:Int) < (cs.length:Int):=by omega
   go_wp2_with fail;refine (LEN.out wr).mono ?_;rintro e w' ⟨rfl,rfl⟩;go_wp2_with fail;refine zu (N:=50) [.rd [0,1,2,3,4,5,6,7,8,9],.ef 10,.ef 11,.rd [12,13,14,15,16]] (fun w'=>w'.cell? ⟨B.b,0,none⟩=some (.slice (some ⟨B.g,0,none⟩) cs.length B.cap)∧w'.cell? ⟨B.g,ix*2,none⟩=some mv) (by kernel_rfl) (by kernel_rfl) (by kernel_rfl) (by kernel_rfl) (Nat.le_of_ble_eq_true rfl) ⟨cb,cm⟩ ?_;refine zB (A:=?A1) ?h1 ?h2
   case h1=>
    intro w' hS K hK;obtain ⟨s1,s2⟩:=hS;simp only [zM,zqT,zqU,zqV,zqW,zqX]
    repeat still_step
    refine wpStill_nil ?_;exact hK
   clear cb cm;refine zI rfl ?_;go_wp2_with fail;refine (AT.out _ i0 hlt).mono ?_;rintro e w2 ⟨rfl,c2⟩;rw [hav];have M2:=ze (HM.out.chg ((zw (fun _=>False) wr).trans c2));have C2:=ze (HC.out.trans ((zw (fun _=>False) wr).trans c2));have O2:=ze (zn HO.out ((zw (fun _=>False) wr).trans c2) (fun _ _ e=>e));clear c2 HM HC HO hav;have cb:w2.cell? ⟨B.b,0,none⟩=some (.slice (some ⟨B.g,0,none⟩) cs.length B.cap):=zf M2.out.hb rfl;have cm:w2.cell? ⟨B.g,ix*2,none⟩=some mv:=(M2.out.mcell HCC.out).1;have EM:=ze (M2.out.em ix _ _ HP.out HCC.out);go_wp2_with fail
   first | refine ⟨⟨cb,cm⟩,?_⟩ | skip
   refine zI rfl ?_;refine zao rfl (.tmp 27) (.tmp 30) rfl base P.length mv (Yp P (A.take j)) rfl EM.out ak hak rfl ?_;intro c hc;by_cases hin:A.take j++[ak]∈P
   ·have he:Yp P (A.take j) ak=some (P.idxOf (A.take j++[ak])):=by unfold Yp;rw [if_pos hin]
    have hc':=hc _ he;subst hc';rw [he];clear hc he;go_wp2_with fail;refine ⟨⟨cb,cm⟩,?_⟩;refine zB (A:=?A2) ?h3 ?h4
    case h3=>
     intro w' hS K hK;clear hS;simp only [zM,zqT,zqU,zqV,zqW,zqX]
     repeat still_step
     refine wpStill_nil ?_;exact hK
    refine zR ?_;rw [<- TK1.out];have hin':=hin;rw [<- TK1.out] at hin';have PM2:=ze hin';clear hin hin' cb cm EM HCC HP hcl b1 b2;have HP:=ze (zjy PM2.out);obtain ⟨ix2,hix⟩:∃ ix2,P.idxOf (A.take (j+1))=ix2:=⟨_,rfl⟩;rw [hix] at HP ⊢;have hixl:ix2 < P.length:=by rw [<- hix];exact List.idxOf_lt_length_of_mem PM2.out
    have HIX:=ze hix;clear hix;obtain ⟨c,hcc⟩:∃ c,cs[ix2]? = some c:=⟨_,zq0 (by rw [CLEN.out];exact hixl)⟩;obtain ⟨mv2,vv2⟩:=c;have hcl:ix2 < cs.length:=by rw [CLEN.out];exact hixl
    have cb:w2.cell? ⟨B.b,0,none⟩=some (.slice (some ⟨B.g,0,none⟩) cs.length B.cap):=zf M2.out.hb rfl;have cw:w2.cell? ⟨B.g,ix2*2+1,none⟩=some vv2:=(M2.out.mcell hcc).2;have EW:=ze (M2.out.ew ix2 _ _ HP.out hcc);have AC1:=ze (show zbf wh A (j+1)=zbf wh A j++wh (A.take (j+1)) from rfl);have acl2:=ACL.out (j+1) (by rw [AL.out];have:=HI0.out;omega);rw [AC1.out,zq3] at acl2;have hsz:=C2.out.size;clear hcc;go_wp2_with (at_builtin;refine zbJ rfl (.tmp 37) (.tmp 45) 36 rfl 3 1 8 Tryz.underlying36 Tryz.elemInt w.heap.size _ _ _ rfl O2.out base _ _ _ rfl EW.out (zn1 _) ?c1 ?c2 ?c3 ?next)
    case c1=>omega
    case c2=>unfold maxLen;omega
    case next=>
     intro v5 w5 o5 g5;have C5:=ze (C2.out.own O2.out (Chg.of_grown g5));rw [<- ziB,<- AC1.out,<- zq3,<- AC1.out] at o5;have O5:=ze o5;clear o5 g5;go_wp2;go_roundw
     case rel=>exact ⟨j+1,by have:=HI0.out;omega,by rw [show place+(j+1)=i0+1 from by have:=HI0.out;omega];go_num,PM2,by rw [HIX.out],O5.out,C5.out⟩
     case measure=>simp [intOf];omega
   ·have he:Yp P (A.take j) ak=none:=by unfold Yp;rw [if_neg hin]
    rw [he];clear hc he;have FN:=ze (FIN.out j (by rw [AL.out];omega) (.inr (by rw [TK1.out];exact hin)));have LR:=ze (show (zbf wh A j).length=res.length by rw [<- FN.out,zas]);go_wp2_with fail;refine ⟨⟨cb,cm⟩,?_⟩;refine zB (A:=?A5) ?h5 ?h6
    case h5=>
     intro w' hS K hK;clear hS;simp only [zM,zqT,zqU,zqV,zqW,zqX]
     repeat still_step
     refine wpStill_nil ?_;exact hK
    refine zR ?_;have SORT:=ze (zjb w2 w.heap.size _ _ O2.out (by omega));go_wp2_with fail;refine (SORT.out).mono ?_;rintro e w9 ⟨rfl,o9,c9⟩;have C9:=ze (C2.out.own O2.out c9);rw [FN.out] at o9;have O9:=ze o9;clear o9 c9;go_wp2;go_ret;exact ⟨_,rfl,by rw [<- LR.out];exact O9.out,C9.out⟩
  ·have FN:=ze (FIN.out j (by rw [AL.out];omega) (.inl (by rw [AL.out];omega)))
   have LR:=ze (show (zbf wh A j).length=res.length by rw [<- FN.out,zas]);obtain ⟨i0,hi0⟩:∃ i0:Nat,place+j=i0:=⟨_,rfl⟩;rw [hi0] at hlt ⊢;clear hi0;have hd:decide (i0 < n)=false:=by rw [decide_eq_false_iff_not];exact hlt
   have SORT:=ze (zjb wr w.heap.size _ _ HO.out (by omega));go_wp2_with fail;refine (LEN.out wr).mono ?_;rintro e w' ⟨rfl,rfl⟩;go_wp2_with fail;refine (SORT.out).mono ?_;rintro e w9 ⟨rfl,o9,c9⟩;have C9:=ze (HC.out.own HO.out c9);rw [FN.out] at o9;have O9:=ze o9;clear o9 c9;go_wp2;go_ret;exact ⟨_,rfl,by rw [<- LR.out];exact O9.out,C9.out⟩
def yq (l:List (Nat × Nat)):List Value:=l.flatMap fun h=>[.int .i64 (h.1:Int),.int .i64 (h.2:Int)]
theorem zaB (a b:List (Nat × Nat)):yq (a++b)=yq a++yq b:=by unfold yq;rw [List.flatMap_append]
theorem Tryz.elemHit:Zt Tryz.prog 248 2 16:=Zj (z:=.agg #[.int .i64 0,.int .i64 0]) (by kernel_rfl) rfl (by decide)
theorem zb0 {w:World} {base:Nat} {e:TypeId} {size n:Nat} {xs:List Value} {v v' u:Value} (h:zgD v u) (hs:Ya w v v') (hu:w.ownsRow base e size u n xs):zgD v' u:=by
 intro x hx hu';rcases hs with hs | hs
 ·rw [hs] at hx;exact h x hx hu'
 ·have:=hs x hx;have:=(hu.lt x hu').2;omega
theorem zgb {w w':World} {base:Nat} {e:TypeId} {size n:Nat} {xs:List Value} {v u:Value} (h:w.ownsRow base e size u n xs) (hg:w.grownBy w' v.ownBlock) (ha:zgD v u):w'.ownsRow base e size u n xs:=
 zn h (Chg.of_grown hg) (fun k hk e=>ha k e hk)
theorem zch {w:World} {base:Nat} {v:Value} {l:List Nat} (h:w.ownsRow base 3 1 v l.length (Yj l)):∃ a cap,v=.slice a l.length cap∧l.length<=maxLen∧∀ j (x:Nat),l[j]? = some x->∃ g,a=some ⟨g,0,none⟩∧base<=g∧w.cell? ⟨g,j,none⟩=some (.int .i64 (x:Int)):=by
 have h0:=h;obtain ⟨h1,⟨rfl,h2⟩ | ⟨g,cap,cur,rfl,hg,hh,q1,q2,q3,q4⟩⟩:=h
 ·refine ⟨none,0,by rw [h2],by rw [h2];unfold maxLen;omega,fun j x hj=>?_⟩
  have:j < l.length:=(zq1.1 hj).1;omega
 ·refine ⟨_,cap,rfl,by omega,fun j x hj=>⟨g,rfl,hg,?_⟩⟩
  have hj':j < l.length:=(zq1.1 hj).1;have:=h0.cellAt (j:=j) (by omega);rw [this];unfold Yj;rw [zrb,hj];rfl
theorem zaz (l:List (List UInt8)) (w:List UInt8):∀ n,(xG l w n).length<=n*l.length
 | 0=>by simp [xG]
 | n+1=>by
  rw [zbT,zq3,zq4,Nat.add_mul];have:=zaz l w n;have:=zdj l w n;omega
set_option maxHeartbeats 2000000 in
theorem zpQ (w:World) (base:Nat) (B:MB) (cs:List (Value × Value)) (L:List (List UInt8)) (s:ByteArray) (h:Zf w base B cs (Zl L L.length) (Zi L L.length)) (hs:s.size<=400) (hL:L.length<=410):
  Calls Tryz.prog 170 #[.pointer (some ⟨B.b,0,none⟩),.string s] w fun e w'=>∃ v,e=.returned v∧w'.ownsRow w.heap.size 248 2 v (zhl L s.data.toList).length (yq (zhl L s.data.toList))∧Chg (fun _=>False) w w':=by
 have hsl:=zA s;have LEN:=ze (ZO w s (by unfold maxLen;omega));have hn2:zz s.data.toList<=200:=by unfold zz;omega
 have HERE:=ze (fun w1 (h1:Zf w1 base B cs (Zl L L.length) (Zi L L.length)) place hp=>zn6 w1 base B cs L s place h1 hs hp hL);have HS:=ze (fun k=>zbT L s.data.toList k);have HLN:=ze (fun k=>zaz L s.data.toList k);have HHL:=ze (fun k=>zdj L s.data.toList k);have H:=ze h;clear hs hsl h;unfold zhl;generalize zz s.data.toList=n at *;go_enter Tryz.func170,Tryz.ntmps170;go_wp2_with fail;refine (LEN.out).mono ?_;rintro e w' ⟨rfl,rfl⟩;go_wp2;go_loopw [5,11] (fun lv iv wr=>∃ k:Nat,k<=n∧iv=.int .i64 k∧wr.ownsRow w.heap.size 248 2 lv (xG L s.data.toList k).length (yq (xG L s.data.toList k))∧Chg (fun _=>False) w wr) (fun _ iv _=>n - (intOf iv).toNat)
 case atStart=>exact ⟨0,by omega,rfl,World.ownsRow_nil _ _ _ _,Chg.refl _ _⟩
 case round=>
  obtain ⟨k,hk,rfl,ho,hc⟩:=hrel;have HO:=ze ho;have HC:=ze hc;clear ho hc;by_cases hlt:k < n
  ·have hS:=HS.out k
   have hln:=HLN.out k;have hhl:=HHL.out k;have HE1:=ze (HERE.out wr (H.out.chg HC.out) k hlt);have HSK:=ze hS;clear hS;generalize zbU L s.data.toList k=R at *;generalize xG L s.data.toList k=T at *;have hT:T.length<=82000:=Nat.le_trans hln (Nat.le_trans (Nat.mul_le_mul (by omega:k<=200) hL) (by omega));go_wp2_with fail;refine (HE1.out).mono ?_;rintro e w1 ⟨v1,rfl,o1,c1⟩;have O1:=ze o1;have C1:=ze (HC.out.trans c1);have OL:=ze (zn HO.out c1 (fun _ _ e=>e));have hap:zgD u5 v1:=fun x hx hu=>by have:=(HO.out.lt x hx).2;have:=(o1.lt x hu).1;omega
   have HAP:=ze hap;have hw1:w.heap.size<=w1.heap.size:=C1.out.size;obtain ⟨ra,rc,rfl,hrl,_⟩:=zch o1;clear o1 c1 hap HO HC HE1;unfold maxLen at hrl;go_wp2;go_loopw [5,19] (fun lv iv wq=>∃ m:Nat,m<=R.length∧iv=.int .i64 m∧wq.ownsRow w.heap.size 248 2 lv (T++(R.take m).map fun i=>(k,i)).length (yq (T++(R.take m).map fun i=>(k,i)))∧wq.ownsRow wr.heap.size 3 1 (.slice ra R.length rc) R.length (Yj R)∧zgD lv (.slice ra R.length rc)∧Chg (fun _=>False) w wq) (fun _ iv _=>R.length - (intOf iv).toNat)
   case atStart=>exact ⟨0,by omega,rfl,by simpa using OL.out,O1.out,HAP.out,C1.out⟩
   case round=>
    obtain ⟨m,hm,rfl,ho,hr,ha,hc⟩:=hrel;have HO:=ze ho;have HR:=ze hr;have HA:=ze ha;have HC:=ze hc;clear O1 OL HAP C1;by_cases hlt2:m < R.length
    ·obtain ⟨x,hx⟩:∃ x,R[m]? = some x:=⟨_,zq0 hlt2⟩
     obtain ⟨ra',rc',he,_,hcl⟩:=zch hr;cases he;obtain ⟨g,rfl,hg,cx⟩:=hcl m x hx;have hlen:(T++(R.take m).map fun i=>(k,i)).length<=82410:=by rw [zq3,zq4,zq5];omega
     have TS:=ze (show yq (T++(R.take (m+1)).map fun i=>(k,i))=yq (T++(R.take m).map fun i=>(k,i))++[.int .i64 (k:Int),.int .i64 (x:Int)] by
      have e:R.take (m+1)=R.take m++[x]:=by
       rw [List.take_succ_eq_append_getElem hlt2];rw [zq0 hlt2] at hx;rw [Option.some.inj hx]
      rw [e,List.map_append,<- List.append_assoc,zaB];rfl)
     have TL:=ze (show (T++(R.take (m+1)).map fun i=>(k,i)).length=(T++(R.take m).map fun i=>(k,i)).length+1 by
      simp only [zq3,zq4,zq5];omega)
     generalize (T++(R.take m).map fun i=>(k,i))=T1 at *;have hcs:=hc.size;clear ho hr ha hc hcl hx;go_wp2_with (at_builtin;refine Zq rfl (.tmp 23) (.tmp 27) 245 rfl 248 2 16 Tryz.underlying245 Tryz.elemHit w.heap.size _ _ _ rfl (HO.out.alloc _) _ [.int .i64 (k:Int),.int .i64 (x:Int)] 248 (0,0) rfl (zh _ _) rfl ?c1 ?c2 ?c3 ?c4 ?next)
     case c1=>intro u hu;simp at hu;rcases hu with rfl | rfl <;> rfl
     case c2=>omega
     case c3=>unfold maxLen;omega
     case c4=>simp;omega
     case next=>
      intro v' w5 o5 g5 s5;have C5:=ze ((HC.out.alloc (.cells #[.int .i64 (k:Int),.int .i64 (x:Int)] 248)).own (HO.out.alloc _) (Chg.of_grown g5));have R5:=ze (zgb (HR.out.alloc (.cells #[.int .i64 (k:Int),.int .i64 (x:Int)] 248)) g5 HA.out);have A5:=ze (zb0 HA.out s5 (HR.out.alloc _));rw [<- TS.out,<- TL.out] at o5;have O5:=ze o5;clear o5 g5 s5;go_wp2;go_roundw
      case rel=>exact ⟨m+1,by omega,by go_num,O5.out,R5.out,A5.out,C5.out⟩
      case measure=>simp [intOf];omega
    ·obtain rfl:m=R.length:=by omega
     rw [zrk,<- HSK.out] at HO;have hdm:decide (R.length < R.length)=false:=by simp
     clear ho hr ha hc hlt2;go_wp2;go_roundw
     case rel=>exact ⟨k+1,by omega,by go_num,HO.out,HC.out⟩
     case measure=>simp [intOf];omega
  ·obtain rfl:k=n:=by omega
   go_wp2;go_ret;exact ⟨_,rfl,HO.out,HC.out⟩
end Go.Proofs.YthdfplafihmejaaGreat
