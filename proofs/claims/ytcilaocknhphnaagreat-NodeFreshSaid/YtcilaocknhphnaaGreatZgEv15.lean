/-
  
-/
import Derived.Laws.Append
import Derived.RangeFuncLeaves
import Derived.RangeFuncRecord
import Derived.RangeFuncCalls
import Derived.TacticsIn
import Derived.Test.YtcilaocknhphnaaGreatZgEv9
namespace Go.Proofs.YtcilaocknhphnaaGreat.Ev
section
variable {P : Program} {φ : Phi} {h : H} {w w' : World}
theorem ok_range {o:Oper} {t:TypeId} {x:Operand} (ho:o.op=.range t x):∀ f,oRange P t (opd x)=.ge f->GeOk P o f:=fun f hf=>by
 unfold oRange at hf;cases hm:isMapD (ti P t).desc with
 | false=>rw [hm] at hf;cases hf
 | true=>
  rw [hm] at hf;cases hf;obtain ⟨kt,et,hd⟩:∃ k e,(ti P t).desc=.map k e:=by cases hd:(ti P t).desc <;> rw [hd] at hm <;> first | exact ⟨_,_,rfl⟩ | cases hm
  have hu:=und_of hd (by simp);intro call φ tm ρ h w K he hr hk;have hx:=he x (by rw [ho];simp [Op.operands]);have hk:(rangeA h ((opd x).run tm)).all K:=hk;generalize hX:(opd x).run tm=X at hx hk;cases X <;> first | exact False.elim hk | skip
  rename_i b;obtain ⟨h1,hk⟩:=iteB_all (show (iteB (Nat.blt b h.lo) (ob V2.no (h.map b) fun es=>.one (.it h.n) (h.add (.iter b es []))) .no).all K from hk);obtain ⟨es,h2,hk⟩:=ob_all hk;have h1:b < h.lo:=by simpa [Nat.blt_eq] using h1
  obtain ⟨p,hp,ex⟩:=relT_map hx;obtain ⟨ces,clk,hobj,hrel,hborn,hnd⟩:=map_some hr.rl hp h2;have hg:(getObj p.b).run P w=.ok (.map ces clk) w:=by simp [getObj,Sem.run,hobj]
  have hlt:=hr.inw b p hp;have hn:(w.alloc (.mapIter (some p.b) clk #[] clk)).heap[w.heap.size]? = some (.mapIter (some p.b) clk #[] clk):=by show (w.heap.push _)[w.heap.size]? = _;simp
  have ho':(w.alloc (.mapIter (some p.b) clk #[] clk)).heap[p.b]? = some (.map ces clk):=by
   show (w.heap.push _)[p.b]? = _;rw [Array.getElem?_push,if_neg (by omega)];exact hobj
  have hext:Ext φ (φ.add h.n ⟨w.heap.size,0,0⟩):=Phi.add_ext hr.fresh
  obtain ⟨g1,g2⟩:=hr.grow (g:=.mapIter (some p.b) clk #[] clk) (w':=w.alloc (.mapIter (some p.b) clk #[] clk)) rfl ⟨rfl,rfl,rfl⟩ (p:=⟨w.heap.size,0,0⟩) rfl (x:=.iter b es [])
   (.iter h1 (hext _ _ hp) ho' hn (by
    have:unseen ces #[]=ces.toList:=by unfold unseen;simp
    rw [this];exact hrel.imp fun _ _ q=>q.ext hext) (fun e he=>by simp at he) hborn hnd)
  exact ⟨.it h.n,_,_,_,_,.pointer (some ⟨w.heap.size,0,none⟩),hk,by simp [execOp,ho,Instr.range,run_underlying hu,ex,hg],.inl rfl,RelB.toT (RelB.it (p:=⟨w.heap.size,0,0⟩) (Phi.add_at _ _ _)),g1,g2⟩
theorem altL_all {α:Type} {f:α->V2} {K:AV->H->Prop}:∀ {l:List α},(altL f l).all K->∀ x∈l,(f x).all K
 | [],h,_,_=>h.elim
 | [x],h,y,hy=>by simp at hy;subst hy;exact h
 | x :: y :: l,h,z,hz=>by
  rcases List.mem_cons.1 hz with rfl | hz
  ·exact h.1
  ·exact altL_all (l:=y :: l) h.2 z hz
theorem picks_get {α:Type}:∀ (l:List α) (i:Nat) (x:α),l[i]? = some x->(x,l.eraseIdx i)∈picks l
 | [],_,_,h=>by simp at h
 | y :: l,0,x,h=>by simp at h;subst h;exact List.mem_cons_self
 | y :: l,i+1,x,h=>by
  refine List.mem_cons_of_mem _ ?_;rw [mapL_eq];exact List.mem_map.2 ⟨_,picks_get l i x (by simpa using h),rfl⟩
theorem filter_erase:∀ (l:List MapEntry) (i:Nat) (c:MapEntry),(l.map (·.born)).Nodup->l[i]? = some c->l.filter (fun e=>!(e.born == c.born))=l.eraseIdx i
 | [],_,_,_,h=>by simp at h
 | d :: l,0,c,hn,h=>by
  simp at h;subst h;rw [List.map_cons,List.nodup_cons] at hn;simp only [List.filter_cons,beq_self_eq_true,Bool.not_true,Bool.false_eq_true,if_false,List.eraseIdx_cons_zero];rw [List.filter_eq_self];intro a ha;simp only [Bool.not_eq_true',beq_eq_false_iff_ne];intro e;exact hn.1 (by rw [<- e];exact List.mem_map.2 ⟨a,ha,rfl⟩)
 | d :: l,i+1,c,hn,h=>by
  rw [List.map_cons,List.nodup_cons] at hn;have h:l[i]? = some c:=by simpa using h
  have hne:(d.born == c.born)=false:=by
   rw [beq_eq_false_iff_ne];intro e;exact hn.1 (by rw [e];exact List.mem_map.2 ⟨c,List.mem_of_getElem? h,rfl⟩)
  simp only [List.filter_cons,hne,Bool.not_false,if_true,List.eraseIdx_cons_succ];rw [filter_erase l i c hn.2 h]
theorem unseen_push {ces:Array MapEntry} {seen:Array Nat} {i:Nat} {c:MapEntry} (hn:(ces.toList.map (·.born)).Nodup) (h:(unseen ces seen)[i]? = some c):unseen ces (seen.push c.born)=(unseen ces seen).eraseIdx i:=by
 have hn':((unseen ces seen).map (·.born)).Nodup:=by
  unfold unseen;exact List.Nodup.sublist (List.filter_sublist.map _) hn
 rw [<- filter_erase _ i c hn' h];unfold unseen;rw [List.filter_filter]
 congr 1
 funext e
 simp only [Array.contains_push];cases seen.contains e.born <;> cases e.born == c.born <;> rfl
theorem run_pick (P:Program) (w:World) {n:Nat} (h:0 < n):∃ j w1,j < n∧(choose (.mapNext n)).run P w=.ok j w1∧w1.heap=w.heap∧Even w w1:=by
 by_cases h1:n<=1
 ·exact ⟨0,w,h,by simp [Question.forced,h1],rfl,⟨rfl,rfl,rfl⟩⟩
 ·exact ⟨w.tape w.drawn (.mapNext n) % n,w.drew,Nat.mod_lt _ h,by simp [Question.forced,h1,Question.cut],rfl,⟨rfl,rfl,rfl⟩⟩
theorem run_next {r m:Nat} {ces:Array MapEntry} {clk:Nat} {seen:Array Nat} (ty:TypeId) (hm:w.heap[m]? = some (.map ces clk)) (hi:w.heap[r]? = some (.mapIter (some m) clk seen clk)) (hb:∀ c∈ces.toList,c.born < clk):
  (unseen ces seen=[]∧(Instr.next (.pointer (some ⟨r,0,none⟩)) false ty).run P w=.ok (.tuple #[.bool false]) w) ∨
  ∃ (j:Nat) (c:MapEntry) (w1:World),(unseen ces seen)[j]? = some c∧w1.heap=w.heap∧Even w w1 ∧
   (Instr.next (.pointer (some ⟨r,0,none⟩)) false ty).run P w=.ok (.tuple #[.bool true,c.key,c.val]) { w1 with heap:=w1.heap.setIfInBounds r (.mapIter (some m) clk (seen.push c.born) clk) }:=by
 have g1:(getObj m).run P w=.ok (.map ces clk) w:=by simp [getObj,Sem.run,hm]
 have g2:(getObj r).run P w=.ok (.mapIter (some m) clk seen clk) w:=by simp [getObj,Sem.run,hi]
 have hall:(!seen.isEmpty && !ces.isEmpty && ces.all (fun e=>decide (e.born >= clk)))=false:=by
  cases hc:ces.toList with
  | nil=>
   have:ces=#[]:=by rw [<- Array.toList_inj];exact hc
   subst this;simp
  | cons c l=>
   have:ces.all (fun e=>decide (e.born >= clk))=false:=by
    rw [<- Array.all_toList,hc];have:=hb c (by rw [hc];simp);simp only [List.all_cons];rw [decide_eq_false (by omega)];rfl
   rw [this];simp
 generalize hL:ces.filter (fun e=>!seen.contains e.born)=L;have hLl:L.toList=unseen ces seen:=by rw [<- hL];unfold unseen;simp
 have hborn:∀ c∈L.toList,c.born < clk:=fun c hc=>by
  rw [hLl] at hc;exact hb c (List.mem_filter.1 hc).1
 have hold:L.filter (fun e=>decide (e.born < clk))=L:=by
  rw [<- Array.toList_inj,Array.toList_filter,List.filter_eq_self];intro a ha;simpa using hborn a ha
 have hnew:L.filter (fun e=>decide (e.born >= clk))=#[]:=by
  rw [<- Array.toList_inj,Array.toList_filter,List.filter_eq_nil_iff];intro a ha;have:=hborn a ha;simp;omega
 by_cases h0:L=#[]
 ·refine .inl ⟨by rw [<- hLl,h0],?_⟩
  simp only [Instr.next,Sem.run_bind,g2,Result.andThen_ok,g1,hall,Bool.false_eq_true,if_false,hL,hold,hnew,h0];simp [Question.forced]
 ·have hpos:0 < L.size:=Array.size_pos_iff.2 h0
  obtain ⟨j,w1,hj,hc,hw,hev⟩:=run_pick P w hpos;refine .inr ⟨j,L[j],w1,by rw [<- hLl];simp [hj],hw,hev,?_⟩;have hemp:L.isEmpty=false:=by simpa using h0
  have hst:(setObj r (.mapIter (some m) clk (seen.push L[j].born) clk)).run P w1=.ok () { w1 with heap:=w1.heap.setIfInBounds r (.mapIter (some m) clk (seen.push L[j].born) clk) }:=run_setObj (by rw [hw];exact hi) (by simp);simp only [Instr.next,Sem.run_bind,g2,Result.andThen_ok,g1,hall,Bool.false_eq_true,if_false,hL,hold,hnew,hemp,Array.append_empty,Array.empty_append,Array.size_map,hc,Array.getElem?_map,Array.getElem?_eq_getElem hj,Option.map_some,hst,Sem.run_pure]
theorem ok_next {o:Oper} {i:Operand} (ho:o.op=.next i false):∀ f,oNext (opd i) false=.ge f->GeOk P o f:=fun f hf=>by
 cases hf;intro call φ tm ρ h w K he hr hk;have hx:=he i (by rw [ho];simp [Op.operands]);obtain ⟨b,e1,hk⟩:=ob_all hk;rw [isIt_some e1] at hx;obtain ⟨p,hp,ex⟩:=relT_it hx;have hk:(nextA h b (h.blk b)).all K:=hk;cases hb:h.blk b <;> rw [hb] at hk <;> first | exact False.elim hk | skip
 rename_i m left cur;obtain ⟨pm,ces,clk,seen,hm,hpm,hobj,hit,hrel,hcur,hborn,hnd⟩:=iter_some hr.rl hp hb;rcases run_next (P:=P) o.type hobj hit hborn with ⟨h0,hrun⟩ | ⟨j,c,w1,hj,hw,hev,hrun⟩
 ·rw [h0] at hrel
  cases hrel;exact ⟨.tup [.bool false],h,φ,w,_,_,hk,by simp only [execOp,ho,ex,Sem.run_bind,hrun,Result.andThen_ok,Sem.run_pure],.inl rfl,.tup (.cons (.val (.cell (.base (.bool false)))) .nil),hr,Stp.refl _ _ _⟩
 ·cases left with
  | nil=>cases hq:unseen ces seen with
   | nil=>rw [hq] at hj;simp at hj
   | cons _ _=>rw [hq] at hrel;cases hrel
  | cons e t=>
   have hlen:=hrel.length;have hjl:j < (e :: t).length:=by rw [hlen];exact (List.getElem?_eq_some_iff.1 hj).1
   have hje:(e :: t)[j]? = some (e :: t)[j]:=List.getElem?_eq_getElem hjl;generalize hx:(e :: t)[j]=x at hje;obtain ⟨c',hc',hxc⟩:=hrel.get hje;rw [hj] at hc';cases hc';have hk:=altL_all hk _ (picks_get _ _ _ hje);obtain ⟨h',hput,hk⟩:=ob_all hk;have hmem:c∈ces.toList:=(List.mem_filter.1 (show c∈ces.toList.filter _ from List.mem_of_getElem? hj)).1;have hmb:pm.b≠p.b:=hr.low _ _ _ _ hm (H.put_some hput).1 hpm hp (by rw [hb];rfl);generalize hW:({ w1 with heap:=w1.heap.setIfInBounds p.b (.mapIter (some pm.b) clk (seen.push c.born) clk) }:World)=W at hrun;have hWh:W.heap=w.heap.setIfInBounds p.b (.mapIter (some pm.b) clk (seen.push c.born) clk):=by rw [<- hW,<- hw]
   obtain ⟨g1,g2⟩:=hr.write (w':=W) hp (by rw [hb];rfl) hput (by rw [hWh];simp) (by rw [<- hW];exact ⟨hev.os,hev.tape,hev.output⟩) (fun k hk=>by rw [hWh];exact set_other hk)
    (.iter hm hpm (by rw [hWh,set_other hmb];exact hobj) (by rw [hWh];exact set_at hit) (by rw [unseen_push hnd hj];exact hrel.erase j)
     (fun y hy=>by simp at hy;subst hy;exact ⟨c,by simp,hmem,hxc⟩) hborn hnd)
   exact ⟨_,h',φ,W,_,_,hk,by simp only [execOp,ho,ex,Sem.run_bind,hrun,Result.andThen_ok,Sem.run_pure],.inl rfl,.tup (.cons (.val (.cell (.base (.bool true)))) (.cons (.val hxc.key) (.cons (.val hxc.val) .nil))),g1,g2⟩
end
end Go.Proofs.YtcilaocknhphnaaGreat.Ev
namespace Go.Proofs.YtcilaocknhphnaaGreat.Ev
section
variable {P : Program} {φ : Phi} {h : H} {w w' : World}
theorem takeA_of {α:Type}:∀ {n:Nat} {l:List α},n<=l.length->takeA n l=some (l.take n)
 | 0,l,_=>by cases l <;> rfl
 | n+1,[],h=>by simp at h
 | n+1,x :: l,h=>by
  show ob none (takeA n l) (fun r=>some (x :: r))=_;rw [takeA_of (by simpa using h)];rfl
theorem lenOf_ok {x:AV} {v:Value} {sz:Nat} {new:List AV} (hx:RelT φ x v) (hc:cellsSl h sz x=some new) (w:World):(Builtin.lenOf v).run P w=.ok (lenV x) w:=by
 cases x <;> first | (cases hc;done) | skip
 ·obtain ⟨s,rfl,rfl⟩:=relT_str hx
  simp [Builtin.lenOf,lenV,lenL_eq,codes_length]
 ·cases relT_nils hx;simp [Builtin.lenOf,lenV]
 ·obtain ⟨p,off,C,hp,rfl,_⟩:=relT_sl hx;simp [Builtin.lenOf,lenV]
theorem first_ok (r:Rel φ h w) {sz k:Nat} {x:AV} {v:Value} {new l:List AV} (hx:RelT φ x v) (hc:cellsSl h sz x=some new) (hk:k<=lenV x) (hl:takeA (k*sz) new=some l):
  ∃ C:Array Value,(Builtin.firstCells sz k v).run P w=.ok C w∧L2 (RelS φ) l C.toList:=by
 obtain ⟨l1,l2⟩:=takeA_some _ _ _ hl;cases x <;> first | (cases hc;done) | skip
 ·rename_i s
  obtain ⟨hsz,hc⟩:=iteB_some (show iteB (Nat.beq sz 1) (some (mapL (fun b=>AV.int .u8 (.ofNat b)) s)) none=some new from hc);cases hc;have hsz:=Nat.eq_of_beq_eq_true hsz;subst hsz;obtain ⟨u,rfl,rfl⟩:=relT_str hx;refine ⟨(u.extract 0 k).data.map fun b=>Value.int .u8 b.toNat,by simp only [Builtin.firstCells,Sem.run_pure],?_⟩
  have e1:((u.extract 0 k).data.map fun b=>Value.int .u8 b.toNat).toList=(codes (u.extract 0 k)).map fun n:Nat=>Value.int .u8 (n:Int):=by
   unfold codes;simp;rfl
  rw [e1,<- codes_slice,l1,mapL_eq,<- List.map_take];simp only [List.drop_zero,Nat.sub_zero,Nat.mul_one];refine L2.of_get (by simp) fun i a b ha hb=>?_;rw [List.getElem?_map] at ha hb;cases e:((codes u).take k)[i]? with
  | none=>rw [e] at ha;cases ha
  | some n=>rw [e] at ha hb;cases ha;cases hb;exact .base (.int _ _)
 ·cases hc
  cases relT_nils hx;exact ⟨#[],by simp [Builtin.firstCells],by simp [l1];exact .nil⟩
 ·rename_i b o n c q
  obtain ⟨rs,hr,hc⟩:=ob_none_eq (show ob none (h.row b) (fun r=>takeA (Nat.mul n sz) (dropA o r))=some new from hc);obtain ⟨n1,n2⟩:=takeA_some _ _ _ hc;obtain ⟨p,off,C,hp,rfl,hoff,hnc,hcC,_,_⟩:=relT_sl hx;have hk:k<=n:=hk;by_cases hz:C=0
  ·have:k=0:=by omega
   subst this;refine ⟨#[],by simp [Builtin.firstCells,loadCells,loadCellsFrom],?_⟩;rw [l1];simp;exact .nil
  ·have hoff:=hoff.resolve_right hz
   subst hoff;obtain ⟨D,T,ra⟩:=row_some r.rl hp hr;have hle:k*sz<=n*sz:=Nat.mul_le_mul_right _ hk;have n2:n*sz<=(dropA o rs).length:=n2
   have ht:takeA (k*sz) (dropA o rs)=some l:=by
    rw [takeA_of (by omega),l1,n1,List.take_take]
    congr 2
    show k*sz=min (k*sz) (n*sz);omega
   obtain ⟨vs,h1,h2,h3⟩:=ra.cells (P:=P) ht;exact ⟨vs.toArray,by simp [Builtin.firstCells,h3],h2⟩
theorem cellsSl_len {x:AV} {sz:Nat} {new:List AV} (hc:cellsSl h sz x=some new):new.length=lenV x*sz:=by
 cases x <;> first | (cases hc;done) | skip
 ·rename_i s
  obtain ⟨hsz,hc⟩:=iteB_some (show iteB (Nat.beq sz 1) (some (mapL (fun b=>AV.int .u8 (.ofNat b)) s)) none=some new from hc);cases hc;have hsz:=Nat.eq_of_beq_eq_true hsz;subst hsz;rw [mapL_eq];simp [lenV,lenL_eq]
 ·cases hc;simp [lenV]
 ·rename_i b o n c q
  obtain ⟨rs,hr,hc⟩:=ob_none_eq (show ob none (h.row b) (fun r=>takeA (Nat.mul n sz) (dropA o r))=some new from hc);obtain ⟨n1,n2⟩:=takeA_some _ _ _ hc;rw [n1,List.length_take];show min (n*sz) _=n*sz;have n2:n*sz<=(dropA o rs).length:=n2;omega
theorem whole_ok (r:Rel φ h w) {sz:Nat} {x:AV} {v:Value} {new:List AV} (hx:RelT φ x v) (hc:cellsSl h sz x=some new):
  ∃ C:Array Value,(Builtin.firstCells sz (lenV x) v).run P w=.ok C w∧L2 (RelS φ) new C.toList:=
 first_ok r hx hc (Nat.le_refl _) (by rw [takeA_of (by rw [cellsSl_len hc];exact Nat.le_refl _),<- cellsSl_len hc,List.take_length])
theorem Rel.move (r:Rel φ h w) {b:Nat} {p p':Pl} (hp:φ b=some p) (hb:p'.b=p.b) (ha:(h.blk b).alive=true) {x:Blk} {h1:H} (hh:h.put b .gone=some h1)
  (hsz:w'.heap.size=w.heap.size) (v:Even w w') (ho:∀ k,k≠p.b->w'.heap[k]? = w.heap[k]?) (hx:BlkOk (φ.add h.n p') h.lo w' p' x):
  Rel (φ.add h.n p') (h1.add x) w'∧Stp φ h w (φ.add h.n p') (h1.add x) w':=by
 obtain ⟨hlo,hblk,hn,hl⟩:=H.put_some hh;have hbn:=r.dom b p hp;have hext:Ext φ (φ.add h.n p'):=Phi.add_ext r.fresh;have hB:∀ c,(h1.add x).blk c=if c=h.n then x else if c=b then .gone else h.blk c:=fun c=>by rw [H.add_blk,hn,hblk]
 have hcase:∀ c q,φ.add h.n p' c=some q->(c=h.n∧q=p')∨(c≠h.n∧φ c=some q):=fun c q hq=>by
  by_cases hc:c=h.n
  ·subst hc;rw [Phi.add_at] at hq;cases hq;exact .inl ⟨rfl,rfl⟩
  ·rw [Phi.add_of hc] at hq;exact .inr ⟨hc,hq⟩
 have hal:∀ c,c≠h.n->((h1.add x).blk c).alive=true->c≠b∧(h.blk c).alive=true:=fun c hc hq=>by
  rw [hB,if_neg hc] at hq;by_cases e:c=b
  ·rw [if_pos e] at hq;cases hq
  ·rw [if_neg e] at hq;exact ⟨e,hq⟩
 refine ⟨⟨fun c q hq=>?_,fun c d q s hq hs ac ad hcd=>?_,fun c d q s hc hd hq hs ad=>?_,fun c q hq=>?_,fun c q hq=>?_,fun c hc=>?_,by rw [H.add_lo,H.add_n,hl,hn];exact Nat.le_succ_of_le r.le⟩,
  ⟨hext,by rw [H.add_n,hn];exact Nat.le_succ _,hl,fun c hc=>?_,fun c hc hq=>?_,⟨v.os,v.tape,v.output,by omega,fun k hk hw=>ho k ?_⟩,fun c q hq=>?_⟩⟩
 ·rw [hB,H.add_lo,hl]
  rcases hcase c q hq with ⟨rfl,rfl⟩ | ⟨hc,hq2⟩
  ·rw [if_pos rfl];exact hx
  ·rw [if_neg hc]
   split
   ·exact .gone
   ·rename_i hcb
    cases hca:(h.blk c).alive with
    | false=>
     have:h.blk c=.gone:=by cases e:h.blk c <;> rw [e] at hca <;> first | rfl | cases hca
     rw [this];exact .gone
    | true=>exact ((r.blk c q hq2).same (ho _ fun e=>hcb (r.inj c b q p hq2 hp hca ha e)) fun m pm hm hpm=>ho _ fun e=>r.low m b pm p hm hlo hpm hp ha e).ext hext
 ·rcases hcase c q hq with ⟨rfl,rfl⟩ | ⟨hc,hq2⟩ <;> rcases hcase d s hs with ⟨rfl,rfl⟩ | ⟨hd,hs2⟩
  ·rfl
  ·obtain ⟨e1,e2⟩:=hal d hd ad
   exact absurd (r.inj d b s p hs2 hp e2 ha (by rw [<- hcd,hb])) e1
  ·obtain ⟨e1,e2⟩:=hal c hc ac
   exact absurd (r.inj c b q p hq2 hp e2 ha (by rw [hcd,hb])) e1
  ·exact r.inj c d q s hq2 hs2 (hal c hc ac).2 (hal d hd ad).2 hcd
 ·rw [H.add_lo,hl] at hc hd
  rcases hcase d s hs with ⟨rfl,rfl⟩ | ⟨hd',hs2⟩ <;> rcases hcase c q hq with ⟨rfl,rfl⟩ | ⟨hc',hq2⟩
  ·omega
  ·rw [hb];exact r.low c b q p hc hlo hq2 hp ha
  ·have:=r.le;omega
  ·exact r.low c d q s hc hd hq2 hs2 (hal d hd' ad).2
 ·rw [H.add_n,hn]
  rcases hcase c q hq with ⟨rfl,rfl⟩ | ⟨_,hq2⟩
  ·exact Nat.lt_succ_self _
  ·exact Nat.lt_succ_of_lt (r.dom c q hq2)
 ·rw [hsz]
  rcases hcase c q hq with ⟨rfl,rfl⟩ | ⟨_,hq2⟩
  ·rw [hb];exact r.inw b p hp
  ·exact r.inw c q hq2
 ·rw [H.add_n,hn] at hc
  rw [hB,if_neg (by omega),if_neg (by omega)];exact r.new c (by omega)
 ·rw [hB,if_neg (by have:=r.le;omega),if_neg (by omega)]
 ·exact (hal c (by omega) hq).2
 ·rintro rfl
  exact hw ⟨b,p,hlo,hp,rfl,ha⟩
 ·rcases hcase c q hq with ⟨rfl,rfl⟩ | ⟨_,hq2⟩
  ·exact .inr ⟨Nat.le_refl _,.inr ⟨b,p,hlo,hp,hb.symm,ha⟩⟩
  ·exact .inl hq2
end
end Go.Proofs.YtcilaocknhphnaaGreat.Ev
namespace Go.Proofs.YtcilaocknhphnaaGreat.Ev
section
variable {P : Program} {φ : Phi} {h : H} {w w' : World}
theorem run_append {ts:Array TypeId} {t e ty:TypeId} {i:TypeInfo} {Z:Value} (ht:ts[0]? = some t) (hu:P.underlying t=some (.slice e)) (hi:P.info? e=some i) (hz:i.zero=some Z)
  (hn:∀ u,ts[1]? = some u->∃ d,P.underlying u=some d∧∀ k,d≠.int k) {base:Option Addr} {n C m:Nat} {xv:Value} (w:World) (hm:(Builtin.lenOf xv).run P w=.ok m w)
  (h2:¬ (((n+m:Nat):Int) > IntKind.i64.max)) (h3:¬ (n+m<=C)->¬ (Builtin.nextslicecap (n+m) C*i.bytes > 2 ^ 48)):
  (Builtin.append_ ts ty #[.slice base n C,xv]).run P w =
   if n+m<=C then ((Builtin.firstCells i.size m xv).run P w).andThen fun new w=>((match base with
    | some a=>storeCells (a.add (n*i.size)) new.toList
    | none=>pure ():Sem Unit).run P w).andThen fun _ w=>.ok (.slice base (n+m) C) w
   else ((Builtin.firstCells i.size n (.slice base n C)).run P w.drew).andThen fun old w1=>((Builtin.firstCells i.size m xv).run P w1).andThen fun new w1=>
    .ok (.slice (some ⟨w1.heap.size,0,none⟩) (n+m) (grownCap w (n+m) C e)) (w1.alloc (.cells (old++new++Builtin.zeroCells Z.cells (grownCap w (n+m) C e - (n+m))) e)):=by
 have hsz:i.size=P.cellsOf e:=by simp [Program.cellsOf,hi]
 have ask:∀ (b:Nat) (w:World),(askRoom b).run P w=.ok () w:=fun b w=>by unfold askRoom;split <;> simp [mark,Sem.run]
 have har:(#[Value.slice base n C,xv]:Array Value)[0]? = some (.slice base n C):=rfl;have har1:(#[Value.slice base n C,xv]:Array Value)[1]? = some xv:=rfl;cases h1:ts[1]? with
 | none=>
  unfold Builtin.append_;simp only [ht,har,har1,h1,Sem.run_bind,run_underlying hu,Result.andThen_ok,run_sizeOf hi,Bool.false_eq_true,if_false,hm,Bool.not_false,if_true,<- hsz,Sem.run_pure];by_cases h1:n+m<=C
  ·simp only [h1,if_true,Sem.run_bind]
   congr 1;funext new w1
   cases base <;> simp only [Sem.run_bind,Sem.run_pure,Result.andThen_ok]
  ·simp only [h1,if_false,Sem.run_bind,run_typeInfo hi,Result.andThen_ok,Bool.false_eq_true,false_or,or_false]
   have h2':¬ (((n+m:Nat):Int) > IntKind.i64.max∧i.bytes=0):=fun q=>h2 q.1;have hch:(choose (.appendCap (n+m) C e)).run P w=.ok (grownCap w (n+m) C e) w.drew:=rfl;simp only [h2',if_false,h3 h1,Sem.run_bind,run_typeInfo hi,hch,Result.andThen_ok,ask,run_zeroValue hi hz,run_newRow,Sem.run_pure]
 | some u=>
  obtain ⟨d,hd,hk⟩:=hn u h1;have hf:(d matches .int _)=false:=by cases d <;> first | rfl | exact absurd rfl (hk _)
  unfold Builtin.append_;simp only [ht,har,har1,h1,Sem.run_bind,run_underlying hu,Result.andThen_ok,run_sizeOf hi,run_underlying hd,hf,Bool.false_eq_true,if_false,hm,Bool.not_false,if_true,<- hsz,Sem.run_pure];by_cases h1:n+m<=C
  ·simp only [h1,if_true,Sem.run_bind]
   congr 1;funext new w1
   cases base <;> simp only [Sem.run_bind,Sem.run_pure,Result.andThen_ok]
  ·simp only [h1,if_false,Sem.run_bind,run_typeInfo hi,Result.andThen_ok,Bool.false_eq_true,false_or,or_false]
   have h2':¬ (((n+m:Nat):Int) > IntKind.i64.max∧i.bytes=0):=fun q=>h2 q.1;have hch:(choose (.appendCap (n+m) C e)).run P w=.ok (grownCap w (n+m) C e) w.drew:=rfl;simp only [h2',if_false,h3 h1,Sem.run_bind,run_typeInfo hi,hch,Result.andThen_ok,ask,run_zeroValue hi hz,run_newRow,Sem.run_pure]
theorem two2_all {l:List AV} {f:AV->AV->V2} {K:AV->H->Prop} (h:(two2 l f).all K):∃ x y,l=[x,y]∧(f x y).all K:=by
 rcases l with _ | ⟨x,_ | ⟨y,_ | ⟨z,l⟩⟩⟩
 ·exact False.elim h
 ·exact False.elim h
 ·exact ⟨x,y,rfl,h⟩
 ·exact False.elim h
theorem zeroCells_size (Z:Array Value) (n:Nat):(Builtin.zeroCells Z n).size=n*Z.size:=by simp [Builtin.zeroCells]
theorem grown_ok (r:Rel φ h w) {e:TypeId} {L:List AV} {D Z:Array Value} (hL:L2 (RelS φ) L D.toList) {sz need cap:Nat} (hZ:Z.size=sz) (hD:D.size=need*sz) (hcap:need<=cap):
  ∃ ψ,Rel ψ (h.add (.row e L)) (w.alloc (.cells (D++Builtin.zeroCells Z (cap - need)) e))∧Stp φ h w ψ (h.add (.row e L)) (w.alloc (.cells (D++Builtin.zeroCells Z (cap - need)) e)) ∧
   RelT ψ (.sl h.n 0 need need (sz+1)) (.slice (some ⟨w.heap.size,0,none⟩) need cap):=by
 have hsz:(D++Builtin.zeroCells Z (cap - need)).size=cap*sz:=by
  rw [Array.size_append,zeroCells_size,hZ,hD,<- Nat.add_mul]
  congr 1;omega
 have hl:=hL.length;rw [Array.length_toList (xs:=D)] at hl
 obtain ⟨g1,g2⟩:=r.grow (g:=.cells (D++Builtin.zeroCells Z (cap - need)) e) (w':=w.alloc (.cells (D++Builtin.zeroCells Z (cap - need)) e)) rfl ⟨rfl,rfl,rfl⟩ (p:=⟨w.heap.size,0,cap*sz⟩) rfl (x:=.row e L)
  (.row (C:=D++Builtin.zeroCells Z (cap - need)) (T:=e) (by show (w.heap.push _)[w.heap.size]? = _;simp) (by rw [hsz];simp) (by
    show L.length<=cap*sz;rw [hl,hD];exact Nat.mul_le_mul_right _ hcap) (fun i x hx=>by
    obtain ⟨v,h1,h2⟩:=hL.get hx;have hi:=(List.getElem?_eq_some_iff.1 h1).1;rw [Array.length_toList (xs:=D)] at hi;refine ⟨v,?_,h2.ext (Phi.add_ext r.fresh)⟩;rw [Array.getElem?_toList] at h1;rw [show 0+i=i by omega,Array.getElem?_append_left hi];exact h1))
 refine ⟨_,g1,g2,RelB.toT ?_⟩
 simpa using RelB.sl (φ:=φ.add h.n ⟨w.heap.size,0,cap*sz⟩) (b:=h.n) (o:=0) (n:=need) (c:=need) (C:=cap) (off:=0) (q:=sz+1) (p:=⟨w.heap.size,0,cap*sz⟩) (Phi.add_at _ _ _) (.inl rfl) (Nat.le_refl _) hcap (by simp)
  (fun z hz=>by cases hz;simp)
theorem grownCap_le (w:World) (need old:Nat) (e:TypeId):need<=grownCap w need old e:=by
 unfold grownCap;simp [Question.cut]
theorem notInt_some {d:TypeDesc} (h:notInt d=true):d≠.invalid∧∀ k,d≠.int k:=by
 constructor
 ·rintro rfl;cases h
 ·rintro k rfl;cases h
theorem append_ok (r:Rel φ h w) {ts:Array TypeId} {t e ty:TypeId} {i:TypeInfo} {Z:Value} (ht:ts[0]? = some t) (hu:P.underlying t=some (.slice e)) (hi:P.info? e=some i) (hz:i.zero=some Z)
  (hn:∀ u,ts[1]? = some u->∃ d,P.underlying u=some d∧∀ k,d≠.int k) {s x:AV} {sv xv:Value} (hs:RelT φ s sv) (hx:RelT φ x xv) (hZ:Z.cells.size=i.size) (hroom:roomy i.bytes (lenV s+lenV x)=true)
  {new:List AV} (hnew:cellsSl h i.size x=some new) {K:AV->H->Prop} (hk:(appA h e i.size (lenV x) new s).all K):
  ∃ v h' ψ w' c,K v h'∧(Builtin.append_ ts ty #[sv,xv]).run P w=.ok c w'∧RelT ψ v c∧Rel ψ h' w'∧Stp φ h w ψ h' w':=by
 have hlen:=cellsSl_len hnew;have hm:=lenOf_ok (P:=P) hx hnew w;have hrm:(lenV s+lenV x)*(i.bytes+1)<=1099511627776:=Nat.le_of_ble_eq_true hroom;have hsum:lenV s+lenV x<=1099511627776:=Nat.le_trans (Nat.le_mul_of_pos_right _ (Nat.succ_pos _)) hrm;have hby:(lenV s+lenV x)*i.bytes<=1099511627776:=Nat.le_trans (Nat.mul_le_mul_left _ (Nat.le_succ _)) hrm
 have hmax:∀ n,n=lenV s->¬ (((n+lenV x:Nat):Int) > IntKind.i64.max):=by
  rintro n rfl;have:IntKind.i64.max=9223372036854775807:=by decide
  omega
 have hcapp:∀ n C,n=lenV s->¬ (n+lenV x<=C)->¬ (Builtin.nextslicecap (n+lenV x) C*i.bytes > 2 ^ 48):=by
  rintro n C rfl hc;have h1:=nextslicecap_le (need:=lenV s+lenV x) (old:=C) (by omega);have h2:=Nat.mul_le_mul_right i.bytes h1;rw [Nat.mul_assoc] at h2;omega
 obtain ⟨N,hN,hNr⟩:=whole_ok (P:=P) r hx hnew;obtain ⟨N',hN',hNr'⟩:=whole_ok (P:=P) (r.heap (w':=w.drew) rfl) hx hnew;have hNs:N'.size=lenV x*i.size:=by have:=hNr'.length;rw [Array.length_toList (xs:=N')] at this;omega
 have hdrew:Stp φ h w φ h w.drew:=Stp.heap rfl ⟨rfl,rfl,rfl⟩;have rd:=r.heap (w':=w.drew) rfl;cases s <;> first | exact False.elim hk | skip
 ·cases relT_nils hs
  have hr:=run_append (ty:=ty) ht hu hi hz hn (base:=none) (n:=0) (C:=0) w hm (hmax 0 rfl) (hcapp 0 0 rfl);have hk:(iteB (Nat.beq (lenV x) 0) (V2.one .nils h) (newRow h e new (lenV x) (i.size+1))).all K:=hk;cases h0:Nat.beq (lenV x) 0 with
  | true=>
   rw [h0] at hk;have h0:=Nat.eq_of_beq_eq_true h0;rw [if_pos (by omega),hN] at hr;simp only [Result.andThen_ok,Sem.run_pure,h0] at hr;exact ⟨.nils,h,φ,w,_,hk,hr,RelB.toT .nils,r,Stp.refl _ _ _⟩
  | false=>
   rw [h0] at hk;have h0:lenV x≠0:=fun q=>by rw [q] at h0;cases h0
   rw [if_neg (by omega)] at hr;have hf0:(Builtin.firstCells i.size 0 (.slice none 0 0)).run P w.drew=.ok #[] w.drew:=by simp [Builtin.firstCells]
   rw [hf0] at hr;simp only [Result.andThen_ok,hN',Array.empty_append] at hr;have hcap:=grownCap_le w (0+lenV x) 0 e;obtain ⟨ψ,g1,g2,g3⟩:=grown_ok rd (e:=e) hNr' (Z:=Z.cells) (sz:=i.size) (need:=0+lenV x) (cap:=grownCap w (0+lenV x) 0 e) hZ (by rw [hNs];congr 1;omega) hcap;exact ⟨_,_,ψ,_,_,hk,hr,by simpa using g3,g1,hdrew.trans r g2⟩
 ·rename_i b o n c q
  obtain ⟨p,off,C,hp,rfl,hoff,hnc,hcC,hq0,hqz⟩:=relT_sl hs;have hr:=run_append (ty:=ty) ht hu hi hz hn (base:=some ⟨p.b,off,none⟩) (n:=n) (C:=C) w hm (hmax n rfl) (hcapp n C rfl);obtain ⟨rs,hrow,hk⟩:=ob_all hk
  have hk:(iteB (Nat.ble (n+lenV x) c)
   (ob .no (splice (o+n*i.size) new rs) fun cs=>ob .no (h.put b (.row (typeRow (h.blk b)) cs)) fun h=>.one (.sl b o (n+lenV x) c q) h)
   (ob .no (takeA (n*i.size) (dropA o rs)) fun old=>
   iteB (Nat.beq q 0) (newRow h e (appL old new) (n+lenV x) (i.size+1))
    (iteB (Nat.beq q (i.size+1)) (ob .no (h.put b .gone) fun h=>newRow h e (appL old new) (n+lenV x) (i.size+1)) .no))).all K:=hk
  cases hfit:Nat.ble (n+lenV x) c with
  | true=>
   rw [hfit] at hk;have hfit:=Nat.le_of_ble_eq_true hfit;obtain ⟨cs,h1,hk⟩:=ob_all hk;obtain ⟨h',h2,hk⟩:=ob_all hk;obtain ⟨w',g1,g2,g3⟩:=lay_row (P:=P) r hp hrow h1 hNr h2;rw [if_pos (by omega),hN] at hr;simp only [Result.andThen_ok,Addr.add_plain] at hr
   have hst:(storeCells ⟨p.b,off+n*i.size,none⟩ N.toList).run P w=.ok () w':=by
    rcases hoff with rfl | hC
    ·rw [Nat.add_assoc];exact g1
    ·have:lenV x=0:=by omega
     rw [this] at hlen;have hnil:N.toList=[]:=List.length_eq_zero_iff.1 (by rw [<- hNr.length,hlen];simp);rw [hnil] at g1 ⊢;exact g1
   rw [hst] at hr;exact ⟨_,h',φ,w',_,hk,hr,RelB.toT (.sl hp hoff hfit hcC hq0 hqz),g2,g3⟩
  | false=>
   rw [hfit] at hk
   have hfit:c < n+lenV x:=by
    rcases Nat.lt_or_ge c (n+lenV x) with q | q
    ·exact q
    ·rw [Nat.ble_eq_true_of_le q] at hfit;cases hfit
   obtain ⟨old,h1,hk⟩:=ob_all hk
   obtain ⟨O,hO,hOr⟩:=first_ok (P:=P) rd hs (sz:=i.size) (k:=n) (new:=old) (l:=old) (by
    show ob none (h.row b) (fun r=>takeA (Nat.mul n i.size) (dropA o r))=some old;rw [hrow];exact h1) (Nat.le_refl _) (by
    obtain ⟨q1,q2⟩:=takeA_some _ _ _ h1;have:old.length=n*i.size:=by rw [q1,List.length_take];omega
    rw [takeA_of (by omega),<- this,List.take_length])
   have hOs:O.size=n*i.size:=by
    obtain ⟨q1,q2⟩:=takeA_some _ _ _ h1;have:=hOr.length;rw [Array.length_toList (xs:=O),q1,List.length_take] at this;omega
   rw [appL_eq] at hk;have hON:L2 (RelS φ) (old++new) (O++N').toList:=by rw [Array.toList_append];exact hOr.append hNr'
   have hONs:(O++N').size=(n+lenV x)*i.size:=by rw [Array.size_append,hOs,hNs,Nat.add_mul]
   have hcap:=grownCap_le w (n+lenV x) C e;by_cases hin:n+lenV x<=C
   ·
    have hq:q≠0:=fun e=>by have:=hq0 e;omega
    rw [show Nat.beq q 0=false from by cases q with
     | zero=>exact absurd rfl hq
     | succ _=>rfl] at hk
    obtain ⟨hqz',hk⟩:=iteB_all hk;have hqe:=Nat.eq_of_beq_eq_true hqz';obtain ⟨h',h2,hk⟩:=ob_all hk;have hroom2:=hqz _ hqe;have hoff:=hoff.resolve_right (by omega);subst hoff;obtain ⟨D,T,ra⟩:=row_some r.rl hp hrow;have h3:=ra.room;have hNsz:N.size=lenV x*i.size:=by have:=hNr.length;rw [Array.length_toList (xs:=N)] at this;omega
    have hmul:(n+lenV x)*i.size<=C*i.size:=Nat.mul_le_mul_right _ hin;rw [Nat.add_mul] at hmul;have hNl:N.toList.length=lenV x*i.size:=by rw [Array.length_toList (xs:=N),hNsz]
    have hst:=run_storeCells_at P p.b (p.s+o+n*i.size) T N.toList 0 D w ra.obj (by omega) (cellsL_one hNr);rw [if_pos hin,hN] at hr;simp only [Result.andThen_ok,Addr.add_plain,hst] at hr;obtain ⟨q1,q2⟩:=takeA_some _ _ _ h1;rw [dropA_eq] at q1 q2;have hol:old.length=n*i.size:=by rw [q1,List.length_take];omega
    have hsz:(D.toList.take (p.s+o+n*i.size+0)++N.toList++D.toList.drop (p.s+o+n*i.size+0+N.toList.length)).length=D.size:=by
     simp;omega
    obtain ⟨g1,g2⟩:=r.move (p':=⟨p.b,p.s+o,p.k - o⟩) hp rfl (row_alive hrow) h2 (w':=w.setRow p.b (D.toList.take (p.s+o+n*i.size+0)++N.toList++D.toList.drop (p.s+o+n*i.size+0+N.toList.length)).toArray)
     (x:=.row e (old++new)) (by simp [World.setRow]) ⟨rfl,rfl,rfl⟩ (fun k hk=>setRow_other _ _ _ _ hk)
     (.row (T:=T) (setRow_heap _ _ _ _ _ _ ra.obj) (by rw [List.size_toArray,hsz];show p.s+o+(p.k - o)<=D.size;omega) (by rw [List.length_append,hol,hlen];show _<=p.k - o;omega) (fun j y hy=>by
      rw [List.getElem?_toArray,List.append_assoc];show ∃ v,(_:List Value)[p.s+o+j]? = some v∧_;by_cases hj:j < n*i.size
      ·rw [List.getElem?_append_left (by omega),q1,List.getElem?_take,if_pos hj,List.getElem?_drop] at hy
       obtain ⟨v,c1,c2⟩:=ra.cell _ _ hy;refine ⟨v,?_,c2.ext (Phi.add_ext r.fresh)⟩;rw [List.getElem?_append_left (by simp;omega),List.getElem?_take,if_pos (by omega),Array.getElem?_toList];rw [show p.s+o+j=p.s+(o+j) by omega];exact c1
      ·rw [List.getElem?_append_right (by omega),hol] at hy
       obtain ⟨v,c1,c2⟩:=hNr.get hy;have:=(List.getElem?_eq_some_iff.1 c1).1;refine ⟨v,?_,c2.ext (Phi.add_ext r.fresh)⟩;rw [List.getElem?_append_right (by simp;omega),List.getElem?_append_left (by simp;omega)];rw [show p.s+o+j - (D.toList.take (p.s+o+n*i.size+0)).length=j - n*i.size by simp;omega];exact c1))
    rw [show h.n=h'.n from (H.put_some h2).2.2.1.symm] at g1 g2;refine ⟨_,_,_,_,_,hk,hr,RelB.toT ?_,g1,g2⟩;exact RelB.sl (o:=0) (p:=⟨p.b,p.s+o,p.k - o⟩) (Phi.add_at _ _ _) (.inl rfl) (Nat.le_refl _) hin (by simp) (fun z hz=>by cases hz;show 0+C*i.size<=p.k - o;omega)
   ·rw [if_neg hin,hO] at hr
    simp only [Result.andThen_ok,hN'] at hr;cases hq:Nat.beq q 0 with
    | true=>
     rw [hq] at hk;obtain ⟨ψ,g1,g2,g3⟩:=grown_ok rd (e:=e) hON (Z:=Z.cells) (sz:=i.size) (need:=n+lenV x) (cap:=grownCap w (n+lenV x) C e) hZ hONs hcap;exact ⟨_,_,ψ,_,_,hk,hr,g3,g1,hdrew.trans r g2⟩
    | false=>
     rw [hq] at hk;obtain ⟨hqz',hk⟩:=iteB_all hk;obtain ⟨h',h2,hk⟩:=ob_all hk;obtain ⟨g4,g5⟩:=rd.write (w':=w.drew) hp (row_alive hrow) h2 rfl ⟨rfl,rfl,rfl⟩ (fun _ _=>rfl) .gone;obtain ⟨ψ,g1,g2,g3⟩:=grown_ok g4 (e:=e) hON (Z:=Z.cells) (sz:=i.size) (need:=n+lenV x) (cap:=grownCap w (n+lenV x) C e) hZ hONs hcap;exact ⟨_,_,ψ,_,_,hk,hr,g3,g1,(hdrew.trans r g5).trans r g2⟩
end
end Go.Proofs.YtcilaocknhphnaaGreat.Ev
namespace Go.Proofs.YtcilaocknhphnaaGreat.Ev
section
variable {P : Program} {φ : Phi} {h : H} {w w' : World}
theorem one1_all {l:List AV} {f:AV->V2} {K:AV->H->Prop} (h:(one1 l f).all K):∃ x,l=[x]∧(f x).all K:=by
 rcases l with _ | ⟨x,_ | ⟨y,l⟩⟩
 ·exact False.elim h
 ·exact ⟨x,rfl,h⟩
 ·exact False.elim h
theorem btC_u {ts:Array TypeId} {u:TypeId} (h:ts[1]? = some u):(btC P ts.toList).u=u:=by
 show (headA (dropA 1 ts.toList)).getD 0=u;rw [dropA_eq];rw [<- Array.getElem?_toList] at h;obtain ⟨l⟩:=ts;rcases l with _ | ⟨x,_ | ⟨y,l⟩⟩
 ·simp at h
 ·simp at h
 ·simp at h;subst h;rfl
theorem builtin_ge {o:Oper} {c:Call} {b:Builtin} (ho:o.op=.call c) (hb:c.callee=.builtin b) {f:List AV->H->V2}
  (H1:∀ φ h w K args (vs:List Value),L2 (RelT φ) args vs->Rel φ h w->(f args h).all K->∃ v h' ψ w' cv,K v h'∧(∀ ρ:Operand->Value,c.args.toList.map ρ=vs->(execOp ρ o).run P w=.ok (.value cv) w')∧RelT ψ v cv∧Rel ψ h' w'∧Stp φ h w ψ h' w'):
  GeOk P o (fun _ tm h=>f ((getsC c.args.toList).run tm) h):=fun call φ tm ρ h w K he hr hk=>by
 have hra:=argsRel ho he;obtain ⟨v,h',ψ,w',cv,g1,g2,g3,g4,g5⟩:=H1 φ h w K _ _ hra hr hk;exact ⟨v,h',ψ,w',_,cv,g1,g2 ρ (by simp),.inl rfl,g3,g4,g5⟩
theorem mapOf_two {c:Call} {ρ:Operand->Value} {u v:Value} (h:c.args.toList.map ρ=[u,v]):c.args.map ρ=#[u,v]:=by
 rw [<- Array.toList_inj];simpa using h
theorem mapOf_one {c:Call} {ρ:Operand->Value} {u:Value} (h:c.args.toList.map ρ=[u]):c.args.map ρ=#[u]:=by
 rw [<- Array.toList_inj];simpa using h
theorem ok_append {o:Oper} {c:Call} (ho:o.op=.call c) (hb:c.callee=.builtin .append) (hs:isSomeB (headA c.argTypes.toList)=true):GeOk P o (fun _ tm h=>builtinA P .append (btC P c.argTypes.toList) ((getsC c.args.toList).run tm) h):=by
 refine builtin_ge ho hb (f:=fun args h=>bAppend P (btC P c.argTypes.toList) args h) fun φ h w K args vs hv hr hk=>?_;obtain ⟨e,he,hk⟩:=ob_all hk;obtain ⟨s,x,rfl,hk⟩:=two2_all hk;obtain ⟨h1,hk⟩:=iteB_all hk;obtain ⟨h1,h2⟩:=andB_iff.1 h1;obtain ⟨h2,h3⟩:=andB_iff.1 h2;obtain ⟨new,hnew,hk⟩:=ob_all hk;obtain ⟨sv,xv,rfl,hsv,hxv⟩:=hv.two;obtain ⟨t,ht,_,hte⟩:=btC_some (P:=P) hs;rw [hte] at he;obtain ⟨i,Z,hi,hz,hzr,hzl⟩:=zok_some h2;have hsz:i.size=P.cellsOf e:=by simp [Program.cellsOf,hi]
 have hZ:Z.cells.size=i.size:=by have:=(hzr φ).length;rw [Array.length_toList (xs:=Z.cells)] at this;omega
 rw [bytesT_eq,show P.bytesOf e=i.bytes by simp [Program.bytesOf,hi]] at h3;rw [ti_size,<- hsz] at hnew hk
 obtain ⟨v,h',ψ,w',cv,g1,g2,g3,g4,g5⟩:=append_ok (P:=P) (ty:=o.type) hr ht (elemS_some he) hi hz (fun u hu=>by
  rw [btC_u hu] at h1;obtain ⟨q1,q2⟩:=notInt_some h1;exact ⟨_,und_of rfl q1,q2⟩) hsv hxv hZ h3 hnew hk
 exact ⟨v,h',ψ,w',cv,g1,fun ρ hρ=>by simp [execOp,ho,resolve,hb,invoke,builtin,mapOf_two hρ,g2],g3,g4,g5⟩
theorem minN_eq (a b:Nat):minN a b=Nat.min a b:=by
 unfold minN;rw [iteB_eq];split
 ·rename_i h;have:=Nat.le_of_ble_eq_true h;exact (Nat.min_eq_left this).symm
 ·rename_i h
  have:¬ a<=b:=fun q=>h (Nat.ble_eq_true_of_le q);exact (Nat.min_eq_right (by omega)).symm
theorem ok_copy {o:Oper} {c:Call} (ho:o.op=.call c) (hb:c.callee=.builtin .copy) (hs:isSomeB (headA c.argTypes.toList)=true):GeOk P o (fun _ tm h=>builtinA P .copy (btC P c.argTypes.toList) ((getsC c.args.toList).run tm) h):=by
 refine builtin_ge ho hb (f:=fun args h=>bCopy P (btC P c.argTypes.toList) args h) fun φ h w K args vs hv hr hk=>?_;obtain ⟨e,he,hk⟩:=ob_all hk;obtain ⟨d,x,rfl,hk⟩:=two2_all hk;obtain ⟨cells,hcs',hk'⟩:=ob_all hk;clear hk;have hk:=hk';clear hk';obtain ⟨hkn,hcs⟩:=iteB_some hcs';clear hcs';obtain ⟨dv,xv,rfl,hdv,hxv⟩:=hv.two;obtain ⟨t,ht,_,hte⟩:=btC_some (P:=P) hs;rw [hte] at he;have hu:=elemS_some he;obtain ⟨i,hi⟩:=kn_some hkn;have hsz:i.size=P.cellsOf e:=by simp [Program.cellsOf,hi]
 have hlen:=lenOf_ok (P:=P) hxv hcs w
 have fin:∀ cv w',(Builtin.copy_ c.argTypes o.type #[dv,xv]).run P w=.ok cv w'->∀ ρ:Operand->Value,c.args.toList.map ρ=[dv,xv]->(execOp ρ o).run P w=.ok (.value cv) w':=fun cv w' q ρ hρ=>by
  simp [execOp,ho,resolve,hb,invoke,builtin,mapOf_two hρ,q]
 have hrun:∀ (base:Option Addr) (n C:Nat),dv=.slice base n C->(Builtin.copy_ c.argTypes o.type #[dv,xv]).run P w=((Builtin.firstCells (P.cellsOf e) (Nat.min (lenV x) n) xv).run P w).andThen fun D w=>((match base with
   | some a=>storeCells a D.toList
   | none=>pure ():Sem Unit).run P w).andThen fun _ w=>.ok (goInt (Nat.min (lenV x) n)) w:=by
  rintro base n C rfl;cases base <;> simp [Builtin.copy_,ht,run_underlying hu,hlen,run_sizeOf hi]
 cases d <;> first | exact False.elim hk | skip
 case nils=>
  cases relT_nils hdv;obtain ⟨D,g1,g2⟩:=first_ok (P:=P) hr hxv hcs (k:=Nat.min (lenV x) 0) (l:=[]) (Nat.min_le_left _ _) (by simp [takeA]);have:=hrun none 0 0 rfl;rw [ti_size] at g1;rw [g1] at this;simp only [Result.andThen_ok,Sem.run_pure] at this;rw [show Nat.min (lenV x) 0=0 by simp] at this;exact ⟨_,h,φ,w,_,hk,fin _ _ this,RelB.toT (.int _ _),hr,Stp.refl _ _ _⟩
 case sl b o' m cc q _ _=>
  obtain ⟨p,off,C,hp,rfl,hoff,hnc,hcC,hq0,hqz⟩:=relT_sl hdv;obtain ⟨l,hl,hk⟩:=ob_all hk;obtain ⟨rs,l',h',e1,e2,e3,hk⟩:=lay_all hk;rw [minN_eq] at hl hk;obtain ⟨D,g1,g2⟩:=first_ok (P:=P) hr hxv hcs (k:=Nat.min (lenV x) m) (l:=l) (Nat.min_le_left _ _) hl;rw [ti_size] at g1;obtain ⟨w',g3,g4,g5⟩:=lay_row (P:=P) hr hp e1 e2 g2 e3;have:=hrun (some ⟨p.b,off,none⟩) m C rfl;rw [g1] at this
  have hst:(storeCells ⟨p.b,off,none⟩ D.toList).run P w=.ok () w':=by
   rcases hoff with rfl | hC
   ·exact g3
   ·have hm:m=0:=by omega
    obtain ⟨q1,q2⟩:=takeA_some _ _ _ hl;have hn:D.toList=[]:=List.length_eq_zero_iff.1 (by rw [<- g2.length,q1,hm];simp);rw [hn] at g3 ⊢;exact g3
  simp only [Result.andThen_ok,hst] at this;exact ⟨_,h',φ,w',_,hk,fin _ _ this,RelB.toT (.int _ _),g4,g5⟩
theorem ok_delete {o:Oper} {c:Call} (ho:o.op=.call c) (hb:c.callee=.builtin .delete) (hs:isSomeB (headA c.argTypes.toList)=true):GeOk P o (fun _ tm h=>builtinA P .delete (btC P c.argTypes.toList) ((getsC c.args.toList).run tm) h):=by
 refine builtin_ge ho hb (f:=fun args h=>bDelete P (btC P c.argTypes.toList) args h) fun φ h w K args vs hv hr hk=>?_;obtain ⟨m,k,rfl,hk⟩:=two2_all hk;obtain ⟨h1,hk'⟩:=iteB_all hk;clear hk;have hk:=hk';clear hk';obtain ⟨h1,h2⟩:=andB_iff.1 h1;obtain ⟨mv,kv,rfl,hmv,hkv⟩:=hv.two;obtain ⟨t,ht,htt,_⟩:=btC_some (P:=P) hs;rw [htt] at h1 h2;have hut:=und_of (mapT_some h1) (by simp);have hkf:=key_relF h2 hkv
 have fin:∀ cv w',(Builtin.delete_ c.argTypes o.type #[mv,kv]).run P w=.ok cv w'->∀ ρ:Operand->Value,c.args.toList.map ρ=[mv,kv]->(execOp ρ o).run P w=.ok (.value cv) w':=fun cv w' q ρ hρ=>by
  simp [execOp,ho,resolve,hb,invoke,builtin,mapOf_two hρ,q]
 cases m <;> first | exact False.elim hk | skip
 case nilm=>
  cases relT_nilm hmv;have hchk:=checkKey_ok h2 hkf true w;exact ⟨.bad,h,φ,w,undef,hk,fin _ _ (by simp [Builtin.delete_,ht,run_underlying hut,hchk,undef]),relT_undef,hr,Stp.refl _ _ _⟩
 case map b=>
  obtain ⟨p,hp,rfl⟩:=relT_map hmv;obtain ⟨es,e1,hk⟩:=ob_all hk;obtain ⟨es',e2,hk⟩:=ob_all hk;obtain ⟨h',e3,hk⟩:=ob_all hk;obtain ⟨ces,clk,hobj,hrel,hborn,hnd⟩:=map_some hr.rl hp e1;obtain ⟨x,hfi,hn,hsome⟩:=del_find e2;have hg:(getObj p.b).run P w=.ok (.map ces clk) w:=by simp [getObj,Sem.run,hobj]
  have hchk:=checkKey_ok h2 hkf ces.isEmpty w;have hfind:=findKey_ok h2 hkf hrel hfi w;cases x with
  | none=>
   rw [hn rfl] at e3;obtain ⟨g1,g2,g3⟩:=map_write (P:=P) hr hp e1 e3 hobj hrel hborn hnd;exact ⟨.bad,h',φ,_,undef,hk,fin _ _ (by simp [Builtin.delete_,ht,run_underlying hut,hg,hchk,hfind,g1,undef]),relT_undef,g2,g3⟩
  | some i=>
   rw [hsome i rfl] at e3;obtain ⟨⟨e,he1,_⟩,_⟩:=hfi;obtain ⟨d,hd,_⟩:=hrel.get he1;rw [Array.getElem?_toList] at hd;have hi:i < ces.size:=(Array.getElem?_eq_some_iff.1 hd).1
   have hel:(ces.eraseIdxIfInBounds i).toList=ces.toList.eraseIdx i:=by
    simp [Array.eraseIdxIfInBounds,hi]
   obtain ⟨g1,g2,g3⟩:=map_write (P:=P) hr hp e1 e3 hobj (ces':=ces.eraseIdxIfInBounds i) (clk':=clk) (by rw [hel];exact hrel.erase i) (fun y hy=>by
    rw [hel] at hy;exact hborn y (List.mem_of_mem_eraseIdx hy)) (by rw [hel];exact hnd.sublist ((List.eraseIdx_sublist _ _).map _))
   exact ⟨.bad,h',φ,_,undef,hk,fin _ _ (by simp [Builtin.delete_,ht,run_underlying hut,hg,hchk,hfind,hd,g1,undef]),relT_undef,g2,g3⟩
theorem ok_clear {o:Oper} {c:Call} (ho:o.op=.call c) (hb:c.callee=.builtin .clear) (hs:isSomeB (headA c.argTypes.toList)=true):GeOk P o (fun _ tm h=>builtinA P .clear (btC P c.argTypes.toList) ((getsC c.args.toList).run tm) h):=by
 refine builtin_ge ho hb (f:=fun args h=>one1 args fun x=>clearA P h (ti P (btC P c.argTypes.toList).t).desc x) fun φ h w K args vs hv hr hk=>?_;obtain ⟨x,rfl,hk'⟩:=one1_all hk;clear hk;have hk:=hk';clear hk';obtain ⟨xv,rfl,hxv⟩:=hv.one;obtain ⟨t,ht,htt,_⟩:=btC_some (P:=P) hs;rw [htt] at hk
 have fin:∀ cv w',(Builtin.clear_ c.argTypes o.type #[xv]).run P w=.ok cv w'->∀ ρ:Operand->Value,c.args.toList.map ρ=[xv]->(execOp ρ o).run P w=.ok (.value cv) w':=fun cv w' q ρ hρ=>by
  simp [execOp,ho,resolve,hb,invoke,builtin,mapOf_one hρ,q]
 cases hd:(ti P t).desc <;> rw [hd] at hk <;> first | (cases x <;> exact False.elim hk;done) | skip
 case map kt et=>
  have hut:=und_of hd (by simp);cases x <;> first | exact False.elim hk | skip
  case nilm=>
   cases relT_nilm hxv;exact ⟨.bad,h,φ,w,undef,hk,fin _ _ (by simp [Builtin.clear_,ht,run_underlying hut,undef]),relT_undef,hr,Stp.refl _ _ _⟩
  case map b=>
   obtain ⟨p,hp,rfl⟩:=relT_map hxv;obtain ⟨es,e1,hk⟩:=ob_all hk;obtain ⟨h',e3,hk⟩:=ob_all hk;obtain ⟨ces,clk,hobj,hrel,hborn,hnd⟩:=map_some hr.rl hp e1;have hg:(getObj p.b).run P w=.ok (.map ces clk) w:=by simp [getObj,Sem.run,hobj]
   obtain ⟨g1,g2,g3⟩:=map_write (P:=P) hr hp e1 e3 hobj (ces':=#[]) (clk':=clk) .nil (by simp) (by simp);exact ⟨.bad,h',φ,_,undef,hk,fin _ _ (by simp [Builtin.clear_,ht,run_underlying hut,hg,g1,undef]),relT_undef,g2,g3⟩
 case slice e=>
  have hut:=und_of hd (by simp);cases x <;> first | exact False.elim hk | skip
  case nils=>
   cases relT_nils hxv;exact ⟨.bad,h,φ,w,undef,hk,fin _ _ (by simp [Builtin.clear_,ht,run_underlying hut,undef]),relT_undef,hr,Stp.refl _ _ _⟩
  case sl b o' n cc q=>
   obtain ⟨p,off,C,hp,rfl,hoff,hnc,hcC,hq0,hqz⟩:=relT_sl hxv;obtain ⟨hz,hk1⟩:=iteB_all hk;clear hk;obtain ⟨rs,l',h',e1,e2,e3,hk⟩:=lay_all hk1;clear hk1;obtain ⟨i,Z,hi,hiz,hzr,hzl⟩:=zok_some hz;obtain ⟨w',g1,g2,g3⟩:=lay_row (P:=P) hr hp e1 e2 (rep_rel (hzr φ) n) e3;by_cases h0:n=0
   ·subst h0
    have:w'=w:=by
     simp [storeCells] at g1;exact g1.symm
    subst this;exact ⟨.bad,h',φ,_,undef,hk,fin _ _ (by simp [Builtin.clear_,ht,run_underlying hut,undef]),relT_undef,g2,g3⟩
   ·have hoff:=hoff.resolve_right (by omega)
    subst hoff
    have:(Builtin.clear_ c.argTypes o.type #[.slice (some ⟨p.b,p.s+o',none⟩) n C]).run P w=.ok undef w':=by
     simp only [Builtin.clear_,ht,show (#[Value.slice (some ⟨p.b,p.s+o',none⟩) n C]:Array Value)[0]? = some (.slice (some ⟨p.b,p.s+o',none⟩) n C) from rfl,Sem.run_bind,run_underlying hut,Result.andThen_ok];cases n with
     | zero=>exact absurd rfl h0
     | succ n=>simp only [Sem.run_bind,run_zeroValue hi hiz,Result.andThen_ok,Builtin.zeroCells,g1,Sem.run_pure,undef]
    exact ⟨.bad,h',φ,_,undef,hk,fin _ _ this,relT_undef,g2,g3⟩
end
end Go.Proofs.YtcilaocknhphnaaGreat.Ev
namespace Go.Proofs.YtcilaocknhphnaaGreat.Ev
def O3.all (K:Ex->Tm->H->Prop):O3->Prop
 | .no=>False
 | .one e t h=>K e t h
 | .alt x y=>x.all K∧y.all K
theorem O3.all_mono {K L:Ex->Tm->H->Prop} (hk:∀ e t h,K e t h->L e t h):∀ x:O3,x.all K->x.all L
 | .no,h=>h
 | .one _ _ _,h=>hk _ _ _ h
 | .alt x y,h=>⟨O3.all_mono hk x h.1,O3.all_mono hk y h.2⟩
theorem V2.all_foldO {K:Ex->Tm->H->Prop} {f:AV->H->O3}:∀ x:V2,(x.foldO f).all K->x.all fun v h=>(f v h).all K
 | .no,h=>h
 | .one _ _,h=>h
 | .alt x y,h=>⟨V2.all_foldO x h.1,V2.all_foldO y h.2⟩
theorem V2.all_bndO {K:Ex->Tm->H->Prop} {f:AV->H->O3} {x:V2} (h:(x.bndO f).all K):x.all fun v h=>(f v h).all K:=by
 cases x with
 | no=>exact h
 | one _ _=>exact h
 | alt x y=>exact ⟨V2.all_foldO x h.1,V2.all_foldO y h.2⟩
theorem O3.all_fold {K:Ex->Tm->H->Prop} {f:Ex->Tm->H->O3}:∀ x:O3,(x.fold f).all K->x.all fun e t h=>(f e t h).all K
 | .no,h=>h
 | .one _ _ _,h=>h
 | .alt x y,h=>⟨O3.all_fold x h.1,O3.all_fold y h.2⟩
theorem O3.all_bnd {K:Ex->Tm->H->Prop} {f:Ex->Tm->H->O3} {x:O3} (h:(x.bnd f).all K):x.all fun e t h=>(f e t h).all K:=by
 cases x with
 | no=>exact h
 | one _ _ _=>exact h
 | alt x y=>exact ⟨O3.all_fold x h.1,O3.all_fold y h.2⟩
theorem O3.all_foldV {K:AV->H->Prop} {f:Ex->Tm->H->V2}:∀ x:O3,(x.foldV f).all K->x.all fun e t h=>(f e t h).all K
 | .no,h=>h
 | .one _ _ _,h=>h
 | .alt x y,h=>⟨O3.all_foldV x h.1,O3.all_foldV y h.2⟩
theorem O3.all_bndV {K:AV->H->Prop} {f:Ex->Tm->H->V2} {x:O3} (h:(x.bndV f).all K):x.all fun e t h=>(f e t h).all K:=by
 cases x with
 | no=>exact h
 | one _ _ _=>exact h
 | alt x y=>exact ⟨O3.all_foldV x h.1,O3.all_foldV y h.2⟩
theorem ob_allO {α:Type} {x:Option α} {f:α->O3} {K:Ex->Tm->H->Prop} (h:(ob .no x f).all K):∃ a,x=some a∧(f a).all K:=by
 cases x with
 | none=>exact h.elim
 | some a=>exact ⟨a,rfl,h⟩
theorem iteB_allO {b:Bool} {x:O3} {K:Ex->Tm->H->Prop} (h:(iteB b x .no).all K):b=true∧x.all K:=by
 cases b with
 | false=>exact h.elim
 | true=>exact ⟨rfl,h⟩
def FR (r:Option Nat):Fence:={ Fence.wide with round:=r }
theorem FR_none:FR none=Fence.wide:=rfl
theorem FR_some (l:Nat):FR (some l)=Fence.wide.inRound l:=rfl
section
variable {P : Program} {φ : Phi} {h : H} {w w' : World} {hp : H}
def CallPost (φ:Phi) (h:H) (w:World) (K:AV->H->Prop) (e:Ending) (w':World):Prop:=∃ v h' ψ c,K v h'∧e=.returned c∧RelT ψ v c∧Rel ψ h' w'∧Stp φ h w ψ h' w'
structure CallOk (P : Program) (call : CallF) : Prop where
  fn : ∀ f args (A : Array Value) φ h w K, L2 (RelT φ) args A.toList → Rel φ h w → (call [f] args h).all K → (callFunc f A).run P w = .ok (.enter f A) w ∧ Calls P f A w (CallPost φ h w K)
  yl : ∀ l args p (A : Array Value) φ h w K, φ l = some p → L2 (RelT φ) args A.toList → Rel φ h w → (call [] (.yl l :: args) h).all K →
    ∃ f tmps a b, (Instr.yield p.b A).run P w = .ok (.round p.b f tmps a b) w ∧ RoundIn Fence.wide 0 P p.b f tmps a b w (CallPost φ h w K)
def leaves (c:OpC) (call:CallF) (tm:Tm) (h:H):V2:=match c with
 | .mv f=>.one (f tm) h
 | .pr f=>ob .no (f tm) fun v=>.one v h
 | .rd f=>ob .no (f tm h) fun v=>.one v h
 | .ge f=>f call tm h
def WpOk (P:Program) (o:Oper) (c:OpC):Prop:=∀ r n call,CallOk P call->∀ φ tm h (a:Act) w K next Q,EvRel φ tm a.eval o.op.operands->Rel φ h w->(leaves c call tm h).all K ->
 (∀ v h' ψ w' cv,K v h'->RelT ψ v cv->Rel ψ h' w'->Stp φ h w ψ h' w'->next (a.put o.dst cv) w')->o.wpIn (FR r) n P a w next Q
theorem semAt_of {r:Option Nat} {ρ:Operand->Value} {o:Oper} (h:∀ c,o.op≠.defer c):Oper.semAt (FR r).round ρ o=execOp ρ o:=Oper.semAt_eq _ _ _ h
theorem wp_of_run {r:Option Nat} {n:Nat} {o:Oper} {a:Act} {w w':World} {nx:Next} {c:Value} {next:Act->World->Prop} {Q:Exit->Act->World->Prop} (hd:∀ c,o.op≠.defer c) (h:(execOp a.eval o).run P w=.ok nx w') (ht:Told nx c) (hn:next (a.put o.dst c) w'):o.wpIn (FR r) n P a w next Q:=by
 refine ⟨fun _ _=>trivial,?_⟩;rw [semAt_of hd,h];rcases ht with rfl | ⟨rfl,rfl⟩
 ·exact hn
 ·exact hn
theorem PrOk.wp {o:Oper} {c:OpC} (hd:∀ c,o.op≠.defer c) (h:PrOk P o c):WpOk P o c:=fun r n call _ φ tm hp a w K next Q ht hr hk hn=>by
 cases c with
 | mv f=>
  obtain ⟨cv,h1,h2⟩:=h φ tm a.eval ht w;exact wp_of_run hd h1 (.inl rfl) (hn _ _ _ _ _ hk h2 hr (Stp.refl _ _ _))
 | pr f=>
  obtain ⟨v,hv,hk⟩:=ob_all hk;obtain ⟨cv,h1,h2⟩:=h φ tm a.eval v ht hv w;exact wp_of_run hd h1 (.inl rfl) (hn _ _ _ _ _ hk h2 hr (Stp.refl _ _ _))
 | rd f=>exact h.elim
 | ge f=>exact h.elim
theorem RdOk.wp {o:Oper} {c:OpC} (hd:∀ c,o.op≠.defer c) (h:RdOk P o c):WpOk P o c:=by
 cases c with
 | mv f=>exact PrOk.wp hd h
 | pr f=>exact PrOk.wp hd h
 | rd f=>
  intro r n call _ φ tm hp a w K next Q ht hr hk hn
  obtain ⟨v,hv,hk⟩:=ob_all hk;obtain ⟨cv,h1,h2⟩:=h φ tm a.eval hp w v ht hr.rl hv;exact wp_of_run hd h1 (.inl rfl) (hn _ _ _ _ _ hk h2 hr (Stp.refl _ _ _))
 | ge f=>exact False.elim h
theorem GeOk.wp {o:Oper} {f:OpF} (hd:∀ c,o.op≠.defer c) (h:GeOk P o f):WpOk P o (.ge f):=fun r n call _ φ tm hp a w K next Q ht hr hk hn=>by
 obtain ⟨v,h',ψ,w',nx,c,g1,g2,g3,g4,g5,g6⟩:=h call φ tm a.eval hp w K ht hr hk;exact wp_of_run hd g2 g3 (hn _ _ _ _ _ g1 g4 g5 g6)
theorem wp_enter {r:Option Nat} {n:Nat} {o:Oper} {a:Act} {w:World} {f:FuncId} {A:Array Value} {K:AV->H->Prop} {next:Act->World->Prop} {Q:Exit->Act->World->Prop} (hd:∀ c,o.op≠.defer c)
  (h:(execOp a.eval o).run P w=.ok (.enter f A) w) (hc:Calls P f A w (CallPost φ hp w K)) (hn:∀ v h' ψ w' cv,K v h'->RelT ψ v cv->Rel ψ h' w'->Stp φ hp w ψ h' w'->next (a.put o.dst cv) w'):o.wpIn (FR r) n P a w next Q:=by
 refine ⟨fun _ _=>trivial,?_⟩;rw [semAt_of hd,h];refine ⟨fun q=>(by cases q),?_⟩;have:CallsIn Fence.wide (n - 1) P f A w (CallPost φ hp w K):=callsIn_wide.2 hc;refine CallsIn.mono (show CallsIn (FR r) (n - 1) P f A w (CallPost φ hp w K) from this) ?_;rintro e w' ⟨v,h',ψ,c,g1,rfl,g3,g4,g5⟩;exact hn _ _ _ _ _ g1 g3 g4 g5
theorem wp_round {r:Option Nat} {n:Nat} {o:Oper} {a:Act} {w:World} {l:Nat} {f:FuncId} {tmps:Array Value} {x y:Code} {K:AV->H->Prop} {next:Act->World->Prop} {Q:Exit->Act->World->Prop} (hd:∀ c,o.op≠.defer c)
  (h:(execOp a.eval o).run P w=.ok (.round l f tmps x y) w) (hc:RoundIn Fence.wide 0 P l f tmps x y w (CallPost φ hp w K)) (hn:∀ v h' ψ w' cv,K v h'->RelT ψ v cv->Rel ψ h' w'->Stp φ hp w ψ h' w'->next (a.put o.dst cv) w'):o.wpIn (FR r) n P a w next Q:=by
 refine ⟨fun _ _=>trivial,?_⟩;rw [semAt_of hd,h];refine ⟨fun q=>(by cases q),?_⟩;have:RoundIn (FR r) (n - 1) P l f tmps x y w (CallPost φ hp w K):=⟨trivial,fun c cs _=>hc.2 c cs (room_wide _)⟩;refine RoundIn.mono this ?_;rintro e w' ⟨v,h',ψ,c,g1,rfl,g3,g4,g5⟩;exact hn _ _ _ _ _ g1 g3 g4 g5
theorem call_ok {o:Oper} {c:Call} {f:Operand} (ho:o.op=.call c) (hf:c.callee=.value f):WpOk P o (callC f c.args.toList):=fun r n call hc φ tm hp a w K next Q ht hr hk hn=>by
 have hd:∀ c,o.op≠.defer c:=by intro c;rw [ho];simp
 have hargs:=argsRel ho ht;have hx:RelT φ ((opd f).run tm) (a.eval f):=ht f (by rw [ho];simp [Op.operands,Call.operands,hf])
 have main:∀ u,RelT φ u (a.eval f)->(callV call hp ((getsC c.args.toList).run tm) u).all K->o.wpIn (FR r) n P a w next Q:=by
  intro u hu hk;cases u <;> first | exact False.elim hk | skip
  case fn g fst cap=>
   obtain ⟨A,C,e,hA,hC⟩:=relT_fn hu;have hk:(call [g] (appL fst (appL ((getsC c.args.toList).run tm) cap)) hp).all K:=hk;rw [appL_eq,appL_eq] at hk
   obtain ⟨g1,g2⟩:=hc.fn g _ (A++c.args.map a.eval++C) φ hp w K (by
    rw [Array.toList_append,Array.toList_append,List.append_assoc];exact (hA.imp fun _ _ q=>q.toT).append (hargs.append (hC.imp fun _ _ q=>q.toT))) hr hk
   rw [Array.append_assoc] at g1 g2;exact wp_enter hd (by simp [execOp,ho,resolve,hf,e,Deferred.ofValue,invoke,g1]) g2 hn
  case yl l=>
   obtain ⟨p,hp',e⟩:=relT_yl hu;obtain ⟨g,tmps,x,y,g1,g2⟩:=hc.yl l _ p (c.args.map a.eval) φ hp w K hp' hargs hr hk;exact wp_round hd (by simp [execOp,ho,resolve,hf,e,Deferred.ofValue,invoke,g1]) g2 hn
 cases f with
 | func g=>
  obtain ⟨g1,g2⟩:=hc.fn g _ (c.args.map a.eval) φ hp w K hargs hr hk;exact wp_enter hd (by simp [execOp,ho,resolve,hf,Act.eval,Deferred.ofValue,invoke,g1]) g2 hn
 | tmp t=>exact main _ hx hk
 | const v=>exact main _ hx hk
 | global v=>exact main _ hx hk
theorem kind_pure {o:Oper} (hk:kindO o.op=0):PrOk P o (opC P o.op):=by
 cases ho:o.op <;> rw [ho] at hk <;> first | (cases hk;done) | skip
 case move x=>exact ok_move ho
 case assign x=>exact ok_assign ho
 case pick c a b=>exact ok_pick ho
 case build t ps=>exact ok_build ho
 case nilCheck x=>exact ok_nil ho
 case binOp op t x y u=>exact ok_bin ho
 case unOp op t x=>exact ok_un ho
 case makeFunc f a b=>exact ok_makeFunc ho
 case slice t x a b c=>exact ok_slice ho
 case fieldAddr t x i=>exact ok_fieldAddr ho
 case field t x i=>exact ok_field ho
 case indexAddr t x i=>exact ok_indexAddr ho
 case index t x i=>exact ok_index ho
 case extract t i=>exact ok_extract ho
 case call c=>
  have hk:kindC c=0:=hk;show PrOk P o (oCall P c);unfold oCall;unfold kindC at hk;cases hc:c.callee with
  | value f=>rw [hc] at hk;cases hk
  | builtin b=>
   rw [hc] at hk;show PrOk P o (iteB _ _ _);cases hs:isSomeB (headA c.argTypes.toList) with
   | false=>exact failC_ok o
   | true=>
    cases b <;> first | (cases hk;done) | skip
    ·exact ok_cap ho hc hs
    ·exact ok_max ho hc (btC P c.argTypes.toList)
    ·exact ok_min ho hc (btC P c.argTypes.toList)
  | _=>exact failC_ok o
theorem kind_alloc {o:Oper} (hk:kindO o.op=1):PrOk P o (opC P o.op)∨∃ f,opC P o.op=.ge f∧AlOk P o f:=by
 cases ho:o.op <;> rw [ho] at hk <;> first | (cases hk;done) | skip
 case alloc t=>exact .inr ⟨_,rfl,ok_alloc ho⟩
 case box t x=>exact .inr ⟨_,rfl,ok_box ho⟩
 case buildSlice t n ps=>exact .inr ⟨_,rfl,ok_buildSlice ho _ rfl⟩
 case makeMap t r=>
  cases hc:oMakeMap P t r with
  | ge f=>exact .inr ⟨f,hc,ok_makeMap ho f hc⟩
  | _=>
   refine .inl ?_;show PrOk P o (oMakeMap P t r);unfold oMakeMap at hc ⊢;cases r with
   | none=>cases hc
   | some r=>
    cases hm:isMapD (ti P t).desc with
    | true=>rw [hm] at hc;cases hc
    | false=>exact failC_ok o
 case makeSlice t l c=>exact .inr ⟨_,rfl,ok_makeSlice ho _ rfl⟩
 case call c=>
  exfalso;have hk:kindC c=1:=hk;unfold kindC at hk;cases hc:c.callee <;> rw [hc] at hk <;> first | (cases hk;done) | skip
  rename_i b;cases b <;> cases hk
theorem kind_read {o:Oper} (hk:kindO o.op=2):RdOk P o (opC P o.op):=by
 cases ho:o.op <;> rw [ho] at hk <;> first | (cases hk;done) | skip
 case load t x=>exact ok_load ho
 case lookup t x k ok=>exact ok_lookup ho
 case convert s d x=>exact ok_conv ho
 case call c=>
  have hk:kindC c=2:=hk;show RdOk P o (oCall P c);unfold oCall;unfold kindC at hk;cases hc:c.callee with
  | value f=>rw [hc] at hk;cases hk
  | builtin b=>
   rw [hc] at hk;show RdOk P o (iteB _ _ _);cases hs:isSomeB (headA c.argTypes.toList) with
   | false=>exact failC_ok o
   | true=>
    cases b <;> first | (cases hk;done) | skip
    exact ok_len ho hc hs
  | _=>exact failC_ok o
theorem op_ok (o:Oper):WpOk P o (opC P o.op):=by
 by_cases hd:∃ c,o.op=.defer c
 ·obtain ⟨c,hc⟩:=hd
  rw [hc];intro r n call _ φ tm hp a w K next Q ht hr hk hn
  exact False.elim hk
 have hd:∀ c,o.op≠.defer c:=fun c q=>hd ⟨c,q⟩;by_cases h0:kindO o.op=0
 ·exact (kind_pure h0).wp hd
 by_cases h1:kindO o.op=1
 ·rcases kind_alloc (P:=P) h1 with h | ⟨f,hf,h⟩
  ·exact h.wp hd
  ·rw [hf];exact h.ge.wp hd
 by_cases h2:kindO o.op=2
 ·exact (kind_read h2).wp hd
 have fail:∀ {o:Oper},(∀ c,o.op≠.defer c)->WpOk P o failC:=fun hd=>(failC_ok _).wp hd;cases ho:o.op <;> first | exact absurd (by rw [ho];rfl) h0 | exact absurd (by rw [ho];rfl) h1 | exact absurd (by rw [ho];rfl) h2 | exact absurd ho (hd _) | exact fail hd | skip
 case store t a x=>
  cases hc:opC P (.store t a x) with
  | ge f=>exact (ok_store ho f hc).wp hd
  | _=>
   have hc':oStore P t (opd a) (opd x)=_:=hc;unfold oStore at hc';cases hm:(ti P t).kn with
   | true=>rw [hm] at hc';cases hc'
   | false=>rw [hm] at hc';rw [<- hc'];exact fail hd
 case mapUpdate t m k v=>exact (ok_upd (.inl ho) _ rfl).wp hd
 case insert t m k v=>exact (ok_upd (.inr ho) _ rfl).wp hd
 case range t x=>
  cases hc:opC P (.range t x) with
  | ge f=>exact (ok_range ho f hc).wp hd
  | _=>
   have hc':oRange P t (opd x)=_:=hc;unfold oRange at hc';cases hm:isMapD (ti P t).desc with
   | true=>rw [hm] at hc';cases hc'
   | false=>rw [hm] at hc';rw [<- hc'];exact fail hd
 case next i s=>
  cases s with
  | true=>exact fail hd
  | false=>exact (ok_next ho _ rfl).wp hd
 case entry i=>
  exact RdOk.wp hd (ok_entry ho)
 case call c=>
  show WpOk P o (oCall P c);unfold oCall;cases hc:c.callee with
  | value f=>exact call_ok ho hc
  | builtin b=>
   show WpOk P o (iteB _ _ _);cases hs:isSomeB (headA c.argTypes.toList) with
   | false=>exact fail hd
   | true=>
    show WpOk P o (oBuiltin P b _ _);have hkk:kindO o.op=kindB b:=by rw [ho];show kindC c=_;unfold kindC;rw [hc]
    cases b <;> first | exact absurd hkk h0 | exact absurd hkk h1 | exact absurd hkk h2 | skip
    case append=>exact (ok_append ho hc hs).wp hd
    case copy=>exact (ok_copy ho hc hs).wp hd
    case delete=>exact (ok_delete ho hc hs).wp hd
    case clear=>exact (ok_clear ho hc hs).wp hd
    all_goals
     intro r n call _ φ tm hp a w K next Q ht hr hk hn
     exact False.elim hk
  | _=>exact fail hd
end
end Go.Proofs.YtcilaocknhphnaaGreat.Ev
