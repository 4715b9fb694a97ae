/- Walks: tables of revisions, lists, comments, variables checked. -/
import Derived.Test.YtmhhcfceikcfbaaGreatDeK0
namespace Go.Proofs.YtmhhcfceikcfbaaGreat
open Go.RowKit
set_option maxRecDepth 100000
set_option maxHeartbeats 4000000
theorem ag (w:World) (o:Obj):Below w.heap.size w (w.alloc o):=(Below.refl _ _).alloc (Nat.le_refl _) _
theorem ai {w w':World} {g:Nat} {c:Array Value} {t:TypeId} (h:w.heap[g]? = some (.cells c t (0,0))) (hb:Below w.heap.size w w'):w'.heap[g]? = some (.cells c t (0,0)):=(hb.block g (ae h)).trans h
theorem EltS.over {b o:Nat} {v:Value} {vs:List Value} {w w':World} (h:EltS b o (v::vs) w) (hb:Below w.heap.size w w'):EltS b o (v::vs) w':=EltS.below h (World.block_lt_of_cell? _ _ (h 0 v rfl)) hb
theorem ent (F : FuncId) (fn : Func) (c : Code) (hf : Tryz.prog.funcs[F]? = some fn) (hname : (fn.name == "runtime.NumGoroutine") = false) (hb : fn.body = some c) : ∀ args w, (callFunc F args).run Tryz.prog w = .ok (.enter F args) w := by
 intro args w
 have h1 : fn.name ≠ "runtime.NumGoroutine" := by simpa using hname
 simp [callFunc,hf,h1,hb,mark]
theorem bu (l:List Int) {w:World} {g:Nat} {cs:Array Value} {t:TypeId} (h:w.heap[g]? = some (.cells cs t (0,0))) (he:cs = (l.map fun x => Value.int .i64 x).toArray) (hl:l.length≤1000):Calls Tryz.prog 46 #[.slice (some ⟨g,0,none⟩) l.length l.length] w fun e w' => e = .returned (.int .i64 (aS l))∧w = w' :=
 first46 l g l.length w (fun j x hx => (aa h j).trans (by rw [he,List.getElem?_toArray,List.getElem?_map,hx]; rfl)) hl
theorem clo105 (G:Nat→Prop) (w:World) (A:Option Addr) (c:Nat) (l:List Rev) (k:Nat) (x:Rev) (g:Nat) (hx:l[k]? = some x) (hv:Slv revP 3 w G (.slice A l.length c) l) (hb:w.heap[g]? = some (.cells #[.slice A l.length c] 41 (0,0))):Calls Tryz.prog 105 #[.int .i64 (k:Int),.pointer (some ⟨g,0,none⟩)] w (RetI x.1 w):=by
 obtain ⟨b1,o1,vs,rfl,_,hbw,_,hRx,hcs⟩:=hv.at k x hx
 have hE:EltS b1 (o1 + k * 3) vs w:=hcs
 obtain ⟨x0,x1,x2⟩:=x
 obtain ⟨rfl,_⟩:=hRx
 have e0:=hE 0 _ rfl
 simp only [Nat.add_zero] at e0
 have c0:=aa hb 0
 obtain ⟨n,hn⟩:=gX (l.length)
 rw [<- hn] at c0
 have hkn:(k:Int) < (n:Int):=by have:=(List.getElem?_eq_some_iff.1 hx).1; omega
 clear hv hcs hE hb hx hn
 go_enter Tryz.func105,Tryz.ntmps105
 go_wp2_with fail
 go_ret
 exact ⟨rfl,Below.refl _ _⟩
theorem clo177 (G:Nat→Prop) (w:World) (A:Option Addr) (c:Nat) (l:List Lst) (k:Nat) (x:Lst) (g:Nat) (hx:l[k]? = some x) (hv:Slv lstP 2 w G (.slice A l.length c) l) (hb:w.heap[g]? = some (.cells #[.slice A l.length c] 43 (0,0))):Calls Tryz.prog 177 #[.int .i64 (k:Int),.pointer (some ⟨g,0,none⟩)] w (RetI x.1 w):=by
 obtain ⟨b1,o1,vs,rfl,_,hbw,_,hRx,hcs⟩:=hv.at k x hx
 have hE:EltS b1 (o1 + k * 2) vs w:=hcs
 obtain ⟨x0,x1⟩:=x
 obtain ⟨pv,rfl,_,_⟩:=hRx
 have e0:=hE 0 _ rfl
 simp only [Nat.add_zero] at e0
 have c0:=aa hb 0
 obtain ⟨n,hn⟩:=gX (l.length)
 rw [<- hn] at c0
 have hkn:(k:Int) < (n:Int):=by have:=(List.getElem?_eq_some_iff.1 hx).1; omega
 clear hv hcs hE hb hx hn
 go_enter Tryz.func177,Tryz.ntmps177
 go_wp2_with fail
 go_ret
 exact ⟨rfl,Below.refl _ _⟩
theorem clo182 (G:Nat→Prop) (w:World) (A:Option Addr) (c:Nat) (l:List Cmt) (k:Nat) (x:Cmt) (g:Nat) (hx:l[k]? = some x) (hv:Slv cmtP 6 w G (.slice A l.length c) l) (hb:w.heap[g]? = some (.cells #[.slice A l.length c] 44 (0,0))):Calls Tryz.prog 182 #[.int .i64 (k:Int),.pointer (some ⟨g,0,none⟩)] w (RetI x.1 w):=by
 obtain ⟨b1,o1,vs,rfl,_,hbw,_,hRx,hcs⟩:=hv.at k x hx
 have hE:EltS b1 (o1 + k * 6) vs w:=hcs
 obtain ⟨x0,x1,x2,x3,x4,x5⟩:=x
 obtain ⟨rfl,_⟩:=hRx
 have e0:=hE 0 _ rfl
 simp only [Nat.add_zero] at e0
 have c0:=aa hb 0
 obtain ⟨n,hn⟩:=gX (l.length)
 rw [<- hn] at c0
 have hkn:(k:Int) < (n:Int):=by have:=(List.getElem?_eq_some_iff.1 hx).1; omega
 clear hv hcs hE hb hx hn
 go_enter Tryz.func182,Tryz.ntmps182
 go_wp2_with fail
 go_ret
 exact ⟨rfl,Below.refl _ _⟩
def allR (f:Nat→Int):Nat→Nat→Int
 | 0,_ => 0
 | k + 1,i => if f i≠0 then f i else allR f k (i + 1)
theorem allB (F:FuncId) (lb:Array Value) (hent:∀ args w,(callFunc F args).run Tryz.prog w = .ok (.enter F args) w) (n:Nat) (hn:n≤9223372036854775807) (f:Nat→Int) (w:World)
  (hC:∀ i,i < n→∀ W,Below w.heap.size w W→Calls Tryz.prog F (#[.int .i64 (i:Int)]++lb) W (RetI (f i) W)):Calls Tryz.prog 102 #[.int .i64 (n:Int),.func (.func F) #[] lb] w (RetI (allR f n 0) w):=by
 refine (all102 F lb hent n hn (allR f n 0) (fun i W => Below w.heap.size w W∧i≤n∧allR f n 0 = allR f (n - i) i) (fun W => Below w.heap.size w W) w ⟨Below.refl _ _,Nat.zero_le _,rfl⟩ (fun i hi W hI => ?_) (fun W hI => ⟨by rw [hI.2.2,Nat.sub_self]; rfl,hI.1⟩)).mono (fun e w' h => h)
 refine (hC i hi W hI.1).mono ?_
 rintro e w' ⟨rfl,hb⟩
 have h1:allR f (n - i) i = if f i≠0 then f i else allR f (n - (i + 1)) (i + 1):=by
  rw [show n - i = (n - (i + 1)) + 1 by omega]
  rfl
 refine ⟨f i,rfl,?_⟩
 by_cases h:f i = 0
 ·exact .inr ⟨h,hI.1.trans (hb.mono hI.1.size),by omega,by rw [hI.2.2,h1,if_neg (fun q => q h)]⟩
 exact .inl ⟨h,by rw [hI.2.2,h1,if_pos h],hI.1.trans (hb.mono hI.1.size)⟩
def incL (L:List Int) (i:Nat):Int:=incE (fun k => L.getD k 0) i
theorem incB (F:FuncId) (g:Nat) (hent:∀ args w,(callFunc F args).run Tryz.prog w = .ok (.enter F args) w) (L:List Int) (i:Nat) (hi:i < L.length) (hl:L.length≤9223372036854775807) (w:World)
  (hC:∀ (k:Nat) (y:Int),L[k]? = some y→∀ W,Below w.heap.size w W→Calls Tryz.prog F #[.int .i64 (k:Int),.pointer (some ⟨g,0,none⟩)] W (RetI y W)):Calls Tryz.prog 104 #[.int .i64 (i:Int),.func (.func F) #[] #[.pointer (some ⟨g,0,none⟩)]] w (RetI (incL L i) w) :=
 inc104 F _ hent (fun k => L.getD k 0) i (by omega) w (fun k hk W hW => by
  have h1:L[k]? = some (L.getD k 0):=by rw [List.getD_eq_getElem?_getD,List.getElem?_eq_getElem (by omega)]; rfl
  exact hC k _ h1 W hW)
theorem mem_le {α:Type} {e:α→List Nat} {l:List α} {x:α} (hx:x∈l):(e x).length≤(ak e l).length:=by
 unfold ak
 rw [List.length_append]
 have h:(e x).length≤(l.flatMap e).length:=by
  induction l with
  | nil => simp at hx
  | cons y r ih =>
   rw [List.flatMap_cons,List.length_append]
   rcases List.mem_cons.1 hx with rfl | h
   ·omega
   have:=ih h; omega
 omega
theorem strE_le (s:ByteArray):s.size≤(strE s).length:=by
 unfold strE textE
 rw [List.length_append,aE]
 omega
def orE (b:Bool) (x:Int):Int:=if b then x else 0
def revT (l:List Rev) (i:Nat):Int:=match l[i]? with
 | some x => aS [incL (l.map (·.1)) i,orE (!authB x.2.1) 39,orE (!(decide (0≤x.2.2) && decide (x.2.2≤1099511627776))) 40]
 | none => 0
def revsT (l:List Rev):Int:=aS [orE (decide (256 < l.length)) 9,allR (revT l) (min l.length 256) 0]
theorem clo103 (G:Nat→Prop) (w:World) (A:Option Addr) (c:Nat) (l:List Rev) (i:Nat) (g:Nat) (hi:i < l.length) (hv:Slv revP 3 w G (.slice A l.length c) l) (hG:∀ b,G b→b < w.heap.size) (hz:(ak revE l).length≤1048576000) (hb:w.heap[g]? = some (.cells #[.slice A l.length c] 41 (0,0))):Calls Tryz.prog 103 #[.int .i64 (i:Int),.pointer (some ⟨g,0,none⟩)] w (RetI (revT l i) w):=by
 obtain ⟨V,hV⟩:=gX (revT l i)
 rw [<- hV]
 obtain ⟨x,hx⟩:∃ x,l[i]? = some x:=⟨_,List.getElem?_eq_getElem hi⟩
 unfold revT at hV
 rw [hx] at hV
 simp only at hV
 have hsz:x.2.1.size≤1048576000:=by
  have h1:=mem_le (e:=revE) (List.mem_of_getElem? hx)
  have h2:(strE x.2.1).length≤(revE x).length:=by simp only [revE,seqE,List.length_append]; omega
  have:=strE_le x.2.1
  omega
 obtain ⟨b1,o1,vs,rfl,hgb,hbw,_,hRx,hcs⟩:=hv.at i x hx
 have hE:EltS b1 (o1 + i * 3) vs w:=hcs
 obtain ⟨hlen,hcm⟩:l.length≤c∧c≤maxLen:=by obtain ⟨A',c',hv',h1,h2,_⟩:=hv; cases hv'; exact ⟨h1,h2⟩
 unfold maxLen at hcm
 have HV:=qH hv
 obtain ⟨x0,x1,x2⟩:=x
 obtain ⟨rfl,_⟩:=hRx
 simp only at hV hsz
 obtain ⟨n,hn⟩:=gX (l.length)
 have hin:(i:Int) < (n:Int):=by omega
 have HG:=qH hG
 have C1:Hid (∀ W,Below w.heap.size w W→Calls Tryz.prog 104 #[.int .i64 (i:Int),.func (.func 105) #[] #[.pointer (some ⟨g,0,none⟩)]] W (RetI (incL (l.map (·.1)) i) W)):=qH (fun W hW => incB 105 g (ent 105 _ _ Tryz.func105 (by kernel_rfl) rfl) (l.map (·.1)) i (by simpa using hi) (by rw [List.length_map]; omega) W (fun k y hy W' hW' => by
  rw [List.getElem?_map] at hy
  obtain ⟨z,hz,rfl⟩:=Option.map_eq_some_iff.1 hy
  have hww:=hW.trans (hW'.mono hW.size)
  exact clo105 G W' _ c l k z g hz (HV.out.below bg HG.out hww) ((hww.block g (ae hb)).trans hb)))
 obtain ⟨E1,hE1⟩:=gX (incL (l.map (·.1)) i)
 rw [<- hE1] at hV C1
 obtain ⟨ab,hab⟩:=gX (authB x1)
 have C2:Hid (∀ W,Calls Tryz.prog 106 #[.string x1] W (RetB ab W)):=qH (fun W => by rw [hab]; exact author106 x1 W hsz)
 obtain ⟨ib,hib⟩:=gX ((decide (0≤x2) && decide (x2≤1099511627776)))
 have C3:Hid (∀ W,Calls Tryz.prog 107 #[.int .i64 x2,.int .i64 0,.int .i64 1099511627776] W fun e w' => e = .returned (.bool ib)∧W = w'):=qH (fun W => by rw [hib]; exact in107 x2 0 1099511627776 W)
 rw [<- hab,<- hib] at hV
 obtain ⟨E2,hE2⟩:=gX (orE (!ab) 39)
 obtain ⟨E3,hE3⟩:=gX (orE (!ib) 40)
 have C4:Hid (∀ W,Calls Tryz.prog 51 #[.bool (!ab),.int .i64 39] W fun e w' => e = .returned (.int .i64 E2)∧W = w'):=qH (fun W => by rw [hE2]; exact bo (!ab) 39 W)
 have C5:Hid (∀ W,Calls Tryz.prog 51 #[.bool (!ib),.int .i64 40] W fun e w' => e = .returned (.int .i64 E3)∧W = w'):=qH (fun W => by rw [hE3]; exact bo (!ib) 40 W)
 rw [<- hE2,<- hE3] at hV
 have HF:=qH hV
 rw [<- hn] at hb
 have HB:=qH (Below.refl w.heap.size w)
 clear hV hE1 hab hib hE2 hE3 hx hv hcs hn hsz hG
 go_enter Tryz.func103,Tryz.ntmps103
 go_upto_region 1 with fail
 replace hb:w.drew.heap[g]? = some (.cells #[.slice (some ⟨b1,o1,none⟩) n c] 41 (0,0)):=hb
 replace hE:EltS b1 (o1 + i * 3) [.int .i64 x0,.string x1,.int .i64 x2] w.drew:=hE
 replace HB:=qH HB.out.drew
 refine ao (S:=fun w' => w'.heap[g]? = some (.cells #[.slice (some ⟨b1,o1,none⟩) n c] 41 (0,0))∧EltS b1 (o1 + i * 3) [.int .i64 x0,.string x1,.int .i64 x2] w') [(true,0),(true,1),(true,3),(true,4),(true,5),(true,6),(true,7),(true,11),(true,12),(true,13),(true,14),(true,15),(false,2),(false,8),(true,9),(false,10),(false,16),(true,17),(false,18),(false,19),(false,20),(true,21)] (by kernel_rfl) (by kernel_rfl) ⟨hb,hE⟩ ?_
 simp only [aO,List.getElem?_cons_succ,List.getElem?_cons_zero]
 refine sq2i (i:Int) ?_
 refine sq2 (.func (.func 105) #[] #[.pointer (some ⟨g,0,none⟩)]) ?_
 refine sq2 (.slice (some ⟨b1,o1,none⟩) n c) ?_ (fun w' hS => by have q0:=aa hS.1 0; go_simp)
 refine sq2i (i:Int) ?_
 refine sq2p b1 (o1 + i * 3) ?_
 refine sq2p b1 (o1 + i * 3 + 1) ?_
 refine sq2 (.string x1) ?_ (fun w' hS => by have q0:=hS.2 1 _ rfl; go_simp)
 refine sq2 (.slice (some ⟨b1,o1,none⟩) n c) ?_ (fun w' hS => by have q0:=aa hS.1 0; go_simp)
 refine sq2i (i:Int) ?_
 refine sq2p b1 (o1 + i * 3) ?_
 refine sq2p b1 (o1 + i * 3 + 2) ?_
 refine sq2i x2 ?_ (fun w' hS => by have q0:=hS.2 2 _ rfl; go_simp)
 refine af 104 #[.int .i64 (i:Int),.func (.func 105) #[] #[.pointer (some ⟨g,0,none⟩)]] (by go_simp) ?_
 refine Calls.mono (C1.out _ HB.out) ?_
 rintro e wp1 ⟨rfl,hbp1⟩
 replace hb:=ai hb hbp1
 replace hE:=EltS.over hE hbp1
 replace HB:=qH (HB.out.trans (hbp1.mono HB.out.size))
 clear hbp1
 refine ⟨_,rfl,⟨hb,hE⟩,?_⟩
 simp only [Act.put,PutA,PutZ,PutS]
 refine af 106 #[.string x1] (by go_simp) ?_
 refine Calls.mono (C2.out _) ?_
 rintro e wp2 ⟨rfl,hbp2⟩
 replace hb:=ai hb hbp2
 replace hE:=EltS.over hE hbp2
 replace HB:=qH (HB.out.trans (hbp2.mono HB.out.size))
 clear hbp2
 refine ⟨_,rfl,⟨hb,hE⟩,?_⟩
 simp only [Act.put,PutA,PutZ,PutS]
 refine sq2 (.bool (!ab)) ?_
 refine af 51 #[.bool (!ab),.int .i64 39] (by go_simp) ?_
 refine Calls.mono (C4.out _) ?_
 rintro e wp3 ⟨rfl,rfl⟩
 refine ⟨_,rfl,⟨hb,hE⟩,?_⟩
 simp only [Act.put,PutA,PutZ,PutS]
 refine af 107 #[.int .i64 x2,.int .i64 0,.int .i64 1099511627776] (by go_simp) ?_
 refine Calls.mono (C3.out _) ?_
 rintro e wp4 ⟨rfl,rfl⟩
 refine ⟨_,rfl,⟨hb,hE⟩,?_⟩
 simp only [Act.put,PutA,PutZ,PutS]
 refine sq2 (.bool (!ib)) ?_
 refine af 51 #[.bool (!ib),.int .i64 40] (by go_simp) ?_
 refine Calls.mono (C5.out _) ?_
 rintro e wp5 ⟨rfl,rfl⟩
 refine ⟨_,rfl,⟨hb,hE⟩,?_⟩
 simp only [Act.put,PutA,PutZ,PutS]
 refine au (.slice (some ⟨wp2.heap.size,0,none⟩) 3 3) (wp2.alloc (.cells #[.int .i64 E1,.int .i64 E2,.int .i64 E3] 23)) (by go_simp) ?_ ?_
 ·exact ⟨ai hb (ag wp2 _),EltS.over hE (ag wp2 _)⟩
 have hnp6:(wp2.alloc (.cells #[.int .i64 E1,.int .i64 E2,.int .i64 E3] 23)).heap[wp2.heap.size]? = some (.cells #[.int .i64 E1,.int .i64 E2,.int .i64 E3] 23 (0,0)):=heap_alloc_new _ _
 have hbp6:=ag wp2 (.cells #[.int .i64 E1,.int .i64 E2,.int .i64 E3] 23)
 obtain ⟨wp6,hwp6⟩:=gX (wp2.alloc (.cells #[.int .i64 E1,.int .i64 E2,.int .i64 E3] 23))
 obtain ⟨gp6,hgp6⟩:=gX (wp2.heap.size)
 rw [<- hwp6] at hnp6 hbp6 ⊢
 rw [<- hgp6] at hnp6 ⊢
 replace hb:=ai hb hbp6
 replace hE:=EltS.over hE hbp6
 replace HB:=qH (HB.out.trans (hbp6.mono HB.out.size))
 clear hwp6 hgp6 hbp6
 simp only [Act.put,PutA,PutZ,PutS]
 refine af 46 #[.slice (some ⟨gp6,0,none⟩) 3 3] (by go_simp) ?_
 refine Calls.mono (bu [E1,E2,E3] hnp6 rfl (by simp)) ?_
 rintro e wp7 ⟨rfl,rfl⟩
 refine ⟨_,rfl,⟨hb,hE⟩,?_⟩
 simp only [Act.put,PutA,PutZ,PutS]
 refine sq2i (aS [E1,E2,E3]) ?_
 refine ad ?_
 clear hE hb
 go_wp2_with fail
 go_ret
 exact ⟨by rw [HF.out]; rfl,HB.out⟩
theorem tab48 (G:Nat→Prop) (w:World) (v:Value) (l:List Rev) (hv:Slv revP 3 w G v l) (hG:∀ b,G b→b < w.heap.size) (hz:(ak revE l).length≤1048576000):Calls Tryz.prog 48 #[v] w (RetI (revsT l) w):=by
 obtain ⟨V,hV⟩:=gX (revsT l)
 rw [<- hV]
 unfold revsT at hV
 obtain ⟨A,c,rfl,hlc,hcm⟩:=hv.shape
 unfold maxLen at hcm
 obtain ⟨N,hN⟩:=gX (w.heap.size)
 obtain ⟨W,hW⟩:=gX (w.alloc (.cells #[.slice A l.length c] 41))
 have hb:W.heap[N]? = some (.cells #[.slice A l.length c] 41 (0,0)):=by rw [hW,hN]; exact heap_alloc_new w _
 have hB:Below w.heap.size w W:=by rw [hW]; exact ag w _
 have HVV:=qH hv
 have HGG:=qH hG
 have Hbb:=qH hb
 have C1:Hid (∀ X,Below W.heap.size W X→Calls Tryz.prog 102 #[.int .i64 ((min l.length 256:Nat):Int),.func (.func 103) #[] #[.pointer (some ⟨N,0,none⟩)]] X (RetI (allR (revT l) (min l.length 256) 0) X)):=qH (fun X hX => allB 103 _ (ent 103 _ _ Tryz.func103 (by kernel_rfl) rfl) (min l.length 256) (by omega) (revT l) X (fun i hi Y hY => by
  have hXY:=hX.trans (hY.mono hX.size)
  have hwY:=hB.trans (hXY.mono hB.size)
  exact clo103 G Y A c l i N (by omega) (HVV.out.below bg HGG.out hwY) (fun b h => Nat.lt_of_lt_of_le (HGG.out b h) hwY.size) hz (ai Hbb.out hXY)))
 obtain ⟨n,hn⟩:=gX (l.length)
 obtain ⟨E2,hE2⟩:=gX (allR (revT l) (min l.length 256) 0)
 rw [<- hE2] at C1 hV
 rw [<- hn] at C1 hV hb hW ⊢
 obtain ⟨E1,hE1⟩:=gX (orE (decide (256 < n)) 9)
 have C2:Hid (∀ W,Calls Tryz.prog 51 #[.bool (decide ((256:Int) < (n:Int))),.int .i64 9] W fun e w' => e = .returned (.int .i64 E1)∧W = w'):=qH (fun W => by
  rw [show decide ((256:Int) < (n:Int)) = decide (256 < n) by by_cases h:256 < n <;> simp [h] <;> omega,hE1]
  exact bo _ 9 W)
 rw [<- hE1] at hV
 obtain ⟨m,hm⟩:=gX (min n 256)
 rw [<- hm] at C1
 have emin:(if (256:Int) < (n:Int) then (256:Int) else (n:Int)) = (m:Int):=by split <;> omega
 have HF:=qH hV
 have HW:=qH hW
 have HN:=qH hN
 have HB:=qH hB
 have HB0:=qH (Below.refl W.heap.size W)
 clear hV hE1 hE2 hm hn hW hN hB hv hG hz
 go_enter Tryz.func48,Tryz.ntmps48
 go_upto_region 1 with fail
 rw [<- HW.out,<- HN.out]
 replace hb:W.drew.heap[N]? = some (.cells #[.slice A n c] 41 (0,0)):=hb
 replace HB0:=qH HB0.out.drew
 refine ao (S:=fun w' => w'.heap[N]? = some (.cells #[.slice A n c] 41 (0,0))) [(true,0),(true,1),(true,2),(true,4),(true,5),(true,6),(true,7),(false,3),(false,8),(false,9),(false,10),(true,11)] (by kernel_rfl) (by kernel_rfl) hb ?_
 simp only [aO,List.getElem?_cons_succ,List.getElem?_cons_zero]
 refine sq2 (.slice A n c) ?_ (fun w' hS => by have q0:=aa hS 0; go_simp)
 refine sq2i (n:Int) ?_
 refine sq2 (.bool (decide ((256:Int) < (n:Int)))) ?_
 refine sq2 (.slice A n c) ?_ (fun w' hS => by have q0:=aa hS 0; go_simp)
 refine sq2i (n:Int) ?_
 refine sq2i (m:Int) ?_
 refine sq2 (.func (.func 103) #[] #[.pointer (some ⟨N,0,none⟩)]) ?_
 refine af 51 #[.bool (decide ((256:Int) < (n:Int))),.int .i64 9] (by go_simp) ?_
 refine Calls.mono (C2.out _) ?_
 rintro e wp1 ⟨rfl,rfl⟩
 refine ⟨_,rfl,hb,?_⟩
 simp only [Act.put,PutA,PutZ,PutS]
 refine af 102 #[.int .i64 (m:Int),.func (.func 103) #[] #[.pointer (some ⟨N,0,none⟩)]] (by go_simp) ?_
 refine Calls.mono (C1.out _ HB0.out) ?_
 rintro e wp2 ⟨rfl,hbp2⟩
 replace hb:=ai hb hbp2
 replace HB0:=qH (HB0.out.trans (hbp2.mono HB0.out.size))
 clear hbp2
 refine ⟨_,rfl,hb,?_⟩
 simp only [Act.put,PutA,PutZ,PutS]
 refine au (.slice (some ⟨wp2.heap.size,0,none⟩) 2 2) (wp2.alloc (.cells #[.int .i64 E1,.int .i64 E2] 23)) (by go_simp) ?_ ?_
 ·exact ai hb (ag wp2 _)
 have hnp3:(wp2.alloc (.cells #[.int .i64 E1,.int .i64 E2] 23)).heap[wp2.heap.size]? = some (.cells #[.int .i64 E1,.int .i64 E2] 23 (0,0)):=heap_alloc_new _ _
 have hbp3:=ag wp2 (.cells #[.int .i64 E1,.int .i64 E2] 23)
 obtain ⟨wp3,hwp3⟩:=gX (wp2.alloc (.cells #[.int .i64 E1,.int .i64 E2] 23))
 obtain ⟨gp3,hgp3⟩:=gX (wp2.heap.size)
 rw [<- hwp3] at hnp3 hbp3 ⊢
 rw [<- hgp3] at hnp3 ⊢
 replace hb:=ai hb hbp3
 replace HB0:=qH (HB0.out.trans (hbp3.mono HB0.out.size))
 clear hwp3 hgp3 hbp3
 simp only [Act.put,PutA,PutZ,PutS]
 refine af 46 #[.slice (some ⟨gp3,0,none⟩) 2 2] (by go_simp) ?_
 refine Calls.mono (bu [E1,E2] hnp3 rfl (by simp)) ?_
 rintro e wp4 ⟨rfl,rfl⟩
 refine ⟨_,rfl,hb,?_⟩
 simp only [Act.put,PutA,PutZ,PutS]
 refine sq2i (aS [E1,E2]) ?_
 refine ad ?_
 clear hb
 go_wp2_with fail
 go_ret
 exact ⟨by rw [HF.out]; rfl,HB.out.trans (HB0.out.mono HB.out.size)⟩
end Go.Proofs.YtmhhcfceikcfbaaGreat
