/- Maps of ids; walks: ids of styles, lists, revisions asked for. -/
import Derived.Maps.Own
import Derived.Maps.OwnOps
import Derived.BigQuiet
import Derived.Test.YtmhhcfceikcfbaaGreatDcG2
namespace Go.Proofs.YtmhhcfceikcfbaaGreat
open Go.RowKit Go.MapKept
set_option maxRecDepth 100000
set_option maxHeartbeats 4000000
open Go.ChangeMaps (setBlock heap_setBlock_same heap_setBlock_other)
set_option maxRecDepth 100000
set_option maxHeartbeats 4000000
def aS (f:Int→Option Value) (b:Nat) (w:World):Prop :=
 ∃ es clock,w.heap[b]? = some (.map es clock)∧(es.toList.map (·.key)).Nodup∧(∀ e∈es.toList,∃ x,e.key = .int .i64 x∧f x = some e.val)∧∀ x v,f x = some v→∃ e∈es.toList,e.key = .int .i64 x
def setF (S:Int→Bool):Int→Option Value:=fun x => if S x then some (.bool true) else none
def numF (f:Int→Option Int):Int→Option Value:=fun x => (f x).map (Value.int .i64)
def aO (S:Int→Bool) (b:Nat) (w:World):Prop:=aS (setF S) b w
def aY (f:Int→Option Int) (b:Nat) (w:World):Prop:=aS (numF f) b w
def putF {α:Type} (f:Int→α) (x:Int) (v:α):Int→α:=fun y => if y = x then v else f y
theorem funAt_new (w:World):aS (fun _ => none) w.heap.size (w.alloc (.map #[] 0)):=⟨#[],0,(heap_alloc w _).1,by simp,by simp,by intro x v h; cases h⟩
theorem aS.lt {f:Int→Option Value} {b:Nat} {w:World} (h:aS f b w):b < w.heap.size:=by
 obtain ⟨es,clock,hb,_⟩:=h
 exact (Array.getElem?_eq_some_iff.1 hb).1
theorem aS.kept {f:Int→Option Value} {b:Nat} {w w':World} (h:aS f b w) (he:w'.heap[b]? = w.heap[b]?):aS f b w':=by
 obtain ⟨es,clock,h1,h2⟩:=h
 exact ⟨es,clock,he.trans h1,h2⟩
theorem aS.over {f:Int→Option Value} {b:Nat} {w w':World} (h:aS f b w) (hb:Below w.heap.size w w'):aS f b w':=h.kept (hb.block b h.lt)
theorem aS.find {f:Int→Option Value} {b:Nat} {w:World} (h:aS f b w) (x:Int):∃ es clock,w.heap[b]? = some (.map es clock)∧(es.toList.map (·.key)).Nodup∧(∀ e∈es.toList,∃ x,e.key = .int .i64 x∧f x = some e.val)∧(∀ x v,f x = some v→∃ e∈es.toList,e.key = .int .i64 x) ∧
  ((Instr.findKey 3 (.int .i64 x) es.toList).run Tryz.prog w = .ok none w∧f x = none∧(∀ e∈es.toList,e.key≠.int .i64 x)∨∃ j e,(Instr.findKey 3 (.int .i64 x) es.toList).run Tryz.prog w = .ok (some (j,e.val)) w∧es[j]? = some e∧e.key = .int .i64 x∧f x = some e.val):=by
 obtain ⟨es,clock,hb,h0,h1,h2⟩:=h
 refine ⟨es,clock,hb,h0,h1,h2,?_⟩
 have hk:Tryz.prog.underlying 3 = some (.int .i64):=Tryz.underlying3
 have hks:∀ y∈es.toList,IsKey (.int .i64) y.key:=fun y hy => by
  obtain ⟨z,hz,_⟩:=h1 y hy
  rw [hz]; rfl
 rcases findNow_spec (d:=.int .i64) (k:=.int .i64 x) rfl es.toList 0 hks with ⟨f1,f2⟩ | ⟨j,e0,f1,f2,f3⟩
 ·refine .inl ⟨run_findKey hk f1,?_,f2⟩
  cases hx:f x with
  | none => rfl
  | some v =>
   obtain ⟨e,he,hek⟩:=h2 x v hx
   exact absurd hek (f2 e he)
 obtain ⟨z,hz,hzv⟩:=h1 e0 (List.mem_of_getElem? f2)
 have hzz:=hz
 rw [f3] at hz
 injection hz with _ hz
 subst hz
 refine .inr ⟨j,e0,?_,by simpa using f2,f3,hzv⟩
 simpa using run_findKey (w:=w) hk f1
theorem aS.look {f:Int→Option Value} {b:Nat} {w:World} {t e:TypeId} {z:Value} (h:aS f b w) (ht:Tryz.prog.underlying t = some (.map 3 e)) (hz:(zeroValue e).run Tryz.prog w = .ok z w) (x:Int) :
  (Instr.lookup t (.map (some b)) (.int .i64 x) false).run Tryz.prog w = .ok ((f x).getD z) w:=by
 obtain ⟨es,clock,hb,_,_,_,hf⟩:=h.find x
 have hch:∀ em,(Instr.checkKey em 10000 3 (.int .i64 x)).run Tryz.prog w = .ok () w:=fun em => run_checkKey Tryz.underlying3 (show IsKey (.int .i64) (.int .i64 x) from rfl) em 9999
 rcases hf with ⟨h1,h2,_⟩ | ⟨j,e0,h1,_,_,h2⟩
 ·simp [Instr.lookup,run_underlying ht,MapKept.run_getObj_map hb,hch,h1,hz,Result.andThen,h2]
 simp [Instr.lookup,run_underlying ht,MapKept.run_getObj_map hb,hch,h1,Result.andThen,h2]
theorem aS.update {f:Int→Option Value} {b:Nat} {w:World} {t e:TypeId} (h:aS f b w) (ht:Tryz.prog.underlying t = some (.map 3 e)) (x:Int) (v:Value) :
  ∃ w',(Instr.mapUpdate t (.map (some b)) (.int .i64 x) v).run Tryz.prog w = .ok () w'∧aS (putF f x (some v)) b w'∧w.grownBy w' (some b):=by
 obtain ⟨es,clock,hb,g0,g1,g2,hf⟩:=h.find x
 have hch:∀ em,(Instr.checkKey em 10000 3 (.int .i64 x)).run Tryz.prog w = .ok () w:=fun em => run_checkKey Tryz.underlying3 (show IsKey (.int .i64) (.int .i64 x) from rfl) em 9999
 rcases hf with ⟨h1,h2,h3⟩ | ⟨j,e0,h1,hj,h3,h2⟩
 ·refine ⟨setBlock w b (.map (es.push ⟨.int .i64 x,v,clock⟩) (clock + 1)),?_,⟨_,_,heap_setBlock_same hb _,?_,?_,?_⟩,⟨rfl,rfl,rfl,by simp [setBlock],fun i _ hi => heap_setBlock_other hb _ (fun e => hi (by rw [e]))⟩⟩
  ·simp [Instr.mapUpdate,run_underlying ht,MapKept.run_getObj_map hb,hch,h1,MapKept.run_setObj_map _ hb,Result.andThen,setBlock]
  ·rw [Array.toList_push,List.map_append,List.nodup_append]
   refine ⟨g0,by simp,?_⟩
   intro a ha b hb
   obtain ⟨y,hy,rfl⟩:=List.mem_map.1 ha
   simp only [List.map_cons,List.map_nil,List.mem_singleton] at hb
   rw [hb]
   exact h3 y hy
  ·intro e' he'
   simp only [Array.toList_push,List.mem_append,List.mem_singleton] at he'
   rcases he' with he' | rfl
   ·obtain ⟨z,z1,z2⟩:=g1 e' he'
    refine ⟨z,z1,?_⟩
    unfold putF
    rw [if_neg (fun q => h3 e' he' (by rw [z1,q]))]
    exact z2
   exact ⟨x,rfl,by unfold putF; rw [if_pos rfl]⟩
  intro z u hz
  unfold putF at hz
  by_cases hzx:z = x
  ·exact ⟨_,by simp; exact .inr rfl,by rw [hzx]⟩
  rw [if_neg hzx] at hz
  obtain ⟨e',he',hk'⟩:=g2 z u hz
  exact ⟨e',by simp; exact .inl (by simpa using he'),hk'⟩
 have hst:(Instr.keyThatStays (.int .i64 x) (.int .i64 x)).run Tryz.prog w = .ok (.int .i64 x) w:=run_keyThatStays (d:=.int .i64) (show IsKey (.int .i64) (.int .i64 x) from rfl)
 have hjl:es.toList[j]? = some e0:=by simpa using hj
 have hlist:(es.modify j (fun e' => { e' with key:=.int .i64 x,val:=v })).toList = es.toList.set j { e0 with key:=.int .i64 x,val:=v }:=by rw [Array.toList_modify,Go.ChangeMaps.modify_eq_set _ _ _ _ hjl]
 have hkeys:(es.toList.set j { e0 with key:=.int .i64 x,val:=v }).map (·.key) = es.toList.map (·.key):=by
  rw [List.map_set]
  refine List.ext_getElem? (fun i => ?_)
  rw [List.getElem?_set]
  split
  ·rename_i hij
   subst hij
   rw [List.getElem?_map,hjl]
   have:j < es.toList.length:=(List.getElem?_eq_some_iff.1 hjl).1
   simp [h3]
   simpa using this
  rfl
 have who:∀ y∈es.toList.set j { e0 with key:=.int .i64 x,val:=v },y = { e0 with key:=.int .i64 x,val:=v }∨(y∈es.toList∧y.key≠.int .i64 x):=by
  intro y hy
  obtain ⟨i,hi,ey⟩:=List.getElem_of_mem hy
  rw [List.getElem_set] at ey
  split at ey
  ·exact .inl ey.symm
  rename_i hne
  have hi':i < es.toList.length:=by simpa using hi
  have hjl':j < es.toList.length:=(List.getElem?_eq_some_iff.1 hjl).1
  refine .inr ⟨ey ▸ List.getElem_mem hi',fun q => hne ?_⟩
  have h7:es.toList[j] = e0:=by
   have:=List.getElem?_eq_getElem hjl'
   rw [hjl] at this
   exact (Option.some.inj this).symm
  have h5:=List.pairwise_iff_getElem.1 g0
  have hk:es.toList[i].key = es.toList[j].key:=by rw [h7,h3,show es.toList[i] = y from ey,q]
  rcases Nat.lt_trichotomy i j with h | h | h
  ·exact absurd (by rw [List.getElem_map,List.getElem_map]; exact hk) (h5 i j (by simpa using hi') (by simpa using hjl') h)
  ·exact h.symm
  exact absurd (by rw [List.getElem_map,List.getElem_map]; exact hk.symm) (h5 j i (by simpa using hjl') (by simpa using hi') h)
 refine ⟨setBlock w b (.map (es.modify j fun e' => { e' with key:=.int .i64 x,val:=v }) clock),?_,⟨_,_,heap_setBlock_same hb _,?_,?_,?_⟩,⟨rfl,rfl,rfl,by simp [setBlock],fun i _ hi => heap_setBlock_other hb _ (fun e => hi (by rw [e]))⟩⟩
 ·simp [Instr.mapUpdate,run_underlying ht,MapKept.run_getObj_map hb,hch,h1,hj,h3,hst,MapKept.run_setObj_map _ hb,Result.andThen,setBlock]
 ·rw [hlist,hkeys]
  exact g0
 ·intro e' he'
  rw [hlist] at he'
  rcases who e' he' with rfl | ⟨he2,hne⟩
  ·exact ⟨x,rfl,by unfold putF; rw [if_pos rfl]⟩
  obtain ⟨z,z1,z2⟩:=g1 e' he2
  refine ⟨z,z1,?_⟩
  unfold putF
  rw [if_neg (fun q => hne (by rw [z1,q]))]
  exact z2
 intro z u hz
 rw [hlist]
 unfold putF at hz
 by_cases hzx:z = x
 ·exact ⟨{ e0 with key:=.int .i64 x,val:=v },List.mem_iff_getElem.2 ⟨j,by simpa using (List.getElem?_eq_some_iff.1 hjl).1,by simp⟩,by rw [hzx]⟩
 rw [if_neg hzx] at hz
 obtain ⟨e',he',hk'⟩:=g2 z u hz
 obtain ⟨i,hi,ei⟩:=List.getElem_of_mem he'
 have hij:j≠i:=fun q => by
  subst q
  have h7:es.toList[j] = e0:=by
   have:=List.getElem?_eq_getElem hi
   rw [hjl] at this
   exact (Option.some.inj this).symm
  rw [h7] at ei
  rw [<- ei,h3] at hk'
  injection hk' with _ hk'
  exact hzx hk'.symm
 exact ⟨e',List.mem_iff_getElem.2 ⟨i,by simpa using hi,by rw [List.getElem_set_ne hij]; exact ei⟩,hk'⟩
theorem zero3 (w:World):(zeroValue 3).run Tryz.prog w = .ok (.int .i64 0) w:=by kernel_rfl
theorem zero4 (w:World):(zeroValue 4).run Tryz.prog w = .ok (.bool false) w:=by kernel_rfl
theorem aO.over {S:Int→Bool} {b:Nat} {w w':World} (h:aO S b w) (hb:Below w.heap.size w w'):aO S b w':=aS.over h hb
theorem aY.over {f:Int→Option Int} {b:Nat} {w w':World} (h:aY f b w) (hb:Below w.heap.size w w'):aY f b w':=aS.over h hb
theorem aO.kept {S:Int→Bool} {b:Nat} {w w':World} (h:aO S b w) (he:w'.heap[b]? = w.heap[b]?):aO S b w':=aS.kept h he
theorem aY.kept {f:Int→Option Int} {b:Nat} {w w':World} (h:aY f b w) (he:w'.heap[b]? = w.heap[b]?):aY f b w':=aS.kept h he
theorem aO.look {S:Int→Bool} {b:Nat} {w:World} (h:aO S b w) (x:Int):(Instr.lookup 128 (.map (some b)) (.int .i64 x) false).run Tryz.prog w = .ok (.bool (S x)) w:=by
 have:=aS.look h Tryz.underlying128 (zero4 w) x
 rw [this]
 unfold setF
 cases S x <;> rfl
def numD (f:Int→Option Int) (x:Int):Int:=(f x).getD 0
theorem aY.look {f:Int→Option Int} {b:Nat} {w:World} (h:aY f b w) (x:Int):(Instr.lookup 127 (.map (some b)) (.int .i64 x) false).run Tryz.prog w = .ok (.int .i64 (numD f x)) w:=by
 have:=aS.look h Tryz.underlying127 (zero3 w) x
 rw [this]
 unfold numF numD
 cases f x <;> rfl
theorem aO.update {S:Int→Bool} {b:Nat} {w:World} (h:aO S b w) (x:Int):∃ w',(Instr.mapUpdate 128 (.map (some b)) (.int .i64 x) (.bool true)).run Tryz.prog w = .ok () w'∧aO (putF S x true) b w'∧w.grownBy w' (some b):=by
 obtain ⟨w',h1,h2,h3⟩:=aS.update h Tryz.underlying128 x (.bool true)
 refine ⟨w',h1,?_,h3⟩
 have:putF (setF S) x (some (Value.bool true)) = setF (putF S x true):=by
  funext y
  unfold putF setF
  by_cases q:y = x <;> simp [q]
 rw [this] at h2
 exact h2
theorem aY.update {f:Int→Option Int} {b:Nat} {w:World} (h:aY f b w) (x v:Int):∃ w',(Instr.mapUpdate 127 (.map (some b)) (.int .i64 x) (.int .i64 v)).run Tryz.prog w = .ok () w'∧aY (putF f x (some v)) b w'∧w.grownBy w' (some b):=by
 obtain ⟨w',h1,h2,h3⟩:=aS.update h Tryz.underlying127 x (.int .i64 v)
 refine ⟨w',h1,?_,h3⟩
 have:putF (numF f) x (some (Value.int .i64 v)) = numF (putF f x (some v)):=by
  funext y
  unfold putF numF
  by_cases q:y = x <;> simp [q]
 rw [this] at h2
 exact h2
theorem setAt_new (w:World):aO (fun _ => false) w.heap.size (w.alloc (.map #[] 0)):=funAt_new w
theorem numAt_new (w:World):aY (fun _ => none) w.heap.size (w.alloc (.map #[] 0)):=funAt_new w
def refE (st:Int→Option Int) (ls:Int→Bool) (k v:Int):Int:=if k = 20 then orE (decide (v≠0) && decide (numD st v≠1)) 25 else if k = 1 then orE (decide (v≠0) && decide (numD st v≠2)) 25 else if k = 33 then orE (decide (v≠0) && !(ls v)) 26 else 0
theorem ref109 (c m1 m2 m3 m4 m5:Nat) (u:Int) (st:Int→Option Int) (ls:Int→Bool) (k v:Int) (w:World) (hb:w.heap[c]? = some (.cells #[.map (some m1),.map (some m2),.map (some m3),.map (some m4),.map (some m5),.int .i64 u] 130 (0,0))) (h1:aY st m1 w) (h2:aO ls m2 w):Calls Tryz.prog 109 #[.pointer (some ⟨c,0,none⟩),.int .i64 k,.int .i64 v] w fun e w' => e = .returned (.int .i64 (refE st ls k v))∧w = w':=by
 obtain ⟨V,hV⟩:=gX (refE st ls k v)
 rw [<- hV]
 unfold refE at hV
 by_cases h20:k = 20
 ·subst h20
  rw [if_pos rfl] at hV
  by_cases hv0:v = 0
  ·have bv:(v == 0) = true:=by simp [hv0]
   have bn:(v != 0) = false:=by simp [hv0]
   have HE:=qH (show orE false 25 = V from by rw [hV,hv0]; rfl)
   clear hV hv0
   obtain ⟨E,hE⟩:=gX (orE false 25)
   have C1:Hid (∀ W,Calls Tryz.prog 51 #[.bool false,.int .i64 25] W fun e w' => e = .returned (.int .i64 E)∧W = w'):=qH (fun W => by rw [hE]; exact bi false 25 W)
   rw [<- hE] at HE
   clear hE
   go_enter Tryz.func109,Tryz.ntmps109
   go_upto_region 7 with fail
   refine aB ?_
   simp only [List.map]
   refine gd2i v ?_
   refine gd2b false ?_
   refine gd2b false ?_
   refine aJ rfl trivial ?_
   simp only [Act.put,PutA,PutZ,PutS]
   refine aJ rfl trivial ?_
   simp only [Act.put,PutA,PutZ,PutS]
   refine aJ rfl trivial ?_
   simp only [Act.put,PutA,PutZ,PutS]
   refine aJ rfl trivial ?_
   simp only [Act.put,PutA,PutZ,PutS]
   refine aJ rfl trivial ?_
   simp only [Act.put,PutA,PutZ,PutS]
   refine aJ rfl trivial ?_
   simp only [Act.put,PutA,PutZ,PutS]
   refine aJ rfl trivial ?_
   simp only [Act.put,PutA,PutZ,PutS]
   refine aJ rfl trivial ?_
   simp only [Act.put,PutA,PutZ,PutS]
   refine gd2b false ?_
   refine av rfl ?_
   refine ae 51 #[.bool false,.int .i64 25] (by go_simp) ?_
   refine Calls.mono (C1.out _) ?_
   rintro e wp1 ⟨rfl,rfl⟩
   refine ⟨_,rfl,trivial,?_⟩
   refine ad ?_
   simp only [Act.put,PutA,PutZ,PutS]
   refine av rfl ?_
   refine aU (.int .i64 E) (by go_simp) trivial ?_
   refine ad ?_
   simp only [Act.put,PutA,PutZ,PutS]
   refine NoPanic.normal (NoPanic.normal ?_)
   go_wp2_with fail
   go_ret
   exact ⟨by rw [<- HE.out]; rfl,rfl⟩
  have bv:(v == 0) = false:=by simp [hv0]
  have bn:(v != 0) = true:=by simp [hv0]
  obtain ⟨q,hq⟩:=gX ((numD st v != 1))
  have HE:=qH (show orE q 25 = V from by rw [hV,hq]; simp [hv0] <;> rfl)
  clear hV hv0
  obtain ⟨E,hE⟩:=gX (orE q 25)
  have C1:Hid (∀ W,Calls Tryz.prog 51 #[.bool q,.int .i64 25] W fun e w' => e = .returned (.int .i64 E)∧W = w'):=qH (fun W => by rw [hE]; exact bi q 25 W)
  rw [<- hE] at HE
  clear hE
  have fq:=hq.symm
  clear hq
  go_enter Tryz.func109,Tryz.ntmps109
  go_upto_region 7 with fail
  refine aB ?_
  simp only [List.map]
  refine gd2i v ?_
  refine gd2b true ?_
  refine gd2b true ?_
  refine gd2p c 0 ?_
  refine gd2p c 0 ?_
  refine gd2p c 0 ?_
  refine gd2 (.map (some m1)) ?_ (by have q0:=aa hb 0; go_simp)
  refine gd2i v ?_
  refine gd2i (numD st v) ?_ (by have q0:=aY.look h1 v; go_simp)
  refine gd2i 1 ?_
  refine gd2b q ?_
  refine gd2b q ?_
  refine av rfl ?_
  refine ae 51 #[.bool q,.int .i64 25] (by go_simp) ?_
  refine Calls.mono (C1.out _) ?_
  rintro e wp1 ⟨rfl,rfl⟩
  refine ⟨_,rfl,trivial,?_⟩
  refine ad ?_
  simp only [Act.put,PutA,PutZ,PutS]
  refine av rfl ?_
  refine aU (.int .i64 E) (by go_simp) trivial ?_
  refine ad ?_
  simp only [Act.put,PutA,PutZ,PutS]
  refine NoPanic.normal (NoPanic.normal ?_)
  go_wp2_with fail
  go_ret
  exact ⟨by rw [<- HE.out]; rfl,rfl⟩
 rw [if_neg h20] at hV
 have b20:(k == 20) = false:=by rw [beq_eq_false_iff_ne]; exact h20
 by_cases h1k:k = 1
 ·subst h1k
  rw [if_pos rfl] at hV
  by_cases hv0:v = 0
  ·have bv:(v == 0) = true:=by simp [hv0]
   have bn:(v != 0) = false:=by simp [hv0]
   have HE:=qH (show orE false 25 = V from by rw [hV,hv0]; rfl)
   clear hV hv0
   obtain ⟨E,hE⟩:=gX (orE false 25)
   have C1:Hid (∀ W,Calls Tryz.prog 51 #[.bool false,.int .i64 25] W fun e w' => e = .returned (.int .i64 E)∧W = w'):=qH (fun W => by rw [hE]; exact bi false 25 W)
   rw [<- hE] at HE
   clear hE
   go_enter Tryz.func109,Tryz.ntmps109
   go_upto_region 7 with fail
   refine aB ?_
   simp only [List.map]
   refine gd2i v ?_
   refine gd2b false ?_
   refine gd2b false ?_
   refine aJ rfl trivial ?_
   simp only [Act.put,PutA,PutZ,PutS]
   refine aJ rfl trivial ?_
   simp only [Act.put,PutA,PutZ,PutS]
   refine aJ rfl trivial ?_
   simp only [Act.put,PutA,PutZ,PutS]
   refine aJ rfl trivial ?_
   simp only [Act.put,PutA,PutZ,PutS]
   refine aJ rfl trivial ?_
   simp only [Act.put,PutA,PutZ,PutS]
   refine aJ rfl trivial ?_
   simp only [Act.put,PutA,PutZ,PutS]
   refine aJ rfl trivial ?_
   simp only [Act.put,PutA,PutZ,PutS]
   refine aJ rfl trivial ?_
   simp only [Act.put,PutA,PutZ,PutS]
   refine gd2b false ?_
   refine av rfl ?_
   refine ae 51 #[.bool false,.int .i64 25] (by go_simp) ?_
   refine Calls.mono (C1.out _) ?_
   rintro e wp1 ⟨rfl,rfl⟩
   refine ⟨_,rfl,trivial,?_⟩
   refine ad ?_
   simp only [Act.put,PutA,PutZ,PutS]
   refine av rfl ?_
   refine aU (.int .i64 E) (by go_simp) trivial ?_
   refine ad ?_
   simp only [Act.put,PutA,PutZ,PutS]
   refine NoPanic.normal (NoPanic.normal ?_)
   go_wp2_with fail
   go_ret
   exact ⟨by rw [<- HE.out]; rfl,rfl⟩
  have bv:(v == 0) = false:=by simp [hv0]
  have bn:(v != 0) = true:=by simp [hv0]
  obtain ⟨q,hq⟩:=gX ((numD st v != 2))
  have HE:=qH (show orE q 25 = V from by rw [hV,hq]; simp [hv0] <;> rfl)
  clear hV hv0
  obtain ⟨E,hE⟩:=gX (orE q 25)
  have C1:Hid (∀ W,Calls Tryz.prog 51 #[.bool q,.int .i64 25] W fun e w' => e = .returned (.int .i64 E)∧W = w'):=qH (fun W => by rw [hE]; exact bi q 25 W)
  rw [<- hE] at HE
  clear hE
  have fq:=hq.symm
  clear hq
  go_enter Tryz.func109,Tryz.ntmps109
  go_upto_region 7 with fail
  refine aB ?_
  simp only [List.map]
  refine gd2i v ?_
  refine gd2b true ?_
  refine gd2b true ?_
  refine gd2p c 0 ?_
  refine gd2p c 0 ?_
  refine gd2p c 0 ?_
  refine gd2 (.map (some m1)) ?_ (by have q0:=aa hb 0; go_simp)
  refine gd2i v ?_
  refine gd2i (numD st v) ?_ (by have q0:=aY.look h1 v; go_simp)
  refine gd2i 2 ?_
  refine gd2b q ?_
  refine gd2b q ?_
  refine av rfl ?_
  refine ae 51 #[.bool q,.int .i64 25] (by go_simp) ?_
  refine Calls.mono (C1.out _) ?_
  rintro e wp1 ⟨rfl,rfl⟩
  refine ⟨_,rfl,trivial,?_⟩
  refine ad ?_
  simp only [Act.put,PutA,PutZ,PutS]
  refine av rfl ?_
  refine aU (.int .i64 E) (by go_simp) trivial ?_
  refine ad ?_
  simp only [Act.put,PutA,PutZ,PutS]
  refine NoPanic.normal (NoPanic.normal ?_)
  go_wp2_with fail
  go_ret
  exact ⟨by rw [<- HE.out]; rfl,rfl⟩
 rw [if_neg h1k] at hV
 have b1:(k == 1) = false:=by rw [beq_eq_false_iff_ne]; exact h1k
 by_cases h33:k = 33
 ·subst h33
  rw [if_pos rfl] at hV
  by_cases hv0:v = 0
  ·have bv:(v == 0) = true:=by simp [hv0]
   have bn:(v != 0) = false:=by simp [hv0]
   have HE:=qH (show orE false 26 = V from by rw [hV,hv0]; rfl)
   clear hV hv0
   obtain ⟨E,hE⟩:=gX (orE false 26)
   have C1:Hid (∀ W,Calls Tryz.prog 51 #[.bool false,.int .i64 26] W fun e w' => e = .returned (.int .i64 E)∧W = w'):=qH (fun W => by rw [hE]; exact bi false 26 W)
   rw [<- hE] at HE
   clear hE
   go_enter Tryz.func109,Tryz.ntmps109
   go_upto_region 9 with fail
   refine aB ?_
   simp only [List.map]
   refine gd2i v ?_
   refine gd2b false ?_
   refine gd2b false ?_
   refine aJ rfl trivial ?_
   simp only [Act.put,PutA,PutZ,PutS]
   refine aJ rfl trivial ?_
   simp only [Act.put,PutA,PutZ,PutS]
   refine aJ rfl trivial ?_
   simp only [Act.put,PutA,PutZ,PutS]
   refine aJ rfl trivial ?_
   simp only [Act.put,PutA,PutZ,PutS]
   refine aJ rfl trivial ?_
   simp only [Act.put,PutA,PutZ,PutS]
   refine aJ rfl trivial ?_
   simp only [Act.put,PutA,PutZ,PutS]
   refine aJ rfl trivial ?_
   simp only [Act.put,PutA,PutZ,PutS]
   refine gd2b false ?_
   refine av rfl ?_
   refine ae 51 #[.bool false,.int .i64 26] (by go_simp) ?_
   refine Calls.mono (C1.out _) ?_
   rintro e wp1 ⟨rfl,rfl⟩
   refine ⟨_,rfl,trivial,?_⟩
   refine ad ?_
   simp only [Act.put,PutA,PutZ,PutS]
   refine av rfl ?_
   refine aU (.int .i64 E) (by go_simp) trivial ?_
   refine ad ?_
   simp only [Act.put,PutA,PutZ,PutS]
   refine NoPanic.normal (NoPanic.normal ?_)
   go_wp2_with fail
   go_ret
   exact ⟨by rw [<- HE.out]; rfl,rfl⟩
  have bv:(v == 0) = false:=by simp [hv0]
  have bn:(v != 0) = true:=by simp [hv0]
  obtain ⟨q,hq⟩:=gX ((!(ls v)))
  have HE:=qH (show orE q 26 = V from by rw [hV,hq]; simp [hv0] <;> rfl)
  clear hV hv0
  obtain ⟨E,hE⟩:=gX (orE q 26)
  have C1:Hid (∀ W,Calls Tryz.prog 51 #[.bool q,.int .i64 26] W fun e w' => e = .returned (.int .i64 E)∧W = w'):=qH (fun W => by rw [hE]; exact bi q 26 W)
  rw [<- hE] at HE
  clear hE
  have fq:=hq.symm
  clear hq
  go_enter Tryz.func109,Tryz.ntmps109
  go_upto_region 9 with fail
  refine aB ?_
  simp only [List.map]
  refine gd2i v ?_
  refine gd2b true ?_
  refine gd2b true ?_
  refine gd2p c 0 ?_
  refine gd2p c 0 ?_
  refine gd2p c 1 ?_
  refine gd2 (.map (some m2)) ?_ (by have q0:=aa hb 1; go_simp)
  refine gd2i v ?_
  refine gd2 (.bool (ls v)) ?_ (by have q0:=aO.look h2 v; go_simp)
  refine gd2b q ?_
  refine gd2b q ?_
  refine av rfl ?_
  refine ae 51 #[.bool q,.int .i64 26] (by go_simp) ?_
  refine Calls.mono (C1.out _) ?_
  rintro e wp1 ⟨rfl,rfl⟩
  refine ⟨_,rfl,trivial,?_⟩
  refine ad ?_
  simp only [Act.put,PutA,PutZ,PutS]
  refine av rfl ?_
  refine aU (.int .i64 E) (by go_simp) trivial ?_
  refine ad ?_
  simp only [Act.put,PutA,PutZ,PutS]
  refine NoPanic.normal (NoPanic.normal ?_)
  go_wp2_with fail
  go_ret
  exact ⟨by rw [<- HE.out]; rfl,rfl⟩
 rw [if_neg h33] at hV
 have b33:(k == 33) = false:=by rw [beq_eq_false_iff_ne]; exact h33
 subst hV
 clear h20 h1k h33
 go_enter Tryz.func109,Tryz.ntmps109
 go_wp2_with fail
 go_ret
 exact ⟨rfl,rfl⟩
end Go.Proofs.YtmhhcfceikcfbaaGreat
namespace Go.Proofs.YtmhhcfceikcfbaaGreat
open Go.RowKit
set_option maxRecDepth 100000
set_option maxHeartbeats 4000000
def prevY (l:List Lay) (i:Nat):Option Int:=if i = 0 then none else (l[i - 1]?).map fun y => y.2.1
def layT (el:Int) (st:Int→Option Int) (ls rv:Int→Bool) (l:List Lay) (i:Nat):Int:=match l[i]? with
 | some x => if rv x.1 = false then 22 else if fitsB el x.2.1 = false then 4 else if prevLt (prevY l i) x.2.1 = true then 6 else if x.2.2.2 = false then orE (decide (x.2.2.1≠0)) 21 else aN [chkV x.2.1 x.2.2.1,refE st ls x.2.1 x.2.2.1]
 | none => 0
theorem layer111 (G:Nat→Prop) (w:World) (A:Option Addr) (cp:Nat) (l:List Lay) (el:Int) (i:Nat) (hi:i < l.length) (hv:Slv layP 4 w G (.slice A l.length cp) l) (hG:∀ b,G b→b < w.heap.size) (c m1 m2 m3 m4 m5:Nat) (u:Int) (st:Int→Option Int) (ls rv:Int→Bool) (hcb:w.heap[c]? = some (.cells #[.map (some m1),.map (some m2),.map (some m3),.map (some m4),.map (some m5),.int .i64 u] 130 (0,0))) (h1:aY st m1 w) (h2:aO ls m2 w) (h3:aO rv m3 w):Calls Tryz.prog 111 #[.pointer (some ⟨c,0,none⟩),.int .i64 el,.slice A l.length cp,.int .i64 (i:Int)] w (RetI (layT el st ls rv l i) w):=by
 obtain ⟨V,hV⟩:=gX (layT el st ls rv l i)
 rw [<- hV]
 obtain ⟨x,hx⟩:∃ x,l[i]? = some x:=⟨_,List.getElem?_eq_getElem hi⟩
 unfold layT at hV
 rw [hx] at hV
 simp only at hV
 obtain ⟨b1,o1,vs,rfl,hgb,hbw,_,hRx,hcs⟩:=hv.at i x hx
 have hE:EltS b1 (o1 + i * 4) vs w:=hcs
 obtain ⟨hlen,hcm⟩:l.length≤cp∧cp≤maxLen:=by obtain ⟨A',c',hv',h1,h2,_⟩:=hv; cases hv'; exact ⟨h1,h2⟩
 unfold maxLen at hcm
 obtain ⟨x0,x1,x2,x3⟩:=x
 obtain ⟨rfl,_⟩:=hRx
 simp only at hV
 have HL:=qH hv
 obtain ⟨n,hn⟩:=gX (l.length)
 have hin:(i:Int) < (n:Int):=by omega
 have hin2:i < n:=by omega
 have hncp:n≤cp:=by omega
 have HN:=qH hn
 obtain ⟨fb,hfb⟩:=gX (fitsB el x1)
 have C1:Hid (∀ W,Calls Tryz.prog 187 #[.int .i64 el,.int .i64 x1] W (RetB fb W)):=qH (fun W => by rw [hfb]; exact fits187 el x1 W)
 obtain ⟨cE,hcE⟩:=gX (chkV x1 x2)
 have C2:Hid (∀ W,Calls Tryz.prog 188 #[.int .i64 x1,.int .i64 x2] W (RetI cE W)):=qH (fun W => by rw [hcE]; exact checkValue188 x1 x2 W)
 obtain ⟨rE,hrE⟩:=gX (refE st ls x1 x2)
 have C3:Hid (∀ W,W.heap[c]? = some (.cells #[.map (some m1),.map (some m2),.map (some m3),.map (some m4),.map (some m5),.int .i64 u] 130 (0,0))→aY st m1 W→aO ls m2 W→Calls Tryz.prog 109 #[.pointer (some ⟨c,0,none⟩),.int .i64 x1,.int .i64 x2] W fun e w' => e = .returned (.int .i64 rE)∧W = w'):=qH (fun W q1 q2 q3 => by rw [hrE]; exact ref109 c m1 m2 m3 m4 m5 u st ls x1 x2 W q1 q2 q3)
 obtain ⟨lb,hlb⟩:=gX (prevLt (prevY l i) x1)
 rw [<- hfb,<- hcE,<- hrE,<- hlb] at hV
 have HLB:=qH hlb
 have e0:=hE 0 _ rfl
 have e1:=hE 1 _ rfl
 have e2:=hE 2 _ rfl
 have e3:=hE 3 _ rfl
 simp only [Nat.add_zero] at e0
 obtain ⟨d,hd⟩:=gX (w.heap.size)
 obtain ⟨W,hW⟩:=gX (w.alloc (.cells #[.int .i64 x0,.int .i64 x1,.int .i64 x2,.bool x3] 201))
 have hbk:W.heap[d]? = some (.cells #[.int .i64 x0,.int .i64 x1,.int .i64 x2,.bool x3] 201 (0,0)):=by rw [hW]; exact ah _ _ hd
 have hBW:Below w.heap.size w W:=by rw [hW]; exact ag w _
 have HW:=qH hW
 have HD:=qH hd
 have Hbk:=qH hbk
 have Hcb:=qH hcb
 have H1:=qH h1
 have H2:=qH h2
 have H3:=qH h3
 have HB:=qH hBW
 have HS:=qH hV
 have HG:=qH hG
 clear hV hfb hcE hrE hlb hx hv hcs hn hG hW hd hbk hBW hE hcb h1 h2 h3 hi
 rw [<- HN.out]
 go_enter Tryz.func111,Tryz.ntmps111
 go_upto_region 2 with fail
 rw [<- HW.out,<- HD.out]
 clear HW e0 e1 e2 e3
 have hbk:=Hbk.out
 have hcb:=ai Hcb.out HB.out
 have h3:=aO.over H3.out HB.out
 replace hbk:W.drew.heap[d]? = some (.cells #[.int .i64 x0,.int .i64 x1,.int .i64 x2,.bool x3] 201 (0,0)):=hbk
 replace hcb:W.drew.heap[c]? = some (.cells #[.map (some m1),.map (some m2),.map (some m3),.map (some m4),.map (some m5),.int .i64 u] 130 (0,0)):=hcb
 replace h3:aO rv m3 W.drew:=h3
 replace HB:=qH HB.out.drew
 refine ak (S:=fun w' => w'.heap[d]? = some (.cells #[.int .i64 x0,.int .i64 x1,.int .i64 x2,.bool x3] 201 (0,0))∧w'.heap[c]? = some (.cells #[.map (some m1),.map (some m2),.map (some m3),.map (some m4),.map (some m5),.int .i64 u] 130 (0,0))∧aO rv m3 w') [(true,0),(true,1),(true,2),(true,3),(true,4),(true,5),(false,6),(true,7),(true,8)] (by kernel_rfl) (by kernel_rfl) ⟨hbk,hcb,h3⟩ ?_
 simp only [aF,List.getElem?_cons_succ,List.getElem?_cons_zero]
 refine sq2p c 0 ?_
 refine sq2p c 0 ?_
 refine sq2p c 2 ?_
 refine sq2 (.map (some m3)) ?_ (fun w' hS => by have q0:=aa hS.2.1 2; go_simp)
 refine sq2p d 0 ?_
 refine sq2i x0 ?_ (fun w' hS => by have q0:=aa hS.1 0; go_simp)
 refine aU (.bool (rv x0)) (by have q0:=aO.look h3 x0; go_simp) ⟨hbk,hcb,h3⟩ ?_
 simp only [Act.put,PutA,PutZ,PutS]
 refine sq2 (.bool (!(rv x0))) ?_
 refine sq2 (.bool (!(rv x0))) ?_
 refine ad ?_
 obtain ⟨qr,hqr⟩:=gX (rv x0)
 rw [<- hqr] at HS ⊢
 clear hqr
 cases qr
 ·have HF:=qH (show V = 22 from HS.out.trans (if_pos rfl))
  clear HS hbk hcb h3
  go_wp2_with fail
  go_ret
  exact ⟨by rw [HF.out]; rfl,HB.out⟩
 replace HS:=qH (show V = _ from HS.out.trans (if_neg (by decide)))
 go_upto_region 4 with fail
 refine af (by rfl) ?_
 simp only [List.map]
 refine sq1i el ?_
 refine sq1p d 1 ?_
 refine sq1i x1 ?_ (by have q0:=aa hbk 1; go_simp)
 refine ae 187 #[.int .i64 el,.int .i64 x1] (by go_simp) ?_
 refine Calls.mono (C1.out _) ?_
 rintro e wq1 ⟨rfl,hbq1⟩
 replace hbk:=ai hbk hbq1
 replace hcb:=ai hcb hbq1
 replace h3:=aO.over h3 hbq1
 replace HB:=qH (HB.out.trans (hbq1.mono HB.out.size))
 clear hbq1
 refine ⟨_,rfl,trivial,?_⟩
 simp only [Act.put,PutA,PutZ,PutS]
 refine sq1 (.bool (!fb)) ?_
 refine sq1 (.bool (!fb)) ?_
 refine ad ?_
 cases fb
 ·have HF:=qH (show V = 4 from HS.out.trans (if_pos rfl))
  clear HS hbk hcb h3
  go_wp2_with fail
  go_ret
  exact ⟨by rw [HF.out]; rfl,HB.out⟩
 replace HS:=qH (show V = _ from HS.out.trans (if_neg (by decide)))
 go_upto_region 6 with fail
 go_cut [29] from 30 to 42 (fun bv wr => bv = .bool lb∧Hid (Below w.heap.size w wr)∧Hid (wr.heap[d]? = some (.cells #[.int .i64 x0,.int .i64 x1,.int .i64 x2,.bool x3] 201 (0,0))))
 case first =>
  clear hcb h3
  by_cases h0:i = 0
  ·have dz:decide (0 < (i:Int)) = false:=by simp; omega
   have dz3:decide (0 < i) = false:=by simp; omega
   have dF:=qH (show lb = false by rw [HLB.out]; unfold prevY; rw [if_pos h0]; rfl)
   clear h0
   replace hbk:wq1.drew.heap[d]? = some (.cells #[.int .i64 x0,.int .i64 x1,.int .i64 x2,.bool x3] 201 (0,0)):=hbk
   replace HB:=qH HB.out.drew
   refine aE (S:=fun w' => w'.heap[d]? = some (.cells #[.int .i64 x0,.int .i64 x1,.int .i64 x2,.bool x3] 201 (0,0))) [(true,0),(true,1),(true,2),(true,3),(true,4),(true,5),(true,6),(true,7),(true,8),(true,9),(true,10),(true,11),(true,12),(true,13)] (by kernel_rfl) (by kernel_rfl) hbk ?_
   simp only [aF,List.getElem?_cons_succ,List.getElem?_cons_zero]
   refine gd1i (i:Int) ?_
   refine gd1b false ?_
   refine gd1b false ?_
   refine ay rfl ?_
   simp only [Act.put,PutA,PutZ,PutS]
   refine ay rfl ?_
   simp only [Act.put,PutA,PutZ,PutS]
   refine ay rfl ?_
   simp only [Act.put,PutA,PutZ,PutS]
   refine ay rfl ?_
   simp only [Act.put,PutA,PutZ,PutS]
   refine ay rfl ?_
   simp only [Act.put,PutA,PutZ,PutS]
   refine ay rfl ?_
   simp only [Act.put,PutA,PutZ,PutS]
   refine ay rfl ?_
   simp only [Act.put,PutA,PutZ,PutS]
   refine ay rfl ?_
   simp only [Act.put,PutA,PutZ,PutS]
   refine ay rfl ?_
   simp only [Act.put,PutA,PutZ,PutS]
   refine gd1b false ?_
   refine gd1b false ?_
   refine bD ?_
   go_wp2_with fail
   go_meet
   exact ⟨by rw [dF.out],HB,qH hbk⟩
  have hi2:decide ((0:Int) < (i:Int)) = true:=by simp; omega
  have hi3:decide (0 < i) = true:=by simp; omega
  obtain ⟨y,hy⟩:∃ y,l[i - 1]? = some y:=⟨_,List.getElem?_eq_getElem (by rw [<- HN.out]; omega)⟩
  obtain ⟨b2,o2,us,hA,_,hbw2,_,hRy,hds⟩:=HL.out.at (i - 1) y hy
  injection hA with hA
  injection hA with hA1 hA2
  subst hA1 hA2
  have hD:=EltS.below (w:=w) hds hbw2 HB.out
  obtain ⟨y0,y1,y2,y3⟩:=y
  obtain ⟨rfl,_⟩:=hRy
  obtain ⟨m,hm⟩:=gX (i - 1)
  obtain ⟨ql,hql⟩:=gX (decide (x1 < y1))
  have dF:=qH (show lb = ql by rw [HLB.out,hql]; unfold prevY; rw [if_neg h0,hy]; rfl)
  have fq:=hql.symm
  rw [<- hm] at hD
  have em:IntKind.i64.wrap ((i:Int) - 1) = (m:Int):=by rw [IntWalk.i64_in _ (by omega)]; omega
  have em2:wrap64 ((i:Int) - 1) = (m:Int):=by rw [IntWalk.wrap64_in _ (by omega)]; omega
  have em3:(i:Int) - 1 = (m:Int):=by omega
  have em4:IntKind.i64.wrap (m:Int) = (m:Int):=IntWalk.i64_in _ (by omega)
  have hmn:(m:Int) < (n:Int):=by omega
  clear h0 hy hds hm hql
  replace hbk:wq1.drew.heap[d]? = some (.cells #[.int .i64 x0,.int .i64 x1,.int .i64 x2,.bool x3] 201 (0,0)):=hbk
  replace hD:EltS b1 (o1 + m * 4) [.int .i64 y0,.int .i64 y1,.int .i64 y2,.bool y3] wq1.drew:=hD
  replace HB:=qH HB.out.drew
  refine aE (S:=fun w' => w'.heap[d]? = some (.cells #[.int .i64 x0,.int .i64 x1,.int .i64 x2,.bool x3] 201 (0,0))∧EltS b1 (o1 + m * 4) [.int .i64 y0,.int .i64 y1,.int .i64 y2,.bool y3] w') [(true,0),(true,1),(true,2),(true,3),(true,4),(true,5),(true,6),(true,7),(true,8),(true,9),(true,10),(true,11),(true,12),(true,13)] (by kernel_rfl) (by kernel_rfl) ⟨hbk,hD⟩ ?_
  simp only [aF,List.getElem?_cons_succ,List.getElem?_cons_zero]
  refine gd1i (i:Int) ?_
  refine gd1b true ?_
  refine gd1b true ?_
  refine gd1p d 1 ?_
  refine gd1i x1 ?_ (fun w' hS => by have q0:=aa hS.1 1; go_simp)
  refine gd1 (.slice (some ⟨b1,o1,none⟩) n cp) ?_
  refine gd1i (i:Int) ?_
  refine gd1i (m:Int) ?_
  refine gd1p b1 (o1 + m * 4) ?_
  refine gd1p b1 (o1 + m * 4 + 1) ?_
  refine gd1i y1 ?_ (fun w' hS => by have q0:=hS.2 1 _ rfl; go_simp)
  refine gd1b ql ?_
  refine gd1b ql ?_
  refine gd1b ql ?_
  refine bD ?_
  go_wp2_with fail
  go_meet
  exact ⟨by rw [dF.out],HB,qH hbk⟩
 clear HB hbk hcb h3
 obtain ⟨rfl,HB,Hbk⟩:=hcut
 have hbk:=Hbk.out
 cases lb
 case true =>
  have HF:=qH (show V = 6 from HS.out.trans (if_pos rfl))
  clear HS hbk
  go_wp2_with fail
  go_ret
  exact ⟨by rw [HF.out]; rfl,HB.out⟩
 replace HS:=qH (show V = _ from HS.out.trans (if_neg (by decide)))
 go_upto_region 8 with fail
 refine af (by rfl) ?_
 simp only [List.map]
 refine sq1p d 3 ?_
 refine sq1b x3 ?_ (by have q0:=aa hbk 3; go_simp)
 refine sq1 (.bool (!x3)) ?_
 refine sq1 (.bool (!x3)) ?_
 refine ad ?_
 cases x3
 case false =>
  obtain ⟨q,hq⟩:=gX (decide (x2≠0))
  have fq:(x2 != 0) = q:=by rw [hq]; by_cases h:x2 = 0 <;> simp [h]
  obtain ⟨E,hE⟩:=gX (orE q 21)
  have HF:=qH (show V = E by rw [HS.out,if_pos rfl,<- hq,hE])
  have C4:Hid (∀ W,Calls Tryz.prog 51 #[.bool q,.int .i64 21] W fun e w' => e = .returned (.int .i64 E)∧W = w'):=qH (fun W => by rw [hE]; exact bi q 21 W)
  clear HS hq hE
  go_upto_region 9 with fail
  refine af (by rfl) ?_
  simp only [List.map]
  refine sq1p d 2 ?_
  refine sq1i x2 ?_ (by have q0:=aa hbk 2; go_simp)
  refine sq1b q ?_
  refine ae 51 #[.bool q,.int .i64 21] (by go_simp) ?_
  refine Calls.mono (C4.out _) ?_
  rintro e ws1 ⟨rfl,rfl⟩
  refine ⟨_,rfl,trivial,?_⟩
  simp only [Act.put,PutA,PutZ,PutS]
  refine sq1i E ?_
  refine ad ?_
  clear hbk
  go_wp2_with fail
  go_ret
  exact ⟨by rw [HF.out]; rfl,HB.out⟩
 have HF:=qH (show V = aN [cE,rE] from HS.out.trans (if_neg (by decide)))
 clear HS
 have hcb:=ai Hcb.out HB.out
 have h1:=aY.over H1.out HB.out
 have h2:=aO.over H2.out HB.out
 go_upto_region 10 with fail
 replace hbk:wc.drew.heap[d]? = some (.cells #[.int .i64 x0,.int .i64 x1,.int .i64 x2,.bool true] 201 (0,0)):=hbk
 replace hcb:wc.drew.heap[c]? = some (.cells #[.map (some m1),.map (some m2),.map (some m3),.map (some m4),.map (some m5),.int .i64 u] 130 (0,0)):=hcb
 replace h1:aY st m1 wc.drew:=h1
 replace h2:aO ls m2 wc.drew:=h2
 replace HB:=qH HB.out.drew
 refine ak (S:=fun w' => w'.heap[d]? = some (.cells #[.int .i64 x0,.int .i64 x1,.int .i64 x2,.bool true] 201 (0,0))∧w'.heap[c]? = some (.cells #[.map (some m1),.map (some m2),.map (some m3),.map (some m4),.map (some m5),.int .i64 u] 130 (0,0))∧aY st m1 w'∧aO ls m2 w') [(true,0),(true,1),(true,2),(true,3),(true,5),(true,6),(true,7),(true,8),(true,9),(false,4),(false,10),(false,11),(false,12),(true,13)] (by kernel_rfl) (by kernel_rfl) ⟨hbk,hcb,h1,h2⟩ ?_
 simp only [aF,List.getElem?_cons_succ,List.getElem?_cons_zero]
 refine sq2p d 1 ?_
 refine sq2i x1 ?_ (fun w' hS => by have q0:=aa hS.1 1; go_simp)
 refine sq2p d 2 ?_
 refine sq2i x2 ?_ (fun w' hS => by have q0:=aa hS.1 2; go_simp)
 refine sq2p c 0 ?_
 refine sq2p d 1 ?_
 refine sq2i x1 ?_ (fun w' hS => by have q0:=aa hS.1 1; go_simp)
 refine sq2p d 2 ?_
 refine sq2i x2 ?_ (fun w' hS => by have q0:=aa hS.1 2; go_simp)
 refine ae 188 #[.int .i64 x1,.int .i64 x2] (by go_simp) ?_
 refine Calls.mono (C2.out _) ?_
 rintro e wz1 ⟨rfl,hbz1⟩
 replace hbk:=ai hbk hbz1
 replace hcb:=ai hcb hbz1
 replace h1:=aY.over h1 hbz1
 replace h2:=aO.over h2 hbz1
 replace HB:=qH (HB.out.trans (hbz1.mono HB.out.size))
 clear hbz1
 refine ⟨_,rfl,⟨hbk,hcb,h1,h2⟩,?_⟩
 simp only [Act.put,PutA,PutZ,PutS]
 refine ae 109 #[.pointer (some ⟨c,0,none⟩),.int .i64 x1,.int .i64 x2] (by go_simp) ?_
 refine Calls.mono (C3.out _ hcb h1 h2) ?_
 rintro e wz2 ⟨rfl,rfl⟩
 refine ⟨_,rfl,⟨hbk,hcb,h1,h2⟩,?_⟩
 simp only [Act.put,PutA,PutZ,PutS]
 refine aq (.slice (some ⟨wz1.heap.size,0,none⟩) 2 2) (wz1.alloc (.cells #[.int .i64 cE,.int .i64 rE] 23)) (by go_simp) ?_ ?_
 ·exact ⟨ai hbk (ag wz1 _),ai hcb (ag wz1 _),aY.over h1 (ag wz1 _),aO.over h2 (ag wz1 _)⟩
 have hnz3:(wz1.alloc (.cells #[.int .i64 cE,.int .i64 rE] 23)).heap[wz1.heap.size]? = some (.cells #[.int .i64 cE,.int .i64 rE] 23 (0,0)):=heap_alloc_new _ _
 have hbz3:=ag wz1 (.cells #[.int .i64 cE,.int .i64 rE] 23)
 obtain ⟨wz3,hwz3⟩:=gX (wz1.alloc (.cells #[.int .i64 cE,.int .i64 rE] 23))
 obtain ⟨gz3,hgz3⟩:=gX (wz1.heap.size)
 rw [<- hwz3] at hnz3 hbz3 ⊢
 rw [<- hgz3] at hnz3 ⊢
 replace hbk:=ai hbk hbz3
 replace hcb:=ai hcb hbz3
 replace h1:=aY.over h1 hbz3
 replace h2:=aO.over h2 hbz3
 replace HB:=qH (HB.out.trans (hbz3.mono HB.out.size))
 clear hwz3 hgz3 hbz3
 simp only [Act.put,PutA,PutZ,PutS]
 refine ae 46 #[.slice (some ⟨gz3,0,none⟩) 2 2] (by go_simp) ?_
 refine Calls.mono (bq [cE,rE] hnz3 rfl (by simp)) ?_
 rintro e wz4 ⟨rfl,rfl⟩
 refine ⟨_,rfl,⟨hbk,hcb,h1,h2⟩,?_⟩
 simp only [Act.put,PutA,PutZ,PutS]
 refine sq2i (aN [cE,rE]) ?_
 refine ad ?_
 clear hbk hcb h1 h2
 go_wp2_with fail
 go_ret
 exact ⟨by rw [HF.out]; rfl,HB.out⟩
end Go.Proofs.YtmhhcfceikcfbaaGreat
