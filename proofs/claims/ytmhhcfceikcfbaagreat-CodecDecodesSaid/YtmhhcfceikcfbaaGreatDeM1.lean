/- Maps of ids; walks: ids of styles, lists, revisions asked for. -/
import Derived.Maps.Own
import Derived.Maps.OwnOps
import Derived.Test.YtmhhcfceikcfbaaGreatDeG2
namespace Go.Proofs.YtmhhcfceikcfbaaGreat
open Go.RowKit Go.MapKept
set_option maxRecDepth 100000
set_option maxHeartbeats 4000000
open Go.ChangeMaps (setBlock heap_setBlock_same heap_setBlock_other)
set_option maxRecDepth 100000
set_option maxHeartbeats 4000000
def aX (f:Int→Option Value) (b:Nat) (w:World):Prop :=
 ∃ es clock,w.heap[b]? = some (.map es clock)∧(es.toList.map (·.key)).Nodup∧(∀ e∈es.toList,∃ x,e.key = .int .i64 x∧f x = some e.val)∧∀ x v,f x = some v→∃ e∈es.toList,e.key = .int .i64 x
def setF (S:Int→Bool):Int→Option Value:=fun x => if S x then some (.bool true) else none
def numF (f:Int→Option Int):Int→Option Value:=fun x => (f x).map (Value.int .i64)
def aT (S:Int→Bool) (b:Nat) (w:World):Prop:=aX (setF S) b w
def bh (f:Int→Option Int) (b:Nat) (w:World):Prop:=aX (numF f) b w
def putF {α:Type} (f:Int→α) (x:Int) (v:α):Int→α:=fun y => if y = x then v else f y
theorem funAt_new (w:World):aX (fun _ => none) w.heap.size (w.alloc (.map #[] 0)):=⟨#[],0,(heap_alloc w _).1,by simp,by simp,by intro x v h; cases h⟩
theorem aX.lt {f:Int→Option Value} {b:Nat} {w:World} (h:aX f b w):b < w.heap.size:=by
 obtain ⟨es,clock,hb,_⟩:=h
 exact (Array.getElem?_eq_some_iff.1 hb).1
theorem aX.kept {f:Int→Option Value} {b:Nat} {w w':World} (h:aX f b w) (he:w'.heap[b]? = w.heap[b]?):aX f b w':=by
 obtain ⟨es,clock,h1,h2⟩:=h
 exact ⟨es,clock,he.trans h1,h2⟩
theorem aX.over {f:Int→Option Value} {b:Nat} {w w':World} (h:aX f b w) (hb:Below w.heap.size w w'):aX f b w':=h.kept (hb.block b h.lt)
theorem aX.find {f:Int→Option Value} {b:Nat} {w:World} (h:aX f b w) (x:Int):∃ es clock,w.heap[b]? = some (.map es clock)∧(es.toList.map (·.key)).Nodup∧(∀ e∈es.toList,∃ x,e.key = .int .i64 x∧f x = some e.val)∧(∀ x v,f x = some v→∃ e∈es.toList,e.key = .int .i64 x) ∧
  ((Instr.findKey 3 (.int .i64 x) es.toList).run Tryz.prog w = .ok none w∧f x = none∧(∀ e∈es.toList,e.key≠.int .i64 x)∨∃ j e,(Instr.findKey 3 (.int .i64 x) es.toList).run Tryz.prog w = .ok (some (j,e.val)) w∧es[j]? = some e∧e.key = .int .i64 x∧f x = some e.val):=by
 obtain ⟨es,clock,hb,h0,h1,h2⟩:=h
 refine ⟨es,clock,hb,h0,h1,h2,?_⟩
 have hk:Tryz.prog.underlying 3 = some (.int .i64):=Tryz.underlying3
 have hks:∀ y∈es.toList,IsKey (.int .i64) y.key:=fun y hy => by
  obtain ⟨z,hz,_⟩:=h1 y hy
  rw [hz]; rfl
 rcases findNow_spec (d:=.int .i64) (k:=.int .i64 x) rfl es.toList 0 hks with ⟨f1,f2⟩ | ⟨j,e0,f1,f2,f3⟩
 ·refine .inl ⟨run_findKey hk f1,?_,f2⟩
  cases hx:f x with
  | none => rfl
  | some v =>
   obtain ⟨e,he,hek⟩:=h2 x v hx
   exact absurd hek (f2 e he)
 obtain ⟨z,hz,hzv⟩:=h1 e0 (List.mem_of_getElem? f2)
 have hzz:=hz
 rw [f3] at hz
 injection hz with _ hz
 subst hz
 refine .inr ⟨j,e0,?_,by simpa using f2,f3,hzv⟩
 simpa using run_findKey (w:=w) hk f1
theorem aX.look {f:Int→Option Value} {b:Nat} {w:World} {t e:TypeId} {z:Value} (h:aX f b w) (ht:Tryz.prog.underlying t = some (.map 3 e)) (hz:(zeroValue e).run Tryz.prog w = .ok z w) (x:Int) :
  (Instr.lookup t (.map (some b)) (.int .i64 x) false).run Tryz.prog w = .ok ((f x).getD z) w:=by
 obtain ⟨es,clock,hb,_,_,_,hf⟩:=h.find x
 have hch:∀ em,(Instr.checkKey em 10000 3 (.int .i64 x)).run Tryz.prog w = .ok () w:=fun em => run_checkKey Tryz.underlying3 (show IsKey (.int .i64) (.int .i64 x) from rfl) em 9999
 rcases hf with ⟨h1,h2,_⟩ | ⟨j,e0,h1,_,_,h2⟩
 ·simp [Instr.lookup,run_underlying ht,MapKept.run_getObj_map hb,hch,h1,hz,Result.andThen,h2]
 simp [Instr.lookup,run_underlying ht,MapKept.run_getObj_map hb,hch,h1,Result.andThen,h2]
theorem aX.update {f:Int→Option Value} {b:Nat} {w:World} {t e:TypeId} (h:aX f b w) (ht:Tryz.prog.underlying t = some (.map 3 e)) (x:Int) (v:Value) :
  ∃ w',(Instr.mapUpdate t (.map (some b)) (.int .i64 x) v).run Tryz.prog w = .ok () w'∧aX (putF f x (some v)) b w'∧w.grownBy w' (some b):=by
 obtain ⟨es,clock,hb,g0,g1,g2,hf⟩:=h.find x
 have hch:∀ em,(Instr.checkKey em 10000 3 (.int .i64 x)).run Tryz.prog w = .ok () w:=fun em => run_checkKey Tryz.underlying3 (show IsKey (.int .i64) (.int .i64 x) from rfl) em 9999
 rcases hf with ⟨h1,h2,h3⟩ | ⟨j,e0,h1,hj,h3,h2⟩
 ·refine ⟨setBlock w b (.map (es.push ⟨.int .i64 x,v,clock⟩) (clock + 1)),?_,⟨_,_,heap_setBlock_same hb _,?_,?_,?_⟩,⟨rfl,rfl,rfl,by simp [setBlock],fun i _ hi => heap_setBlock_other hb _ (fun e => hi (by rw [e]))⟩⟩
  ·simp [Instr.mapUpdate,run_underlying ht,MapKept.run_getObj_map hb,hch,h1,MapKept.run_setObj_map _ hb,Result.andThen,setBlock]
  ·rw [Array.toList_push,List.map_append,List.nodup_append]
   refine ⟨g0,by simp,?_⟩
   intro a ha b hb
   obtain ⟨y,hy,rfl⟩:=List.mem_map.1 ha
   simp only [List.map_cons,List.map_nil,List.mem_singleton] at hb
   rw [hb]
   exact h3 y hy
  ·intro e' he'
   simp only [Array.toList_push,List.mem_append,List.mem_singleton] at he'
   rcases he' with he' | rfl
   ·obtain ⟨z,z1,z2⟩:=g1 e' he'
    refine ⟨z,z1,?_⟩
    unfold putF
    rw [if_neg (fun q => h3 e' he' (by rw [z1,q]))]
    exact z2
   exact ⟨x,rfl,by unfold putF; rw [if_pos rfl]⟩
  intro z u hz
  unfold putF at hz
  by_cases hzx:z = x
  ·exact ⟨_,by simp; exact .inr rfl,by rw [hzx]⟩
  rw [if_neg hzx] at hz
  obtain ⟨e',he',hk'⟩:=g2 z u hz
  exact ⟨e',by simp; exact .inl (by simpa using he'),hk'⟩
 have hst:(Instr.keyThatStays (.int .i64 x) (.int .i64 x)).run Tryz.prog w = .ok (.int .i64 x) w:=run_keyThatStays (d:=.int .i64) (show IsKey (.int .i64) (.int .i64 x) from rfl)
 have hjl:es.toList[j]? = some e0:=by simpa using hj
 have hlist:(es.modify j (fun e' => { e' with key:=.int .i64 x,val:=v })).toList = es.toList.set j { e0 with key:=.int .i64 x,val:=v }:=by rw [Array.toList_modify,Go.ChangeMaps.modify_eq_set _ _ _ _ hjl]
 have hkeys:(es.toList.set j { e0 with key:=.int .i64 x,val:=v }).map (·.key) = es.toList.map (·.key):=by
  rw [List.map_set]
  refine List.ext_getElem? (fun i => ?_)
  rw [List.getElem?_set]
  split
  ·rename_i hij
   subst hij
   rw [List.getElem?_map,hjl]
   have:j < es.toList.length:=(List.getElem?_eq_some_iff.1 hjl).1
   simp [h3]
   simpa using this
  rfl
 have who:∀ y∈es.toList.set j { e0 with key:=.int .i64 x,val:=v },y = { e0 with key:=.int .i64 x,val:=v }∨(y∈es.toList∧y.key≠.int .i64 x):=by
  intro y hy
  obtain ⟨i,hi,ey⟩:=List.getElem_of_mem hy
  rw [List.getElem_set] at ey
  split at ey
  ·exact .inl ey.symm
  rename_i hne
  have hi':i < es.toList.length:=by simpa using hi
  have hjl':j < es.toList.length:=(List.getElem?_eq_some_iff.1 hjl).1
  refine .inr ⟨ey ▸ List.getElem_mem hi',fun q => hne ?_⟩
  have h7:es.toList[j] = e0:=by
   have:=List.getElem?_eq_getElem hjl'
   rw [hjl] at this
   exact (Option.some.inj this).symm
  have h5:=List.pairwise_iff_getElem.1 g0
  have hk:es.toList[i].key = es.toList[j].key:=by rw [h7,h3,show es.toList[i] = y from ey,q]
  rcases Nat.lt_trichotomy i j with h | h | h
  ·exact absurd (by rw [List.getElem_map,List.getElem_map]; exact hk) (h5 i j (by simpa using hi') (by simpa using hjl') h)
  ·exact h.symm
  exact absurd (by rw [List.getElem_map,List.getElem_map]; exact hk.symm) (h5 j i (by simpa using hjl') (by simpa using hi') h)
 refine ⟨setBlock w b (.map (es.modify j fun e' => { e' with key:=.int .i64 x,val:=v }) clock),?_,⟨_,_,heap_setBlock_same hb _,?_,?_,?_⟩,⟨rfl,rfl,rfl,by simp [setBlock],fun i _ hi => heap_setBlock_other hb _ (fun e => hi (by rw [e]))⟩⟩
 ·simp [Instr.mapUpdate,run_underlying ht,MapKept.run_getObj_map hb,hch,h1,hj,h3,hst,MapKept.run_setObj_map _ hb,Result.andThen,setBlock]
 ·rw [hlist,hkeys]
  exact g0
 ·intro e' he'
  rw [hlist] at he'
  rcases who e' he' with rfl | ⟨he2,hne⟩
  ·exact ⟨x,rfl,by unfold putF; rw [if_pos rfl]⟩
  obtain ⟨z,z1,z2⟩:=g1 e' he2
  refine ⟨z,z1,?_⟩
  unfold putF
  rw [if_neg (fun q => hne (by rw [z1,q]))]
  exact z2
 intro z u hz
 rw [hlist]
 unfold putF at hz
 by_cases hzx:z = x
 ·exact ⟨{ e0 with key:=.int .i64 x,val:=v },List.mem_iff_getElem.2 ⟨j,by simpa using (List.getElem?_eq_some_iff.1 hjl).1,by simp⟩,by rw [hzx]⟩
 rw [if_neg hzx] at hz
 obtain ⟨e',he',hk'⟩:=g2 z u hz
 obtain ⟨i,hi,ei⟩:=List.getElem_of_mem he'
 have hij:j≠i:=fun q => by
  subst q
  have h7:es.toList[j] = e0:=by
   have:=List.getElem?_eq_getElem hi
   rw [hjl] at this
   exact (Option.some.inj this).symm
  rw [h7] at ei
  rw [<- ei,h3] at hk'
  injection hk' with _ hk'
  exact hzx hk'.symm
 exact ⟨e',List.mem_iff_getElem.2 ⟨i,by simpa using hi,by rw [List.getElem_set_ne hij]; exact ei⟩,hk'⟩
theorem zero3 (w:World):(zeroValue 3).run Tryz.prog w = .ok (.int .i64 0) w:=by kernel_rfl
theorem zero4 (w:World):(zeroValue 4).run Tryz.prog w = .ok (.bool false) w:=by kernel_rfl
theorem aT.over {S:Int→Bool} {b:Nat} {w w':World} (h:aT S b w) (hb:Below w.heap.size w w'):aT S b w':=aX.over h hb
theorem bh.over {f:Int→Option Int} {b:Nat} {w w':World} (h:bh f b w) (hb:Below w.heap.size w w'):bh f b w':=aX.over h hb
theorem aT.kept {S:Int→Bool} {b:Nat} {w w':World} (h:aT S b w) (he:w'.heap[b]? = w.heap[b]?):aT S b w':=aX.kept h he
theorem bh.kept {f:Int→Option Int} {b:Nat} {w w':World} (h:bh f b w) (he:w'.heap[b]? = w.heap[b]?):bh f b w':=aX.kept h he
theorem aT.look {S:Int→Bool} {b:Nat} {w:World} (h:aT S b w) (x:Int):(Instr.lookup 128 (.map (some b)) (.int .i64 x) false).run Tryz.prog w = .ok (.bool (S x)) w:=by
 have:=aX.look h Tryz.underlying128 (zero4 w) x
 rw [this]
 unfold setF
 cases S x <;> rfl
def numD (f:Int→Option Int) (x:Int):Int:=(f x).getD 0
theorem bh.look {f:Int→Option Int} {b:Nat} {w:World} (h:bh f b w) (x:Int):(Instr.lookup 127 (.map (some b)) (.int .i64 x) false).run Tryz.prog w = .ok (.int .i64 (numD f x)) w:=by
 have:=aX.look h Tryz.underlying127 (zero3 w) x
 rw [this]
 unfold numF numD
 cases f x <;> rfl
theorem aT.update {S:Int→Bool} {b:Nat} {w:World} (h:aT S b w) (x:Int):∃ w',(Instr.mapUpdate 128 (.map (some b)) (.int .i64 x) (.bool true)).run Tryz.prog w = .ok () w'∧aT (putF S x true) b w'∧w.grownBy w' (some b):=by
 obtain ⟨w',h1,h2,h3⟩:=aX.update h Tryz.underlying128 x (.bool true)
 refine ⟨w',h1,?_,h3⟩
 have:putF (setF S) x (some (Value.bool true)) = setF (putF S x true):=by
  funext y
  unfold putF setF
  by_cases q:y = x <;> simp [q]
 rw [this] at h2
 exact h2
theorem bh.update {f:Int→Option Int} {b:Nat} {w:World} (h:bh f b w) (x v:Int):∃ w',(Instr.mapUpdate 127 (.map (some b)) (.int .i64 x) (.int .i64 v)).run Tryz.prog w = .ok () w'∧bh (putF f x (some v)) b w'∧w.grownBy w' (some b):=by
 obtain ⟨w',h1,h2,h3⟩:=aX.update h Tryz.underlying127 x (.int .i64 v)
 refine ⟨w',h1,?_,h3⟩
 have:putF (numF f) x (some (Value.int .i64 v)) = numF (putF f x (some v)):=by
  funext y
  unfold putF numF
  by_cases q:y = x <;> simp [q]
 rw [this] at h2
 exact h2
theorem setAt_new (w:World):aT (fun _ => false) w.heap.size (w.alloc (.map #[] 0)):=funAt_new w
theorem numAt_new (w:World):bh (fun _ => none) w.heap.size (w.alloc (.map #[] 0)):=funAt_new w
def refE (st:Int→Option Int) (ls:Int→Bool) (k v:Int):Int:=if k = 20 then orE (decide (v≠0) && decide (numD st v≠1)) 25 else if k = 1 then orE (decide (v≠0) && decide (numD st v≠2)) 25 else if k = 33 then orE (decide (v≠0) && !(ls v)) 26 else 0
theorem ref109 (c m1 m2 m3 m4 m5:Nat) (u:Int) (st:Int→Option Int) (ls:Int→Bool) (k v:Int) (w:World) (hb:w.heap[c]? = some (.cells #[.map (some m1),.map (some m2),.map (some m3),.map (some m4),.map (some m5),.int .i64 u] 130 (0,0))) (h1:bh st m1 w) (h2:aT ls m2 w):Calls Tryz.prog 109 #[.pointer (some ⟨c,0,none⟩),.int .i64 k,.int .i64 v] w fun e w' => e = .returned (.int .i64 (refE st ls k v))∧w = w':=by
 obtain ⟨V,hV⟩:=gX (refE st ls k v)
 rw [<- hV]
 unfold refE at hV
 by_cases h20:k = 20
 ·subst h20
  rw [if_pos rfl] at hV
  by_cases hv0:v = 0
  ·have bv:(v == 0) = true:=by simp [hv0]
   have bn:(v != 0) = false:=by simp [hv0]
   have HE:=qH (show orE false 25 = V from by rw [hV,hv0]; rfl)
   clear hV hv0
   obtain ⟨E,hE⟩:=gX (orE false 25)
   have C1:Hid (∀ W,Calls Tryz.prog 51 #[.bool false,.int .i64 25] W fun e w' => e = .returned (.int .i64 E)∧W = w'):=qH (fun W => by rw [hE]; exact bo false 25 W)
   rw [<- hE] at HE
   clear hE
   go_enter Tryz.func109,Tryz.ntmps109
   go_upto_region 7 with fail
   refine aG ?_
   simp only [List.map]
   refine gd2i v ?_
   refine gd2b false ?_
   refine gd2b false ?_
   refine aM rfl trivial ?_
   simp only [Act.put,PutA,PutZ,PutS]
   refine aM rfl trivial ?_
   simp only [Act.put,PutA,PutZ,PutS]
   refine aM rfl trivial ?_
   simp only [Act.put,PutA,PutZ,PutS]
   refine aM rfl trivial ?_
   simp only [Act.put,PutA,PutZ,PutS]
   refine aM rfl trivial ?_
   simp only [Act.put,PutA,PutZ,PutS]
   refine aM rfl trivial ?_
   simp only [Act.put,PutA,PutZ,PutS]
   refine aM rfl trivial ?_
   simp only [Act.put,PutA,PutZ,PutS]
   refine aM rfl trivial ?_
   simp only [Act.put,PutA,PutZ,PutS]
   refine gd2b false ?_
   refine ax rfl ?_
   refine af 51 #[.bool false,.int .i64 25] (by go_simp) ?_
   refine Calls.mono (C1.out _) ?_
   rintro e wp1 ⟨rfl,rfl⟩
   refine ⟨_,rfl,trivial,?_⟩
   refine ad ?_
   simp only [Act.put,PutA,PutZ,PutS]
   refine ax rfl ?_
   refine a7 (.int .i64 E) (by go_simp) trivial ?_
   refine ad ?_
   simp only [Act.put,PutA,PutZ,PutS]
   refine NoPanic.normal (NoPanic.normal ?_)
   go_wp2_with fail
   go_ret
   exact ⟨by rw [<- HE.out]; rfl,rfl⟩
  have bv:(v == 0) = false:=by simp [hv0]
  have bn:(v != 0) = true:=by simp [hv0]
  obtain ⟨q,hq⟩:=gX ((numD st v != 1))
  have HE:=qH (show orE q 25 = V from by rw [hV,hq]; simp [hv0] <;> rfl)
  clear hV hv0
  obtain ⟨E,hE⟩:=gX (orE q 25)
  have C1:Hid (∀ W,Calls Tryz.prog 51 #[.bool q,.int .i64 25] W fun e w' => e = .returned (.int .i64 E)∧W = w'):=qH (fun W => by rw [hE]; exact bo q 25 W)
  rw [<- hE] at HE
  clear hE
  have fq:=hq.symm
  clear hq
  go_enter Tryz.func109,Tryz.ntmps109
  go_upto_region 7 with fail
  refine aG ?_
  simp only [List.map]
  refine gd2i v ?_
  refine gd2b true ?_
  refine gd2b true ?_
  refine gd2p c 0 ?_
  refine gd2p c 0 ?_
  refine gd2p c 0 ?_
  refine gd2 (.map (some m1)) ?_ (by have q0:=aa hb 0; go_simp)
  refine gd2i v ?_
  refine gd2i (numD st v) ?_ (by have q0:=bh.look h1 v; go_simp)
  refine gd2i 1 ?_
  refine gd2b q ?_
  refine gd2b q ?_
  refine ax rfl ?_
  refine af 51 #[.bool q,.int .i64 25] (by go_simp) ?_
  refine Calls.mono (C1.out _) ?_
  rintro e wp1 ⟨rfl,rfl⟩
  refine ⟨_,rfl,trivial,?_⟩
  refine ad ?_
  simp only [Act.put,PutA,PutZ,PutS]
  refine ax rfl ?_
  refine a7 (.int .i64 E) (by go_simp) trivial ?_
  refine ad ?_
  simp only [Act.put,PutA,PutZ,PutS]
  refine NoPanic.normal (NoPanic.normal ?_)
  go_wp2_with fail
  go_ret
  exact ⟨by rw [<- HE.out]; rfl,rfl⟩
 rw [if_neg h20] at hV
 have b20:(k == 20) = false:=by rw [beq_eq_false_iff_ne]; exact h20
 by_cases h1k:k = 1
 ·subst h1k
  rw [if_pos rfl] at hV
  by_cases hv0:v = 0
  ·have bv:(v == 0) = true:=by simp [hv0]
   have bn:(v != 0) = false:=by simp [hv0]
   have HE:=qH (show orE false 25 = V from by rw [hV,hv0]; rfl)
   clear hV hv0
   obtain ⟨E,hE⟩:=gX (orE false 25)
   have C1:Hid (∀ W,Calls Tryz.prog 51 #[.bool false,.int .i64 25] W fun e w' => e = .returned (.int .i64 E)∧W = w'):=qH (fun W => by rw [hE]; exact bo false 25 W)
   rw [<- hE] at HE
   clear hE
   go_enter Tryz.func109,Tryz.ntmps109
   go_upto_region 7 with fail
   refine aG ?_
   simp only [List.map]
   refine gd2i v ?_
   refine gd2b false ?_
   refine gd2b false ?_
   refine aM rfl trivial ?_
   simp only [Act.put,PutA,PutZ,PutS]
   refine aM rfl trivial ?_
   simp only [Act.put,PutA,PutZ,PutS]
   refine aM rfl trivial ?_
   simp only [Act.put,PutA,PutZ,PutS]
   refine aM rfl trivial ?_
   simp only [Act.put,PutA,PutZ,PutS]
   refine aM rfl trivial ?_
   simp only [Act.put,PutA,PutZ,PutS]
   refine aM rfl trivial ?_
   simp only [Act.put,PutA,PutZ,PutS]
   refine aM rfl trivial ?_
   simp only [Act.put,PutA,PutZ,PutS]
   refine aM rfl trivial ?_
   simp only [Act.put,PutA,PutZ,PutS]
   refine gd2b false ?_
   refine ax rfl ?_
   refine af 51 #[.bool false,.int .i64 25] (by go_simp) ?_
   refine Calls.mono (C1.out _) ?_
   rintro e wp1 ⟨rfl,rfl⟩
   refine ⟨_,rfl,trivial,?_⟩
   refine ad ?_
   simp only [Act.put,PutA,PutZ,PutS]
   refine ax rfl ?_
   refine a7 (.int .i64 E) (by go_simp) trivial ?_
   refine ad ?_
   simp only [Act.put,PutA,PutZ,PutS]
   refine NoPanic.normal (NoPanic.normal ?_)
   go_wp2_with fail
   go_ret
   exact ⟨by rw [<- HE.out]; rfl,rfl⟩
  have bv:(v == 0) = false:=by simp [hv0]
  have bn:(v != 0) = true:=by simp [hv0]
  obtain ⟨q,hq⟩:=gX ((numD st v != 2))
  have HE:=qH (show orE q 25 = V from by rw [hV,hq]; simp [hv0] <;> rfl)
  clear hV hv0
  obtain ⟨E,hE⟩:=gX (orE q 25)
  have C1:Hid (∀ W,Calls Tryz.prog 51 #[.bool q,.int .i64 25] W fun e w' => e = .returned (.int .i64 E)∧W = w'):=qH (fun W => by rw [hE]; exact bo q 25 W)
  rw [<- hE] at HE
  clear hE
  have fq:=hq.symm
  clear hq
  go_enter Tryz.func109,Tryz.ntmps109
  go_upto_region 7 with fail
  refine aG ?_
  simp only [List.map]
  refine gd2i v ?_
  refine gd2b true ?_
  refine gd2b true ?_
  refine gd2p c 0 ?_
  refine gd2p c 0 ?_
  refine gd2p c 0 ?_
  refine gd2 (.map (some m1)) ?_ (by have q0:=aa hb 0; go_simp)
  refine gd2i v ?_
  refine gd2i (numD st v) ?_ (by have q0:=bh.look h1 v; go_simp)
  refine gd2i 2 ?_
  refine gd2b q ?_
  refine gd2b q ?_
  refine ax rfl ?_
  refine af 51 #[.bool q,.int .i64 25] (by go_simp) ?_
  refine Calls.mono (C1.out _) ?_
  rintro e wp1 ⟨rfl,rfl⟩
  refine ⟨_,rfl,trivial,?_⟩
  refine ad ?_
  simp only [Act.put,PutA,PutZ,PutS]
  refine ax rfl ?_
  refine a7 (.int .i64 E) (by go_simp) trivial ?_
  refine ad ?_
  simp only [Act.put,PutA,PutZ,PutS]
  refine NoPanic.normal (NoPanic.normal ?_)
  go_wp2_with fail
  go_ret
  exact ⟨by rw [<- HE.out]; rfl,rfl⟩
 rw [if_neg h1k] at hV
 have b1:(k == 1) = false:=by rw [beq_eq_false_iff_ne]; exact h1k
 by_cases h33:k = 33
 ·subst h33
  rw [if_pos rfl] at hV
  by_cases hv0:v = 0
  ·have bv:(v == 0) = true:=by simp [hv0]
   have bn:(v != 0) = false:=by simp [hv0]
   have HE:=qH (show orE false 26 = V from by rw [hV,hv0]; rfl)
   clear hV hv0
   obtain ⟨E,hE⟩:=gX (orE false 26)
   have C1:Hid (∀ W,Calls Tryz.prog 51 #[.bool false,.int .i64 26] W fun e w' => e = .returned (.int .i64 E)∧W = w'):=qH (fun W => by rw [hE]; exact bo false 26 W)
   rw [<- hE] at HE
   clear hE
   go_enter Tryz.func109,Tryz.ntmps109
   go_upto_region 9 with fail
   refine aG ?_
   simp only [List.map]
   refine gd2i v ?_
   refine gd2b false ?_
   refine gd2b false ?_
   refine aM rfl trivial ?_
   simp only [Act.put,PutA,PutZ,PutS]
   refine aM rfl trivial ?_
   simp only [Act.put,PutA,PutZ,PutS]
   refine aM rfl trivial ?_
   simp only [Act.put,PutA,PutZ,PutS]
   refine aM rfl trivial ?_
   simp only [Act.put,PutA,PutZ,PutS]
   refine aM rfl trivial ?_
   simp only [Act.put,PutA,PutZ,PutS]
   refine aM rfl trivial ?_
   simp only [Act.put,PutA,PutZ,PutS]
   refine aM rfl trivial ?_
   simp only [Act.put,PutA,PutZ,PutS]
   refine gd2b false ?_
   refine ax rfl ?_
   refine af 51 #[.bool false,.int .i64 26] (by go_simp) ?_
   refine Calls.mono (C1.out _) ?_
   rintro e wp1 ⟨rfl,rfl⟩
   refine ⟨_,rfl,trivial,?_⟩
   refine ad ?_
   simp only [Act.put,PutA,PutZ,PutS]
   refine ax rfl ?_
   refine a7 (.int .i64 E) (by go_simp) trivial ?_
   refine ad ?_
   simp only [Act.put,PutA,PutZ,PutS]
   refine NoPanic.normal (NoPanic.normal ?_)
   go_wp2_with fail
   go_ret
   exact ⟨by rw [<- HE.out]; rfl,rfl⟩
  have bv:(v == 0) = false:=by simp [hv0]
  have bn:(v != 0) = true:=by simp [hv0]
  obtain ⟨q,hq⟩:=gX ((!(ls v)))
  have HE:=qH (show orE q 26 = V from by rw [hV,hq]; simp [hv0] <;> rfl)
  clear hV hv0
  obtain ⟨E,hE⟩:=gX (orE q 26)
  have C1:Hid (∀ W,Calls Tryz.prog 51 #[.bool q,.int .i64 26] W fun e w' => e = .returned (.int .i64 E)∧W = w'):=qH (fun W => by rw [hE]; exact bo q 26 W)
  rw [<- hE] at HE
  clear hE
  have fq:=hq.symm
  clear hq
  go_enter Tryz.func109,Tryz.ntmps109
  go_upto_region 9 with fail
  refine aG ?_
  simp only [List.map]
  refine gd2i v ?_
  refine gd2b true ?_
  refine gd2b true ?_
  refine gd2p c 0 ?_
  refine gd2p c 0 ?_
  refine gd2p c 1 ?_
  refine gd2 (.map (some m2)) ?_ (by have q0:=aa hb 1; go_simp)
  refine gd2i v ?_
  refine gd2 (.bool (ls v)) ?_ (by have q0:=aT.look h2 v; go_simp)
  refine gd2b q ?_
  refine gd2b q ?_
  refine ax rfl ?_
  refine af 51 #[.bool q,.int .i64 26] (by go_simp) ?_
  refine Calls.mono (C1.out _) ?_
  rintro e wp1 ⟨rfl,rfl⟩
  refine ⟨_,rfl,trivial,?_⟩
  refine ad ?_
  simp only [Act.put,PutA,PutZ,PutS]
  refine ax rfl ?_
  refine a7 (.int .i64 E) (by go_simp) trivial ?_
  refine ad ?_
  simp only [Act.put,PutA,PutZ,PutS]
  refine NoPanic.normal (NoPanic.normal ?_)
  go_wp2_with fail
  go_ret
  exact ⟨by rw [<- HE.out]; rfl,rfl⟩
 rw [if_neg h33] at hV
 have b33:(k == 33) = false:=by rw [beq_eq_false_iff_ne]; exact h33
 subst hV
 clear h20 h1k h33
 go_enter Tryz.func109,Tryz.ntmps109
 go_wp2_with fail
 go_ret
 exact ⟨rfl,rfl⟩
end Go.Proofs.YtmhhcfceikcfbaaGreat
