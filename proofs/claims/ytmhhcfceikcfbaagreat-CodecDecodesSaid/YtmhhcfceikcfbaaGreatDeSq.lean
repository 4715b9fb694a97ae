/- A drawn region whose calls and stores have one order, beside loads of cells that no operation turns: walked once. -/
import Derived.OrdersHeld
import Derived.Tactics
import Derived.Deep.RegionHeld3
import Derived.Deep.MidRow
import Derived.Laws.Rows
import Derived.Laws.OwnMore
namespace Go.Proofs.YtmhhcfceikcfbaaGreat
open Go
set_option maxRecDepth 100000
set_option maxHeartbeats 4000000
theorem PutA {α:Type} {l:List α} {i:Nat} {a:α}:l.toArray.setIfInBounds i a = (l.set i a).toArray:=by simp
theorem PutZ {α:Type} {l:List α} {x a:α}:(x::l).set 0 a = a::l:=rfl
theorem PutS {α:Type} {l:List α} {x a:α} {n:Nat}:(x::l).set (n + 1) a = x::l.set n a:=rfl
section
variable {P:Program} {ops:Array Oper} {Q:Exit→Act→World→Prop} {S:World→Prop} {md:Region.Mode}
def aU (P:Program) (ops:Array Oper) (Q:Exit→Act→World→Prop) (S:World→Prop):List (Bool × Oper)→Act→World→Prop
 | [],a,w => Q .normal a w
 | (true,o)::r,a,w => ∃ v,YieldsIf P ops S o v a∧aU P ops Q S r (a.put o.dst v) w
 | (false,o)::r,a,w =>
  if Region.wanted o (yielded ops a.tmps) then o.wp P a w (fun a' w' => S w'∧aU P ops Q S r a' w') Q∨(o.asks P a w∧LetsOut Q) else S w∧aU P ops Q S r (a.put o.dst undef) w
def heldB (md:Region.Mode) (ops:Array Oper):List (Bool × Nat)→Array Bool→Bool
 | [],listed => (Region.ready md ops listed).isEmpty
 | (true,i)::r,listed => (Region.ready md ops listed).contains i && Region.free md ops listed i && heldB md ops r (listed.setIfInBounds i true)
 | (false,i)::r,listed => decide (Region.ready md ops listed = [i]) && heldB md ops r (listed.setIfInBounds i true)
def aO (l:List Oper):List (Bool × Nat)→List (Bool × Oper)
 | [] => []
 | (b,i)::r => match l[i]? with
  | some o => (b,o)::aO l r
  | none => aO l r
theorem held_sound {l:List Oper} (hns:Region.noSelect l.toArray = true) (hQ:∀ d v c a w,Q (.panic c) (Act.put a d v) w→Q (.panic c) a w) :
  ∀ (st:List (Bool × Nat)) (listed:Array Bool) (a:Act) (w:World),st.all (fun x => decide (x.2 < l.length)) = true→heldB md l.toArray st listed = true→S w →
   aU P l.toArray Q S (aO l st) a w→wpAnyH P md l.toArray Q S st.length listed a w
 | [],listed,a,w,_,hB,_,h => ⟨by simpa [heldB] using hB,h⟩
 | (true,i)::st,listed,a,w,hlt,hB,hS,h => by
  simp only [List.all_cons,Bool.and_eq_true,decide_eq_true_eq] at hlt
  simp only [heldB,Bool.and_eq_true] at hB
  have hi:l[i]? = some l[i]:=List.getElem?_eq_getElem hlt.1
  simp only [aO,hi,aU] at h
  obtain ⟨v,hy,h⟩:=h
  exact wpAnyH_take (i:=i) (oi:=l[i]) (v:=v) (by simp [hi]) hns hB.1.2 hB.1.1 (fun c a w => hQ _ _ c a w) hy hS (held_sound hns hQ st _ _ _ hlt.2 hB.2 hS h)
 | (false,i)::st,listed,a,w,hlt,hB,hS,h => by
  simp only [List.all_cons,Bool.and_eq_true,decide_eq_true_eq] at hlt
  simp only [heldB,Bool.and_eq_true,decide_eq_true_eq] at hB
  have hi:l[i]? = some l[i]:=List.getElem?_eq_getElem hlt.1
  simp only [aO,hi,aU] at h
  refine wpAnyH_all hB.1 (by simp) ?_
  intro j hj
  have hj':j = i:=by simpa using hj
  subst hj'
  have hi':l.toArray[j]? = some l[j]:=by simp [hi]
  have hw:wpOp P l.toArray Q j (fun a' w' => S w'∧aU P l.toArray Q S (aO l st) a' w') a w:=by
   unfold wpOp
   simp only [hi']
   exact h
  exact wpOp_mono (fun a' w' h' => ⟨h'.1,held_sound hns hQ st _ _ _ hlt.2 hB.2 h'.1 h'.2⟩) hw
def wpSq (P:Program) (Q:Exit→Act→World→Prop) (S:World→Prop):List (Bool × Oper)→Act→World→Prop
 | [],a,w => Q .normal a w
 | (true,o)::r,a,w => ∃ v,(∀ w,S w→(execOp a.eval o).run P w = .ok (.value v) w)∧wpSq P Q S r (a.put o.dst v) w
 | (false,o)::r,a,w => o.wp P a w (fun a' w' => S w'∧wpSq P Q S r a' w') (NoPanic Q)
theorem held_of_sq:∀ (l:List (Bool × Oper)) (a:Act) (w:World),l.all (fun x => x.2.guard.isNone) = true→wpSq P Q S l a w→aU P ops (NoPanic Q) S l a w
 | [],a,w,_,h => NoPanic.normal h
 | (true,o)::r,a,w,hg,h => by
  simp only [List.all_cons,Bool.and_eq_true,Option.isNone_iff_eq_none] at hg
  obtain ⟨v,hy,h⟩:=h
  exact ⟨v,.inl ⟨by simp [Region.wanted,hg.1],hy⟩,held_of_sq r _ _ hg.2 h⟩
 | (false,o)::r,a,w,hg,h => by
  simp only [List.all_cons,Bool.and_eq_true,Option.isNone_iff_eq_none] at hg
  unfold aU
  rw [if_pos (by simp [Region.wanted,hg.1])]
  exact .inl (Oper.wp_mono (fun a' w' h' => ⟨h'.1,held_of_sq r _ _ hg.2 h'.2⟩) h)
theorem ao {id:Nat} {a:Act} {w:World} {l:List Oper} (st:List (Bool × Nat)) (hm:P.follows .mixedOrders = true)
  (hB:(Region.noSelect l.toArray && decide (st.length = l.length) && st.all (fun x => decide (x.2 < l.length)) && (aO l st).all (fun x => x.2.guard.isNone) && heldB .any l.toArray st (Array.replicate l.toArray.size false)) = true)
  (hS:S w.drew) (h:wpSq P Q S (aO l st) a w.drew):(Code.region id l.toArray true).wp P Q a w:=by
 simp only [Bool.and_eq_true,decide_eq_true_eq] at hB
 obtain ⟨⟨⟨⟨h1,h2⟩,h3⟩,h5⟩,h4⟩:=hB
 refine wp_region_noPanic ?_
 refine wp_region_held_drew (S:=S) hm hS (fun _ => ?_)
 have:=held_sound (P:=P) (md:=.any) (Q:=NoPanic Q) (S:=S) h1 (fun _ _ _ _ _ h => h) st _ a w.drew h3 h4 hS (held_of_sq _ _ _ h5 h)
 rw [h2] at this
 simpa using this
theorem ad {a:Act} {w:World} (h:Q .normal a w):wpSq P Q S [] a w:=h
theorem bm {o:Oper} {r:List (Bool × Oper)} {a:Act} {w:World} (v:Value) (hy:∀ w,S w→(execOp a.eval o).run P w = .ok (.value v) w)
  (h:wpSq P Q S r (a.put o.dst v) w):wpSq P Q S ((true,o)::r) a w:=⟨v,hy,h⟩
theorem af {o:Oper} {r:List (Bool × Oper)} {a:Act} {w:World} (f:FuncId) (args:Array Value) (hr:(execOp a.eval o).run P w = .ok (.enter f args) w)
  (h:Calls P f args w fun e w' => ∃ v,e = .returned v∧S w'∧wpSq P Q S r (a.put o.dst v) w'):wpSq P Q S ((false,o)::r) a w:=by
 unfold wpSq Oper.wp
 rw [hr]
 refine Calls.mono h ?_
 rintro e w' ⟨v,rfl,h1,h2⟩
 exact ⟨h1,h2⟩
theorem au {o:Oper} {r:List (Bool × Oper)} {a:Act} {w:World} (v:Value) (w':World) (hr:(execOp a.eval o).run P w = .ok (.value v) w')
  (hS:S w') (h:wpSq P Q S r (a.put o.dst v) w'):wpSq P Q S ((false,o)::r) a w:=by
 unfold wpSq Oper.wp
 rw [hr]
 exact ⟨hS,h⟩
theorem sq_skip {o:Oper} {r:List (Bool × Oper)} {a:Act} {w:World} (w':World) (hr:(execOp a.eval o).run P w = .ok .skip w')
  (hS:S w') (h:wpSq P Q S r (a.put o.dst undef) w'):wpSq P Q S ((false,o)::r) a w:=by
 unfold wpSq Oper.wp
 rw [hr]
 exact ⟨hS,h⟩
theorem ac {id:Nat} {a:Act} {w:World} {l:List Oper} (hB:l.all (fun o => o.guard.isNone) = true) (h:wpSq P Q (fun _ => True) (l.map (fun o => (false,o))) a w):(Code.region id l.toArray false).wp P Q a w:=by
 refine wp_region_noPanic (wp_region_lit ?_)
 have key:∀ (m:List Oper) (a:Act) (w:World),m.all (fun o => o.guard.isNone) = true→wpSq P Q (fun _ => True) (m.map (fun o => (false,o))) a w→wpList P l.toArray (NoPanic Q) m a w:=by
  intro m
  induction m with
  | nil => intro a w _ h; exact NoPanic.normal h
  | cons o r ih =>
   intro a w hg h
   simp only [List.all_cons,Bool.and_eq_true,Option.isNone_iff_eq_none] at hg
   refine wpList_plain hg.1 fun K hK => ?_
   exact Oper.wp_mono (fun a' w' h' => hK a' w' (ih a' w' hg.2 h'.2)) h
 exact key l a w hB h
def putAll (old:Array Value):Nat→List Value→Array Value
 | _,[] => old
 | k,v::r => putAll (old.setIfInBounds k v) (k + 1) r
theorem setCells_blk (g:Nat) (t:TypeId):∀ (cs:List Value) (k:Nat) (old:Array Value) (w:World),w.heap[g]? = some (.cells old t (0,0))→(w.setCells g k cs).heap[g]? = some (.cells (putAll old k cs) t (0,0))∧w.grownBy (w.setCells g k cs) (some g)
 | [],k,old,w,h => ⟨h,rfl,rfl,rfl,Nat.le_refl _,fun _ _ _ => rfl⟩
 | v::r,k,old,w,h => by
  obtain ⟨h1,h2⟩:=setCells_blk g t r (k + 1) (old.setIfInBounds k v) (w.setCell ⟨g,k,none⟩ v) (heap_setCell_same w g k old t v h)
  refine ⟨h1,h2.os,h2.tape,h2.output,Nat.le_trans (by simp) h2.size,fun i hi hn => ?_⟩
  exact (h2.block i (by simpa using hi) hn).trans (heap_setCell_other w ⟨g,k,none⟩ i v (fun e => hn (by rw [e])))
theorem aj {o:Oper} {r:List (Bool × Oper)} {a:Act} {w:World} (ty:TypeId) (x y:Operand) (ho:o.op = .store ty x y) (hd:o.dst = none) (g k:Nat) (t:TypeId) (old new:Array Value) (cs:List Value)
  (hx:a.eval x = .pointer (some ⟨g,k,none⟩)) (hy:(a.eval y).cells = cs.toArray) (hg:w.heap[g]? = some (.cells old t (0,0))) (hi:(P.info? ty).map (·.size) = some cs.length)
  (h1:∀ v∈cs,v.oneCell' = true) (hn:putAll old k cs = new) (hfit:k + cs.length≤old.size)
  (h:∀ w',w'.heap[g]? = some (.cells new t (0,0))→w.grownBy w' (some g)→S w'∧wpSq P Q S r a w'):wpSq P Q S ((false,o)::r) a w:=by
 have hst:=run_storeCells_cells (P:=P) g k cs 0 w (fun j hj => by
  have:w.cell? ⟨g,k + 0 + j,none⟩ = some old[k + 0 + j]:=by
   rw [cell_of_row w g (k + 0 + j) old t (0,0) hg]
   exact Array.getElem?_eq_getElem (by omega)
  rw [this]
  rfl) (fun j hj => frozen_of_row w g _ old t hg) h1
 have hrun:(execOp a.eval o).run P w = .ok .skip (w.setCells g k cs):=by
  unfold execOp
  simp only [ho,hx,Instr.storeAt,Instr.sureAddr,Sem.run_bind,Sem.run_pure,Result.andThen_ok]
  cases hq:P.info? ty with
  | none => simp [hq] at hi
  | some i =>
   have hs:i.size = cs.length:=by simpa [hq] using hi
   simp only [Nat.add_zero] at hst
   simp [storeVar,sizeOf,typeInfo,hq,hy,hs,hst]
 obtain ⟨b1,b2⟩:=setCells_blk g t cs k old w hg
 rw [hn] at b1
 obtain ⟨k1,k2⟩:=h _ b1 b2
 refine sq_skip (w.setCells g k cs) hrun k1 ?_
 rw [hd]
 exact k2
theorem ar {o:Oper} {r:List (Bool × Oper)} {a:Act} {w:World} (ty:TypeId) (x:Operand) (ho:o.op = .load ty x) (g:Nat) (t:TypeId) (cs:Array Value) (d:TypeDesc)
  (hx:a.eval x = .pointer (some ⟨g,0,none⟩)) (hg:w.heap[g]? = some (.cells cs t (0,0))) (hu:P.underlying ty = some d) (hd:(match d with | .struct _ | .array _ _ => true | _ => false) = true) (hi:(P.info? ty).map (·.size) = some cs.size)
  (hS:S w) (h:wpSq P Q S r (a.put o.dst (.agg cs)) w):wpSq P Q S ((false,o)::r) a w:=by
 refine au (.agg cs) w ?_ hS h
 unfold execOp
 simp only [ho,hx,Instr.loadAt,Instr.sureAddr,Sem.run_bind,Sem.run_pure,Result.andThen_ok,run_loadVar_row w g t ty cs (0,0) d hg hu hd hi]
theorem a7 {o:Oper} {r:List (Bool × Oper)} {a:Act} {w:World} (v:Value) (hr:(execOp a.eval o).run P w = .ok (.value v) w)
  (hS:S w) (h:wpSq P Q S r (a.put o.dst v) w):wpSq P Q S ((false,o)::r) a w:=au v w hr hS h
theorem putAll_get (cs:List Value):∀ (k:Nat) (old:Array Value) (j:Nat),k + cs.length≤old.size→(putAll old k cs)[j]? = if k≤j∧j < k + cs.length then cs[j - k]? else old[j]?:=by
 induction cs with
 | nil =>
  intro k old j _
  rw [putAll,if_neg (by simp)]
 | cons v r ih =>
  intro k old j h
  simp only [List.length_cons] at h ⊢
  rw [putAll,ih (k + 1) _ j (by simp; omega)]
  by_cases h1:j = k
  ·subst h1
   rw [if_neg (by omega),if_pos (by omega),Nat.sub_self,List.getElem?_cons_zero,Array.getElem?_setIfInBounds_self_of_lt (by omega)]
  by_cases h2:k + 1≤j∧j < k + 1 + r.length
  ·rw [if_pos h2,if_pos (by omega)]
   obtain ⟨m,rfl⟩:∃ m,j = k + 1 + m:=⟨j - (k + 1),by omega⟩
   rw [Nat.add_sub_cancel_left,show k + 1 + m - k = m + 1 by omega,List.getElem?_cons_succ]
  rw [if_neg h2,if_neg (by omega),Array.getElem?_setIfInBounds_ne (by omega)]
theorem putAll_whole {old:Array Value} {cs:List Value} (h:old.size = cs.length):putAll old 0 cs = cs.toArray:=by
 apply Array.ext_getElem?
 intro j
 rw [putAll_get cs 0 old j (by omega)]
 by_cases hj:j < cs.length
 ·rw [if_pos (by omega)]
  simp
 rw [if_neg (by omega),Array.getElem?_eq_none (by omega),Array.getElem?_eq_none (by simpa using hj)]
theorem as_ {o:Oper} {r:List (Bool × Oper)} {a:Act} {w:World} (ty:TypeId) (x y:Operand) (ho:o.op = .store ty x y) (hd:o.dst = none) (g:Nat) (t:TypeId) (old:Array Value) (cs:List Value)
  (hx:a.eval x = .pointer (some ⟨g,0,none⟩)) (hy:a.eval y = .agg cs.toArray) (hg:w.heap[g]? = some (.cells old t (0,0))) (hi:(P.info? ty).map (·.size) = some cs.length)
  (h1:∀ v∈cs,v.oneCell' = true) (hl:old.size = cs.length)
  (h:∀ w',w'.heap[g]? = some (.cells cs.toArray t (0,0))→w.grownBy w' (some g)→S w'∧wpSq P Q S r a w'):wpSq P Q S ((false,o)::r) a w :=
 aj ty x y ho hd g 0 t old cs.toArray cs hx (by rw [hy]; rfl) hg hi h1 (putAll_whole hl) (by omega) h
end
end Go.Proofs.YtmhhcfceikcfbaaGreat
namespace Go.Proofs.YtmhhcfceikcfbaaGreat
open Go
set_option maxRecDepth 100000
set_option maxHeartbeats 4000000
section
variable {P:Program} {ops:Array Oper} {Q:Exit→Act→World→Prop} {S:World→Prop} {md:Region.Mode} {m:Nat}
theorem Oper.wp_mono2 {o:Oper} {a:Act} {w:World} {K K':Act→World→Prop} {Q Q':Exit→Act→World→Prop} (h:∀ a w,K a w→K' a w)
  (hp:∀ c a w,Q (.panic c) a w→Q' (.panic c) a w) (hL:LetsOut Q→LetsOut Q') (hh:o.wp P a w K Q):o.wp P a w K' Q':=by
 unfold Oper.wp at *
 generalize (execOp a.eval o).run P w = r at *
 cases r with
 | ok n w' =>
  cases n <;> simp only [Oper.upon] at hh ⊢ <;>
   first
    | exact h _ _ hh
    | exact Calls.mono hh (fun e w'' he => by cases e <;> first | exact h _ _ he | exact hp _ _ _ he | exact hL he)
    | exact Rows.mono hh (fun _ _ he => h _ _ he)
 | halt x w' => cases x <;> simp only [Oper.upon] at hh ⊢ <;> first | exact hp _ _ _ hh | exact hh
def Then1 (K:Act→World→Prop):Exit→Act→World→Prop
 | .normal,a,w => K a w
 | _,_,_ => False
theorem sq_of_list {o:Oper} {r:List (Bool × Oper)} {a:Act} {w:World} (hg:o.guard = none)
  (h:wpList P #[] (Then1 (fun a w => S w∧wpSq P Q S r a w)) [o] a w):wpSq P Q S ((false,o)::r) a w:=by
 unfold wpSq
 unfold wpList at h
 rw [if_pos (by simp [Region.wanted,hg])] at h
 rcases h with h | ⟨_,_,_,h⟩
 ·exact Oper.wp_mono2 (fun _ _ h => h) (fun _ _ _ h => h.elim) (fun ⟨_,_,h⟩ => h.elim) h
 exact h.elim
theorem list_done {K:Act→World→Prop} {a:Act} {w:World} (h:K a w):wpList P #[] (Then1 K) [] a w:=h
theorem aI {id:Nat} {a:Act} {w:World} {l:List Oper} (st:List (Bool × Nat)) (hm:P.follows .mixedOrders = true)
  (hB:(Region.noSelect l.toArray && decide (st.length = l.length) && st.all (fun x => decide (x.2 < l.length)) && heldB .any l.toArray st (Array.replicate l.toArray.size false)) = true)
  (hS:S w.drew) (h:aU P l.toArray (NoPanic Q) S (aO l st) a w.drew):(Code.region id l.toArray true).wp P Q a w:=by
 simp only [Bool.and_eq_true,decide_eq_true_eq] at hB
 obtain ⟨⟨⟨h1,h2⟩,h3⟩,h4⟩:=hB
 refine wp_region_noPanic ?_
 refine wp_region_held_drew (S:=S) hm hS (fun _ => ?_)
 have:=held_sound (P:=P) (md:=.any) (Q:=NoPanic Q) (S:=S) h1 (fun _ _ _ _ _ h => h) st _ a w.drew h3 h4 hS h
 rw [h2] at this
 simpa using this
theorem hd_load {o:Oper} {r:List (Bool × Oper)} {a:Act} {w:World} (v:Value) (hw:Region.wanted o (yielded ops a.tmps) = true) (hy:∀ w,S w→(execOp a.eval o).run P w = .ok (.value v) w)
  (h:aU P ops Q S r (a.put o.dst v) w):aU P ops Q S ((true,o)::r) a w:=⟨v,.inl ⟨hw,hy⟩,h⟩
theorem aA {o:Oper} {r:List (Bool × Oper)} {a:Act} {w:World} (hw:Region.wanted o (yielded ops a.tmps) = false)
  (h:aU P ops Q S r (a.put o.dst undef) w):aU P ops Q S ((true,o)::r) a w:=⟨undef,.inr ⟨hw,rfl⟩,h⟩
theorem aM {o:Oper} {r:List (Bool × Oper)} {a:Act} {w:World} (hw:Region.wanted o (yielded ops a.tmps) = false) (hS:S w)
  (h:aU P ops Q S r (a.put o.dst undef) w):aU P ops Q S ((false,o)::r) a w:=by
 unfold aU
 rw [if_neg (by rw [hw]; decide)]
 exact ⟨hS,h⟩
theorem ax {o:Oper} {r:List (Bool × Oper)} {a:Act} {w:World} (hw:Region.wanted o (yielded ops a.tmps) = true)
  (h:wpSq P (Then1 (fun a w => aU P ops (NoPanic Q) S r a w)) S [(false,o)] a w):aU P ops (NoPanic Q) S ((false,o)::r) a w:=by
 unfold aU
 rw [if_pos hw]
 unfold wpSq at h
 exact .inl (Oper.wp_mono2 (fun _ _ h => h) (fun _ _ _ h => h.elim) (fun ⟨_,_,h⟩ => h.elim) h)
theorem bF {a:Act} {w:World} (h:Q .normal a w):aU P ops (NoPanic Q) S [] a w:=NoPanic.normal h
def wpAnyT (P:Program) (md:Region.Mode) (ops:Array Oper) (Q:Exit→Act→World→Prop) (S:World→Prop) (m:Nat):Nat→Array Bool→Act→World→Prop
 | 0,listed,a,w => Region.ready md ops listed = []∧Q .normal a w
 | fuel + 1,listed,a,w =>
  (Region.ready md ops listed = []→Q .normal a w) ∧
  ∀ i∈Region.ready md ops listed,wpOp P ops Q i (fun a' w' => ((listed.setIfInBounds i true).getD m false = false→S w')∧wpAnyT P md ops Q S m fuel (listed.setIfInBounds i true) a' w') a w
theorem wpAny_of_T:∀ (fuel:Nat) (listed:Array Bool) (a:Act) (w:World),wpAnyT P md ops Q S m fuel listed a w→wpAny P md ops Q fuel listed a w
 | 0,_,_,_,h => h
 | fuel + 1,_,_,_,h => ⟨h.1,fun i hi => wpOp_mono (fun a' w' h' => wpAny_of_T fuel _ a' w' h'.2) (h.2 i hi)⟩
def waitsB (md:Region.Mode) (ops:Array Oper) (m i:Nat):Bool :=
 match ops[m]? with
 | some o => o.after.any fun e => Region.binds md e && e.on == i
 | none => true
theorem wpAnyT_first {i:Nat} {oi:Oper} {v:Value} (T:World→Prop) (hi:ops[i]? = some oi) (hsel:∀ (j:Nat) (o:Oper) cs b,ops[j]? = some o→o.op≠.select cs b) (hmi:m≠i)
  (hQ:∀ c a w,Q (.panic c) (a.put oi.dst v) w→Q (.panic c) a w) (hT:(∀ w,T w)∨((∀ w,S w→T w)∧waitsB md ops m i = true)) :
  ∀ (fuel:Nat) (listed:Array Bool) (a:Act) (w:World),
   (∀ j oj,ops[j]? = some oj→j≠i→listed.getD j true = false→(∀ e∈oj.after,Region.binds md e = true→e.on≠i)→oi.apart ops oj = true) →
   i∈Region.ready md ops listed→YieldsIf P ops T oi v a→(listed.getD m false = false→S w)→((∀ w,T w)∨listed.getD m false = false) →
   wpAnyT P md ops Q S m fuel (listed.setIfInBounds i true) (a.put oi.dst v) w→wpAnyT P md ops Q S m (fuel + 1) listed a w:=by
 intro fuel
 have hTw:∀ (listed:Array Bool) (w:World),(listed.getD m false = false→S w)→((∀ w,T w)∨listed.getD m false = false)→T w:=by
  intro listed w hS hm
  rcases hm with h | h
  ·exact h w
  ·rcases hT with h2 | ⟨h2,_⟩
   ·exact h2 w
   ·exact h2 w (hS h)
 induction fuel with
 | zero =>
  intro listed a w _ hr hy hS hlm H
  refine ⟨fun h => (by rw [h] at hr; cases hr),fun j hj => ?_⟩
  by_cases hji:j = i
  ·subst hji
   refine hy.wpOp hi (hTw listed w hS hlm) ⟨fun hl => hS ?_,H⟩
   rw [getD_set_ne false (Ne.symm hmi)] at hl
   exact hl
  ·have:=ready_mono hj hji
   rw [H.1] at this
   cases this
 | succ fuel ih =>
  intro listed a w hfree hr hy hS hlm H
  refine ⟨fun h => (by rw [h] at hr; cases hr),fun j hj => ?_⟩
  by_cases hji:j = i
  ·subst hji
   refine hy.wpOp hi (hTw listed w hS hlm) ⟨fun hl => hS ?_,H⟩
   rw [getD_set_ne false (Ne.symm hmi)] at hl
   exact hl
  ·have h1:=H.2 j (ready_mono hj hji)
   obtain ⟨hjun,oj,hoj,hall⟩:=mem_ready.1 hj
   have hnot:∀ e∈oj.after,Region.binds md e = true→e.on≠i:=fun e he hb heq => by
    have h1:=hall e he hb
    have h0:=(mem_ready.1 hr).1
    rw [heq] at h1
    rcases Nat.lt_or_ge i listed.size with h' | h'
    ·simp [h'] at h0 h1; rw [h0] at h1; cases h1
    ·simp [Array.getElem?_eq_none h'] at h1
   have h2:=wpOp_putIf hoj (hfree j oj hoj hji hjun hnot) (fun cs b => hsel i oi cs b hi) (fun cs b => hsel j oj cs b hoj) hQ hy h1
   have hfree':∀ k ok,ops[k]? = some ok→k≠i→(listed.setIfInBounds j true).getD k true = false →
     (∀ e∈ok.after,Region.binds md e = true→e.on≠i)→oi.apart ops ok = true:=fun k ok hk hki hun hno => by
    refine hfree k ok hk hki ?_ hno
    by_cases hjk:j = k
    ·subst hjk; exact hjun
    ·rw [getD_set_ne true hjk] at hun; exact hun
   have hlm':(∀ w,T w)∨(listed.setIfInBounds j true).getD m false = false:=by
    rcases hlm with h | h
    ·exact .inl h
    ·rcases hT with h3 | ⟨_,hw⟩
     ·exact .inl h3
     ·refine .inr ?_
      have hjm:j≠m:=by
       intro q
       subst q
       unfold waitsB at hw
       rw [hoj] at hw
       obtain ⟨e,he,hb⟩:=Array.any_eq_true'.1 hw
       simp only [Bool.and_eq_true,beq_iff_eq] at hb
       exact hnot e he hb.1 hb.2
      rw [getD_set_ne false hjm]
      exact h
   have hcomm:(listed.setIfInBounds i true).setIfInBounds j true = (listed.setIfInBounds j true).setIfInBounds i true:=(Array.setIfInBounds_comm _ _ (Ne.symm hji))
   refine wpOp_mono (fun a' w' h3 => ?_) h2
   obtain ⟨k1,k2,k3⟩:=h3
   rw [hcomm] at k2 k3
   have hS':(listed.setIfInBounds j true).getD m false = false→S w':=fun q => k2 (by rw [getD_set_ne false (Ne.symm hmi)]; exact q)
   exact ⟨hS',ih (listed.setIfInBounds j true) a' w' hfree' (ready_mono hr (Ne.symm hji)) k1 hS' hlm' k3⟩
def wpTg (P:Program) (Q:Exit→Act→World→Prop) (S:World→Prop):List (Nat × Oper)→Act→World→Prop
 | [],a,w => Q .normal a w
 | (0,o)::r,a,w => ∃ v,(∀ w,(execOp a.eval o).run P w = .ok (.value v) w)∧wpTg P Q S r (a.put o.dst v) w
 | (1,o)::r,a,w => ∃ v,(∀ w,S w→(execOp a.eval o).run P w = .ok (.value v) w)∧wpTg P Q S r (a.put o.dst v) w
 | (2,o)::r,a,w => o.wp P a w (fun a' w' => S w'∧wpTg P Q S r a' w') (NoPanic Q)
 | (_,o)::r,a,w => o.wp P a w (fun a' w' => wpTg P Q S r a' w') (NoPanic Q)
def tgB (md:Region.Mode) (ops:Array Oper) (m:Nat):List (Nat × Nat)→Array Bool→Bool
 | [],listed => (Region.ready md ops listed).isEmpty
 | (0,i)::r,listed => (Region.ready md ops listed).contains i && Region.free md ops listed i && decide (m≠i) && tgB md ops m r (listed.setIfInBounds i true)
 | (1,i)::r,listed => (Region.ready md ops listed).contains i && Region.free md ops listed i && decide (m≠i) && waitsB md ops m i && !listed.getD m false && tgB md ops m r (listed.setIfInBounds i true)
 | (2,i)::r,listed => decide (Region.ready md ops listed = [i]) && tgB md ops m r (listed.setIfInBounds i true)
 | (_,i)::r,listed => decide (Region.ready md ops listed = [i]) && (listed.setIfInBounds i true).getD m false && tgB md ops m r (listed.setIfInBounds i true)
def pickT (l:List Oper):List (Nat × Nat)→List (Nat × Oper)
 | [] => []
 | (b,i)::r => match l[i]? with
  | some o => (b,o)::pickT l r
  | none => pickT l r
theorem tg_sound {l:List Oper} (hns:Region.noSelect l.toArray = true) :
  ∀ (st:List (Nat × Nat)) (listed:Array Bool) (a:Act) (w:World),st.all (fun x => decide (x.2 < l.length)) = true→(pickT l st).all (fun x => x.2.guard.isNone) = true→tgB md l.toArray m st listed = true→(listed.getD m false = false→S w) →
   wpTg P Q S (pickT l st) a w→wpAnyT P md l.toArray (NoPanic Q) S m st.length listed a w
 | [],listed,a,w,_,_,hB,_,h => ⟨by simpa [tgB] using hB,NoPanic.normal h⟩
 | (0,i)::st,listed,a,w,hlt,hg,hB,hS,h => by
  simp only [List.all_cons,Bool.and_eq_true,decide_eq_true_eq] at hlt
  simp only [tgB,Bool.and_eq_true,decide_eq_true_eq] at hB
  have hi:l[i]? = some l[i]:=List.getElem?_eq_getElem hlt.1
  simp only [pickT,hi,List.all_cons,Bool.and_eq_true,Option.isNone_iff_eq_none] at hg
  simp only [pickT,hi,wpTg] at h
  obtain ⟨v,hy,h⟩:=h
  exact wpAnyT_first (fun _ => True) (i:=i) (oi:=l[i]) (v:=v) (by simp [hi]) (Region.noSelect_spec hns) hB.1.2 (fun _ _ _ h => h) (.inl fun _ => trivial) st.length listed a w
   (Region.free_spec (by simp [hi]) hB.1.1.2) (by simpa using hB.1.1.1) (.inl ⟨by simp [Region.wanted,hg.1],fun w _ => hy w⟩) hS (.inl fun _ => trivial)
   (tg_sound hns st _ _ _ hlt.2 hg.2 hB.2 (fun q => hS (by rw [getD_set_ne false (Ne.symm hB.1.2)] at q; exact q)) h)
 | (1,i)::st,listed,a,w,hlt,hg,hB,hS,h => by
  simp only [List.all_cons,Bool.and_eq_true,decide_eq_true_eq] at hlt
  simp only [tgB,Bool.and_eq_true,decide_eq_true_eq,Bool.not_eq_true'] at hB
  have hi:l[i]? = some l[i]:=List.getElem?_eq_getElem hlt.1
  simp only [pickT,hi,List.all_cons,Bool.and_eq_true,Option.isNone_iff_eq_none] at hg
  simp only [pickT,hi,wpTg] at h
  obtain ⟨v,hy,h⟩:=h
  obtain ⟨⟨⟨⟨⟨b1,b2⟩,b3⟩,b4⟩,b5⟩,b6⟩:=hB
  exact wpAnyT_first S (i:=i) (oi:=l[i]) (v:=v) (by simp [hi]) (Region.noSelect_spec hns) b3 (fun _ _ _ h => h) (.inr ⟨fun _ h => h,b4⟩) st.length listed a w
   (Region.free_spec (by simp [hi]) b2) (by simpa using b1) (.inl ⟨by simp [Region.wanted,hg.1],hy⟩) hS (.inr b5)
   (tg_sound hns st _ _ _ hlt.2 hg.2 b6 (fun q => hS (by rw [getD_set_ne false (Ne.symm b3)] at q; exact q)) h)
 | (2,i)::st,listed,a,w,hlt,hg,hB,hS,h => by
  simp only [List.all_cons,Bool.and_eq_true,decide_eq_true_eq] at hlt
  simp only [tgB,Bool.and_eq_true,decide_eq_true_eq] at hB
  have hi:l[i]? = some l[i]:=List.getElem?_eq_getElem hlt.1
  simp only [pickT,hi,List.all_cons,Bool.and_eq_true,Option.isNone_iff_eq_none] at hg
  simp only [pickT,hi,wpTg] at h
  refine ⟨fun q => (by rw [hB.1] at q; cases q),fun j hj => ?_⟩
  rw [hB.1] at hj
  have hj':j = i:=by simpa using hj
  subst hj'
  have hi':l.toArray[j]? = some l[j]:=by simp [hi]
  have hw:wpOp P l.toArray (NoPanic Q) j (fun a' w' => S w'∧wpTg P Q S (pickT l st) a' w') a w:=by
   unfold wpOp
   simp only [hi']
   rw [if_pos (by simp [Region.wanted,hg.1])]
   exact .inl h
  exact wpOp_mono (fun a' w' h' => ⟨fun _ => h'.1,tg_sound hns st _ _ _ hlt.2 hg.2 hB.2 (fun _ => h'.1) h'.2⟩) hw
 | (n + 3,i)::st,listed,a,w,hlt,hg,hB,hS,h => by
  simp only [List.all_cons,Bool.and_eq_true,decide_eq_true_eq] at hlt
  simp only [tgB,Bool.and_eq_true,decide_eq_true_eq] at hB
  have hi:l[i]? = some l[i]:=List.getElem?_eq_getElem hlt.1
  simp only [pickT,hi,List.all_cons,Bool.and_eq_true,Option.isNone_iff_eq_none] at hg
  simp only [pickT,hi,wpTg] at h
  refine ⟨fun q => (by rw [hB.1.1] at q; cases q),fun j hj => ?_⟩
  rw [hB.1.1] at hj
  have hj':j = i:=by simpa using hj
  subst hj'
  have hi':l.toArray[j]? = some l[j]:=by simp [hi]
  have hw:wpOp P l.toArray (NoPanic Q) j (fun a' w' => wpTg P Q S (pickT l st) a' w') a w:=by
   unfold wpOp
   simp only [hi']
   rw [if_pos (by simp [Region.wanted,hg.1])]
   exact .inl h
  have hno:∀ w',((listed.setIfInBounds j true).getD m false = false→S w'):=fun w' q => by rw [hB.1.2] at q; cases q
  exact wpOp_mono (fun a' w' h' => ⟨hno w',tg_sound hns st _ _ _ hlt.2 hg.2 hB.2 (hno w') h'⟩) hw
theorem wp_region_tg {id:Nat} {a:Act} {w:World} {l:List Oper} (m:Nat) (st:List (Nat × Nat)) (hm:P.follows .mixedOrders = true)
  (hB:(Region.noSelect l.toArray && decide (st.length = l.length) && st.all (fun x => decide (x.2 < l.length)) && (pickT l st).all (fun x => x.2.guard.isNone) && tgB .any l.toArray m st (Array.replicate l.toArray.size false)) = true)
  (hS:S w.drew) (h:wpTg P Q S (pickT l st) a w.drew):(Code.region id l.toArray true).wp P Q a w:=by
 simp only [Bool.and_eq_true,decide_eq_true_eq] at hB
 obtain ⟨⟨⟨⟨h1,h2⟩,h3⟩,h5⟩,h4⟩:=hB
 refine wp_region_noPanic ?_
 refine wp_region_any hm (wpAny_of_T (m:=m) (S:=S) _ _ _ _ ?_)
 have:=tg_sound (P:=P) (md:=.any) (Q:=Q) (S:=S) (m:=m) h1 st _ a w.drew h3 h5 h4 (fun _ => hS) h
 rw [h2] at this
 simpa using this
theorem aW {o:Oper} {r:List (Nat × Oper)} {a:Act} {w:World} (v:Value) (hy:∀ w,(execOp a.eval o).run P w = .ok (.value v) w) (h:wpTg P Q S r (a.put o.dst v) w):wpTg P Q S ((0,o)::r) a w:=⟨v,hy,h⟩
theorem tg_load {o:Oper} {r:List (Nat × Oper)} {a:Act} {w:World} (v:Value) (hy:∀ w,S w→(execOp a.eval o).run P w = .ok (.value v) w) (h:wpTg P Q S r (a.put o.dst v) w):wpTg P Q S ((1,o)::r) a w:=⟨v,hy,h⟩
theorem tg_run {o:Oper} {r:List (Nat × Oper)} {a:Act} {w:World} (h:wpSq P (Then1 (fun a w => wpTg P Q S r a w)) S [(false,o)] a w):wpTg P Q S ((2,o)::r) a w:=by
 unfold wpTg
 unfold wpSq at h
 exact Oper.wp_mono2 (fun _ _ h => h) (fun _ _ _ h => h.elim) (fun ⟨_,_,h⟩ => h.elim) h
theorem tg_late {o:Oper} {r:List (Nat × Oper)} {a:Act} {w:World} (h:wpSq P (Then1 (fun a w => wpTg P Q S r a w)) (fun _ => True) [(false,o)] a w):wpTg P Q S ((3,o)::r) a w:=by
 unfold wpTg
 unfold wpSq at h
 exact Oper.wp_mono2 (fun _ _ h => h.2) (fun _ _ _ h => h.elim) (fun ⟨_,_,h⟩ => h.elim) h
theorem tg_done {a:Act} {w:World} (h:Q .normal a w):wpTg P Q S [] a w:=h
end
end Go.Proofs.YtmhhcfceikcfbaaGreat
namespace Go.Proofs.YtmhhcfceikcfbaaGreat
open Go
set_option maxRecDepth 100000
set_option maxHeartbeats 4000000
inductive Tr where
 | done
 | ld (i:Nat) (t:Tr)
 | run (i:Nat) (t:Tr)
 | br (i:Nat) (t:Tr) (j:Nat) (u:Tr)
inductive TrO where
 | done
 | ld (o:Oper) (t:TrO)
 | run (o:Oper) (t:TrO)
 | br (o:Oper) (t:TrO) (o':Oper) (u:TrO)
def Tr.size:Tr→Nat
 | .done => 0
 | .ld _ t => t.size + 1
 | .run _ t => t.size + 1
 | .br _ t _ _ => t.size + 1
def TrO.plain:TrO→Bool
 | .done => true
 | .ld o t => o.guard.isNone && t.plain
 | .run o t => o.guard.isNone && t.plain
 | .br o t o' u => o.guard.isNone && t.plain && o'.guard.isNone && u.plain
def Tr.pick (l:List Oper):Tr→TrO
 | .done => .done
 | .ld i t => match l[i]? with
  | some o => .ld o (t.pick l)
  | none => .done
 | .run i t => match l[i]? with
  | some o => .run o (t.pick l)
  | none => .done
 | .br i t j u => match l[i]?,l[j]? with
  | some o,some o' => .br o (t.pick l) o' (u.pick l)
  | _,_ => .done
def Tr.ok (md:Region.Mode) (ops:Array Oper):Tr→Array Bool→Bool
 | .done,listed => (Region.ready md ops listed).isEmpty
 | .ld i t,listed => decide (i < ops.size) && (Region.ready md ops listed).contains i && Region.free md ops listed i && t.ok md ops (listed.setIfInBounds i true)
 | .run i t,listed => decide (i < ops.size) && decide (Region.ready md ops listed = [i]) && t.ok md ops (listed.setIfInBounds i true)
 | .br i t j u,listed => decide (i < ops.size) && decide (j < ops.size) && decide (t.size = u.size) && decide (Region.ready md ops listed = [i,j]) && t.ok md ops (listed.setIfInBounds i true) && u.ok md ops (listed.setIfInBounds j true)
section
variable {P:Program} {Q:Exit→Act→World→Prop} {S:World→Prop} {md:Region.Mode}
def wpTr (P:Program) (Q:Exit→Act→World→Prop) (S:World→Prop):TrO→Act→World→Prop
 | .done,a,w => Q .normal a w
 | .ld o t,a,w => ∃ v,(∀ w,S w→(execOp a.eval o).run P w = .ok (.value v) w)∧wpTr P Q S t (a.put o.dst v) w
 | .run o t,a,w => o.wp P a w (fun a' w' => S w'∧wpTr P Q S t a' w') (NoPanic Q)
 | .br o t o' u,a,w => o.wp P a w (fun a' w' => S w'∧wpTr P Q S t a' w') (NoPanic Q)∧o'.wp P a w (fun a' w' => S w'∧wpTr P Q S u a' w') (NoPanic Q)
theorem tr_sound {l:List Oper} (hns:Region.noSelect l.toArray = true):∀ (t:Tr) (listed:Array Bool) (a:Act) (w:World),(t.pick l).plain = true→t.ok md l.toArray listed = true→S w →
  wpTr P Q S (t.pick l) a w→wpAnyH P md l.toArray (NoPanic Q) S t.size listed a w
 | .done,listed,a,w,_,hB,_,h => ⟨by simpa [Tr.ok] using hB,NoPanic.normal h⟩
 | .ld i t,listed,a,w,hg,hB,hS,h => by
  simp only [Tr.ok,Bool.and_eq_true,decide_eq_true_eq] at hB
  obtain ⟨⟨⟨hlt,h1⟩,h2⟩,h3⟩:=hB
  have hi:l[i]? = some (l[i]'(by simpa using hlt)):=List.getElem?_eq_getElem (by simpa using hlt)
  simp only [Tr.pick,hi,TrO.plain,Bool.and_eq_true,Option.isNone_iff_eq_none] at hg
  simp only [Tr.pick,hi,wpTr] at h
  obtain ⟨v,hy,h⟩:=h
  exact wpAnyH_take (i:=i) (oi:=l[i]'(by simpa using hlt)) (v:=v) (by simp [hi]) hns h2 h1 (fun _ _ _ h => h) (.inl ⟨by simp [Region.wanted,hg.1],hy⟩) hS (tr_sound hns t _ _ _ hg.2 h3 hS h)
 | .run i t,listed,a,w,hg,hB,hS,h => by
  simp only [Tr.ok,Bool.and_eq_true,decide_eq_true_eq] at hB
  obtain ⟨⟨hlt,h1⟩,h3⟩:=hB
  have hi:l[i]? = some (l[i]'(by simpa using hlt)):=List.getElem?_eq_getElem (by simpa using hlt)
  simp only [Tr.pick,hi,TrO.plain,Bool.and_eq_true,Option.isNone_iff_eq_none] at hg
  simp only [Tr.pick,hi,wpTr] at h
  refine wpAnyH_all h1 (by simp) ?_
  intro k hk
  have hk':k = i:=by simpa using hk
  subst hk'
  have hi':l.toArray[k]? = some (l[k]'(by simpa using hlt)):=by simp [hi]
  have hw:wpOp P l.toArray (NoPanic Q) k (fun a' w' => S w'∧wpTr P Q S (t.pick l) a' w') a w:=by
   unfold wpOp
   simp only [hi']
   rw [if_pos (by simp [Region.wanted,hg.1])]
   exact .inl h
  exact wpOp_mono (fun a' w' h' => ⟨h'.1,tr_sound hns t _ _ _ hg.2 h3 h'.1 h'.2⟩) hw
 | .br i t j u,listed,a,w,hg,hB,hS,h => by
  simp only [Tr.ok,Bool.and_eq_true,decide_eq_true_eq] at hB
  obtain ⟨⟨⟨⟨⟨hlt,hlt2⟩,hsz⟩,h1⟩,h3⟩,h4⟩:=hB
  have hi:l[i]? = some (l[i]'(by simpa using hlt)):=List.getElem?_eq_getElem (by simpa using hlt)
  have hj:l[j]? = some (l[j]'(by simpa using hlt2)):=List.getElem?_eq_getElem (by simpa using hlt2)
  simp only [Tr.pick,hi,hj,TrO.plain,Bool.and_eq_true,Option.isNone_iff_eq_none] at hg
  simp only [Tr.pick,hi,hj,wpTr] at h
  obtain ⟨⟨⟨g1,g2⟩,g3⟩,g4⟩:=hg
  refine wpAnyH_all h1 (by simp) ?_
  intro k hk
  have hk':k = i∨k = j:=by simpa using hk
  rcases hk' with rfl | rfl
  ·have hi':l.toArray[k]? = some (l[k]'(by simpa using hlt)):=by simp [hi]
   have hw:wpOp P l.toArray (NoPanic Q) k (fun a' w' => S w'∧wpTr P Q S (t.pick l) a' w') a w:=by
    unfold wpOp
    simp only [hi']
    rw [if_pos (by simp [Region.wanted,g1])]
    exact .inl h.1
   exact wpOp_mono (fun a' w' h' => ⟨h'.1,tr_sound hns t _ _ _ g2 h3 h'.1 h'.2⟩) hw
  ·have hi':l.toArray[k]? = some (l[k]'(by simpa using hlt2)):=by simp [hj]
   have hw:wpOp P l.toArray (NoPanic Q) k (fun a' w' => S w'∧wpTr P Q S (u.pick l) a' w') a w:=by
    unfold wpOp
    simp only [hi']
    rw [if_pos (by simp [Region.wanted,g3])]
    exact .inl h.2
   rw [hsz]
   exact wpOp_mono (fun a' w' h' => ⟨h'.1,tr_sound hns u _ _ _ g4 h4 h'.1 h'.2⟩) hw
theorem wp_region_tr {id:Nat} {a:Act} {w:World} {l:List Oper} (t:Tr) (hm:P.follows .mixedOrders = true)
  (hB:(Region.noSelect l.toArray && decide (t.size = l.length) && (t.pick l).plain && t.ok .any l.toArray (Array.replicate l.toArray.size false)) = true)
  (hS:S w.drew) (h:wpTr P Q S (t.pick l) a w.drew):(Code.region id l.toArray true).wp P Q a w:=by
 simp only [Bool.and_eq_true,decide_eq_true_eq] at hB
 obtain ⟨⟨⟨h1,h2⟩,h5⟩,h4⟩:=hB
 refine wp_region_noPanic ?_
 refine wp_region_held_drew (S:=S) hm hS (fun _ => ?_)
 have:=tr_sound (P:=P) (md:=.any) (Q:=Q) (S:=S) h1 t _ a w.drew h5 h4 hS h
 rw [h2] at this
 simpa using this
theorem tr_load {o:Oper} {r:TrO} {a:Act} {w:World} (v:Value) (hy:∀ w,S w→(execOp a.eval o).run P w = .ok (.value v) w) (h:wpTr P Q S r (a.put o.dst v) w):wpTr P Q S (.ld o r) a w:=⟨v,hy,h⟩
theorem tr_run {o:Oper} {r:TrO} {a:Act} {w:World} (h:wpSq P (Then1 (fun a w => wpTr P Q S r a w)) S [(false,o)] a w):wpTr P Q S (.run o r) a w:=by
 unfold wpTr
 unfold wpSq at h
 exact Oper.wp_mono2 (fun _ _ h => h) (fun _ _ _ h => h.elim) (fun ⟨_,_,h⟩ => h.elim) h
theorem tr_br {o o':Oper} {r r':TrO} {a:Act} {w:World} (h:wpSq P (Then1 (fun a w => wpTr P Q S r a w)) S [(false,o)] a w) (h':wpSq P (Then1 (fun a w => wpTr P Q S r' a w)) S [(false,o')] a w):wpTr P Q S (.br o r o' r') a w:=by
 unfold wpTr
 unfold wpSq at h h'
 exact ⟨Oper.wp_mono2 (fun _ _ h => h) (fun _ _ _ h => h.elim) (fun ⟨_,_,h⟩ => h.elim) h,Oper.wp_mono2 (fun _ _ h => h) (fun _ _ _ h => h.elim) (fun ⟨_,_,h⟩ => h.elim) h'⟩
theorem tr_done {a:Act} {w:World} (h:Q .normal a w):wpTr P Q S .done a w:=h
end
end Go.Proofs.YtmhhcfceikcfbaaGreat
namespace Go.Proofs.YtmhhcfceikcfbaaGreat
section
variable {P:Program} {Q:Exit→Act→World→Prop}
theorem list_of_held {ops:Array Oper}:∀ (l:List Oper) (a:Act) (w:World),aU P ops (NoPanic Q) (fun _ => True) (l.map (fun o => (false,o))) a w→wpList P ops (NoPanic Q) l a w
 | [],_,_,h => h
 | o::r,a,w,h => by
  simp only [List.map_cons,aU] at h
  simp only [wpList]
  split
  ·rename_i hw
   rw [if_pos hw] at h
   rcases h with h | h
   ·exact .inl (Oper.wp_mono2 (fun a w h => list_of_held r a w h.2) (fun _ _ _ h => h) (fun h => h) h)
   ·exact .inr h
  ·rename_i hw
   rw [if_neg hw] at h
   exact list_of_held r _ w h.2
theorem aG {id:Nat} {a:Act} {w:World} {l:List Oper} (h:aU P l.toArray (NoPanic Q) (fun _ => True) (l.map (fun o => (false,o))) a w):(Code.region id l.toArray false).wp P Q a w :=
 wp_region_noPanic (wp_region_lit (list_of_held l a w h))
end
section
variable {P:Program} {ops:Array Oper} {Q:Exit→Act→World→Prop} {S:World→Prop} {o:Oper} {r:List (Bool × Oper)} {a a':Act} {w:World}
theorem sq1 (v:Value) (h:wpSq P Q S r a' w) (hr:(execOp a.eval o).run P w = .ok (.value v) w:=by go_simp) (hS:S w:=by trivial) (ha:a.put o.dst v = a':=by simp only [Act.put,PutA,PutZ,PutS]; rfl):wpSq P Q S ((false,o)::r) a w:=by subst ha; exact au v w hr hS h
theorem sq2 (v:Value) (h:wpSq P Q S r a' w) (hr:∀ w,S w→(execOp a.eval o).run P w = .ok (.value v) w:=by intro w' hS; go_simp) (ha:a.put o.dst v = a':=by simp only [Act.put,PutA,PutZ,PutS]; rfl):wpSq P Q S ((true,o)::r) a w:=by subst ha; exact bm v hr h
theorem gd1 (v:Value) (h:aU P ops Q S r a' w) (hr:∀ w,S w→(execOp a.eval o).run P w = .ok (.value v) w:=by intro w' hS; go_simp) (hw:Region.wanted o (yielded ops a.tmps) = true:=by rfl) (ha:a.put o.dst v = a':=by simp only [Act.put,PutA,PutZ,PutS]; rfl):aU P ops Q S ((true,o)::r) a w:=by subst ha; exact hd_load v hw hr h
theorem tr1 {t:TrO} (v:Value) (h:wpTr P Q S t a' w) (hr:∀ w,S w→(execOp a.eval o).run P w = .ok (.value v) w:=by intro w' hS; go_simp) (ha:a.put o.dst v = a':=by simp only [Act.put,PutA,PutZ,PutS]; rfl):wpTr P Q S (.ld o t) a w:=by subst ha; exact tr_load v hr h
theorem gd2 (v:Value) (h:aU P ops (NoPanic Q) S r a' w) (hr:(execOp a.eval o).run P w = .ok (.value v) w:=by go_simp) (hS:S w:=by trivial) (hw:Region.wanted o (yielded ops a.tmps) = true:=by rfl) (ha:a.put o.dst v = a':=by simp only [Act.put,PutA,PutZ,PutS]; rfl):aU P ops (NoPanic Q) S ((false,o)::r) a w:=by subst ha; exact ax hw (au v w hr hS (ad h))
theorem sq1p (b k:Nat) (h:wpSq P Q S r a' w) (hr:(execOp a.eval o).run P w = .ok (.value (.pointer (some ⟨b,k,none⟩))) w:=by go_simp) (hS:S w:=by trivial) (ha:a.put o.dst (.pointer (some ⟨b,k,none⟩)) = a':=by simp only [Act.put,PutA,PutZ,PutS]; rfl):wpSq P Q S ((false,o)::r) a w:=sq1 _ h hr hS ha
theorem sq2p (b k:Nat) (h:wpSq P Q S r a' w) (hr:∀ w,S w→(execOp a.eval o).run P w = .ok (.value (.pointer (some ⟨b,k,none⟩))) w:=by intro w' hS; go_simp) (ha:a.put o.dst (.pointer (some ⟨b,k,none⟩)) = a':=by simp only [Act.put,PutA,PutZ,PutS]; rfl):wpSq P Q S ((true,o)::r) a w:=sq2 _ h hr ha
theorem gd1p (b k:Nat) (h:aU P ops Q S r a' w) (hr:∀ w,S w→(execOp a.eval o).run P w = .ok (.value (.pointer (some ⟨b,k,none⟩))) w:=by intro w' hS; go_simp) (hw:Region.wanted o (yielded ops a.tmps) = true:=by rfl) (ha:a.put o.dst (.pointer (some ⟨b,k,none⟩)) = a':=by simp only [Act.put,PutA,PutZ,PutS]; rfl):aU P ops Q S ((true,o)::r) a w:=gd1 _ h hr hw ha
theorem gd2p (b k:Nat) (h:aU P ops (NoPanic Q) S r a' w) (hr:(execOp a.eval o).run P w = .ok (.value (.pointer (some ⟨b,k,none⟩))) w:=by go_simp) (hS:S w:=by trivial) (hw:Region.wanted o (yielded ops a.tmps) = true:=by rfl) (ha:a.put o.dst (.pointer (some ⟨b,k,none⟩)) = a':=by simp only [Act.put,PutA,PutZ,PutS]; rfl):aU P ops (NoPanic Q) S ((false,o)::r) a w:=gd2 _ h hr hS hw ha
theorem tr1p {t:TrO} (b k:Nat) (h:wpTr P Q S t a' w) (hr:∀ w,S w→(execOp a.eval o).run P w = .ok (.value (.pointer (some ⟨b,k,none⟩))) w:=by intro w' hS; go_simp) (ha:a.put o.dst (.pointer (some ⟨b,k,none⟩)) = a':=by simp only [Act.put,PutA,PutZ,PutS]; rfl):wpTr P Q S (.ld o t) a w:=tr1 _ h hr ha
theorem sq1i (x:Int) (h:wpSq P Q S r a' w) (hr:(execOp a.eval o).run P w = .ok (.value (.int .i64 x)) w:=by go_simp) (hS:S w:=by trivial) (ha:a.put o.dst (.int .i64 x) = a':=by simp only [Act.put,PutA,PutZ,PutS]; rfl):wpSq P Q S ((false,o)::r) a w:=sq1 _ h hr hS ha
theorem sq2i (x:Int) (h:wpSq P Q S r a' w) (hr:∀ w,S w→(execOp a.eval o).run P w = .ok (.value (.int .i64 x)) w:=by intro w' hS; go_simp) (ha:a.put o.dst (.int .i64 x) = a':=by simp only [Act.put,PutA,PutZ,PutS]; rfl):wpSq P Q S ((true,o)::r) a w:=sq2 _ h hr ha
theorem gd1i (x:Int) (h:aU P ops Q S r a' w) (hr:∀ w,S w→(execOp a.eval o).run P w = .ok (.value (.int .i64 x)) w:=by intro w' hS; go_simp) (hw:Region.wanted o (yielded ops a.tmps) = true:=by rfl) (ha:a.put o.dst (.int .i64 x) = a':=by simp only [Act.put,PutA,PutZ,PutS]; rfl):aU P ops Q S ((true,o)::r) a w:=gd1 _ h hr hw ha
theorem gd2i (x:Int) (h:aU P ops (NoPanic Q) S r a' w) (hr:(execOp a.eval o).run P w = .ok (.value (.int .i64 x)) w:=by go_simp) (hS:S w:=by trivial) (hw:Region.wanted o (yielded ops a.tmps) = true:=by rfl) (ha:a.put o.dst (.int .i64 x) = a':=by simp only [Act.put,PutA,PutZ,PutS]; rfl):aU P ops (NoPanic Q) S ((false,o)::r) a w:=gd2 _ h hr hS hw ha
theorem tr1i {t:TrO} (x:Int) (h:wpTr P Q S t a' w) (hr:∀ w,S w→(execOp a.eval o).run P w = .ok (.value (.int .i64 x)) w:=by intro w' hS; go_simp) (ha:a.put o.dst (.int .i64 x) = a':=by simp only [Act.put,PutA,PutZ,PutS]; rfl):wpTr P Q S (.ld o t) a w:=tr1 _ h hr ha
theorem sq1b (x:Bool) (h:wpSq P Q S r a' w) (hr:(execOp a.eval o).run P w = .ok (.value (.bool x)) w:=by go_simp) (hS:S w:=by trivial) (ha:a.put o.dst (.bool x) = a':=by simp only [Act.put,PutA,PutZ,PutS]; rfl):wpSq P Q S ((false,o)::r) a w:=sq1 _ h hr hS ha
theorem sq2b (x:Bool) (h:wpSq P Q S r a' w) (hr:∀ w,S w→(execOp a.eval o).run P w = .ok (.value (.bool x)) w:=by intro w' hS; go_simp) (ha:a.put o.dst (.bool x) = a':=by simp only [Act.put,PutA,PutZ,PutS]; rfl):wpSq P Q S ((true,o)::r) a w:=sq2 _ h hr ha
theorem gd1b (x:Bool) (h:aU P ops Q S r a' w) (hr:∀ w,S w→(execOp a.eval o).run P w = .ok (.value (.bool x)) w:=by intro w' hS; go_simp) (hw:Region.wanted o (yielded ops a.tmps) = true:=by rfl) (ha:a.put o.dst (.bool x) = a':=by simp only [Act.put,PutA,PutZ,PutS]; rfl):aU P ops Q S ((true,o)::r) a w:=gd1 _ h hr hw ha
theorem gd2b (x:Bool) (h:aU P ops (NoPanic Q) S r a' w) (hr:(execOp a.eval o).run P w = .ok (.value (.bool x)) w:=by go_simp) (hS:S w:=by trivial) (hw:Region.wanted o (yielded ops a.tmps) = true:=by rfl) (ha:a.put o.dst (.bool x) = a':=by simp only [Act.put,PutA,PutZ,PutS]; rfl):aU P ops (NoPanic Q) S ((false,o)::r) a w:=gd2 _ h hr hS hw ha
theorem tr1b {t:TrO} (x:Bool) (h:wpTr P Q S t a' w) (hr:∀ w,S w→(execOp a.eval o).run P w = .ok (.value (.bool x)) w:=by intro w' hS; go_simp) (ha:a.put o.dst (.bool x) = a':=by simp only [Act.put,PutA,PutZ,PutS]; rfl):wpTr P Q S (.ld o t) a w:=tr1 _ h hr ha
end
end Go.Proofs.YtmhhcfceikcfbaaGreat
