/- From a contract 'it returns true and leaves what was there' to the given statement: the steps that all laws share; the arguments. -/
import Derived.ProofKit
import Derived.ChangeMaps5
import Derived.Lib.SmallJoins
import Derived.Deep.SlicePairs
import Derived.Deep.Slices
import Derived.Test.YtmhhcfceikcfbaaGreatRows
import Derived.Test.YtmhhcfceikcfbaaGreatChecked
import Derived.Test.YtmhhcfceikcfbaaGreatDcW7
namespace Go.Proofs.YtmhhcfceikcfbaaGreat
open Go.ChangeShapes Go.WideShapes Go.ChangeAt Go.RowKit Go.Joins Go.Deep
set_option maxRecDepth 100000
set_option maxHeartbeats 4000000
theorem Tryz.own:ownKnob Tryz.prog.godebug = none:=by kernel_rfl
theorem Tryz.laidOut:laidOutB Tryz.prog = true:=by kernel_rfl
section
variable {H:Type} {enc:TypeId × Value→H} {P:Program}
theorem trodAll_stays (hl:laidOutB P = true) {W W':World} (hb:Below W.heap.size W W'):∀ (ts:List TypeId) (vs:List Value) (ds:List (DataW H)) (ps:List MemPlace),
  (∀ t∈ts,P.readableRec t = true∧t < P.types.size)→DataW.TrodAll enc P W 0 (fun _ => true) true ts vs ds ps→(∀ x∈ps,x.block < W.heap.size) →
  DataW.TrodAll enc P W' 0 (fun b => decide (b < W.heap.size)) true ts vs ds ps
 | [],[],[],_,_,h,_ => h
 | t::ts,v::vs,d::ds,ps,hr,h,hlt => by
  obtain ⟨p,q,h1,h2,rfl⟩:=h
  have hr1:=hr t (by simp)
  exact ⟨p,q,hb.trod hl hr1.1 hr1.2 h1 (fun x hx => hlt x (by simp [hx])),trodAll_stays hl hb ts vs ds q (fun u hu => hr u (by simp [hu])) h2 (fun x hx => hlt x (by simp [hx])),rfl⟩
 | [],_::_,_,_,_,h,_ => by simp [DataW.TrodAll] at h
 | [],[],_::_,_,_,h,_ => by simp [DataW.TrodAll] at h
 | _::_,[],_,_,_,h,_ => by simp [DataW.TrodAll] at h
 | _::_,_::_,[],_,_,h,_ => by simp [DataW.TrodAll] at h
theorem law_post {f:Func} {s:ChangeSpec} {W W':World} {args:Array Value} {ds:List (DataW H)} {before:List MemPlace} {tb:TypeId} (hl:laidOutB P = true)
  (hW:DataW.Whole enc P f.params.toList s.vars false W args.toList ds [] before) (hv:s.vars = []) (hr:f.resultTypes = #[tb]) (htb:P.underlying tb = some .bool)
  (hfn:s.fn H (ds++[]) = { results:=[.lit (.bool true)],args:=ds }) (hp:∀ t∈f.params.toList,P.readableRec t = true∧t < P.types.size) (hb:Below W.heap.size W W') :
  s.post enc P f false true false false W args (.bool true) W':=by
 have hlt:=hW.lt
 have hW':=hW
 obtain ⟨p,q,hA,hV,hpq,_,_⟩:=hW
 refine ⟨ds,[],before,[],before,[],hW',?_,?_,?_,hb.frame _,fun h => by cases h⟩
 ·rw [hfn,hr]
  exact trodAll_mk1 (shut_bool htb true)
 ·rw [hfn]
  rw [hv] at hV
  simp only [DataW.TrodVars] at hV
  subst hV
  simp only [List.append_nil] at hpq
  subst hpq
  exact trodAll_stays hl hb _ _ _ _ hp hA hlt
 rw [hv,hfn]
 rfl
end
theorem spot_none {w:World} {a:Addr} {v:Value} (h:w.cell? a = some v):a = ⟨a.block,a.off,none⟩:=by
 obtain ⟨b,o,s⟩:=a
 cases s with
 | none => rfl
 | some x =>
  simp only [World.cell?] at h
  split at h <;> simp at h
theorem rd_of {P:Program} {ts:List TypeId} (h:ts.all (fun t => P.readableRec t && decide (t < P.types.size)) = true):∀ t∈ts,P.readableRec t = true∧t < P.types.size:=fun t ht => by
 have:=List.all_eq_true.1 h t ht
 simpa using this
set_option maxRecDepth 100000
section
variable {H:Type} {enc:TypeId × Value→H}
end
end Go.Proofs.YtmhhcfceikcfbaaGreat
namespace Go.Proofs.YtmhhcfceikcfbaaGreat
open Go.RowKit
set_option maxRecDepth 100000
set_option maxHeartbeats 4000000
section
variable {H:Type}
def RdA (enc:TypeId × Value→H) (w:World) {α:Type} (t sz:Nat) (R:Rp α) (e:α→List Nat) (f:Nat):Prop :=
 ∀ (fuel:Nat) (cs:List Value) (y:DataW H × List MemPlace),fuel≤f→DataW.trod enc Tryz.prog w 0 (fun _ => true) true fuel t cs = some y→Rows.uptoBulk y.1≤1048576 →
  cs.length = sz∧∃ x,R w (fun b => b < w.heap.size) cs x∧(e x).length≤10 * Rows.uptoBulk y.1
def intP:Rp Int:=fun _ _ vs x => vs = [.int .i64 x]∧I64 x
def strP:Rp ByteArray:=fun _ _ vs x => vs = [.string x]∧szD x
def boolP:Rp Bool:=fun _ _ vs x => vs = [.bool x]
variable {enc:TypeId × Value→H} {w:World}
theorem RdA.le {α:Type} {t sz:Nat} {R:Rp α} {e:α→List Nat} {f g:Nat} (h:RdA enc w t sz R e f) (hg:g≤f):RdA enc w t sz R e g:=fun fuel cs y hf => h fuel cs y (Nat.le_trans hf hg)
theorem aX (f:Nat):RdA enc w 3 1 intP encN f:=by
 intro fuel cs y _ h hb
 obtain ⟨n,rfl,rfl,hw⟩:=DataW.trod_int Tryz.underlying3 h
 have hi:I64 n:=by
  simp [Lit.wf,IntKind.min,IntKind.max,IntKind.signed,IntKind.bits] at hw
  unfold I64
  omega
 refine ⟨rfl,n,⟨rfl,hi⟩,?_⟩
 have:=encN_len hi
 simp only [Rows.uptoBulk]
 omega
theorem rdA_bool (f:Nat):RdA enc w 4 1 boolP flagE f:=by
 intro fuel cs y _ h hb
 obtain ⟨b,rfl,rfl⟩:=DataW.trod_bool Tryz.underlying4 h
 refine ⟨rfl,b,rfl,?_⟩
 have:(flagE b).length≤10:=by
  unfold flagE
  exact encN_len (by cases b <;> (unfold I64; decide))
 simp only [Rows.uptoBulk]
 omega
theorem rdA_str (f:Nat):RdA enc w 9 1 strP strE f:=by
 intro fuel cs y _ h hb
 obtain ⟨s,rfl,rfl,hs⟩:=DataW.trod_string Tryz.underlying9 h
 refine ⟨rfl,s,⟨rfl,by unfold szD; simpa [maxLen] using hs⟩,?_⟩
 have h1:=encN_len (n:=(s.size:Int)) (by unfold I64; simp [maxLen] at hs; omega)
 simp only [Rows.uptoBulk,strE,textE,List.length_append,ap] at hb ⊢
 have h2:s.data.toList.length = s.size:=by simp
 omega
theorem bulkAll_map (l:List (DataW H × List MemPlace)) (i:Nat) (y:DataW H × List MemPlace) (h:l[i]? = some y):Rows.uptoBulk y.1≤Rows.uptoBulkAll (l.map (·.1)):=by
 induction l generalizing i with
 | nil => simp at h
 | cons a r ih =>
  simp only [List.map_cons,Rows.uptoBulkAll]
  cases i with
  | zero => simp only [List.getElem?_cons_zero,Option.some.injEq] at h; subst h; omega
  | succ i => simp only [List.getElem?_cons_succ] at h; have:=ih i h; omega
theorem flat_bulk {α:Type} (e:α→List Nat):∀ (l:List (DataW H × List MemPlace)) (x:Nat→α),(∀ i y,l[i]? = some y→(e (x i)).length≤10 * Rows.uptoBulk y.1)→(((List.range l.length).map x).flatMap e).length≤10 * Rows.uptoBulkAll (l.map (·.1)):=by
 intro l
 induction l with
 | nil => intro x _; simp
 | cons a r ih =>
  intro x h
  have h0:=h 0 a rfl
  have h1:=ih (fun i => x (i + 1)) (fun i y hy => h (i + 1) y (by simpa using hy))
  rw [List.length_cons,List.range_succ_eq_map,List.map_cons,List.flatMap_cons,List.length_append,List.map_map]
  simp only [List.map_cons,Rows.uptoBulkAll]
  simp only [Function.comp_def] at h1 ⊢
  have e1:(List.map (fun i => x (Nat.succ i)) (List.range r.length)) = List.map (fun i => x (i + 1)) (List.range r.length):=rfl
  rw [e1]
  omega
theorem rdA_slice {α:Type} {t e sz:Nat} {R:Rp α} {en:α→List Nat} {f:Nat} (ht:Tryz.prog.underlying t = some (.slice e)) (hc:Tryz.prog.cellsOf e = sz) (hsz:0 < sz) (h:RdA enc w e sz R en f) :
  RdA enc w t 1 (fun w G vs l => ∃ v,vs = [v]∧Slv R sz w G v l) (aj en) (f + 1):=by
 intro fuel cs y hf hy hb
 have h0:=encN_len (n:=0) (by unfold I64; omega)
 rcases DataW.trod_slice ht hy with ⟨rfl,rfl⟩ | ⟨a,len,cap,elems,rest,n,rfl,rfl,rfl,_,hl,hm,hlen,hel,_,_⟩
 ·refine ⟨rfl,[],⟨_,rfl,Slv.nil _ _⟩,?_⟩
  simp only [aj,List.length_nil,List.flatMap_nil,List.append_nil,Rows.uptoBulk]
  simpa using h0
 simp only [Rows.uptoBulk] at hb ⊢
 have hlm:len≤1048576:=by
  have:∀ l:List (DataW H × List MemPlace),l.length≤Rows.uptoBulkAll (l.map (·.1)):=by
   intro l
   induction l with
   | nil => simp
   | cons q r ih =>
    simp only [List.length_cons,List.map_cons,Rows.uptoBulkAll]
    have:1≤Rows.uptoBulk q.1:=by
     cases q.1 with
     | lit z => cases z <;> simp [Rows.uptoBulk]
     | _ => simp [Rows.uptoBulk]
    omega
  have:=this elems
  omega
 rcases Nat.eq_zero_or_pos len with hz | hp
 ·subst hz
  refine ⟨rfl,[],⟨_,rfl,⟨some a,cap,rfl,hl,hm,fun hq => by simp at hq⟩⟩,?_⟩
  simp only [aj,List.length_nil,List.flatMap_nil,List.append_nil]
  have:(encN ((0:Nat):Int)).length≤10:=h0
  omega
 have hat:∀ i,i < len→∃ y vs,elems[i]? = some y∧w.cells? 0 (a.add (i * sz)) sz = some vs∧DataW.trod enc Tryz.prog w 0 (fun _ => true) true n e vs = some y:=by
  intro i hi
  have h1:=hel i hi
  obtain ⟨y,hy2⟩:∃ y,elems[i]? = some y:=⟨_,List.getElem?_eq_getElem (by omega)⟩
  rw [hy2,hc] at h1
  cases h2:w.cells? 0 (a.add (i * sz)) sz with
  | none => rw [h2] at h1; cases h1
  | some vs => rw [h2] at h1; exact ⟨y,vs,hy2,rfl,h1⟩
 have ha:a = ⟨a.block,a.off,none⟩∧a.block < w.heap.size:=by
  obtain ⟨y,vs,_,h2,_⟩:=hat 0 hp
  obtain ⟨_,k4,k5⟩:=World.cells?_some h2
  have h3:=(k5 0 hsz).trans (List.getElem?_eq_getElem (show 0 < vs.length by omega))
  have h4:(a.add (0 * sz)).add 0 = a:=by unfold Addr.add; simp
  rw [h4] at h3
  exact ⟨spot_none h3,World.block_lt_of_cell? _ _ h3⟩
 obtain ⟨ha,hlt⟩:=ha
 obtain ⟨ab,ao,sp⟩:=a
 injection ha with _ _ ha
 subst ha
 have hx:∀ i,i < len→∃ x:α,(∀ y,elems[i]? = some y→(en x).length≤10 * Rows.uptoBulk y.1)∧∃ vs,vs.length = sz∧R w (fun b => b < w.heap.size) vs x∧∀ (j:Nat) (u:Value),vs[j]? = some u→w.cell? ⟨ab,ao + i * sz + j,none⟩ = some u:=by
  intro i hi
  obtain ⟨y,vs,hy2,h2,h1⟩:=hat i hi
  have h3:=bulkAll_map elems i y hy2
  obtain ⟨k1,x,k2,k3⟩:=h n vs y (by omega) h1 (by omega)
  obtain ⟨_,k4,k5⟩:=World.cells?_some h2
  refine ⟨x,fun y' hy' => by rw [hy2] at hy'; injection hy' with hy'; subst hy'; exact k3,vs,k1,k2,fun j u hu => ?_⟩
  have hj:j < sz:=by rw [<- k4]; exact (List.getElem?_eq_some_iff.1 hu).1
  have h6:=(k5 j hj).trans hu
  rw [addr_add,addr_add] at h6
  exact h6
 obtain ⟨x0,_⟩:=hx 0 hp
 haveI:Inhabited α:=⟨x0⟩
 obtain ⟨g,hg⟩:=Go.Deep.choose_lt hx
 refine ⟨rfl,(List.range len).map g,⟨_,rfl,⟨some ⟨ab,ao,none⟩,cap,by simp,by simpa using hl,hm,fun _ => ⟨ab,ao,rfl,hlt,hlt,fun i x hi => ?_⟩⟩⟩,?_⟩
 ·have hi2:i < len:=by have:=(List.getElem?_eq_some_iff.1 hi).1; simpa using this
  have e1:((List.range len).map g)[i]? = some (g i):=by simp [hi2]
  rw [e1] at hi
  injection hi with hi
  subst hi
  obtain ⟨_,vs,k1,k2,k3⟩:=hg i hi2
  exact ⟨vs,k1,k2,k3⟩
 have h5:=flat_bulk en elems g (fun i y hy => (hg i (by have:=(List.getElem?_eq_some_iff.1 hy).1; omega)).1 y hy)
 rw [hlen] at h5
 have h6:=encN_len (n:=(len:Int)) (by unfold I64; omega)
 simp only [aj,List.length_append,List.length_map,List.length_range]
 omega
end
end Go.Proofs.YtmhhcfceikcfbaaGreat
