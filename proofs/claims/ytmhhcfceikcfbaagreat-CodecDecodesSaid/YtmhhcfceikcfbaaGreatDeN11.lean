/- Walks: the template of a level checked. -/
import Derived.RangeFuncIn
import Derived.RangeFuncRecord
import Derived.RangeFuncLeaves
import Derived.RangeFuncSeq
import Derived.RangeFuncNested
import Derived.Shelf.Abstract
import Derived.OwnWalkIn
import Derived.TacticsInMore
import Derived.LoopIn
import Derived.Test.YtmhhcfceikcfbaaGreatDeN2
namespace Go.Proofs.YtmhhcfceikcfbaaGreat
open Go.RowKit
set_option maxRecDepth 100000
set_option maxHeartbeats 4000000
def lvP (n:Int) (p:Prt):Bool:=decide (n < p.2.1)
theorem clo216 (x0:ByteArray) (x1:Int) (x2:Bool) (n:Int) (c:Nat) (w:World) (hc:w.cell? ⟨c,0,none⟩ = some (.int .i64 n)):Calls Tryz.prog 216 #[.agg #[.string x0,.int .i64 x1,.bool x2],.pointer (some ⟨c,0,none⟩)] w (RetB (decide (n < x1)) w):=by
 obtain ⟨V,hV⟩:=gX (decide (n < x1))
 rw [<- hV]
 have hcl:=World.block_lt_of_cell? _ _ hc
 have hc2:(w.alloc (.cells #[.string x0,.int .i64 x1,.bool x2] 290)).cell? ⟨c,0,none⟩ = some (.int .i64 n):=(World.cell?_of_block (Below.heap_alloc _ _ _ hcl)).trans hc
 by_cases h:n < x1
 ·have g1:decide (n < x1) = true:=by simpa using h
  have HV:=qH (show V = true by rw [hV,g1])
  clear hV
  go_enter Tryz.func216,Tryz.ntmps216
  go_wp2_with fail
  go_ret
  exact ⟨by rw [HV.out]; rfl,(Below.refl _ _).alloc (Nat.le_refl _) _⟩
 have g1:decide (n < x1) = false:=by simpa using h
 have HV:=qH (show V = false by rw [hV,g1])
 clear hV
 go_enter Tryz.func216,Tryz.ntmps216
 go_wp2_with fail
 go_ret
 exact ⟨by rw [HV.out]; rfl,(Below.refl _ _).alloc (Nat.le_refl _) _⟩
theorem idx226 (n:Int) (c:Nat) (w:World) (v:Value) (l:List Prt) (hv:Sl ptV 3 w w.heap.size v l) (hc:w.cell? ⟨c,0,none⟩ = some (.int .i64 n)):Calls Tryz.prog 226 #[v,.func (.func 216) #[] #[.pointer (some ⟨c,0,none⟩)]] w (RetI (idxP (lvP n) l) w):=by
 obtain ⟨V,hV⟩:=gX (idxP (lvP n) l)
 rw [<- hV]
 have HVV:=qH hV
 clear hV
 obtain ⟨A,cp,rfl,hlc,hm1,hcs⟩:=hv
 obtain ⟨m,hn⟩:=gX (l.length)
 have hnn:m≤9223372036854775807:=by unfold maxLen at hm1; omega
 rw [<- hn] at hcs ⊢
 have HN:=qH hn
 have HCS:=qH hcs
 have Hhc:=qH hc
 clear hm1 hn hc hcs hlc
 go_enter Tryz.func226,Tryz.ntmps226
 go_wp2_with fail
 go_loopw [8] (fun iv wr => ∃ i:Nat,iv = .int .i64 (i:Int)∧i≤m∧Hid (∀ y∈l.take i,lvP n y = false)∧Hid (Below w.heap.size w wr)) (fun iv _ => m - (intOf iv).toNat)
 case atStart => exact ⟨0,rfl,Nat.zero_le _,qH (fun y hy => by simp at hy),qH (Below.refl _ _)⟩
 obtain ⟨i,rfl,hin,HI,HB⟩:=hrel
 by_cases hlt:i < m
 ·have hlt':(i:Int) < (m:Int):=by omega
  obtain ⟨x,hx⟩:∃ x,l[i]? = some x:=⟨_,List.getElem?_eq_getElem (by rw [<- HN.out]; exact hlt)⟩
  obtain ⟨b1,o1,rfl,hb1,hc1⟩:=HCS.out (by omega)
  obtain ⟨x0,x1,x2⟩:=x
  have hE:EltS b1 (o1 + i * 3) (ptV (x0,x1,x2)) wr:=EltS.below (w:=w) (fun j u hu => hc1 i _ hx j u hu) hb1 HB.out
  have e0:=hE 0 _ rfl
  have e1:=hE 1 _ rfl
  have e2:=hE 2 _ rfl
  simp only [Nat.add_zero] at e0
  have C:=qH (clo216 x0 x1 x2 n c wr (cell_below Hhc.out HB.out))
  have HX:=qH hx
  clear hx hE hc1 hb1
  go_wp2_with fail
  refine C.out.mono ?_
  rintro e w2 ⟨rfl,hb2⟩
  have HB2:=qH (HB.out.trans (hb2.mono HB.out.size))
  obtain ⟨r,hr⟩:=gX (decide (n < x1))
  have HR:Hid (r = lvP n (x0,x1,x2)):=qH hr
  rw [<- hr]
  clear hb2 C hr e0 e1 e2 HB
  cases r
  ·have HI2:=qH (take_all HI.out HX.out HR.out.symm)
   clear HI HR
   go_wp2_with fail
   exact ⟨⟨i + 1,by go_num,by omega,HI2,HB2⟩,by simp [intOf]; omega⟩
  have HF:=qH (idxP_hit HI.out HX.out HR.out.symm)
  clear HI HR
  go_wp2_with fail
  go_ret
  exact ⟨by rw [HVV.out,HF.out]; rfl,HB2.out⟩
 have hlt':¬ (i:Int) < (m:Int):=by omega
 have HF:=qH (idxP_none (p:=lvP n) (l:=l) (by
  have h1:=HI.out
  rw [List.take_of_length_le (by rw [<- HN.out]; omega)] at h1
  exact h1))
 clear HI
 go_wp2_with fail
 go_ret
 exact ⟨by rw [HVV.out,HF.out]; rfl,HB.out⟩
theorem has215 (n:Int) (c:Nat) (w:World) (v:Value) (l:List Prt) (hv:Sl ptV 3 w w.heap.size v l) (hc:w.cell? ⟨c,0,none⟩ = some (.int .i64 n)):Calls Tryz.prog 215 #[v,.func (.func 216) #[] #[.pointer (some ⟨c,0,none⟩)]] w (RetB (decide (0≤idxP (lvP n) l)) w):=by
 have C:=qH (idx226 n c w v l hv hc)
 obtain ⟨V,hV⟩:=gX (idxP (lvP n) l)
 rw [<- hV] at C ⊢
 obtain ⟨A,cp,rfl,_,_,_⟩:=hv
 obtain ⟨m,hm⟩:=gX (l.length)
 rw [<- hm] at C ⊢
 clear hV hm hc
 by_cases h:0≤V
 ·have g1:decide (0≤V) = true:=by simpa using h
  have g2:decide (V < 0) = false:=by simp; omega
  clear h
  go_enter Tryz.func215,Tryz.ntmps215
  go_wp2_with fail
  refine C.out.mono ?_
  rintro e w2 ⟨rfl,hb2⟩
  have HB:=qH hb2
  clear hb2
  go_wp2_with fail
  go_ret
  exact ⟨by rw [g1]; rfl,HB.out⟩
 have g1:decide (0≤V) = false:=by simpa using h
 have g2:decide (V < 0) = true:=by simp; omega
 clear h
 go_enter Tryz.func215,Tryz.ntmps215
 go_wp2_with fail
 refine C.out.mono ?_
 rintro e w2 ⟨rfl,hb2⟩
 have HB:=qH hb2
 clear hb2
 go_wp2_with fail
 go_ret
 exact ⟨by rw [g1]; rfl,HB.out⟩
def tmpT (s:ByteArray) (n:Int):Int:=if (decide (n < 1) || decide (9 < n)) = true then 2 else if parE s = 0 then (if decide (0≤idxP (lvP n) (parL s)) = true then 6 else 0) else parE s
theorem tmp205:TmpC tmpT:=by
 intro s n w hs
 obtain ⟨V,hV⟩:=gX (tmpT s n)
 rw [<- hV]
 unfold tmpT at hV
 obtain ⟨qa,hqa⟩:=gX ((decide (n < 1) || decide (9 < n)))
 rw [<- hqa] at hV
 have HA:=qH hqa
 have HV:=qH hV
 obtain ⟨c,hc⟩:=gX (w.heap.size)
 obtain ⟨W,hW⟩:=gX (w.alloc (.cells #[.int .i64 n] 3))
 have kb:W.heap[c]? = some (.cells #[.int .i64 n] 3 (0,0)):=by rw [hW]; exact ah _ _ hc
 have HKB:=qH kb
 have HB:Hid (Below w.heap.size w W):=qH (by rw [hW]; exact ag _ _)
 have HW:=qH hW
 have HC:=qH hc
 have C:=qH (parse214 s W hs)
 clear hqa hV hW hc kb hs
 go_enter Tryz.func205,Tryz.ntmps205
 go_upto_region 1 with fail
 rw [<- HW.out,<- HC.out]
 clear HW HC
 have z0:=aa HKB.out 0
 go_cut [12] from 7 to 11 (fun bv wc => bv = .bool qa∧W = wc)
 case first =>
  by_cases p1:n < 1
  ·have f1:decide (n < 1) = true:=by simpa using p1
   have dF:=qH (show qa = true by rw [HA.out,f1]; rfl)
   go_wp2_with fail
   go_meet
   exact ⟨by rw [dF.out],rfl⟩
  have f1:decide (n < 1) = false:=by simpa using p1
  obtain ⟨q9,hq9⟩:=gX (decide (9 < n))
  have f2:=hq9.symm
  have dF:=qH (show qa = q9 by rw [HA.out,hq9,f1]; rfl)
  clear hq9
  cases q9
  ·go_wp2_with fail
   go_meet
   exact ⟨by rw [dF.out],rfl⟩
  go_wp2_with fail
  go_meet
  exact ⟨by rw [dF.out],rfl⟩
 obtain ⟨rfl,rfl⟩:=hcut
 clear HA
 cases qa
 case true =>
  have HF:=qH (show V = 2 from HV.out)
  clear HV C
  go_wp2_with fail
  go_ret
  exact ⟨by rw [HF.out]; rfl,HB.out⟩
 replace HV:=qH (show V = if parE s = 0 then (if decide (0≤idxP (lvP n) (parL s)) = true then 6 else 0) else parE s from HV.out)
 go_wp2_with fail
 refine C.out.mono ?_
 rintro e w1 ⟨v,rfl,hb1,hsl⟩
 have HB1:=qH (HB.out.trans (hb1.mono HB.out.size))
 have kb1:=ai HKB.out hb1
 have z1:=aa kb1 0
 have CH:=qH (has215 n c w1 v (parL s) hsl z1)
 obtain ⟨E,hE⟩:=gX (parE s)
 obtain ⟨cb,hcb⟩:=gX (decide (0≤idxP (lvP n) (parL s)))
 rw [<- hE]
 rw [<- hE,<- hcb] at HV
 rw [<- hcb] at CH
 obtain ⟨A,cp,rfl,_,_,_⟩:=hsl
 obtain ⟨m,hm⟩:=gX ((parL s).length)
 rw [<- hm] at CH ⊢
 clear hE hcb hm C HB hb1 z0 z1 HKB kb1
 by_cases he:E = 0
 case neg =>
  have g1:(E == 0) = false:=by rw [beq_eq_false_iff_ne]; exact he
  have HF:=qH (show V = E from HV.out.trans (if_neg he))
  clear he HV CH
  go_wp2_with fail
  go_ret
  exact ⟨by rw [HF.out]; rfl,HB1.out⟩
 subst he
 replace HV:=qH (show V = if cb = true then 6 else 0 from HV.out)
 go_wp2_with fail
 refine CH.out.mono ?_
 rintro e w2 ⟨rfl,hb2⟩
 have HB2:=qH (HB1.out.trans (hb2.mono HB1.out.size))
 clear CH hb2
 cases cb
 ·have HF:=qH (show V = 0 from HV.out)
  clear HV
  go_wp2_with fail
  go_ret
  exact ⟨by rw [HF.out]; rfl,HB2.out⟩
 have HF:=qH (show V = 6 from HV.out)
 clear HV
 go_wp2_with fail
 go_ret
 exact ⟨by rw [HF.out]; rfl,HB2.out⟩
end Go.Proofs.YtmhhcfceikcfbaaGreat
namespace Go.Proofs.YtmhhcfceikcfbaaGreat
open Go.RowKit
set_option maxRecDepth 100000
set_option maxHeartbeats 4000000
def markD (r:Nat):Deferred:={ target:=.collected r,args:=#[] }
structure KeepX (ex:Nat→Prop) (W W':World):Prop where
 os:W'.os = W.os
 tape:W'.tape = W.tape
 output:W'.output = W.output
 size:W'.heap.size = W.heap.size
 block:∀ i,¬ ex i→W'.heap[i]? = W.heap[i]?
theorem KeepX.trans {ex:Nat→Prop} {A B C:World} (h:KeepX ex A B) (k:KeepX ex B C):KeepX ex A C:=⟨k.os.trans h.os,k.tape.trans h.tape,k.output.trans h.output,k.size.trans h.size,fun i hi => (k.block i hi).trans (h.block i hi)⟩
theorem KeepX.mono {ex ex':Nat→Prop} {A B:World} (h:KeepX ex A B) (hx:∀ i,ex i→ex' i):KeepX ex' A B:=⟨h.os,h.tape,h.output,h.size,fun i hi => h.block i (fun e => hi (hx i e))⟩
theorem KeepX.put {ex:Nat→Prop} (W:World) (l:Nat) (o:Obj) (hl:ex l):KeepX ex W (W.putObj l o):=⟨rfl,rfl,rfl,by simp [World.putObj],fun i hi => World.putObj_heap_other (fun e => hi (by rw [e]; exact hl))⟩
def FromB {β:Type} (B:Nat) (I:β→World→Prop):Prop:=∀ k X X' row,I k X→X.grownBy X' row→(∀ r,row = some r→B≤r)→I k X'
def IterW (n:Nat) (gf:Nat) (lb:Array Value) (l:Nat) (ex:Nat→Prop) (Bx:Nat) (cnt:World→Nat) (N:Nat) (V:Bool) (W:World):Prop :=
 ∀ (J:Nat→World→Prop) (Jx:World→Prop),
  (∀ k X X' row,J k X→X.grownBy X' row→(∀ r,row = some r→r = Bx∨W.heap.size≤r)→J k X') →
  (∀ k X,J k X→cnt X = k∧k≤N) →
  (∀ k v X,J k X→YieldAt Fence.wide (n - 1) Tryz.prog l #[v] X fun e X' => (e = .returned (.bool true)∧J (k + 1) X'∧KeepX (fun i => ex i∨i = l) X X')∨(e = .returned (.bool false)∧N≤k∧Jx X')) →
  J 0 W →
  CallsIn Fence.wide n Tryz.prog gf (#[.func (.yield l) #[] #[]]++lb) W fun e W' => (∃ v,e = .returned v)∧((∃ k,V = false∧J k W')∨(V = true∧Jx W'))
def roundP (ex:Nat→Prop) (N:Nat) (I:Nat→World→Prop) (Ix:World→Prop) (k:Nat) (W:World):Exit→Act→World→Prop
 | .normal,_,W' => I (k + 1) W'∧KeepX ex W W'
 | .ret,_,W' => N≤k∧Ix W'∧KeepX ex W W'
 | _,_,_ => False
theorem rangeFunc_count {p:Tmp} {body:Code} {g:Operand} {Q:Exit→Act→World→Prop} {a:Act} {w:World} {n:Nat} (h1:1≤n)
  {gf:Nat} {lb:Array Value} (hg:a.eval g = .func (.func gf) #[] lb) (eg:∀ args w,(callFunc gf args).run Tryz.prog w = .ok (.enter gf args) w)
  (B Bx N:Nat) (ex:Nat→Prop) (cnt:World→Nat) (V:Bool) (hBx:B≤Bx) (hxw:Bx < w.heap.size) (hex:∀ i,ex i→i < w.heap.size)
  (I:Nat→World→Prop) (Ix:World→Prop) (hI:FromB B I) (hIx:FromB B (fun (_:Unit) => Ix)) (hIc:∀ k X,I k X→cnt X = k∧k≤N) (h0:I 0 w)
  (hiter:∀ W,Below w.heap.size w W→W.heap.size = w.heap.size + 2→IterW (n - 1) gf lb (w.heap.size + 1) ex Bx cnt N V W)
  (hbody:∀ (k:Nat) (v:Value) (W:World),w.heap.size < W.heap.size→I k W→body.wpIn (Fence.wide.inRound (w.heap.size + 1)) (n - 1 - 1) Tryz.prog (roundP ex N I Ix k W) { tmps:=a.tmps.setIfInBounds p v,defers:=[] } W)
  (hdone:∀ (k:Nat) (W:World),V = false→I k W→W.heap[w.heap.size]? = some (.deferred (some []))→w.heap.size < W.heap.size→Q .normal { a with defers:=markD w.heap.size::a.defers } W)
  (hstop:∀ (W:World),V = true→Ix W→W.heap[w.heap.size]? = some (.deferred (some []))→w.heap.size < W.heap.size→Code.ret.wpIn Fence.wide n Tryz.prog Q { a with defers:=markD w.heap.size::a.defers } W) :
  (Code.rangeFunc g #[p] Code.skip body).wpIn Fence.wide n Tryz.prog Q a w:=by
 refine wpIn_rangeFunc ?_
 intro fn hfn
 obtain ⟨rec,hrec⟩:∃ rec:LoopState→Option Code→Loop,rec = fun st pe => { state:=st,pending:=pe,fn,tmps:=a.tmps,params:=#[p],assign:=Code.skip,body,defers:=w.heap.size }:=⟨_,rfl⟩
 obtain ⟨W1,hW1⟩:∃ W1,(w.alloc (.deferred (some []))).alloc (.loop (rec .ready none)) = W1:=⟨_,rfl⟩
 have hL1:W1.heap[w.heap.size + 1]? = some (.loop (rec .ready none)):=by
  rw [<- hW1]; have:=World.alloc_heap_new (w.alloc (.deferred (some []))) (.loop (rec .ready none)); rwa [World.size_alloc] at this
 have hK1:W1.heap[w.heap.size]? = some (.deferred (some [])):=by
  rw [<- hW1]; exact (Below.heap_alloc _ _ _ (by simp)).trans (World.alloc_heap_new w _)
 have hg1:w.grownBy (w.alloc (.deferred (some []))) none:=World.grownBy_alloc w _ none
 have hg2:(w.alloc (.deferred (some []))).grownBy W1 none:=by rw [<- hW1]; exact World.grownBy_alloc _ _ none
 have hI1:I 0 W1:=hI _ _ _ none (hI _ _ _ none h0 hg1 (fun r e => by cases e)) hg2 (fun r e => by cases e)
 have hb1:Below w.heap.size w W1:=by
  rw [<- hW1]; exact ((Below.refl _ w).alloc (Nat.le_refl _) _).alloc (by simp) _
 have hs1:W1.heap.size = w.heap.size + 2:=by rw [<- hW1]; simp
 have hexl:∀ i,ex i→i≠w.heap.size + 1∧i≠w.heap.size:=fun i hi => ⟨fun e => by have:=hex i hi; omega,fun e => by have:=hex i hi; omega⟩
 refine ⟨w.heap.size + 1,[markD w.heap.size],W1,{ target:=.fn (.func gf) lb,args:=#[.func (.yield (w.heap.size + 1)) #[] #[]] },W1,gf,
  #[.func (.yield (w.heap.size + 1)) #[] #[]]++lb,W1,?_,?_,?_,?_,fun _ => h1,?_⟩
 ·rw [<- hW1,hrec]; exact run_enterLoop_outer _ _ _ _ _
 ·simp only [resolve,hg]
  simp [go_sem]
 ·intro f' _; trivial
 ·simp [invoke,go_sem,eg]
 refine (hiter W1 hb1 hs1
   (fun k W => I k W∧W.heap[w.heap.size + 1]? = some (.loop (rec .ready none))∧W.heap[w.heap.size]? = some (.deferred (some [])))
   (fun W => Ix W∧W.heap[w.heap.size + 1]? = some (.loop (rec .done (some .ret)))∧W.heap[w.heap.size]? = some (.deferred (some [])))
   ?_ (fun k X h => hIc k X h.1) ?_ ⟨hI1,hL1,hK1⟩).mono ?_
 ·rintro k X X' row ⟨h1,h2,h3⟩ hgr hr
  have hne:∀ i,i = w.heap.size∨i = w.heap.size + 1→row≠some i:=fun i hi e => by
   rcases hr i e with q | q
   ·omega
   rw [hs1] at q; omega
  refine ⟨hI _ _ _ row h1 hgr (fun r e => by rcases hr r e with q | q; omega; rw [hs1] at q; omega),?_,?_⟩
  ·exact (hgr.block _ (Array.getElem?_eq_some_iff.1 h2).1 (hne _ (.inr rfl)).symm).trans h2
  exact (hgr.block _ (Array.getElem?_eq_some_iff.1 h3).1 (hne _ (.inl rfl)).symm).trans h3
 ·rintro k v X ⟨hi,hl,hk⟩
  have hlt:w.heap.size + 1 < X.heap.size:=(Array.getElem?_eq_some_iff.1 hl).1
  have hy:=run_yield (P:=Tryz.prog) (args:=#[v]) hl (by rw [hrec]; rfl)
  rw [hrec] at hy
  refine ⟨fn,_,Code.skip,body,hy,roundIn_of_wpIn hfn (wpIn_skip ?_)⟩
  clear hy
  refine ⟨_,run_beginRound hl (by rw [hrec]),?_⟩
  have hl2:(X.putObj (w.heap.size + 1) (.loop { rec .ready none with state:=.busy })).heap[w.heap.size + 1]? = some (.loop { rec .ready none with state:=.busy }):=World.putObj_heap_same hlt
  have hk2:(X.putObj (w.heap.size + 1) (.loop { rec .ready none with state:=.busy })).heap[w.heap.size]? = some (.deferred (some [])):=(World.putObj_heap_other (by omega)).trans hk
  have hp2:KeepX (fun i => ex i∨i = w.heap.size + 1) X (X.putObj (w.heap.size + 1) (.loop { rec .ready none with state:=.busy })):=KeepX.put _ _ _ (.inr rfl)
  have hi2:I k (X.putObj (w.heap.size + 1) (.loop { rec .ready none with state:=.busy })):=hI _ _ _ (some (w.heap.size + 1)) hi (grownBy_putObj' _ _ _) (fun r e => by cases e; omega)
  have hz2:w.heap.size < (X.putObj (w.heap.size + 1) (.loop { rec .ready none with state:=.busy })).heap.size:=by rw [hp2.size]; omega
  have hb:=hbody k v _ hz2 hi2
  refine wpIn_mono (by simpa using hb) ?_
  have fin:∀ (jump:Option Code) (W3:World),KeepX ex (X.putObj (w.heap.size + 1) (.loop { rec .ready none with state:=.busy })) W3 →
    (Instr.endRound (w.heap.size + 1) jump).run Tryz.prog W3 = .ok (.bool jump.isNone) (W3.putObj (w.heap.size + 1) (.loop (rec (if jump.isNone then .ready else .done) jump))) ∧
    (W3.putObj (w.heap.size + 1) (.loop (rec (if jump.isNone then .ready else .done) jump))).heap[w.heap.size + 1]? = some (.loop (rec (if jump.isNone then .ready else .done) jump)) ∧
    (W3.putObj (w.heap.size + 1) (.loop (rec (if jump.isNone then .ready else .done) jump))).heap[w.heap.size]? = some (.deferred (some [])):=fun jump W3 hk3 => by
   have hl3:=(hk3.block (w.heap.size + 1) (fun e => (hexl _ e).1 rfl)).trans hl2
   have:=run_endRound (P:=Tryz.prog) jump hl3
   rw [hrec] at this ⊢
   exact ⟨this,World.putObj_heap_same (Array.getElem?_eq_some_iff.1 hl3).1,(World.putObj_heap_other (by omega)).trans ((hk3.block w.heap.size (fun e => (hexl _ e).2 rfl)).trans hk2)⟩
  rintro e a3 W3 hp
  cases e with
  | normal =>
   obtain ⟨hi3,hk3⟩:=hp
   obtain ⟨hr,hl4,hk4⟩:=fin none W3 hk3
   exact ⟨_,_,hr,.inl ⟨rfl,⟨hI _ _ _ (some (w.heap.size + 1)) hi3 (grownBy_putObj' _ _ _) (fun r e => by cases e; omega),hl4,hk4⟩,(hp2.trans (hk3.mono (fun i => .inl))).trans (KeepX.put _ _ _ (.inr rfl))⟩⟩
  | ret =>
   obtain ⟨hN,hi3,hk3⟩:=hp
   obtain ⟨hr,hl4,hk4⟩:=fin (some .ret) W3 hk3
   exact ⟨_,_,hr,.inr ⟨rfl,hN,hIx () _ _ (some (w.heap.size + 1)) hi3 (grownBy_putObj' _ _ _) (fun r e => by cases e; omega),hl4,hk4⟩⟩
  | exit id => exact hp.elim
  | goto t => exact hp.elim
  | panic ch => exact hp.elim
  | outgrown => exact hp.elim
 rintro e W2 ⟨⟨v,rfl⟩,(⟨k,hV,hi,hl,hk⟩ | ⟨hV,hi,hl,hk⟩)⟩
 ·have hlt:w.heap.size + 1 < W2.heap.size:=(Array.getElem?_eq_some_iff.1 hl).1
  exact ⟨none,_,by have:=run_endLoop (P:=Tryz.prog) hl (by rw [hrec]; simp); rw [hrec] at this; exact this,hdone k _ hV (hI _ _ _ (some (w.heap.size + 1)) hi (grownBy_putObj' _ _ _) (fun r e => by cases e; omega)) ((World.putObj_heap_other (by omega)).trans hk) (by simp [World.putObj]; omega)⟩
 have hlt:w.heap.size + 1 < W2.heap.size:=(Array.getElem?_eq_some_iff.1 hl).1
 exact ⟨some .ret,_,by have:=run_endLoop (P:=Tryz.prog) hl (by rw [hrec]; simp); rw [hrec] at this; exact this,hstop _ hV (hIx () _ _ (some (w.heap.size + 1)) hi (grownBy_putObj' _ _ _) (fun r e => by cases e; omega)) ((World.putObj_heap_other (by omega)).trans hk) (by simp [World.putObj]; omega)⟩
theorem leaves_marks {n:Nat} {fn:Func} {tmps:Array Value} {R:Ending→World→Prop}:∀ (rs:List Nat) (W:World),rs.Nodup→(∀ r∈rs,W.heap[r]? = some (.deferred (some []))) →
  (∀ W',KeepX (fun i => i∈rs) W W'→∃ v,(results fn tmps).run Tryz.prog W' = .ok v W'∧R (.returned v) W')→LeavesInM Fence.wide n Tryz.prog fn tmps R (rs.map markD) .returning W
 | [],W,_,_,h => h W ⟨rfl,rfl,rfl,rfl,fun _ _ => rfl⟩
 | r::rs,W,hn,hm,h => by
  have hn':=List.nodup_cons.1 hn
  refine ⟨by simp,.inl ⟨r,_,rfl,run_takeDeferred (hm r (by simp)),leaves_marks rs _ hn'.2 (fun x hx => ?_) (fun W' hk => ?_)⟩⟩
  ·exact (World.putObj_heap_other (fun e => hn'.1 (by rw [<- e]; exact hx))).trans (hm x (by simp [hx]))
  ·exact h W' ((KeepX.put (ex:=fun i => i∈r::rs) W r _ (by simp)).trans (hk.mono (fun i hi => by simp [hi])))
end Go.Proofs.YtmhhcfceikcfbaaGreat
namespace Go.Proofs.YtmhhcfceikcfbaaGreat
open Go.RowKit Go.MapKept
set_option maxRecDepth 100000
set_option maxHeartbeats 4000000
def idxN (st:List Sty):Nat→Int→Option Int
 | 0 => fun _ => none
 | i + 1 => match st[i]? with
  | some s => putF (idxN st i) s.1 (some (i:Int))
  | none => idxN st i
def chF (st:List Sty):Nat→Int→Bool
 | f,id => if id = 0 then false else match idxN st st.length id with
  | none => false
  | some v => match f with
   | 0 => true
   | f + 1 => match st[v.toNat]? with
    | some s => chF st f s.2.2.2.1
    | none => false
theorem idxN_at {st:List Sty}:∀ {i:Nat} {x v:Int},idxN st i x = some v→∃ j:Nat,v = (j:Int)∧j < i∧j < st.length
 | 0,_,_,h => by cases h
 | i + 1,x,v,h => by
  unfold idxN at h
  cases hs:st[i]? with
  | none =>
   rw [hs] at h
   obtain ⟨j,h1,h2,h3⟩:=idxN_at h
   exact ⟨j,h1,by omega,h3⟩
  | some s =>
   rw [hs] at h
   simp only [putF] at h
   split at h
   ·injection h with h
    exact ⟨i,h.symm,by omega,(List.getElem?_eq_some_iff.1 hs).1⟩
   ·obtain ⟨j,h1,h2,h3⟩:=idxN_at h
    exact ⟨j,h1,by omega,h3⟩
theorem idxN_succ {st:List Sty} {i:Nat} {s:Sty} (h:st[i]? = some s):idxN st (i + 1) = putF (idxN st i) s.1 (some (i:Int)):=by
 rw [idxN,h]
theorem chF_zero {st:List Sty} (f:Nat):chF st f 0 = false:=by unfold chF; rw [if_pos rfl]
theorem chF_none {st:List Sty} (f:Nat) {x:Int} (h:idxN st st.length x = none):chF st f x = false:=by
 unfold chF
 split
 ·rfl
 rw [h]
theorem chF_full {st:List Sty} {x v:Int} (h0:x≠0) (h:idxN st st.length x = some v):chF st 0 x = true:=by
 unfold chF
 rw [if_neg h0,h]
theorem chF_step {st:List Sty} {f:Nat} {x:Int} {j:Nat} {s:Sty} (h0:x≠0) (h:idxN st st.length x = some (j:Int)) (hs:st[j]? = some s):chF st (f + 1) x = chF st f s.2.2.2.1:=by
 rw [chF,if_neg h0,h]
 simp only [Int.toNat_natCast,hs]
theorem bh.look2 {f:Int→Option Int} {b:Nat} {w:World} (h:bh f b w) (x:Int):(Instr.lookup 127 (.map (some b)) (.int .i64 x) true).run Tryz.prog w = .ok (.tuple #[.int .i64 (numD f x),.bool (f x).isSome]) w:=by
 obtain ⟨es,clock,hb,_,_,_,hf⟩:=aX.find h x
 have hch:∀ em,(Instr.checkKey em 10000 3 (.int .i64 x)).run Tryz.prog w = .ok () w:=fun em => run_checkKey Tryz.underlying3 (show IsKey (.int .i64) (.int .i64 x) from rfl) em 9999
 unfold numD
 rcases hf with ⟨h1,h2,_⟩ | ⟨j,e0,h1,_,_,h2⟩
 ·have h3:f x = none:=by unfold numF at h2; cases hx:f x with | none => rfl | some v => rw [hx] at h2; cases h2
  simp [Instr.lookup,run_underlying Tryz.underlying127,MapKept.run_getObj_map hb,hch,h1,zero3 w,Result.andThen,h3]
 obtain ⟨v,h3,h4⟩:∃ v,f x = some v∧e0.val = .int .i64 v:=by
  unfold numF at h2
  cases hx:f x with
  | none => rw [hx] at h2; cases h2
  | some v => rw [hx] at h2; exact ⟨v,rfl,(Option.some.inj h2).symm⟩
 simp [Instr.lookup,run_underlying Tryz.underlying127,MapKept.run_getObj_map hb,hch,h1,Result.andThen,h3,h4]
theorem EltS.same {b o:Nat} {vs:List Value} {w w':World} (h:EltS b o vs w) (hb:w'.heap[b]? = w.heap[b]?):EltS b o vs w':=fun j u hu => (World.cell?_of_block (a:=⟨b,o + j,none⟩) hb).trans (h j u hu)
def KeptI (ex:Nat→Prop) (l Bx:Nat) (W0 wr:World):Prop:=W0.heap.size≤wr.heap.size∧∀ i,i < W0.heap.size→¬ ex i→i≠l→i≠Bx→wr.heap[i]? = W0.heap[i]?
theorem iter204 (n:Nat) (hn:1≤n) (l:Nat) (ex:Nat→Prop) (A Bx:Nat) (cnt:World→Nat) (W0:World) (G:Nat→Prop) (sl:Value) (st:List Sty) (id0:Int)
  (hA:W0.heap[A]? = some (.cells #[sl] 42 (0,0))) (hB:W0.heap[Bx]? = some (.cells #[.int .i64 id0] 3 (0,0))) (hsl:Slv styP 6 W0 G sl st) (hG:∀ b,G b→¬ ex b∧b≠l∧b≠Bx)
  (hxA:¬ ex A∧A≠l∧A≠Bx) (hxB:¬ ex Bx∧Bx≠l) (hx0:∀ i,ex i∨i = l→i < W0.heap.size) :
  IterW n 204 #[.pointer (some ⟨A,0,none⟩),.pointer (some ⟨Bx,0,none⟩)] l ex Bx cnt st.length (chF st st.length id0) W0:=by
 have hmm:=@run_makeMap Tryz.prog
 intro J Jx hJ hJc hY h0
 have HJ:=qH hJ
 have HJc:=qH hJc
 have HY:=qH hY
 have HA:=qH hA
 have HBX:=qH hB
 have HG:=qH hG
 have HXA:=qH hxA
 have HXB:=qH hxB
 have HX0:=qH hx0
 obtain ⟨A0,cp,rfl,hlc,hcm⟩:=hsl.shape
 unfold maxLen at hcm
 obtain ⟨N,hN⟩:=gX (st.length)
 rw [<- hN] at hJc hsl HJc hlc hA HA
 obtain ⟨V,hV⟩:=gX (chF st N id0)
 rw [<- hN,<- hV]
 have HSL:=qH hsl
 have HN:=qH hN
 have HV:=qH hV
 obtain ⟨m,hm⟩:=gX (W0.heap.size)
 obtain ⟨W1,hW1⟩:=gX (W0.alloc (.map #[] 0))
 have HM0:Hid (bh (idxN st 0) m W1):=qH (by rw [hW1,hm]; exact numAt_new W0)
 have HB0:Hid (Below W0.heap.size W0 W1):=qH (by rw [hW1]; exact ag _ _)
 have HJ0:Hid (J 0 W1):=qH (by rw [hW1]; exact hJ 0 W0 _ none h0 (World.grownBy_alloc W0 _ none) (fun r e => by cases e))
 have HW1:=qH hW1
 have HMM:=qH hm
 have eA:W1.cell? ⟨A,0,none⟩ = some (.slice A0 N cp):=aa ((HB0.out.block A (ae hA)).trans hA) 0
 clear hJ hJc hY h0 hA hB hG hxA hxB hx0 hsl hN hV hm hW1
 refine callsIn_wide.2 ?_
 simp only [List.append_toArray,List.cons_append,List.nil_append]
 go_enter Tryz.func204,Tryz.ntmps204
 go_upto_region 1 with fail
 rw [<- HW1.out,<- HMM.out]
 clear HW1 hmm
 go_wp2_with fail
 clear eA
 go_loopw [12] (fun iv wr => ∃ i:Nat,iv = .int .i64 (i:Int)∧i≤N∧Hid (bh (idxN st i) m wr)∧Hid (Below W0.heap.size W0 wr)∧Hid (J 0 wr)) (fun iv _ => N - (intOf iv).toNat)
 case atStart => exact ⟨0,rfl,Nat.zero_le _,HM0,HB0,HJ0⟩
 obtain ⟨i,rfl,hin,HM,HB,HJr⟩:=hrel
 clear HM0 HB0 HJ0
 by_cases hlt:i < N
 ·have hlt':(i:Int) < (N:Int):=by omega
  obtain ⟨y,hy⟩:∃ y,st[i]? = some y:=⟨_,List.getElem?_eq_getElem (by rw [<- HN.out]; exact hlt)⟩
  obtain ⟨b3,o3,us,hA3,hg3,hbw3,_,hRy,hds⟩:=HSL.out.at i y hy
  subst hA3
  obtain ⟨x0,x1,x2,x3,x4,x5⟩:=y
  obtain ⟨pv,rfl,_,hL⟩:=hRy
  obtain ⟨pA,pc,rfl,_,_⟩:=hL.shape
  simp only at hL hds
  obtain ⟨pn,hpn⟩:=gX (x5.length)
  rw [<- hpn] at hds
  clear hL hpn
  have hE:EltS b3 (o3 + i * 6) [.int .i64 x0,.int .i64 x1,.string x2,.int .i64 x3,.int .i64 x4,.slice pA pn pc] wr:=EltS.same (w:=W0) hds (HB.out.block _ hbw3)
  have e0:=hE 0 _ rfl
  have e1:=hE 1 _ rfl
  have e2:=hE 2 _ rfl
  have e3:=hE 3 _ rfl
  have e4:=hE 4 _ rfl
  have e5:=hE 5 _ rfl
  simp only [Nat.add_zero] at e0
  have HNX:=qH (idxN_succ hy)
  clear hE hds hy
  obtain ⟨d,hd0⟩:=gX (wr.heap.size)
  obtain ⟨w1,hw1⟩:=gX (wr.alloc (.cells #[.int .i64 x0,.int .i64 x1,.string x2,.int .i64 x3,.int .i64 x4,.slice pA pn pc] 107))
  have hdb:w1.heap[d]? = some (.cells #[.int .i64 x0,.int .i64 x1,.string x2,.int .i64 x3,.int .i64 x4,.slice pA pn pc] 107 (0,0)):=by rw [hw1]; exact ah _ _ hd0
  have bd:Below wr.heap.size wr w1:=by rw [hw1]; exact ag _ _
  have HM1:Hid (bh (idxN st i) m w1):=qH (HM.out.over bd)
  have HJ1:Hid (J 0 w1):=qH (by rw [hw1]; exact HJ.out 0 wr _ none HJr.out (World.grownBy_alloc wr _ none) (fun r e => by cases e))
  have HB1:Hid (Below W0.heap.size W0 w1):=qH (HB.out.trans (bd.mono HB.out.size))
  have hdm:d≠m:=fun e => by have:=aX.lt HM.out; omega
  have hdm:some d≠some m:=fun e => hdm (Option.some.inj e)
  have HBk:=qH (Below.refl w1.heap.size w1)
  have HD:=qH hdb
  have HWd:=qH hw1
  have HDd:=qH hd0
  have hd:=hdb
  clear hdb bd hw1 hd0 HM HB HJr
  go_upto_region 4 with fail
  rw [<- HWd.out,<- HDd.out]
  clear HWd HDd e0 e1 e2 e3 e4 e5
  refine ac (by rfl) ?_
  simp only [List.map]
  refine sq1 (.map (some m)) ?_
  refine sq1p d 0 ?_
  refine sq1i x0 ?_ (by have q0:=aa hd 0; go_simp)
  refine sq1i (i:Int) ?_
  refine sq_updateN _ _ _ rfl m (idxN st i) x0 (i:Int) rfl rfl rfl HM1.out ?_
  intro wuu hSu hgu
  replace hd:wuu.heap[d]? = some (.cells #[.int .i64 x0,.int .i64 x1,.string x2,.int .i64 x3,.int .i64 x4,.slice pA pn pc] 107 (0,0)):=(hgu.block _ (ae hd) hdm).trans hd
  refine ⟨trivial,?_⟩
  refine ad ?_
  have HF:Hid (bh (idxN st (i + 1)) m wuu∧Below W0.heap.size W0 wuu∧J 0 wuu):=qH ⟨by rw [HNX.out]; exact hSu,bK HB1.out hgu (by rw [HMM.out]; exact Nat.le_refl _) HB1.out.size,HJ.out 0 _ _ (some m) HJ1.out hgu (fun r e => by cases e; exact .inr (by rw [HMM.out]; exact Nat.le_refl _))⟩
  clear hd hSu hgu HM1 HJ1 HB1 HD
  go_wp2_with fail
  exact ⟨⟨i + 1,by go_num,by omega,qH HF.out.1,qH HF.out.2.1,qH HF.out.2.2⟩,by simp [intOf]; omega⟩
 have hlt':¬ (i:Int) < (N:Int):=by omega
 obtain rfl:i = N:=by omega
 clear hlt hin
 have HK:Hid (KeptI ex l Bx W0 wr):=qH ⟨HB.out.size,fun k hk _ _ _ => HB.out.block k hk⟩
 have HBr:Hid (wr.heap[Bx]? = some (.cells #[.int .i64 id0] 3 (0,0))):=qH ((HB.out.block Bx (ae HBX.out)).trans HBX.out)
 have hI0:∃ (k:Nat) (x:Int),Hid (wr.heap[Bx]? = some (.cells #[.int .i64 x] 3 (0,0)))∧Hid (bh (idxN st i) m wr)∧Hid (V = chF st (i - k) x)∧k≤i∧Hid (J k wr)∧Hid (KeptI ex l Bx W0 wr):=⟨0,id0,HBr,HM,HV,Nat.zero_le _,HJr,HK⟩
 have HI0:=qH hI0
 clear HM HB HJr HK HBr hI0 HV
 go_wp2_with fail
 rename_i NN
 go_loopw [] (fun wr => ∃ (k:Nat) (x:Int),Hid (wr.heap[Bx]? = some (.cells #[.int .i64 x] 3 (0,0)))∧Hid (bh (idxN st i) m wr)∧Hid (V = chF st (i - k) x)∧k≤i∧Hid (J k wr)∧Hid (KeptI ex l Bx W0 wr)) (fun wr => i + 1 - cnt wr)
 case atStart => exact HI0.out
 obtain ⟨k,x,HBr,HMr,HVr,hki,HJk,HKr⟩:=hrel
 clear HI0
 have eB:=aa HBr.out 0
 by_cases hx0:x = 0
 case pos =>
  subst hx0
  have HF:Hid (∃ k,V = false∧J k wr):=qH ⟨k,HVr.out.trans (chF_zero _),HJk.out⟩
  clear HVr
  go_wp2_with fail
  go_end0
  exact ⟨⟨_,rfl⟩,.inl HF.out⟩
 have f1:(x == 0) = false:=by rw [beq_eq_false_iff_ne]; exact hx0
 have f2:(x != 0) = true:=by simp [bne,f1]
 have hlk:=bh.look2 HMr.out x
 have HX0':=qH hx0
 cases hfx:idxN st i x with
 | none =>
  have hD:numD (idxN st i) x = 0:=by unfold numD; rw [hfx]; rfl
  rw [hD,hfx] at hlk
  simp only [Option.isSome_none] at hlk
  have HF:Hid (∃ k,V = false∧J k wr):=qH ⟨k,HVr.out.trans (chF_none _ (by rw [<- HN.out]; exact hfx)),HJk.out⟩
  clear HVr hD hfx hx0
  go_wp2_with fail
  refine bodyPost_ret (results_none rfl _ _ _) rfl ?_
  exact ⟨⟨_,rfl⟩,.inl HF.out⟩
 | some v =>
  obtain ⟨j,rfl,hji,hjl⟩:=idxN_at hfx
  have hD:numD (idxN st i) x = (j:Int):=by unfold numD; rw [hfx]; rfl
  rw [hD,hfx] at hlk
  simp only [Option.isSome_some] at hlk
  obtain ⟨y,hy⟩:∃ y,st[j]? = some y:=⟨_,List.getElem?_eq_getElem hjl⟩
  have HST:Hid (∀ f,chF st (f + 1) x = chF st f y.2.2.2.1):=qH (fun f => chF_step hx0 (by rw [<- HN.out]; exact hfx) hy)
  have HFU:Hid (chF st 0 x = true):=qH (chF_full hx0 (by rw [<- HN.out]; exact hfx))
  obtain ⟨b3,o3,us,hA3,hg3,hbw3,_,hRy,hds⟩:=HSL.out.at j y hy
  subst hA3
  obtain ⟨x0,x1,x2,x3,x4,x5⟩:=y
  obtain ⟨pv,rfl,_,hL⟩:=hRy
  obtain ⟨pA,pc,rfl,_,_⟩:=hL.shape
  simp only at hL hds
  obtain ⟨pn,hpn⟩:=gX (x5.length)
  rw [<- hpn] at hds
  clear hL hpn
  have hgq:=HG.out b3 hg3
  have HE0:Hid (EltS b3 (o3 + j * 6) [.int .i64 x0,.int .i64 x1,.string x2,.int .i64 x3,.int .i64 x4,.slice pA pn pc] wr):=qH (EltS.same (w:=W0) hds (HKr.out.2 b3 hbw3 hgq.1 hgq.2.1 hgq.2.2))
  have HAr:Hid (wr.heap[A]? = some (.cells #[.slice (some ⟨b3,o3,none⟩) i cp] 42 (0,0))):=qH ((HKr.out.2 A (ae HA.out) HXA.out.1 HXA.out.2.1 HXA.out.2.2).trans HA.out)
  have hE:=HE0.out
  have e0:=hE 0 _ rfl
  have e1:=hE 1 _ rfl
  have e2:=hE 2 _ rfl
  have e3:=hE 3 _ rfl
  have e4:=hE 4 _ rfl
  have e5:=hE 5 _ rfl
  simp only [Nat.add_zero] at e0
  have eA:=aa HAr.out 0
  have hjI:(j:Int) < (i:Int):=by omega
  obtain ⟨fn,tmps,assign,body,hy8,hR⟩:=HY.out k (.agg #[.int .i64 x0,.int .i64 x1,.string x2,.int .i64 x3,.int .i64 x4,.slice pA pn pc]) wr HJk.out
  clear hE hds hy hD hfx hx0
  go_upto_region 8 with fail
  refine (wpIn_wide (n:=n)).1 ?_
  gi_wp2_with fail
  refine hR.mono ?_
  rintro e W3 (⟨rfl,hJ3,hk3⟩ | ⟨rfl,hNk,hJx3⟩)
  ·obtain ⟨hc3,hkN⟩:=HJc.out _ _ hJ3
   have q:∀ b,¬ ex b→b≠l→W3.heap[b]? = wr.heap[b]?:=fun b h1 h2 => hk3.block b (fun e => by rcases e with e | e; exact h1 e; exact h2 e)
   have eA3:=aa ((q A HXA.out.1 HXA.out.2.1).trans HAr.out) 0
   have hB3:W3.heap[Bx]? = some (.cells #[.int .i64 x] 3 (0,0)):=(q Bx HXB.out.1 HXB.out.2).trans HBr.out
   have eB3:=aa hB3 0
   have fB3:=blk_free hB3 0
   have hE3:EltS b3 (o3 + j * 6) [.int .i64 x0,.int .i64 x1,.string x2,.int .i64 x3,.int .i64 x4,.slice pA pn pc] W3:=EltS.same HE0.out (q b3 hgq.1 hgq.2.1)
   have e3:=hE3 3 _ rfl
   have hmz:m < W3.heap.size:=by rw [hk3.size]; exact aX.lt HMr.out
   have hmx:¬ ex m∧m≠l∧m≠Bx:=by
    have h1:=HX0.out m
    have h2:=HMM.out
    have h3:=ae HBX.out
    exact ⟨fun e => by have:=h1 (.inl e); omega,fun e => by have:=h1 (.inr e); omega,fun e => by omega⟩
   have hg4:W3.grownBy (W3.setCell ⟨Bx,0,none⟩ (.int .i64 x3)) (some Bx):=grownBy_setCell' W3 Bx _
   have HF:Hid ((∃ (k:Nat) (x:Int),Hid ((W3.setCell ⟨Bx,0,none⟩ (.int .i64 x3)).heap[Bx]? = some (.cells #[.int .i64 x] 3 (0,0)))∧Hid (bh (idxN st i) m (W3.setCell ⟨Bx,0,none⟩ (.int .i64 x3)))∧Hid (V = chF st (i - k) x)∧k≤i∧Hid (J k (W3.setCell ⟨Bx,0,none⟩ (.int .i64 x3)))∧Hid (KeptI ex l Bx W0 (W3.setCell ⟨Bx,0,none⟩ (.int .i64 x3))))∧i + 1 - cnt (W3.setCell ⟨Bx,0,none⟩ (.int .i64 x3)) < i + 1 - cnt wr):=by
    have hJ4:=HJ.out (k + 1) _ _ (some Bx) hJ3 hg4 (fun r e => by cases e; exact .inl rfl)
    refine qH ⟨⟨k + 1,x3,qH (heap_setCell_same W3 Bx 0 _ _ _ hB3),qH (bh.kept HMr.out ?_),qH ?_,hkN,qH hJ4,qH ⟨?_,?_⟩⟩,?_⟩
    ·exact (hg4.block m hmz (fun e => hmx.2.2 (Option.some.inj e))).trans (q m hmx.1 hmx.2.1)
    ·rw [HVr.out,show i - k = (i - (k + 1)) + 1 by omega]
     exact HST.out _
    ·have:=HKr.out.1
     have h1:=hk3.size
     have h2:=hg4.size
     omega
    ·intro b hb h1 h2 h3
     have h4:b < W3.heap.size:=by rw [hk3.size]; exact Nat.lt_of_lt_of_le hb HKr.out.1
     exact (hg4.block b h4 (fun e => h3 (Option.some.inj e))).trans ((q b h1 h2).trans (HKr.out.2 b hb h1 h2 h3))
    rw [(HJc.out _ _ hJ4).1,(HJc.out _ _ HJk.out).1]
    omega
   clear hc3 hkN q hB3 hE3 hmz hmx hg4 hJ3 hk3 e0 e1 e2 e4 e5 eA eB hlk
   gi_wp2_with fail
   go_wp2_with fail
   exact HF.out
  have hkN:=(HJc.out _ _ HJk.out).2
  have HF:Hid (V = true∧Jx W3):=qH ⟨by rw [HVr.out,show i - k = 0 by have:=HN.out; omega]; exact HFU.out,hJx3⟩
  clear hNk hJx3 hkN e0 e1 e2 e3 e4 e5 eA eB hlk
  gi_wp2_with fail
  go_wp2_with fail
  refine bodyPost_ret (results_none rfl _ _ _) rfl ?_
  exact ⟨⟨_,rfl⟩,.inr HF.out⟩
end Go.Proofs.YtmhhcfceikcfbaaGreat
