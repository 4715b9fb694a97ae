/- Walks: a builder within a scanner. -/
import Derived.Lib.Builder
import Derived.Lib.UnsafeStr
import Derived.Shelf.RegionOpenPlain
import Derived.Test.YtmhhcfceikcfbaaGreatDeM3
namespace Go.Proofs.YtmhhcfceikcfbaaGreat
open Go.RowKit
set_option maxRecDepth 100000
set_option maxHeartbeats 4000000
def encU (b:UInt8):List Value:=[.int .u8 (b.toNat:Int)]
abbrev Prt:=ByteArray × Int × Bool
def ptV (p:Prt):List Value:=[.string p.1,.int .i64 p.2.1,.bool p.2.2]
theorem ptV_one (p:Prt):∀ u∈ptV p,u.oneCell' = true:=by
 intro u hu
 simp [ptV] at hu
 rcases hu with rfl | rfl | rfl <;> rfl
theorem encU_one (p:UInt8):∀ u∈encU p,u.oneCell' = true:=by
 intro u hu
 simp [encU] at hu
 subst hu
 rfl
structure ScQ where
 at_:Int
 lit:List UInt8
 L:List Prt
 pl:Int
 e:Int
structure ScAt (c:Nat) (s:ByteArray) (q:ScQ) (pv bv lv:Value) (w:World):Prop where
 blk:w.heap[c]? = some (.cells #[.string s,.int .i64 q.at_,pv,bv,lv,.int .i64 q.pl,.int .i64 q.e] 307 (0,0))
 pv:pv = .pointer none∨pv = .pointer (some ⟨c,2,none⟩)
 lit:Own encU 1 5 w c bv q.lit
 prt:Own ptV 3 290 w c lv q.L
def ScP (c:Nat) (s:ByteArray) (q:ScQ) (w w':World):Prop:=(∃ pv bv lv,ScAt c s q pv bv lv w')∧Below c w w'
def RetS (c:Nat) (s:ByteArray) (q:ScQ) (w:World) (e:Ending) (w':World):Prop:=e = .returned (.tuple #[])∧ScP c s q w w'
theorem bx {α:Type} {enc:α→List Value} {sz:Nat} {E T:TypeId} {w:World} {b c:Nat} {v:Value} {l:List α} {cs:Array Value} (h:Own enc sz E w b v l) (hb:w.heap[c]? = some (.cells cs T (0,0))) (hT:T≠E):v.ownBlock = none∨v.ownBlock≠some c:=by
 rcases h.2 with ⟨rfl,_⟩ | ⟨g,cap,cur,rfl,_,hg,_⟩
 ·exact .inl rfl
 refine .inr fun e => ?_
 have:g = c:=by simpa [Value.ownBlock] using e
 subst this
 rw [hb] at hg
 injection hg with hg
 injection hg with _ e2 _
 exact hT e2
theorem own_two {α β:Type} {enc:α→List Value} {enc':β→List Value} {sz sz':Nat} {E E':TypeId} {w:World} {b b':Nat} {v v':Value} {l:List α} {l':List β} (h:Own enc sz E w b v l) (h':Own enc' sz' E' w b' v' l') (hT:E≠E'):v.ownBlock = none∨v.ownBlock≠v'.ownBlock:=by
 rcases h'.2 with ⟨rfl,_⟩ | ⟨g,cap,cur,rfl,_,hg,_⟩
 ·rcases hv:v.ownBlock with _ | g
  ·exact .inl rfl
  exact .inr (by simp [Value.ownBlock])
 rcases bx h hg (fun e => hT e.symm) with q | q
 ·exact .inl q
 exact .inr (by simpa [Value.ownBlock] using q)
theorem below_c {c:Nat} {a w w':World} (h:Below c a w) (hg:w.grownBy w' (some c)) (hc:c < w.heap.size):Below c a w' :=
 ⟨hg.os.trans h.os,hg.tape.trans h.tape,hg.output.trans h.output,Nat.le_trans h.size hg.size,fun k hk => (hg.block k (by omega) (fun e => by have:=Option.some.inj e; omega)).trans (h.block k hk)⟩
theorem ScAt.store {c:Nat} {s:ByteArray} {q:ScQ} {pv bv lv pv':Value} {w w':World} (h:ScAt c s q pv bv lv w) (a' p' e':Int) (hb:w'.heap[c]? = some (.cells #[.string s,.int .i64 a',pv',bv,lv,.int .i64 p',.int .i64 e'] 307 (0,0))) (hp:pv' = .pointer none∨pv' = .pointer (some ⟨c,2,none⟩)) (hg:w.grownBy w' (some c)) :
  ScAt c s ⟨a',q.lit,q.L,p',e'⟩ pv' bv lv w':=⟨hb,hp,h.lit.kept hg (bx h.lit h.blk (by decide)),h.prt.kept hg (bx h.prt h.blk (by decide))⟩
theorem i303:(Tryz.prog.info? 305).map (·.size) = some 2:=by kernel_rfl
theorem lies305:liesAt Tryz.prog Tryz.prog.depth 307 (7 / Tryz.prog.cellsOf 307) 2 305 1 = true:=by kernel_rfl
theorem copy235 (c:Nat) (s:ByteArray) (q:ScQ) (pv bv lv:Value) (w:World) (h:ScAt c s q pv bv lv w):Calls Tryz.prog 235 #[.pointer (some ⟨c,2,none⟩)] w fun e w' => e = .returned (.tuple #[])∧ScAt c s q (.pointer (some ⟨c,2,none⟩)) bv lv w'∧Below c w w':=by
 have hb0:=h.blk
 have hp0:=h.pv
 have HS:=qH h
 obtain ⟨j,hj,hjs⟩:=Option.map_eq_some_iff.1 i303
 have c2:=aa hb0 2
 rcases hp0 with rfl | rfl
 ·have hfz:=blk_free hb0 2
  have hsh:w.shape? c = some (307,7):=by simp [World.shape?,hb0]
  have HX:=qH (heap_setCell_same w c 2 _ _ (.pointer (some ⟨c,2,none⟩)) hb0)
  have HG:Hid (w.grownBy (w.setCell ⟨c,2,none⟩ (.pointer (some ⟨c,2,none⟩))) (some c)):=qH ⟨rfl,rfl,rfl,by simp,fun k _ hk => heap_setCell_other w ⟨c,2,none⟩ k _ (fun e => hk (by simp [e]))⟩
  clear hb0 h
  go_enter Tryz.func235,Tryz.ntmps235
  go_wp2_with fail
  rw [Lib.run_to_unsafe w ⟨c,2,none⟩ Tryz.underlying303 Tryz.underlying317 hj (by rw [hjs]; decide) hsh (show 2 < 7 by decide)]
  simp only [Result.andThen]
  rw [Oper.upon_value]
  go_wp2_with fail
  rw [run_callFunc_extern Tryz.func239 (by kernel_rfl) (by kernel_rfl) (by kernel_rfl) (e:=Extern.AbiNoEscape.same) (by kernel_rfl)]
  rw [Lib.run_noEscape]
  simp only [Result.andThen]
  rw [Oper.upon_value]
  go_wp2_with fail
  rw [Lib.run_from_unsafe w ⟨c,2,none⟩ Tryz.underlying317 Tryz.underlying303 hj hsh lies305]
  simp only [Result.andThen]
  rw [Oper.upon_value]
  go_wp2_with fail
  go_end0
  exact ⟨rfl,HS.out.store _ _ _ HX.out (.inr rfl) HG.out,below_c (Below.refl _ _) HG.out (ae HS.out.blk)⟩
 clear hb0 h
 go_enter Tryz.func235,Tryz.ntmps235
 go_wp2_with fail
 rw [Lib.run_neq_ptr_same w _ Tryz.underlying303 hj]
 go_wp2_with fail
 go_end0
 exact ⟨rfl,HS.out,Below.refl _ _⟩
theorem info5s:(Tryz.prog.info? 5).map (fun i => (i.zero,i.size,i.bytes)) = some (some (.int .u8 0),1,1):=by kernel_rfl
theorem sz93:(Tryz.prog.info? 93).map (·.size) = some 1:=by kernel_rfl
theorem byte231 (c:Nat) (s:ByteArray) (q:ScQ) (pv bv lv:Value) (b:UInt8) (w:World) (h:ScAt c s q pv bv lv w) (hq:q.lit.length≤1000):Calls Tryz.prog 231 #[.pointer (some ⟨c,2,none⟩),.int .u8 (b.toNat:Int)] w fun e w' => e = .returned .nilIface∧ScP c s ⟨q.at_,q.lit++[b],q.L,q.pl,q.e⟩ w w':=by
 have C:=qH (copy235 c s q pv bv lv w h)
 clear h
 go_enter Tryz.func231,Tryz.ntmps231
 go_wp2_with fail
 refine C.out.mono ?_
 rintro e w1 ⟨rfl,h1,hb1⟩
 have H1:=qH h1
 have HB1:=qH hb1
 have hcb:=h1.blk
 clear C h1 hb1
 go_upto_region 2 with fail
 refine ac (by rfl) ?_
 simp only [List.map]
 refine sq1p c 2 ?_
 refine sq1p c 2 ?_
 refine sq1p c 2 ?_
 refine sq1p c 3 ?_
 refine sq1 (bv) ?_ (by have q0:=aa hcb 3; go_simp)
 refine sq1 (.int .u8 (b.toNat:Int)) ?_
 refine au (.slice (some ⟨w1.heap.size,0,none⟩) 1 1) (w1.alloc (.cells #[.int .u8 (b.toNat:Int)] 5)) (by go_simp) trivial ?_
 simp only [Act.put,PutA,PutZ,PutS]
 have hn:(w1.alloc (.cells #[.int .u8 (b.toNat:Int)] 5)).heap[w1.heap.size]? = some (.cells #[.int .u8 (b.toNat:Int)] 5 (0,0)):=heap_alloc_new _ _
 have HA:=qH (ag w1 (.cells #[.int .u8 (b.toNat:Int)] 5))
 have hcb2:=ai hcb HA.out
 have hO:=H1.out.lit.alloc (.cells #[.int .u8 (b.toNat:Int)] 5)
 have hO2:=H1.out.prt.alloc (.cells #[.int .u8 (b.toNat:Int)] 5)
 obtain ⟨g,hg⟩:=gX (w1.heap.size)
 obtain ⟨w2,hw2⟩:=gX (w1.alloc (.cells #[.int .u8 (b.toNat:Int)] 5))
 rw [<- hw2] at hn hO hO2 hcb2 HA ⊢
 rw [<- hg] at hn ⊢
 have HB2:Hid (Below c w w2):=qH (HB1.out.trans (HA.out.mono (Nat.le_of_lt (ae hcb))))
 have hclt:c < w2.heap.size:=ae hcb2
 clear hw2 hg hcb HA
 obtain ⟨i0,hi,hi1⟩:=Option.map_eq_some_iff.1 info5s
 refine sq_of_list rfl ?_
 refine aP _ rfl _ _ 93 rfl c 5 i0 (.int .u8 0) 1 1 Tryz.underlying93 hi (congrArg (·.1) hi1) (congrArg (·.2.1) hi1) (congrArg (·.2.2) hi1) rfl (by decide) (fun _ => rfl) encU_one bv q.lit rfl hO g 1 b rfl ?_ ?_ ?_ (Nat.le_of_lt hclt) ?_
 ·intro j u hu
  cases j with
  | zero =>
   simp [encU] at hu
   subst hu
   exact aa hn 0
  | succ j => simp [encU] at hu
 ·omega
 ·omega
 intro v' w3 hO3 hg3 hat
 have hcb3:w3.heap[c]? = some (.cells #[.string s,.int .i64 q.at_,.pointer (some ⟨c,2,none⟩),bv,lv,.int .i64 q.pl,.int .i64 q.e] 307 (0,0)):=(hg3.block c hclt (by rcases bx hO hcb2 (by decide) with q | q; rw [q]; simp; exact fun e => q e.symm)).trans hcb2
 have hL3:=hO2.kept hg3 (own_two hO2 hO (by decide))
 have HB3:Hid (Below c w w3):=qH ⟨hg3.os.trans HB2.out.os,hg3.tape.trans HB2.out.tape,hg3.output.trans HB2.out.output,Nat.le_trans HB2.out.size hg3.size,fun k hk => (hg3.block k (by omega) (fun e => by have:=(Own.base_le hO e.symm).1; omega)).trans (HB2.out.block k hk)⟩
 obtain ⟨A',c',rfl,_,_⟩:=Own.shape hO3
 have HO3:=qH hO3
 have HL3:=qH hL3
 clear hO hO2 hn hcb2 hat hO3 hL3 hg3
 refine list_done ⟨trivial,?_⟩
 simp only [Act.put,PutA,PutZ,PutS]
 refine sq1p c 2 ?_
 refine sq1p c 3 ?_
 refine aj 93 _ _ rfl rfl c 3 307 _ #[.string s,.int .i64 q.at_,.pointer (some ⟨c,2,none⟩),.slice A' (q.lit++[b]).length c',lv,.int .i64 q.pl,.int .i64 q.e] [.slice A' (q.lit++[b]).length c'] rfl rfl hcb3 sz93 (one1 rfl) rfl (by simp) ?_
 intro w4 hst hgr
 refine ⟨trivial,?_⟩
 have HF:Hid (ScP c s ⟨q.at_,q.lit++[b],q.L,q.pl,q.e⟩ w w4):=qH ⟨⟨_,_,_,hst,.inr rfl,HO3.out.kept hgr (bx HO3.out hcb3 (by decide)),HL3.out.kept hgr (bx HL3.out hcb3 (by decide))⟩,below_c HB3.out hgr (ae hcb3)⟩
 clear hst hgr hcb3
 refine ad ?_
 go_wp2_with fail
 go_ret
 exact ⟨rfl,HF.out⟩
end Go.Proofs.YtmhhcfceikcfbaaGreat
namespace Go.Proofs.YtmhhcfceikcfbaaGreat
open Go.RowKit
set_option maxRecDepth 100000
set_option maxHeartbeats 4000000
theorem grown_freeze (w:World) (g n:Nat):w.grownBy (w.freeze ⟨g,0,none⟩ n) (some g):=by
 unfold World.freeze
 split
 ·exact ⟨rfl,rfl,rfl,Nat.le_refl _,fun _ _ _ => rfl⟩
 refine ⟨rfl,rfl,rfl,by simp,fun k _ hk => ?_⟩
 have:g≠k:=fun e => hk (by rw [e])
 simp [Array.getElem?_modify,this]
theorem len236 (c:Nat) (s:ByteArray) (q:ScQ) (pv bv lv:Value) (w:World) (h:ScAt c s q pv bv lv w):Calls Tryz.prog 236 #[.pointer (some ⟨c,2,none⟩)] w fun e w' => e = .returned (.int .i64 (q.lit.length:Int))∧w = w':=by
 obtain ⟨A,cp,rfl,_,_⟩:=Own.shape h.lit
 have c3:=aa h.blk 3
 obtain ⟨n,hn⟩:=gX (q.lit.length)
 rw [<- hn] at c3 ⊢
 clear h hn
 go_enter Tryz.func236,Tryz.ntmps236
 go_wp2_with fail
 go_ret
 exact ⟨rfl,rfl⟩
theorem sz303:(Tryz.prog.info? 303).map (·.size) = some 1:=by kernel_rfl
theorem reset238 (c:Nat) (s:ByteArray) (a p e:Int) (L:List Prt) (pv bv lv:Value) (w:World) (hb:w.heap[c]? = some (.cells #[.string s,.int .i64 a,pv,bv,lv,.int .i64 p,.int .i64 e] 307 (0,0))) (hp:Own ptV 3 290 w c lv L):Calls Tryz.prog 238 #[.pointer (some ⟨c,2,none⟩)] w (RetS c s ⟨a,[],L,p,e⟩ w):=by
 have HB:=qH hb
 have HP:=qH hp
 clear hp
 go_enter Tryz.func238,Tryz.ntmps238
 go_upto_region 0 with fail
 refine ac (by rfl) ?_
 simp only [List.map]
 refine sq1p c 2 ?_
 refine sq1p c 2 ?_
 refine sq1p c 2 ?_
 refine aj 303 _ _ rfl rfl c 2 307 _ #[.string s,.int .i64 a,.pointer none,bv,lv,.int .i64 p,.int .i64 e] [.pointer none] rfl rfl hb sz303 (one1 rfl) rfl (by simp) ?_
 intro w1 h1 g1
 refine ⟨trivial,?_⟩
 have G1:=qH g1
 clear g1 hb
 refine ad ?_
 go_upto_region 1 with fail
 refine ac (by rfl) ?_
 simp only [List.map]
 refine sq1p c 2 ?_
 refine sq1p c 2 ?_
 refine sq1p c 3 ?_
 refine aj 93 _ _ rfl rfl c 3 307 _ #[.string s,.int .i64 a,.pointer none,.slice none 0 0,lv,.int .i64 p,.int .i64 e] [.slice none 0 0] rfl rfl h1 sz93 (one1 rfl) rfl (by simp) ?_
 intro w2 h2 g2
 refine ⟨trivial,?_⟩
 have HF:Hid (ScP c s ⟨a,[],L,p,e⟩ w w2):=qH ⟨⟨_,_,_,h2,.inl rfl,Own.nil _ _,(HP.out.kept G1.out (bx HP.out HB.out (by decide))).kept g2 (bx (HP.out.kept G1.out (bx HP.out HB.out (by decide))) h1 (by decide))⟩,below_c (below_c (Below.refl _ _) G1.out (ae HB.out)) g2 (ae h1)⟩
 clear h1 h2 g2 G1
 refine ad ?_
 go_wp2_with fail
 go_end0
 exact ⟨rfl,HF.out⟩
theorem string237 (c:Nat) (s:ByteArray) (q:ScQ) (pv bv lv:Value) (w:World) (h:ScAt c s q pv bv lv w) (h0:q.lit≠[]):Calls Tryz.prog 237 #[.pointer (some ⟨c,2,none⟩)] w fun e w' => e = .returned (.string ⟨q.lit.toArray⟩)∧w'.heap[c]? = some (.cells #[.string s,.int .i64 q.at_,pv,bv,lv,.int .i64 q.pl,.int .i64 q.e] 307 (0,0))∧Own ptV 3 290 w' c lv q.L∧Below c w w':=by
 have HS:=qH h
 have mixed:Tryz.prog.follows .mixedOrders = true:=by kernel_rfl
 obtain ⟨n,hn⟩:=gX (q.lit.length)
 obtain ⟨g,cap,cur,hbv,hbg,hg,hnc,hcm,hcs,htake⟩:∃ g cap cur,bv = .slice (some ⟨g,0,none⟩) n cap∧c≤g∧w.heap[g]? = some (.cells cur 5 (0,0))∧n≤cap∧cap≤maxLen∧cur.size = cap * 1∧True:=by
  rcases h.lit.2 with ⟨_,hz⟩ | ⟨g,cap,cur,hv,h1,h2,h3,h4,h5,_⟩
  ·exact absurd (List.eq_nil_of_length_eq_zero hz) h0
  exact ⟨g,cap,cur,by rw [hn]; exact hv,h1,h2,by rw [hn]; exact h3,h4,h5,trivial⟩
 have hown:=h.lit
 subst hbv
 have hl0:n≠0:=fun e => h0 (List.eq_nil_of_length_eq_zero (by rw [<- hn,e]))
 have c1:w.drew.cell? ⟨c,3,none⟩ = some (.slice (some ⟨g,0,none⟩) n cap):=aa h.blk 3
 have hSD:(Builtin.unsafeSliceData_ #[93] 319 #[.slice (some ⟨g,0,none⟩) n cap]).run Tryz.prog w.drew = .ok (.pointer (some ⟨g,0,none⟩)) w.drew :=
  Lib.run_unsafeSliceData_row w.drew _ _ _ _ _ (by omega)
 have hUS:(Builtin.unsafeString_ #[319,3] 9 #[.pointer (some ⟨g,0,none⟩),.int .i64 (n:Int)]).run Tryz.prog w.drew = .ok (.string ⟨q.lit.toArray⟩) (w.drew.freeze ⟨g,0,none⟩ n):=by
  rw [hn]
  refine Lib.run_unsafeString_row w.drew 319 3 9 5 Tryz.underlying319 (by kernel_rfl) g cur.size (by have hg':w.drew.heap[g]? = some (.cells cur 5 (0,0)):=hg; simp [World.shape?,hg']) q.lit h0 (by omega) (by unfold maxLen at hcm; omega) ?_
  intro j x hx
  exact hown.cells (g:=g) rfl j (.int .u8 x.toNat) (by
   have:=flatMap_get (enc:=encU) (sz:=1) (fun _ => rfl) q.lit j x hx 0 _ rfl
   simpa using this)
 have hG:w.grownBy (w.drew.freeze ⟨g,0,none⟩ n) (some g):=⟨(grown_freeze w.drew g n).os,(grown_freeze w.drew g n).tape,(grown_freeze w.drew g n).output,(grown_freeze w.drew g n).size,(grown_freeze w.drew g n).block⟩
 have HG:=qH hG
 have HBG:=qH hbg
 have HN:Hid (g≠c):=qH (fun e => by subst e; have:=h.blk; rw [hg] at this; cases this)
 clear h hown hg hcs htake hG hn hbg hcm
 go_enter Tryz.func237,Tryz.ntmps237
 go_wp2_with fail
 go_region_o
 all_goals (go_wp2_with fail; go_ret; exact ⟨rfl,(HG.out.block c (ae HS.out.blk) (fun e => HN.out (Option.some.inj e).symm)).trans HS.out.blk,HS.out.prt.kept HG.out (own_two HS.out.prt HS.out.lit (by decide)),⟨HG.out.os,HG.out.tape,HG.out.output,HG.out.size,fun k hk => HG.out.block k (Nat.lt_trans hk (ae HS.out.blk)) (fun e => by have:=Option.some.inj e; have:=HBG.out; omega)⟩⟩)
end Go.Proofs.YtmhhcfceikcfbaaGreat
namespace Go.Proofs.YtmhhcfceikcfbaaGreat
open Go.RowKit
set_option maxRecDepth 100000
set_option maxHeartbeats 4000000
def a8 (q:ScQ):ScQ:=if q.lit = [] then q else ⟨q.at_,[],q.L++[(⟨q.lit.toArray⟩,0,false)],q.pl,q.e⟩
theorem info290s:(Tryz.prog.info? 290).map (fun i => (i.zero.map (fun z => z.cells.size),i.size,i.bytes)) = some (some 3,3,32):=by kernel_rfl
theorem sz285:(Tryz.prog.info? 285).map (·.size) = some 1:=by kernel_rfl
theorem sq_part {Q:Exit→Act→World→Prop} {S:World→Prop} {o:Oper} {r:List (Bool × Oper)} {a:Act} {w:World} (sl x:Operand) (ho:o.op = .call { callee:=.builtin .append,args:=#[sl,x],argTypes:=#[285,285] }) (hgd:o.guard = none)
  (c:Nat) (lv:Value) (L:List Prt) (hs:a.eval sl = lv) (hown:Own ptV 3 290 w c lv L) (g:Nat) (y:Prt) (hx:a.eval x = .slice (some ⟨g,0,none⟩) 1 1) (hcell:w.heap[g]? = some (.cells (ptV y).toArray 290 (0,0))) (hlen:L.length≤1000) (hc:c≤w.heap.size)
  (h:∀ v' w',Own ptV 3 290 w' c v' (L++[y])→w.grownBy w' lv.ownBlock→S w'∧wpSq Tryz.prog Q S r (a.put o.dst v') w'):wpSq Tryz.prog Q S ((false,o)::r) a w:=by
 obtain ⟨i0,hi,hi1⟩:=Option.map_eq_some_iff.1 info290s
 have e1:i0.zero.map (fun z => z.cells.size) = some 3:=congrArg (·.1) hi1
 obtain ⟨z,hz,hz3⟩:=Option.map_eq_some_iff.1 e1
 refine sq_of_list hgd ?_
 refine aP _ hgd sl x 285 ho c 290 i0 z 3 32 Tryz.underlying285 hi hz (congrArg (·.2.1) hi1) (congrArg (·.2.2) hi1) hz3 (by decide) (fun _ => rfl) ptV_one lv L hs hown g 1 y hx ?_ ?_ ?_ hc ?_
 ·intro j u hu
  rw [aa hcell j]
  simpa using hu
 ·omega
 ·omega
 intro v' w' hO hg _
 exact list_done (h v' w' hO hg)
theorem own_grown {α:Type} {enc:α→List Value} {sz:Nat} {E:TypeId} {B:Nat} {a w w':World} {v:Value} {l:List α} (h:Below B a w) (hO:Own enc sz E w B v l) (hg:w.grownBy w' v.ownBlock) (hw:B≤w.heap.size):Below B a w' :=
 ⟨hg.os.trans h.os,hg.tape.trans h.tape,hg.output.trans h.output,Nat.le_trans h.size hg.size,fun k hk => (hg.block k (by omega) (fun e => by have:=(Own.base_le hO e.symm).1; omega)).trans (h.block k hk)⟩
theorem flush232 (c:Nat) (s:ByteArray) (q:ScQ) (pv bv lv:Value) (w:World) (h:ScAt c s q pv bv lv w) (hL:q.L.length≤1000):Calls Tryz.prog 232 #[.pointer (some ⟨c,0,none⟩)] w (RetS c s (a8 q) w):=by
 have CL:=qH (len236 c s q pv bv lv w h)
 have hcb:=h.blk
 have HS:=qH h
 obtain ⟨n,hn⟩:=gX (q.lit.length)
 rw [<- hn] at CL
 have HN:=qH hn
 clear h hn
 go_enter Tryz.func232,Tryz.ntmps232
 go_wp2_with fail
 refine CL.out.mono ?_
 rintro e w1 ⟨rfl,rfl⟩
 clear CL
 by_cases h0:q.lit = []
 case pos =>
  have hn0:n = 0:=by rw [HN.out,h0]; rfl
  have f1:decide ((0:Int) < (n:Int)) = false:=by simp [hn0]
  have f2:decide (0 < n) = false:=by simp [hn0]
  have HF:Hid (ScP c s (a8 q) w w):=qH (by unfold a8; rw [if_pos h0]; exact ⟨⟨_,_,_,HS.out⟩,Below.refl _ _⟩)
  clear hcb h0 hn0
  go_wp2_with fail
  go_end0
  exact ⟨rfl,HF.out⟩
 have hn0:0 < n:=by rw [HN.out]; exact List.length_pos_iff.2 h0
 have f1:decide ((0:Int) < (n:Int)) = true:=by simpa using hn0
 have f2:decide (0 < n) = true:=by simpa using hn0
 have C:=qH (string237 c s q pv bv lv w.drew ⟨HS.out.blk,HS.out.pv,HS.out.lit.drew,HS.out.prt.drew⟩ h0)
 have HQ:=qH (show a8 q = ⟨q.at_,[],q.L++[(⟨q.lit.toArray⟩,0,false)],q.pl,q.e⟩ by unfold a8; rw [if_neg h0])
 obtain ⟨A,cp,hlv,_,_⟩:=Own.shape HS.out.prt
 subst hlv
 obtain ⟨LN,hLN⟩:=gX (q.L.length)
 rw [<- hLN] at C hcb HS
 have HLN:=qH hLN
 clear h0 hn0 hLN
 go_upto_region 1 with fail
 refine wp_region_tg (S:=fun w' => w'.cell? ⟨c,4,none⟩ = some (.slice A LN cp)) 11 [(0,0),(0,1),(0,2),(0,3),(1,4),(0,5),(0,6),(0,7),(2,8),(0,9),(2,10),(3,11),(0,12),(0,13),(3,14)] (by kernel_rfl) (by kernel_rfl) (aa hcb 4) ?_
 simp only [pickT,List.getElem?_cons_succ,List.getElem?_cons_zero]
 refine aW (.pointer (some ⟨c,0,none⟩)) (fun w' => by go_simp) ?_
 simp only [Act.put,PutA,PutZ,PutS]
 refine aW (.pointer (some ⟨c,0,none⟩)) (fun w' => by go_simp) ?_
 simp only [Act.put,PutA,PutZ,PutS]
 refine aW (.pointer (some ⟨c,0,none⟩)) (fun w' => by go_simp) ?_
 simp only [Act.put,PutA,PutZ,PutS]
 refine aW (.pointer (some ⟨c,4,none⟩)) (fun w' => by go_simp) ?_
 simp only [Act.put,PutA,PutZ,PutS]
 refine tg_load (.slice A LN cp) (fun w' hS => by go_simp) ?_
 simp only [Act.put,PutA,PutZ,PutS]
 refine aW (.pointer (some ⟨c,0,none⟩)) (fun w' => by go_simp) ?_
 simp only [Act.put,PutA,PutZ,PutS]
 refine aW (.pointer (some ⟨c,0,none⟩)) (fun w' => by go_simp) ?_
 simp only [Act.put,PutA,PutZ,PutS]
 refine aW (.pointer (some ⟨c,2,none⟩)) (fun w' => by go_simp) ?_
 simp only [Act.put,PutA,PutZ,PutS]
 refine tg_run ?_
 refine af 237 #[.pointer (some ⟨c,2,none⟩)] (by go_simp) ?_
 refine C.out.mono ?_
 rintro e w2 ⟨rfl,hb2,hp2,hl2⟩
 refine ⟨_,rfl,aa hb2 4,ad ?_⟩
 show wpTg _ _ _ _ _ _
 simp only [Act.put,PutA,PutZ,PutS]
 refine aW (.agg #[.string ⟨q.lit.toArray⟩,.int .i64 0,.bool false]) (fun w' => by go_simp) ?_
 simp only [Act.put,PutA,PutZ,PutS]
 refine tg_run ?_
 refine au (.slice (some ⟨w2.heap.size,0,none⟩) 1 1) (w2.alloc (.cells #[.string ⟨q.lit.toArray⟩,.int .i64 0,.bool false] 290)) (by go_simp) (aa (ai hb2 (ag w2 _)) 4) (ad ?_)
 show wpTg _ _ _ _ _ _
 simp only [Act.put,PutA,PutZ,PutS]
 have hn:=heap_alloc_new w2 (.cells #[.string ⟨q.lit.toArray⟩,.int .i64 0,.bool false] 290)
 have hb3:=ai hb2 (ag w2 (.cells #[.string ⟨q.lit.toArray⟩,.int .i64 0,.bool false] 290))
 have hO3:=hp2.alloc (.cells #[.string ⟨q.lit.toArray⟩,.int .i64 0,.bool false] 290)
 have hB3:Below c w (w2.alloc (.cells #[.string ⟨q.lit.toArray⟩,.int .i64 0,.bool false] 290)):=((Below.refl _ w).drew.trans hl2).trans ((ag w2 _).mono (Nat.le_of_lt (ae hb2)))
 obtain ⟨g,hg⟩:=gX (w2.heap.size)
 obtain ⟨w3,hw3⟩:=gX (w2.alloc (.cells #[.string ⟨q.lit.toArray⟩,.int .i64 0,.bool false] 290))
 rw [<- hw3] at hn hb3 hO3 hB3 ⊢
 rw [<- hg] at hn ⊢
 clear hw3 hg hb2 hp2 hl2
 refine tg_late ?_
 refine sq_part _ _ rfl rfl c (.slice A LN cp) q.L rfl hO3 g (⟨q.lit.toArray⟩,0,false) rfl hn hL (Nat.le_of_lt (ae hb3)) ?_
 intro v' w4 hO4 hg4
 have hb4:w4.heap[c]? = some (.cells #[.string s,.int .i64 q.at_,pv,bv,.slice A LN cp,.int .i64 q.pl,.int .i64 q.e] 307 (0,0)):=(hg4.block c (ae hb3) (by rcases bx hO3 hb3 (by decide) with q | q; rw [q]; simp; exact fun e => q e.symm)).trans hb3
 have HB4:=qH (own_grown hB3 hO3 hg4 (Nat.le_of_lt (ae hb3)))
 obtain ⟨A',c',rfl,_,_⟩:=Own.shape hO4
 have HO4:=qH hO4
 clear hO3 hn hb3 hB3 hg4 hO4
 refine ⟨trivial,ad ?_⟩
 show wpTg _ _ _ _ _ _
 simp only [Act.put,PutA,PutZ,PutS]
 refine aW (.pointer (some ⟨c,0,none⟩)) (fun w' => by go_simp) ?_
 simp only [Act.put,PutA,PutZ,PutS]
 refine aW (.pointer (some ⟨c,4,none⟩)) (fun w' => by go_simp) ?_
 simp only [Act.put,PutA,PutZ,PutS]
 refine tg_late ?_
 refine aj 285 _ _ rfl rfl c 4 307 _ #[.string s,.int .i64 q.at_,pv,bv,(.slice A' (q.L++[((⟨q.lit.toArray⟩:ByteArray),(0:Int),false)]).length c'),.int .i64 q.pl,.int .i64 q.e] [.slice A' (q.L++[((⟨q.lit.toArray⟩:ByteArray),(0:Int),false)]).length c'] rfl rfl hb4 sz285 (one1 rfl) rfl (by simp) ?_
 intro w5 h5 g5
 refine ⟨trivial,ad ?_⟩
 show wpTg _ _ _ _ _ _
 refine tg_done ?_
 have HB5:=qH (below_c HB4.out g5 (ae hb4))
 have CR:=qH (reset238 c s q.at_ q.pl q.e _ pv bv _ w5 h5 (HO4.out.kept g5 (bx HO4.out hb4 (by decide))))
 clear h5 g5 hb4 HO4 HB4
 go_wp2_with fail
 refine CR.out.mono ?_
 rintro e w6 ⟨rfl,hS6,hB6⟩
 have HF:Hid (ScP c s (a8 q) w w6):=qH (by rw [HQ.out]; exact ⟨hS6,HB5.out.trans hB6⟩)
 clear CR hS6 hB6
 go_wp2_with fail
 go_end0
 exact ⟨rfl,HF.out⟩
end Go.Proofs.YtmhhcfceikcfbaaGreat
