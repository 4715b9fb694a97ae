/- The checker's state; walks: an id checked and kept. -/
import Derived.Test.YtmhhcfceikcfbaaGreatDeM3
namespace Go.Proofs.YtmhhcfceikcfbaaGreat
open Go.RowKit Go.MapKept
set_option maxRecDepth 100000
set_option maxHeartbeats 4000000
structure Ch (c m:Nat) (w w':World):Prop where
 os:w'.os = w.os
 tape:w'.tape = w.tape
 output:w'.output = w.output
 size:w.heap.size≤w'.heap.size
 block:∀ k,k < w.heap.size→k≠c→k≠m→w'.heap[k]? = w.heap[k]?
theorem Ch.refl (c m:Nat) (w:World):Ch c m w w:=⟨rfl,rfl,rfl,Nat.le_refl _,fun _ _ _ _ => rfl⟩
theorem Ch.trans {c m:Nat} {a b d:World} (h:Ch c m a b) (k:Ch c m b d):Ch c m a d :=
 ⟨k.os.trans h.os,k.tape.trans h.tape,k.output.trans h.output,Nat.le_trans h.size k.size,fun i hi h1 h2 => (k.block i (Nat.lt_of_lt_of_le hi h.size) h1 h2).trans (h.block i hi h1 h2)⟩
theorem Ch.of_below {c m:Nat} {w w':World} (h:Below w.heap.size w w'):Ch c m w w':=⟨h.os,h.tape,h.output,h.size,fun k hk _ _ => h.block k hk⟩
theorem Ch.of_c {c m:Nat} {w w':World} (h:w.grownBy w' (some c)):Ch c m w w':=⟨h.os,h.tape,h.output,h.size,fun k hk h1 _ => h.block k hk (fun e => h1 (Option.some.inj e))⟩
theorem Ch.of_m {c m:Nat} {w w':World} (h:w.grownBy w' (some m)):Ch c m w w':=⟨h.os,h.tape,h.output,h.size,fun k hk _ h2 => h.block k hk (fun e => h2 (Option.some.inj e))⟩
theorem Ch.below {c m N:Nat} {w w':World} (h:Ch c m w w') (hc:N≤c) (hm:N≤m) (hw:N≤w.heap.size):Below N w w':=⟨h.os,h.tape,h.output,h.size,fun k hk => h.block k (Nat.lt_of_lt_of_le hk hw) (by omega) (by omega)⟩
theorem Ch.blk {c m g:Nat} {w w':World} {cs:Array Value} {t:TypeId} (h:Ch c m w w') (hg:w.heap[g]? = some (.cells cs t (0,0))) (h1:g≠c) (h2:g≠m):w'.heap[g]? = some (.cells cs t (0,0)):=(h.block g (ae hg) h1 h2).trans hg
structure CK where
 N:Nat
 c:Nat
 m1:Nat
 m2:Nat
 m3:Nat
 m4:Nat
 m5:Nat
 st:Int→Option Int
 ls:Int→Bool
 rv:Int→Bool
abbrev Sta:=(Int→Bool) × Int
structure CkAt (K:CK) (s:Sta) (w:World):Prop where
 blk:w.heap[K.c]? = some (.cells #[.map (some K.m1),.map (some K.m2),.map (some K.m3),.map (some K.m4),.map (some K.m5),.int .i64 s.2] 130 (0,0))
 h1:bh K.st K.m1 w
 h2:aT K.ls K.m2 w
 h3:aT K.rv K.m3 w
 h4:aT s.1 K.m4 w
 h5:aT (fun _ => false) K.m5 w
 d1:K.m1≠K.m4
 d2:K.m2≠K.m4
 d3:K.m3≠K.m4
 d5:K.m5≠K.m4
 dc:K.c≠K.m4
 e1:K.m1≠K.c
 e2:K.m2≠K.c
 e3:K.m3≠K.c
 e5:K.m5≠K.c
 nc:K.N≤K.c
 nm:K.N≤K.m4
theorem CkAt.over {K:CK} {s:Sta} {w w':World} (h:CkAt K s w) (hb:Below w.heap.size w w'):CkAt K s w' :=
 ⟨ai h.blk hb,h.h1.over hb,h.h2.over hb,h.h3.over hb,h.h4.over hb,h.h5.over hb,h.d1,h.d2,h.d3,h.d5,h.dc,h.e1,h.e2,h.e3,h.e5,h.nc,h.nm⟩
theorem CkAt.size {K:CK} {s:Sta} {w:World} (h:CkAt K s w):K.c < w.heap.size∧K.m4 < w.heap.size:=⟨ae h.blk,aX.lt h.h4⟩
theorem CkAt.le {K:CK} {s:Sta} {w:World} (h:CkAt K s w):K.N≤w.heap.size:=by have:=h.size; have:=h.nc; omega
theorem CkAt.units {K:CK} {s:Sta} {w w':World} {v:Int} (h:CkAt K s w) (hb:w'.heap[K.c]? = some (.cells #[.map (some K.m1),.map (some K.m2),.map (some K.m3),.map (some K.m4),.map (some K.m5),.int .i64 v] 130 (0,0))) (hg:w.grownBy w' (some K.c)):CkAt K (s.1,v) w' :=
 have q:∀ k,k < w.heap.size→k≠K.c→w'.heap[k]? = w.heap[k]?:=fun k h1 h2 => hg.block k h1 (fun e => h2 (Option.some.inj e))
 ⟨hb,h.h1.kept (q _ (aX.lt h.h1) h.e1),h.h2.kept (q _ (aX.lt h.h2) h.e2),h.h3.kept (q _ (aX.lt h.h3) h.e3),h.h4.kept (q _ (aX.lt h.h4) (Ne.symm h.dc)),h.h5.kept (q _ (aX.lt h.h5) h.e5),h.d1,h.d2,h.d3,h.d5,h.dc,h.e1,h.e2,h.e3,h.e5,h.nc,h.nm⟩
theorem CkAt.ids {K:CK} {s:Sta} {w w':World} {S:Int→Bool} (h:CkAt K s w) (hb:aT S K.m4 w') (hg:w.grownBy w' (some K.m4)):CkAt K (S,s.2) w' :=
 have q:∀ k,k < w.heap.size→k≠K.m4→w'.heap[k]? = w.heap[k]?:=fun k h1 h2 => hg.block k h1 (fun e => h2 (Option.some.inj e))
 ⟨(q _ h.size.1 h.dc).trans h.blk,h.h1.kept (q _ (aX.lt h.h1) h.d1),h.h2.kept (q _ (aX.lt h.h2) h.d2),h.h3.kept (q _ (aX.lt h.h3) h.d3),hb,h.h5.kept (q _ (aX.lt h.h5) h.d5),h.d1,h.d2,h.d3,h.d5,h.dc,h.e1,h.e2,h.e3,h.e5,h.nc,h.nm⟩
def CkP (K:CK) (w:World) (r:Int × Sta) (e:Ending) (w':World):Prop:=e = .returned (.int .i64 r.1)∧Ch K.c K.m4 w w'∧CkAt K r.2 w'
def idS (v:Int) (s:Sta):Int × Sta:=if inB v 1 1073741824 = false then (18,s) else if s.1 v = true then (7,s) else (0,(putF s.1 v true,s.2))
theorem sq_update {Q:Exit→Act→World→Prop} {S:World→Prop} {o:Oper} {r:List (Bool × Oper)} {a:Act} {w:World} (m x v:Operand) (ho:o.op = .mapUpdate 128 m x v) (b:Nat) (F:Int→Bool) (z:Int)
  (hm:a.eval m = .map (some b)) (hx:a.eval x = .int .i64 z) (hv:a.eval v = .bool true) (hF:aT F b w)
  (h:∀ w',aT (putF F z true) b w'→w.grownBy w' (some b)→S w'∧wpSq Tryz.prog Q S r (a.put o.dst undef) w'):wpSq Tryz.prog Q S ((false,o)::r) a w:=by
 obtain ⟨w',h1,h2,h3⟩:=hF.update z
 obtain ⟨k1,k2⟩:=h w' h2 h3
 exact sq_skip w' (by simp [execOp,ho,hm,hx,hv,h1,Result.andThen]) k1 k2
theorem sq_updateN {Q:Exit→Act→World→Prop} {S:World→Prop} {o:Oper} {r:List (Bool × Oper)} {a:Act} {w:World} (m x v:Operand) (ho:o.op = .mapUpdate 127 m x v) (b:Nat) (F:Int→Option Int) (z y:Int)
  (hm:a.eval m = .map (some b)) (hx:a.eval x = .int .i64 z) (hv:a.eval v = .int .i64 y) (hF:bh F b w)
  (h:∀ w',bh (putF F z (some y)) b w'→w.grownBy w' (some b)→S w'∧wpSq Tryz.prog Q S r (a.put o.dst undef) w'):wpSq Tryz.prog Q S ((false,o)::r) a w:=by
 obtain ⟨w',h1,h2,h3⟩:=hF.update z y
 obtain ⟨k1,k2⟩:=h w' h2 h3
 exact sq_skip w' (by simp [execOp,ho,hm,hx,hv,h1,Result.andThen]) k1 k2
theorem id191 (K:CK) (v:Int) (s:Sta) (w:World) (hK:CkAt K s w):Calls Tryz.prog 191 #[.pointer (some ⟨K.c,0,none⟩),.int .i64 v] w (CkP K w (idS v s)):=by
 obtain ⟨R,hR⟩:=gX (idS v s)
 rw [<- hR]
 unfold idS at hR
 obtain ⟨bf,u⟩:=s
 have HK:=qH hK
 have hcb:=hK.blk
 have h4:=hK.h4
 have h5:=hK.h5
 obtain ⟨N,c,m1,m2,m3,m4,m5,st,ls,rv⟩:=K
 simp only at hcb h4 h5 hR ⊢
 clear hK
 obtain ⟨ib,hib⟩:=gX (inB v 1 1073741824)
 have C:Hid (∀ W,Calls Tryz.prog 107 #[.int .i64 v,.int .i64 1,.int .i64 1073741824] W fun e w' => e = .returned (.bool ib)∧W = w'):=qH (fun W => by rw [hib]; exact in107 v 1 1073741824 W)
 rw [<- hib] at hR
 clear hib
 cases ib
 case false =>
  have HF:=qH (show CkP ⟨N,c,m1,m2,m3,m4,m5,st,ls,rv⟩ w R (.returned (.int .i64 18)) w from ⟨by rw [hR]; rfl,Ch.refl _ _ _,by rw [hR]; exact HK.out⟩)
  clear hR h4 h5 hcb HK
  go_enter Tryz.func191,Tryz.ntmps191
  go_upto_region 1 with fail
  refine aG ?_
  simp only [List.map]
  refine gd2i v ?_
  refine ax rfl ?_
  refine af 107 #[.int .i64 v,.int .i64 1,.int .i64 1073741824] (by go_simp) ?_
  refine Calls.mono (C.out _) ?_
  rintro e wp1 ⟨rfl,rfl⟩
  refine ⟨_,rfl,trivial,?_⟩
  refine ad ?_
  simp only [Act.put,PutA,PutZ,PutS]
  refine gd2b true ?_
  refine gd2b true ?_
  refine aM rfl trivial ?_
  simp only [Act.put,PutA,PutZ,PutS]
  refine aM rfl trivial ?_
  simp only [Act.put,PutA,PutZ,PutS]
  refine aM rfl trivial ?_
  simp only [Act.put,PutA,PutZ,PutS]
  refine aM rfl trivial ?_
  simp only [Act.put,PutA,PutZ,PutS]
  refine aM rfl trivial ?_
  simp only [Act.put,PutA,PutZ,PutS]
  refine aM rfl trivial ?_
  simp only [Act.put,PutA,PutZ,PutS]
  refine gd2b true ?_
  refine ax rfl ?_
  refine a7 (.bool true) (by go_simp) trivial ?_
  refine ad ?_
  simp only [Act.put,PutA,PutZ,PutS]
  refine NoPanic.normal (NoPanic.normal ?_)
  go_wp2_with fail
  go_ret
  exact HF.out
 replace hR:R = if bf v = true then (7,(bf,u)) else (0,(putF bf v true,u)):=hR
 go_enter Tryz.func191,Tryz.ntmps191
 go_upto_region 1 with fail
 refine aG ?_
 simp only [List.map]
 refine gd2i v ?_
 refine ax rfl ?_
 refine af 107 #[.int .i64 v,.int .i64 1,.int .i64 1073741824] (by go_simp) ?_
 refine Calls.mono (C.out _) ?_
 rintro e wp1 ⟨rfl,rfl⟩
 refine ⟨_,rfl,trivial,?_⟩
 refine ad ?_
 simp only [Act.put,PutA,PutZ,PutS]
 refine gd2b false ?_
 refine gd2b false ?_
 refine gd2p c 0 ?_
 refine gd2p c 0 ?_
 refine gd2p c 4 ?_
 refine gd2 (.map (some m5)) ?_ (by have q0:=aa hcb 4; go_simp)
 refine gd2i v ?_
 refine gd2b false ?_ (by have q0:=aT.look h5 v; go_simp)
 refine gd2b false ?_
 refine ax rfl ?_
 refine a7 (.bool false) (by go_simp) trivial ?_
 refine ad ?_
 simp only [Act.put,PutA,PutZ,PutS]
 refine NoPanic.normal (NoPanic.normal ?_)
 go_upto_region 3 with fail
 refine ac (by rfl) ?_
 simp only [List.map]
 refine sq1p c 0 ?_
 refine sq1p c 0 ?_
 refine sq1p c 3 ?_
 refine sq1 (.map (some m4)) ?_ (by have q0:=aa hcb 3; go_simp)
 refine sq1i v ?_
 refine sq1 (.bool (bf v)) ?_ (by have q0:=aT.look h4 v; go_simp)
 refine sq1 (.bool (bf v)) ?_
 refine ad ?_
 obtain ⟨q,hq⟩:=gX (bf v)
 rw [<- hq] at hR ⊢
 clear hq
 cases q
 case true =>
  have HF:=qH (show CkP ⟨N,c,m1,m2,m3,m4,m5,st,ls,rv⟩ w R (.returned (.int .i64 7)) w from ⟨by rw [hR]; rfl,Ch.refl _ _ _,by rw [hR]; exact HK.out⟩)
  clear hR h4 h5 hcb HK C
  go_wp2_with fail
  go_ret
  exact HF.out
 go_upto_region 5 with fail
 refine ac (by rfl) ?_
 simp only [List.map]
 refine sq1p c 0 ?_
 refine sq1p c 0 ?_
 refine sq1p c 3 ?_
 refine sq1 (.map (some m4)) ?_ (by have q0:=aa hcb 3; go_simp)
 refine sq1i v ?_
 refine sq_update _ _ _ rfl m4 bf v rfl rfl rfl h4 ?_
 intro w2 hS hg
 refine ⟨trivial,?_⟩
 have HF:=qH (show CkP ⟨N,c,m1,m2,m3,m4,m5,st,ls,rv⟩ w R (.returned (.int .i64 0)) w2 from ⟨by rw [hR]; rfl,Ch.of_m hg,by rw [hR]; exact CkAt.ids HK.out hS hg⟩)
 clear hR h4 h5 hcb HK C hS hg
 refine ad ?_
 go_wp2_with fail
 go_ret
 exact HF.out
end Go.Proofs.YtmhhcfceikcfbaaGreat
