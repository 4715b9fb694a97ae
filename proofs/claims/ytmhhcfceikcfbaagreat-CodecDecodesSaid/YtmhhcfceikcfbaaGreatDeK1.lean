/- Walks: the check of an empty document. -/
import Derived.Lib.SlBytesConst
import Derived.Test.YtmhhcfceikcfbaaGreatDeK0
namespace Go.Proofs.YtmhhcfceikcfbaaGreat
open Go.RowKit
set_option maxRecDepth 100000
set_option maxHeartbeats 4000000
def Ok0 (w:World) (e:Ending) (w':World):Prop:=e = .returned (.int .i64 0)∧Below w.heap.size w w'
def Q49 (w W:World):Prop:=Below (w.heap.size + 1) (w.alloc (.cells #[.slice none 0 0,.slice none 0 0,.int .i64 0,.int .i64 0,.slice none 0 0,.slice none 0 0,.slice none 0 0,.slice none 0 0,.slice none 0 0,.slice none 0 0,.slice none 0 0] 49)) W∧W.cell? ⟨w.heap.size + 6,5,none⟩ = some (.int .i64 0)
theorem Q49.cell {w W:World} (h:Q49 w W) (j:Nat):W.cell? ⟨w.heap.size,j,none⟩ = (w.alloc (.cells #[.slice none 0 0,.slice none 0 0,.int .i64 0,.int .i64 0,.slice none 0 0,.slice none 0 0,.slice none 0 0,.slice none 0 0,.slice none 0 0,.slice none 0 0,.slice none 0 0] 49)).cell? ⟨w.heap.size,j,none⟩:=h.1.cell (p:=⟨w.heap.size,j,none⟩) (by simp)
end Go.Proofs.YtmhhcfceikcfbaaGreat
namespace Go.Proofs.YtmhhcfceikcfbaaGreat
open Go.RowKit
set_option maxRecDepth 100000
set_option maxHeartbeats 4000000
theorem conv_wr {p B:Nat} {w:World} {L:List Nat} (hw:WrS p B w L) (hne:L≠[]) (hlt:∀ b∈L,b < 256) :
  ∃ v,w.cell? ⟨p,0,none⟩ = some v∧(convert 93 9 v).run Tryz.prog w = .ok (.string (mkB L)) w:=by
 obtain ⟨v,hb,_,_,hown⟩:=hw
 refine ⟨v,aa hb 0,?_⟩
 obtain ⟨A,c,rfl,h1,h2,h3⟩:=hown.sl encB_length
 obtain ⟨b,o,rfl,_,hc⟩:=h3 (List.length_pos_iff.2 hne)
 have:=run_convert_bytes_back (P:=Tryz.prog) w 93 9 5 ⟨b,o,none⟩ c (L.map UInt8.ofNat) Tryz.underlying93 Tryz.underlying5 Tryz.underlying9 (fun j hj => by
  have hj':j < L.length:=by simpa using hj
  have h4:=hc j L[j] (List.getElem?_eq_getElem hj') 0 (.int .u8 (L[j]:Int)) rfl
  rw [addr_add]
  simp only [Nat.mul_one,Nat.add_zero] at h4
  rw [h4]
  simp only [List.getElem_map,UInt8.toNat_ofNat',Option.some.injEq]
  rw [Nat.mod_eq_of_lt (hlt _ (List.getElem_mem hj'))])
 rw [List.length_map] at this
 exact this
theorem WrSB.start (w:World):WrSB w.heap.size w.heap.size (w.alloc (.cells #[.slice none 0 0] 95)) [] :=
 ⟨_,heap_alloc_new w _,Nat.le_refl _,by simp [Value.ownBlock],.inl (Own.nil _ _)⟩
theorem encN_lt (n:Int):∀ b∈encN n,b < 256:=vb_lt _
theorem Number13 (n:Int) (hn:I64 n) (w:World):Calls Tryz.prog 13 #[.int .i64 n] w (StrE w (encN n)):=by
 have C:Hid (Calls Tryz.prog 42 #[.pointer (some ⟨w.heap.size,0,none⟩),.slice (some ⟨w.heap.size + 1,0,none⟩) 1 1] ((w.alloc (.cells #[.slice none 0 0] 95)).alloc (.cells #[.int .i64 n] 3)) (WrE w.heap.size w.heap.size (w.alloc (.cells #[.slice none 0 0] 95)) (encN n))):=qH (by
  have hz:(w.alloc (.cells #[.slice none 0 0] 95)).heap.size = w.heap.size + 1:=by simp
  have he:([]:List Nat)++[n].flatMap encN = encN n:=by simp
  have h:=aH w.heap.size w.heap.size [n] [] (w.alloc (.cells #[.slice none 0 0] 95)) (WrSB.start w) (by simp) (by simpa using hn) (by simp) (by rw [he]; have:=encN_len hn; omega)
  rw [hz,he] at h
  exact h)
 go_enter Tryz.func13,Tryz.ntmps13
 go_wp2_with fail
 refine C.out.mono ?_
 rintro e w1 ⟨rfl,hw,hk⟩
 have HB:=qH (((Below.refl w.heap.size w).alloc (Nat.le_refl _) _).trans (hk.below (WrSB.start w)))
 obtain ⟨v,c0,kc⟩:=conv_wr hw (encN_ne n) (encN_lt n)
 clear C hw hk
 go_wp2_with fail
 go_ret
 exact ⟨rfl,HB.out⟩
def readN (s:ByteArray) (at0:Int):Int × Int × Int :=
 if at0 < 0∨(s.size:Int) < at0 then (0,0,2) else
  match rdN ((al s).drop at0.toNat) with
  | .ok m n => (m,((at0.toNat + n:Nat):Int),0)
  | .err E => (0,0,E)
theorem Read14 (s:ByteArray) (at0:Int) (w:World) (hs:s.size≤1099511627776) :
  Calls Tryz.prog 14 #[.string s,.int .i64 at0] w fun e w' => e = .returned (.tuple #[.int .i64 (readN s at0).1,.int .i64 (readN s at0).2.1,.int .i64 (readN s at0).2.2])∧Below w.heap.size w w':=by
 obtain ⟨M,hM⟩:=gX (readN s at0)
 have HM:=qH hM
 rw [<- hM]
 clear hM
 by_cases h0:at0 < 0
 ·have d0:decide (at0 < 0) = true:=by simpa using h0
  have HE:Hid (M = (0,0,2)):=qH (by rw [HM.out]; unfold readN; rw [if_pos (.inl h0)])
  go_enter Tryz.func14,Tryz.ntmps14
  go_wp2_with fail
  go_ret3
  exact ⟨by rw [HE.out]; rfl,Below.refl _ _⟩
 have d0:decide (at0 < 0) = false:=by simpa using h0
 by_cases h1:(s.size:Int) < at0
 ·have d1:decide ((s.size:Int) < at0) = true:=by simpa using h1
  have HE:Hid (M = (0,0,2)):=qH (by rw [HM.out]; unfold readN; rw [if_pos (.inr h1)])
  go_enter Tryz.func14,Tryz.ntmps14
  go_wp2_with fail
  go_ret3
  exact ⟨by rw [HE.out]; rfl,Below.refl _ _⟩
 have d1:decide ((s.size:Int) < at0) = false:=by simpa using h1
 obtain ⟨k,rfl⟩:∃ k:Nat,at0 = (k:Int):=⟨at0.toNat,by omega⟩
 have HE:Hid (M = match rdN ((al s).drop k) with | .ok m n => (m,((k + n:Nat):Int),0) | .err E => (0,0,E)):=qH (by rw [HM.out]; unfold readN; rw [if_neg (by rintro (h | h) <;> contradiction)]; rfl)
 have hr:Rdr 99 w.heap.size s k 0 (w.alloc (.cells #[.string s,.int .i64 (k:Int),.int .i64 0] 99)):=heap_alloc_new w _
 have C:=qH (az w.heap.size k s 0 _ hr (by omega) hs)
 have HB:=qH ((Below.refl w.heap.size w).alloc (Nat.le_refl _) (.cells #[.string s,.int .i64 (k:Int),.int .i64 0] 99))
 clear hr HM
 go_enter Tryz.func14,Tryz.ntmps14
 go_wp2_with fail
 refine C.out.mono ?_
 rintro e w1 ⟨x,k',e',rfl,hx,hr,hg,hres⟩
 obtain ⟨c0,c1,c2,f1,f2⟩:=hr.cells
 have HB1:=qH (HB.out.grown hg (by simp) (fun k hk => by injection hk with hk; omega))
 have HR:=qH hres
 clear C HB hr hg hres
 rcases Int.decEq e' 0 with he | he
 ·have d2:(e' != 0) = true:=by simpa using he
  have HE2:Hid (M = (0,0,e')):=qH (by
   have:=HR.out.2.2 rfl
   rw [HE.out]
   cases hq:rdN ((al s).drop k) with
   | ok m n => rw [hq] at this; exact absurd this.2.2 he
   | err E => rw [hq] at this; simp only; rw [this.1])
  clear he HR
  go_wp2_with fail
  go_quiet (fail)
  go_wp2_with fail
  go_ret3
  exact ⟨by rw [HE2.out]; rfl,aq HB1.out _⟩
 subst he
 have HE2:Hid (M = (x,(k':Int),0)):=qH (by
  have:=HR.out.2.2 rfl
  rw [HE.out]
  cases hq:rdN ((al s).drop k) with
  | ok m n => rw [hq] at this; simp only; rw [this.1,this.2.1]
  | err E => rw [hq] at this; exact absurd this.1.symm this.2)
 clear HR
 go_wp2_with fail
 go_quiet (fail)
 go_wp2_with fail
 go_ret3
 exact ⟨by rw [HE2.out]; rfl,aq HB1.out _⟩
def Byt {α:Type} (e:α→List Nat):Prop:=∀ x,∀ b∈e x,b < 256
theorem byt_N:Byt encN:=fun n => encN_lt n
theorem Byt.seq {α β:Type} {e:α→List Nat} {f:β→List Nat} (h:Byt e) (g:Byt f):Byt (seqE e f):=by
 intro x b hb
 rcases List.mem_append.1 hb with q | q
 ·exact h _ b q
 exact g _ b q
theorem Byt.list {α:Type} {e:α→List Nat} (h:Byt e):Byt (ak e):=by
 intro x b hb
 unfold ak at hb
 rcases List.mem_append.1 hb with q | q
 ·exact encN_lt _ b q
 obtain ⟨y,_,hy⟩:=List.mem_flatMap.1 q
 exact h y b hy
theorem byt_S:Byt strE:=by
 intro s b hb
 unfold strE textE at hb
 rcases List.mem_append.1 hb with q | q
 ·exact encN_lt _ b q
 exact bytesN_lt s b q
theorem byt_B:Byt flagE:=fun _ => encN_lt _
theorem byt_two:Byt twoE:=byt_N.seq byt_N
theorem byt_lay:Byt layE:=byt_N.seq (byt_N.seq (byt_N.seq byt_B))
theorem byt_hd:Byt hdE:=byt_two.list.seq (byt_N.seq (byt_N.seq (byt_two.list.seq byt_lay.list)))
theorem byt_lvl:Byt lvlE:=byt_N.seq (byt_N.seq (byt_S.seq byt_N))
theorem byt_sty:Byt styE:=byt_N.seq (byt_N.seq (byt_S.seq (byt_N.seq (byt_N.seq byt_two.list))))
theorem byt_lst:Byt lstE:=byt_N.seq byt_lvl.list
theorem byt_cmt:Byt cmtE:=byt_N.seq (byt_N.seq (byt_S.seq (byt_N.seq (byt_S.seq byt_B))))
theorem byt_vr:Byt vrE:=byt_S.seq byt_S
theorem byt_rev:Byt revE:=byt_N.seq (byt_S.seq byt_N)
theorem byt_stg:Byt stgE:=byt_sty.list.seq (byt_lst.list.seq (byt_cmt.list.seq byt_vr.list))
theorem Byt.ce {α:Type} {e:α→List Nat} (h:Byt e):Byt (ceE e):=byt_N.seq (byt_hd.seq h.list)
theorem Byt.rw {α:Type} {e:α→List Nat} (h:Byt e):Byt (rwE e):=byt_hd.seq h.ce.list
theorem Byt.is {α:Type} {e:α→List Nat} (h:Byt e):Byt (isE e):=byt_N.seq (byt_N.seq (byt_N.seq (byt_S.seq (byt_hd.seq (h.list.seq h.rw.list)))))
theorem byt_it:∀ n,Byt (itE n)
 | 0 => fun x => Empty.elim x
 | n + 1 => (byt_it n).is
theorem Slv.alloc {α:Type} {R:Rp α} {sz:Nat} (hR:Stb R) {w:World} {G:Nat→Prop} {v:Value} {l:List α} (h:Slv R sz w G v l) (o:Obj):Slv R sz (w.alloc o) G v l :=
 h.stb hR (fun _ h => h) (fun b _ hlt => Below.heap_alloc w o b hlt)
theorem EncItems23 (n:Nat) (G:Nat→Prop) (w:World) (v:Value) (l:List (It n)) (hv:Slv (itP n) 11 w G v l) (hG:∀ b,G b→b < w.heap.size) (hz:(ak (itE n) l).length≤1099511627776) :
  Calls Tryz.prog 23 #[v] w (StrE w (ak (itE n) l)):=by
 obtain ⟨A,cp,hsl,_,_⟩:=hv.shape
 subst hsl
 have C:=qH (w_items n w.heap.size w.heap.size [] G (w.alloc (.cells #[.slice none 0 0] 95)) _ l (WrSB.start w) hG (by simp) (hv.alloc (aV n) _) hz)
 clear hv
 go_enter Tryz.func23,Tryz.ntmps23
 go_wp2_with fail
 refine C.out.mono ?_
 rintro e w1 ⟨rfl,hw,hk⟩
 have HB:=qH (((Below.refl w.heap.size w).alloc (Nat.le_refl _) _).trans (hk.below (WrSB.start w)))
 rw [List.nil_append] at hw
 obtain ⟨v,c0,kc⟩:=conv_wr hw (listE_ne l) ((byt_it n).list l)
 clear C hw hk
 go_wp2_with fail
 go_ret
 exact ⟨rfl,HB.out⟩
abbrev Dc (n:Nat):=List (It n) × Hd × List Rev × Stg
def dcE (n:Nat):Dc n→List Nat:=seqE (ak (itE n)) (seqE hdE (seqE (ak revE) stgE))
def dcR (n:Nat):Rd (Dc n):=seqR (be (itR n)) (seqR hdR (seqR (be revR) stgR))
def dcP (n:Nat):Rp (Dc n):=fun w G vs x => ∃ fv h0 h1 h2 h3 h4 rv s0 s1 s2 s3,vs = [fv,h0,h1,h2,h3,h4,rv,s0,s1,s2,s3]∧Slv (itP n) 11 w G fv x.1∧hdP w G [h0,h1,h2,h3,h4] x.2.1∧Slv revP 3 w G rv x.2.2.1∧stgP w G [s0,s1,s2,s3] x.2.2.2
theorem stb_dc (n:Nat):Stb (dcP n):=by
 rintro w w' G G' vs x hG hb ⟨fv,h0,h1,h2,h3,h4,rv,s0,s1,s2,s3,e,k1,k2,k3,k4⟩
 exact ⟨fv,h0,h1,h2,h3,h4,rv,s0,s1,s2,s3,e,k1.stb (aV n) hG hb,ay _ _ _ _ _ _ hG hb k2,k3.stb bg hG hb,stb_stg _ _ _ _ _ _ hG hb k4⟩
def bE:List Nat:=[79,66,76,49]
theorem EncDoc21 (n:Nat) (G:Nat→Prop) (w:World) (vs:List Value) (x:Dc n) (hv:dcP n w G vs x) (hG:∀ b,G b→b < w.heap.size) (hz:(bE++dcE n x).length≤1099511627776)
  (hc:Calls Tryz.prog 20 #[.agg vs.toArray] (w.alloc (.cells vs.toArray 49)) (Ok0 (w.alloc (.cells vs.toArray 49)))) :
  Calls Tryz.prog 21 #[.agg vs.toArray] w fun e w' => e = .returned (.tuple #[.string (mkB (bE++dcE n x)),.int .i64 0])∧Below w.heap.size w w':=by
 obtain ⟨fv,h0,h1,h2,h3,h4,rv,s0,s1,s2,s3,rfl,k1,k2,k3,k4⟩:=hv
 obtain ⟨fA,fc,hfv,_,_⟩:=k1.shape
 obtain ⟨rA,rc,hrv,_,_⟩:=k3.shape
 have o0:=one_hd _ _ _ _ k2
 subst hfv hrv
 have hb0:(w.alloc (.cells #[.slice fA x.1.length fc,h0,h1,h2,h3,h4,.slice rA x.2.2.1.length rc,s0,s1,s2,s3] 49)).heap[w.heap.size]? = some (.cells #[.slice fA x.1.length fc,h0,h1,h2,h3,h4,.slice rA x.2.2.1.length rc,s0,s1,s2,s3] 49 (0,0)):=heap_alloc_new w _
 have hB0:=(Below.refl w.heap.size w).alloc (Nat.le_refl _) (.cells #[.slice fA x.1.length fc,h0,h1,h2,h3,h4,.slice rA x.2.2.1.length rc,s0,s1,s2,s3] 49)
 obtain ⟨W,hW⟩:=gX (w.alloc (.cells #[.slice fA x.1.length fc,h0,h1,h2,h3,h4,.slice rA x.2.2.1.length rc,s0,s1,s2,s3] 49))
 have HW:=qH hW
 rw [<- hW] at hb0 hB0
 replace hc:Calls Tryz.prog 20 #[.agg #[.slice fA x.1.length fc,h0,h1,h2,h3,h4,.slice rA x.2.2.1.length rc,s0,s1,s2,s3]] W (Ok0 W):=by rw [hW]; exact hc
 have HC:=qH hc
 have K1:=qH k1
 have K2:=qH k2
 have K3:=qH k3
 have K4:=qH k4
 have HG:=qH hG
 have HB0:=qH hB0
 have Hb0:=qH hb0
 have c0:=aa hb0 0
 have c1:=aa hb0 1
 have c2:=aa hb0 2
 have c3:=aa hb0 3
 have c4:=aa hb0 4
 have c5:=aa hb0 5
 have c6:=aa hb0 6
 have c7:=aa hb0 7
 have c8:=aa hb0 8
 have c9:=aa hb0 9
 have c10:=aa hb0 10
 have kc:=fun (w:World) (C:Array Value) (n c:Nat) => Lib.run_convert_bytes_const (P:=Tryz.prog) w 93 5 C n c Tryz.underlying93 Tryz.underlying5
 clear hW hc k1 k2 k3 k4 hG hB0 hb0
 go_enter Tryz.func21,Tryz.ntmps21
 go_upto_region 1 with fail
 rw [<- HW.out]
 go_wp2_with fail
 refine HC.out.mono ?_
 rintro e w1 ⟨rfl,hb1⟩
 have HB1:=qH (HB0.out.trans (hb1.mono HB0.out.size))
 have Hb1:=qH ((hb1.block _ (ae Hb0.out)).trans Hb0.out)
 clear c0 c1 c2 c3 c4 c5 c6 c7 c8 c9 c10 hb1 HC
 have c0:=aa Hb1.out 0
 have c1:=aa Hb1.out 1
 have c2:=aa Hb1.out 2
 have c3:=aa Hb1.out 3
 have c4:=aa Hb1.out 4
 have c5:=aa Hb1.out 5
 have c6:=aa Hb1.out 6
 have c7:=aa Hb1.out 7
 have c8:=aa Hb1.out 8
 have c9:=aa Hb1.out 9
 have c10:=aa Hb1.out 10
 go_upto_region 5 with fail
 obtain ⟨p,hp⟩:=gX (w1.heap.size + 1)
 obtain ⟨V,hV⟩:=gX ((w1.alloc (.cells #[.int .u8 79,.int .u8 66,.int .u8 76,.int .u8 49] 5 (4,5))).alloc (.cells #[.slice (some ⟨w1.heap.size,0,none⟩) 4 4] 95))
 have hBV:Below w1.heap.size w1 V:=by rw [hV]; exact ((Below.refl _ _).alloc (Nat.le_refl _) _).alloc (by simp) _
 have hw0:WrSB p w1.heap.size V bE:=by
  refine ⟨_,by rw [hV,hp]; exact ah _ _ (by simp),by omega,by rw [hp]; simp [Value.ownBlock],.inr ⟨w1.heap.size,rfl,Nat.le_refl _,by rw [hV]; simp; omega,?_⟩⟩
  intro j u hu
  have h5:(w1.alloc (.cells #[.int .u8 79,.int .u8 66,.int .u8 76,.int .u8 49] 5 (4,5))).heap[w1.heap.size]? = some (.cells #[.int .u8 79,.int .u8 66,.int .u8 76,.int .u8 49] 5 (4,5)):=heap_alloc_new w1 _
  have h6:V.heap[w1.heap.size]? = some (.cells #[.int .u8 79,.int .u8 66,.int .u8 76,.int .u8 49] 5 (4,5)):=by rw [hV]; exact (Below.heap_alloc _ _ _ (ae h5)).trans h5
  rw [cell_of_row V w1.heap.size j _ 5 (4,5) h6]
  have h7:bE.flatMap encB = [.int .u8 79,.int .u8 66,.int .u8 76,.int .u8 49]:=rfl
  rw [h7] at hu
  simpa using hu
 rw [<- hV]
 rw [<- hp]
 have HV:=qH (HB1.out.trans (hBV.mono HB1.out.size))
 have Hb2:=qH ((hBV.block _ (ae Hb1.out)).trans Hb1.out)
 have HVs:=qH hBV.size
 have HW0:=qH hw0
 have hGB:∀ b,G b→b < w1.heap.size:=fun b hb => Nat.lt_of_lt_of_le (HG.out b hb) HB1.out.size
 have HGB:=qH hGB
 have hwB:w.heap.size≤w1.heap.size:=HB1.out.size
 have hzz:(bE++dcE n x).length = bE.length + ((ak (itE n) x.1).length + ((hdE x.2.1).length + ((ak revE x.2.2.1).length + (stgE x.2.2.2).length))):=by
  rw [show dcE n x = ak (itE n) x.1++(hdE x.2.1++(ak revE x.2.2.1++stgE x.2.2.2)) from rfl]
  simp only [List.length_append]
 have hwl:w.heap.size < w1.heap.size:=ae Hb1.out
 clear hV hp hBV hw0 hGB c0 c1 c2 c3 c4 c5 c6 c7 c8 c9 c10 HB1 Hb1 HB0 Hb0 HW kc
 have C:=qH (w_items n p w1.heap.size bE G V _ x.1 HW0.out HGB.out HVs.out (K1.out.below (aV n) HG.out HV.out) (by simp only [List.length_append] at hzz hz ⊢; omega))
 have c0:=aa Hb2.out 0
 go_wp2_with fail
 refine C.out.mono ?_
 rintro e VA ⟨rfl,hw,hk⟩
 have HBVA:=qH (HV.out.trans ((hk.below HW0.out).mono hwB))
 have HbVA:Hid (VA.heap[w.heap.size]? = some (.cells #[.slice fA x.1.length fc,h0,h1,h2,h3,h4,.slice rA x.2.2.1.length rc,s0,s1,s2,s3] 49 (0,0))):=qH (((hk.below HW0.out).block _ hwl).trans Hb2.out)
 have HWVA:Hid (WrS p w1.heap.size VA (bE++ak (itE n) x.1)):=qH hw
 have HsVA:=qH (Nat.le_trans HVs.out (hk.below HW0.out).size)
 clear C hw hk c0 HV Hb2 HW0 HVs
 have C:=qH (w_head p w1.heap.size (bE++ak (itE n) x.1) G VA _ x.2.1 HWVA.out.buf HGB.out HsVA.out (Rp.below ay K2.out HG.out HBVA.out) (by simp only [List.length_append] at hzz hz ⊢; omega))
 have c1:=aa HbVA.out 1
 have c2:=aa HbVA.out 2
 have c3:=aa HbVA.out 3
 have c4:=aa HbVA.out 4
 have c5:=aa HbVA.out 5
 go_wp2_with fail
 refine C.out.mono ?_
 rintro e VB ⟨rfl,hw,hk⟩
 have HBVB:=qH (HBVA.out.trans ((hk.below HWVA.out.buf).mono hwB))
 have HbVB:Hid (VB.heap[w.heap.size]? = some (.cells #[.slice fA x.1.length fc,h0,h1,h2,h3,h4,.slice rA x.2.2.1.length rc,s0,s1,s2,s3] 49 (0,0))):=qH (((hk.below HWVA.out.buf).block _ hwl).trans HbVA.out)
 have HWVB:Hid (WrS p w1.heap.size VB (bE++ak (itE n) x.1++hdE x.2.1)):=qH hw
 have HsVB:=qH (Nat.le_trans HsVA.out (hk.below HWVA.out.buf).size)
 clear C hw hk c1 c2 c3 c4 c5 HBVA HbVA HWVA HsVA
 have C:=qH (w_revs p w1.heap.size (bE++ak (itE n) x.1++hdE x.2.1) G VB _ x.2.2.1 HWVB.out.buf HGB.out HsVB.out (K3.out.below bg HG.out HBVB.out) (by simp only [List.length_append] at hzz hz ⊢; omega))
 have c6:=aa HbVB.out 6
 go_wp2_with fail
 refine C.out.mono ?_
 rintro e VC ⟨rfl,hw,hk⟩
 have HBVC:=qH (HBVB.out.trans ((hk.below HWVB.out.buf).mono hwB))
 have HbVC:Hid (VC.heap[w.heap.size]? = some (.cells #[.slice fA x.1.length fc,h0,h1,h2,h3,h4,.slice rA x.2.2.1.length rc,s0,s1,s2,s3] 49 (0,0))):=qH (((hk.below HWVB.out.buf).block _ hwl).trans HbVB.out)
 have HWVC:Hid (WrS p w1.heap.size VC (bE++ak (itE n) x.1++hdE x.2.1++ak revE x.2.2.1)):=qH hw
 have HsVC:=qH (Nat.le_trans HsVB.out (hk.below HWVB.out.buf).size)
 clear C hw hk c6 HBVB HbVB HWVB HsVB
 have C:=qH (w_settings p w1.heap.size (bE++ak (itE n) x.1++hdE x.2.1++ak revE x.2.2.1) G VC _ x.2.2.2 HWVC.out.buf HGB.out HsVC.out (Rp.below stb_stg K4.out HG.out HBVC.out) (by simp only [List.length_append] at hzz hz ⊢; omega))
 have c7:=aa HbVC.out 7
 have c8:=aa HbVC.out 8
 have c9:=aa HbVC.out 9
 have c10:=aa HbVC.out 10
 go_wp2_with fail
 refine C.out.mono ?_
 rintro e VD ⟨rfl,hw,hk⟩
 have HBVD:=qH (HBVC.out.trans ((hk.below HWVC.out.buf).mono hwB))
 have HWVD:Hid (WrS p w1.heap.size VD (bE++ak (itE n) x.1++hdE x.2.1++ak revE x.2.2.1++stgE x.2.2.2)):=qH hw
 have HsVD:=qH (Nat.le_trans HsVC.out (hk.below HWVC.out.buf).size)
 clear C hw hk c7 c8 c9 c10 HBVC HbVC HWVC HsVC
 have e1:bE++ak (itE n) x.1++hdE x.2.1++ak revE x.2.2.1++stgE x.2.2.2 = bE++dcE n x:=by
  rw [show dcE n x = ak (itE n) x.1++(hdE x.2.1++(ak revE x.2.2.1++stgE x.2.2.2)) from rfl]
  simp only [List.append_assoc]
 have hw9:=HWVD.out
 rw [e1] at hw9
 have byt:∀ b∈bE++dcE n x,b < 256:=by
  intro b hb
  rcases List.mem_append.1 hb with q | q
  ·unfold bE at q
   simp only [List.mem_cons,List.not_mem_nil,or_false] at q
   omega
  exact ((byt_it n).list.seq (byt_hd.seq (byt_rev.list.seq byt_stg))) x b q
 obtain ⟨v9,c0,kc⟩:=conv_wr hw9 (by unfold bE; simp) byt
 clear HWVD hw9 e1 byt hzz hz
 go_wp2_with fail
 go_ret2
 exact ⟨rfl,HBVD.out⟩
end Go.Proofs.YtmhhcfceikcfbaaGreat
namespace Go.Proofs.YtmhhcfceikcfbaaGreat
open Go.RowKit
set_option maxRecDepth 100000
set_option maxHeartbeats 4000000
theorem enc_small {n:Int} (u:Nat) (h:zz n = u) (hu:u < 128):encN n = [u]:=by unfold encN; rw [h,vb_small hu]
theorem enc_0:encN 0 = [0]:=enc_small 0 rfl (by decide)
theorem enc_1:encN 1 = [2]:=enc_small 2 rfl (by decide)
theorem enc_2:encN 2 = [4]:=enc_small 4 rfl (by decide)
theorem enc_m64:encN (-64) = [127]:=enc_small 127 rfl (by decide)
theorem enc_64:encN 64 = [128,1]:=by
 unfold encN
 rw [show zz 64 = 128 from rfl,vb_big (by decide),vb_small (by decide)]
def hd0:Hd:=([],0,0,[],[])
def it0:It 1:=((2:Int),(0:Int),(0:Int),(⟨#[]⟩:ByteArray),hd0,([]:List (It 0)),([]:List (Rw 0)))
def dc0:Dc 0:=([],hd0,[],[],[],[],[])
theorem hd0_enc:hdE hd0 = [0,0,0,0,0]:=by
 simp only [hdE,seqE,ak,hd0,List.length_nil,List.flatMap_nil,List.append_nil]
 rw [show ((0:Nat):Int) = 0 from rfl,enc_0]
 rfl
theorem it0_enc:ak (itE 1) [it0] = [2,4,0,0,0,0,0,0,0,0,0,0]:=by
 have h0:itE 1 it0 = encN 2++(encN 0++(encN 0++(strE ⟨#[]⟩++(hdE hd0++(ak (itE 0) []++ak (rwE (itE 0)) []))))):=rfl
 unfold ak
 rw [List.flatMap_cons,List.flatMap_nil,h0,hd0_enc,enc_2,enc_0]
 simp only [strE,textE,ak,al,List.length_nil,List.map_nil,List.flatMap_nil,List.append_nil,List.length_cons]
 rw [show ((0:Nat):Int) = 0 from rfl,show ((0 + 1:Nat):Int) = 1 from rfl,enc_0,enc_1]
 rfl
theorem dc0_enc:bE++dcE 0 dc0 = [79,66,76,49,0,0,0,0,0,0,0,0,0,0,0]:=by
 have h0:dcE 0 dc0 = ak (itE 0) []++(hdE hd0++(ak revE []++(ak styE []++(ak lstE []++(ak cmtE []++ak vrE []))))):=rfl
 rw [h0,hd0_enc]
 simp only [ak,List.length_nil,List.flatMap_nil,List.append_nil]
 rw [show ((0:Nat):Int) = 0 from rfl,enc_0]
 rfl
theorem hd0_rep (w:World) (G:Nat→Prop):hdP w G [.slice none 0 0,.int .i64 0,.int .i64 0,.slice none 0 0,.slice none 0 0] hd0 :=
 ⟨_,_,_,rfl,by unfold I64 hd0; simp,by unfold I64 hd0; simp,Slv.nil _ _,Slv.nil _ _,Slv.nil _ _⟩
theorem dc0_rep (w:World):dcP 0 w (fun _ => False) [.slice none 0 0,.slice none 0 0,.int .i64 0,.int .i64 0,.slice none 0 0,.slice none 0 0,.slice none 0 0,.slice none 0 0,.slice none 0 0,.slice none 0 0,.slice none 0 0] dc0 :=
 ⟨_,_,_,_,_,_,_,_,_,_,_,rfl,Slv.nil _ _,hd0_rep _ _,Slv.nil _ _,⟨_,_,_,_,rfl,Slv.nil _ _,Slv.nil _ _,Slv.nil _ _,Slv.nil _ _⟩⟩
theorem k_n1 (w:World):Calls Tryz.prog 13 #[.int .i64 (-64)] w fun e w' => e = .returned (.string ⟨#[127]⟩)∧Below w.heap.size w w':=by
 have h:=Number13 (-64) (by unfold I64; omega) w
 rw [enc_m64] at h
 exact h
theorem k_n2 (w:World):Calls Tryz.prog 13 #[.int .i64 64] w fun e w' => e = .returned (.string ⟨#[128,1]⟩)∧Below w.heap.size w w':=by
 have h:=Number13 64 (by unfold I64; omega) w
 rw [enc_64] at h
 exact h
theorem k_rdN:rdN [128,1,121] = .ok 64 2:=by
 simp [rdN,rdV,Rs.more,Rs.map,unzz]
theorem k_readN:readN ⟨#[120,128,1,121]⟩ 1 = (64,3,0):=by
 unfold readN
 rw [if_neg (by show ¬ ((1:Int) < 0∨((4:Nat):Int) < 1); omega)]
 rw [show (al ⟨#[120,128,1,121]⟩).drop (1:Int).toNat = [128,1,121] from rfl,k_rdN]
 rfl
theorem k_rd (w:World):Calls Tryz.prog 14 #[.string ⟨#[120,128,1,121]⟩,.int .i64 1] w fun e w' => e = .returned (.tuple #[.int .i64 64,.int .i64 3,.int .i64 0])∧Below w.heap.size w w':=by
 have h:=Read14 ⟨#[120,128,1,121]⟩ 1 w (by show (4:Nat)≤1099511627776; omega)
 rw [k_readN] at h
 exact h
theorem it0_rep (w:World) (g:Nat) (hb:w.heap[g]? = some (.cells #[.int .i64 2,.int .i64 0,.int .i64 0,.string ⟨#[]⟩,.slice none 0 0,.int .i64 0,.int .i64 0,.slice none 0 0,.slice none 0 0,.slice none 0 0,.slice none 0 0] 53 (0,0))) :
  Slv (itP 1) 11 w (fun b => b < w.heap.size) (.slice (some ⟨g,0,none⟩) 1 1) [it0]:=by
 refine ⟨_,_,rfl,by simp,by simp [maxLen],fun _ => ⟨g,0,rfl,ae hb,ae hb,fun i x hx => ?_⟩⟩
 have hi:i = 0:=by
  have:=(List.getElem?_eq_some_iff.1 hx).1
  simpa using this
 subst hi
 have hxx:x = it0:=by simpa using hx.symm
 subst hxx
 refine ⟨[.int .i64 2,.int .i64 0,.int .i64 0,.string ⟨#[]⟩,.slice none 0 0,.int .i64 0,.int .i64 0,.slice none 0 0,.slice none 0 0,.slice none 0 0,.slice none 0 0],rfl,?_,fun j u hu => ?_⟩
 ·exact ⟨_,_,_,_,_,_,_,rfl,⟨by unfold I64 it0; simp,by unfold I64 it0; simp,by unfold I64 it0; simp,by unfold szD it0; decide⟩,hd0_rep _ _,Slv.nil _ _,Slv.nil _ _⟩
 rw [cell_of_row w g (0 + 0 * 11 + j) _ 53 (0,0) hb]
 simpa using hu
theorem k_it (w:World):Calls Tryz.prog 23 #[.slice (some ⟨w.heap.size,0,none⟩) 1 1] (w.alloc (.cells #[.int .i64 2,.int .i64 0,.int .i64 0,.string ⟨#[]⟩,.slice none 0 0,.int .i64 0,.int .i64 0,.slice none 0 0,.slice none 0 0,.slice none 0 0,.slice none 0 0] 53))
  fun e w' => e = .returned (.string ⟨#[2,4,0,0,0,0,0,0,0,0,0,0]⟩)∧Below w.heap.size w w':=by
 have h:=EncItems23 1 _ _ _ [it0] (it0_rep _ w.heap.size (heap_alloc_new w _)) (fun _ h => h) (by rw [it0_enc]; simp)
 rw [it0_enc] at h
 refine h.mono ?_
 rintro e w' ⟨rfl,hb⟩
 exact ⟨rfl,((Below.refl w.heap.size w).alloc (Nat.le_refl _) _).trans (hb.mono (by simp))⟩
def TrueC (w:World) (e:Ending) (w':World):Prop:=e = .returned (.bool true)∧Below w.heap.size w w'
end Go.Proofs.YtmhhcfceikcfbaaGreat
