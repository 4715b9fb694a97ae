/- Walks: the law's bytes of numbers, texts, Booleans, properties. -/
import Derived.BigQuiet
import Derived.Deep.Cut
import Derived.Test.YtmhhcfceikcfbaaGreatDcR2
import Derived.Test.YtmhhcfceikcfbaaGreatDcSq
namespace Go.Proofs.YtmhhcfceikcfbaaGreat
open Go.RowKit
set_option maxRecDepth 100000
set_option maxHeartbeats 4000000
theorem Rp.below {α:Type} {R:Rp α} (hR:Stb R) {w w':World} {G:Nat→Prop} {vs:List Value} {x:α} {B:Nat} (h:R w G vs x) (hG:∀ b,G b→b < B) (hb:Below B w w'):R w' G vs x :=
 hR _ _ _ _ _ _ (fun _ h => h) (fun b hg _ => hb.block b (hG b hg)) h
theorem addS (a b:ByteArray) (h:a.size + b.size≤9223372036854775807) (w:World):(Op.stringOp .add a b).run Tryz.prog w = .ok (.string (a++b)) w :=
 run_string_add_sum w a b h
theorem aA {α:Type} (e:α→List Nat) {l:List α} {k:Nat} {x:α} (h:l[k]? = some x):(l.take (k + 1)).flatMap e = (l.take k).flatMap e++e x:=by
 rw [List.take_add_one,h,List.flatMap_append]
 simp
theorem aL {α:Type} (e:α→List Nat) (l:List α) (k:Nat):((l.take k).flatMap e).length≤(l.flatMap e).length:=by
 rw [<- List.take_append_drop k l,List.flatMap_append,List.length_append]
 simp
theorem nums67 (ns:List Int) (g c:Nat) (w:World) (hc:∀ (j:Nat) (x:Int),ns[j]? = some x→w.cell? ⟨g,j,none⟩ = some (.int .i64 x)) (hI:∀ n∈ns,I64 n) (hl:ns.length≤1000) :
  Calls Tryz.prog 67 #[.slice (some ⟨g,0,none⟩) ns.length c] w (StrE w (ns.flatMap encN)):=by
 obtain ⟨n,hn⟩:=gX (ns.length)
 have hn2:n≤1000:=by omega
 have HN:=qH hn
 have HC:=qH hc
 have HI:=qH hI
 have HL:Hid ((ns.flatMap encN).length≤10 * n):=qH (by rw [hn]; exact flatN_len ns hI)
 rw [<- hn]
 clear hc hI hn hl
 go_enter Tryz.func67,Tryz.ntmps67
 go_wp2_with fail
 go_loopw [3,4] (fun sv iv wr => ∃ i:Nat,iv = .int .i64 (i:Int)∧i≤n∧sv = .string (mkB ((ns.take i).flatMap encN))∧Below w.heap.size w wr) (fun _ iv _ => n - (intOf iv).toNat)
 case atStart => exact ⟨0,rfl,Nat.zero_le _,rfl,Below.refl _ _⟩
 obtain ⟨i,rfl,hin,rfl,hb⟩:=hrel
 by_cases hlt:i < n
 ·have hlt':(i:Int) < (n:Int):=by omega
  obtain ⟨x,hx⟩:∃ x,ns[i]? = some x:=⟨_,List.getElem?_eq_getElem (by rw [<- HN.out]; exact hlt)⟩
  have c1:=HC.out i x hx
  have c0:wr.cell? ⟨g,i,none⟩ = some (.int .i64 x):=(hb.cell (World.block_lt_of_cell? _ _ c1)).trans c1
  have C:=qH (bm x (HI.out x (List.mem_of_getElem? hx)) wr)
  have HT:=qH (aA encN hx)
  have hle:=aL encN ns (i + 1)
  rw [HT.out,List.length_append] at hle
  have ka:=addL ((ns.take i).flatMap encN) (encN x) (by have:=HL.out; omega)
  have HB:=qH hb
  clear hx c1 hle hb
  go_wp2_with fail
  refine C.out.mono ?_
  rintro e w1 ⟨rfl,hb1⟩
  have HB1:=qH (HB.out.trans (hb1.mono HB.out.size))
  clear hb1 HB C
  go_wp2_with fail
  go_roundw
  case rel => exact ⟨i + 1,by go_num,by omega,by rw [HT.out],HB1.out⟩
  simp [intOf]; omega
 have hii:i = n:=by omega
 subst hii
 have hlt':¬ (i:Int) < (i:Int):=by omega
 have e:ns.take i = ns:=List.take_of_length_le (by rw [<- HN.out]; exact Nat.le_refl _)
 have HE:Hid ((ns.take i).flatMap encN = ns.flatMap encN):=qH (by rw [e])
 clear e
 go_wp2_with fail
 go_ret
 exact ⟨by rw [HE.out]; rfl,hb⟩
theorem txt68 (s:ByteArray) (w:World) (hs:s.size≤1099511627776):Calls Tryz.prog 68 #[.string s] w (StrE w (strE s)):=by
 have C:=qH (bm (s.size:Int) (by unfold I64; omega) w)
 have hl:=encN_len (n:=(s.size:Int)) (by unfold I64; omega)
 have ka:=addS (mkB (encN (s.size:Int))) s (by rw [mkB_size]; omega)
 have HE:Hid (mkB (encN (s.size:Int))++s = mkB (strE s)):=qH (by unfold strE textE; rw [ap,<- mkB_app,mkB_bytesN])
 clear hl
 go_enter Tryz.func68,Tryz.ntmps68
 go_wp2_with fail
 refine C.out.mono ?_
 rintro e w1 ⟨rfl,hb1⟩
 have HB:=qH hb1
 clear hb1 C
 go_wp2_with fail
 go_ret
 exact ⟨by rw [<- HE.out]; rfl,HB.out⟩
theorem flg84 (b:Bool) (w:World):Calls Tryz.prog 84 #[.bool b] w (StrE w (flagE b)):=by
 cases b
 ·have C:=qH (bm 0 (by unfold I64; omega) w)
  go_enter Tryz.func84,Tryz.ntmps84
  go_wp2_with fail
  refine C.out.mono ?_
  rintro e w1 ⟨rfl,hb1⟩
  have HB:=qH hb1
  clear hb1 C
  go_wp2_with fail
  go_ret
  exact ⟨rfl,HB.out⟩
 have C:=qH (bm 1 (by unfold I64; omega) w)
 go_enter Tryz.func84,Tryz.ntmps84
 go_wp2_with fail
 refine C.out.mono ?_
 rintro e w1 ⟨rfl,hb1⟩
 have HB:=qH hb1
 clear hb1 C
 go_wp2_with fail
 go_ret
 exact ⟨rfl,HB.out⟩
end Go.Proofs.YtmhhcfceikcfbaaGreat
namespace Go.Proofs.YtmhhcfceikcfbaaGreat
open Go.RowKit
set_option maxRecDepth 100000
set_option maxHeartbeats 4000000
def EltS (b o:Nat) (vs:List Value) (w:World):Prop:=∀ (j:Nat) (u:Value),vs[j]? = some u→w.cell? ⟨b,o + j,none⟩ = some u
theorem EltS.below {b o:Nat} {vs:List Value} {w w':World} {B:Nat} (h:EltS b o vs w) (hb:b < B) (hk:Below B w w'):EltS b o vs w' :=
 fun j u hu => (hk.cell (p:=⟨b,o + j,none⟩) hb).trans (h j u hu)
theorem EltS.alloc {b o:Nat} {vs:List Value} {w:World} (h:EltS b o vs w) (hb:b < w.heap.size) (ob:Obj):EltS b o vs (w.alloc ob) :=
 h.below hb ((Below.refl _ _).alloc (Nat.le_refl _) ob)
theorem EltS.drew {b o:Nat} {vs:List Value} {w:World} (h:EltS b o vs w):EltS b o vs w.drew:=h
theorem bj {ns:List Int} {j:Nat} {x:Int} (h:ns[j]? = some x):(ns.map intV)[j]? = some (.int .i64 x):=by
 rw [List.getElem?_map,h]
 rfl
theorem str_props  (G:Nat→Prop) (w:World) (v:Value) (l:List Two) (hv:Slv twoP 2 w G v l) (_hG:∀ b,G b→b < w.heap.size) (hz:(aj twoE l).length≤1099511627776) :
  Calls Tryz.prog 143 #[v] w (StrE w (aj twoE l)):=by
 obtain ⟨A,cp,hsl,hlc,hcm⟩:=hv.shape
 subst hsl
 obtain ⟨n,hn⟩:=gX (l.length)
 unfold maxLen at hcm
 have HV:=qH hv
 have CN:=qH (bm (l.length:Int) (by unfold I64; omega) w)
 have HZ:Hid ((encN (l.length:Int)++l.flatMap twoE).length≤1099511627776):=qH hz
 have hE0:aj twoE l = encN (l.length:Int)++l.flatMap twoE:=rfl
 rw [hE0]
 rw [<- hn] at CN HZ ⊢
 have HN:=qH hn
 have hnn:n≤9223372036854775807:=by omega
 clear hv hz hE0 hlc hn
 go_enter Tryz.func143,Tryz.ntmps143
 go_wp2_with fail
 refine CN.out.mono ?_
 rintro e w1 ⟨rfl,hb1⟩
 have HB1:=qH hb1
 clear hb1 CN
 go_wp2_with fail
 go_loopw [3,4] (fun sv iv wr => ∃ i:Nat,iv = .int .i64 (i:Int)∧i≤n∧sv = .string (mkB (encN (n:Int)++(l.take i).flatMap twoE))∧Hid (Below w.heap.size w wr)) (fun _ iv _ => n - (intOf iv).toNat)
 case atStart => exact ⟨0,rfl,Nat.zero_le _,by simp,HB1⟩
 obtain ⟨i,rfl,hin,rfl,HB⟩:=hrel
 clear HB1
 by_cases hlt:i < n
 ·have hlt':(i:Int) < (n:Int):=by omega
  obtain ⟨x,hx⟩:∃ x,l[i]? = some x:=⟨_,List.getElem?_eq_getElem (by rw [<- HN.out]; exact hlt)⟩
  obtain ⟨b,o,vs,rfl,hgb,hbw0,hvl,hRx,hcs⟩:=HV.out.at i x hx
  have hE:EltS b (o + i * 2) vs wr:=EltS.below (w:=w) hcs hbw0 HB.out
  have hbw:b < wr.heap.size:=Nat.lt_of_lt_of_le hbw0 HB.out.size
  obtain ⟨v0,v1,rfl⟩:=len_2 hvl
  obtain ⟨he,hx1,hx2⟩:=hRx
  obtain ⟨rfl,rfl⟩:v0 = .int .i64 x.1∧v1 = .int .i64 x.2:=by simpa using he
  obtain ⟨L0,hL0⟩:=gX (encN (n:Int)++(l.take i).flatMap twoE)
  obtain ⟨P1,hP1⟩:=gX ([x.1,x.2].flatMap encN)
  have C1:Hid (∀ (W:World) (g:Nat),(∀ (j:Nat) (y:Int),[x.1,x.2][j]? = some y→W.cell? ⟨g,j,none⟩ = some (.int .i64 y))→Calls Tryz.prog 67 #[.slice (some ⟨g,0,none⟩) 2 2] W (StrE W P1)):=qH (fun W g h => by rw [hP1]; exact nums67 [x.1,x.2] g 2 W h (by simp only [List.mem_cons,List.not_mem_nil,or_false]; rintro m (rfl | rfl) <;> assumption) (by simp))
  have HT:Hid (L0++P1 = encN (n:Int)++(l.take (i + 1)).flatMap twoE):=qH (by
   rw [aA twoE hx,<- List.append_assoc,<- hL0,hP1]
   simp [twoE,seqE])
  have hll:(L0++P1).length≤1099511627776:=by
   rw [HT.out]
   have h2:=HZ.out
   have h3:=aL twoE l (i + 1)
   rw [List.length_append] at h2 ⊢
   omega
  obtain ⟨Q1,hQ1⟩:=gX (L0++P1)
  have ka1:=addL L0 P1 (by simp only [List.length_append] at hll ⊢; omega)
  rw [<- hQ1] at ka1
  rw [<- hQ1] at HT
  rw [<- hL0]
  clear hx hcs hgb hbw0 hL0 hP1 hQ1 hll
  go_upto_region 5 with fail
  replace hE:=hE.drew
  replace HB:=qH HB.out.drew
  refine ak (S:=EltS b (o + i * 2) [.int .i64 x.1,.int .i64 x.2]) [(true,0),(true,1),(true,2),(true,3),(true,4),(true,5),(true,6),(true,7),(true,8),(true,9),(true,10),(false,11),(false,12),(true,13),(true,14)] (by kernel_rfl) (by kernel_rfl) hE ?_
  simp only [aF,List.getElem?_cons_succ,List.getElem?_cons_zero]
  refine sq2 (.string (mkB (L0))) ?_
  refine sq2 (.slice (some ⟨b,o,none⟩) n cp) ?_
  refine sq2i (i:Int) ?_
  refine sq2p b (o + i * 2) ?_
  refine sq2p b (o + i * 2) ?_
  refine sq2i (x.1) ?_ (fun w' hS => by have q:=hS 0 (.int .i64 x.1) rfl; simp only [Nat.add_zero] at q; go_simp)
  refine sq2 (.slice (some ⟨b,o,none⟩) n cp) ?_
  refine sq2i (i:Int) ?_
  refine sq2p b (o + i * 2) ?_
  refine sq2p b (o + i * 2 + 1) ?_
  refine sq2i (x.2) ?_ (fun w' hS => by have q:=hS 1 (.int .i64 x.2) rfl; go_simp)
  refine aq (.slice (some ⟨wr.heap.size,0,none⟩) 2 2) (wr.drew.alloc (.cells #[.int .i64 x.1,.int .i64 x.2] 3)) (by go_simp) ?_ ?_
  ·exact hE.alloc hbw _
  simp only [Act.put,PutA,PutZ,PutS]
  refine ae 67 #[.slice (some ⟨wr.heap.size,0,none⟩) 2 2] (by go_simp) ?_
  refine Calls.mono (C1.out _ wr.heap.size (fun j x hj => (aa (heap_alloc_new _ _) j).trans (by rw [List.getElem?_toArray]; exact bj hj))) ?_
  rintro e wx1 ⟨rfl,hb1⟩
  replace hb1:=((Below.refl _ _).alloc (Nat.le_refl _) (.cells #[.int .i64 x.1,.int .i64 x.2] 3)).trans (hb1.mono (by simp))
  replace hE:=hE.below hbw hb1
  replace HB:=qH (HB.out.trans (hb1.mono HB.out.size))
  replace hbw:=Nat.lt_of_lt_of_le hbw hb1.size
  clear hb1
  refine ⟨_,rfl,hE,?_⟩
  simp only [Act.put,PutA,PutZ,PutS]
  refine sq2 (.string (mkB (Q1))) ?_
  refine sq2 (.string (mkB (Q1))) ?_
  refine ad ?_
  clear ka1 C1 hE
  go_wp2_with fail
  go_roundw
  case rel => exact ⟨i + 1,by go_num,by omega,by rw [HT.out],HB⟩
  simp [intOf]; omega
 have hii:i = n:=by omega
 subst hii
 have hlt':¬ (i:Int) < (i:Int):=by omega
 have etk:l.take i = l:=List.take_of_length_le (by rw [<- HN.out]; exact Nat.le_refl _)
 have HE:Hid ((l.take i).flatMap twoE = l.flatMap twoE):=qH (by rw [etk])
 clear etk
 go_wp2_with fail
 go_ret
 exact ⟨by rw [HE.out]; rfl,HB.out⟩
end Go.Proofs.YtmhhcfceikcfbaaGreat
namespace Go.Proofs.YtmhhcfceikcfbaaGreat
open Go.RowKit
set_option maxRecDepth 100000
set_option maxHeartbeats 4000000
theorem put118 {α:Type} (R:Rp α) (enc:α→List Nat) (p B c:Nat) (A:Option Addr) (n cap:Nat) (l:List α) (L:List Nat) (G:Nat→Prop) (w:World)
  (hw:WrSB p B w L) (hv:Slv R 2 w G (.slice A n cap) l) (hR:Stb R) (hO:One R) (hG:∀ b,G b→b < B) (hc:At p ⟨c,0,none⟩ (.pointer (some ⟨p,0,none⟩)) w) (hB:B≤w.heap.size) (hsz:(L++aj enc l).length≤1099511627776)
  (HC:∀ (wr:World) (vs:List Value) (x:α) (L':List Nat),x∈l→R wr G vs x→WrS p B wr L'→At p ⟨c,0,none⟩ (.pointer (some ⟨p,0,none⟩)) wr→B≤wr.heap.size→(L'++enc x).length≤1099511627776→Calls Tryz.prog 119 #[.agg vs.toArray,.pointer (some ⟨c,0,none⟩)] wr (WrE p B wr (L'++enc x))) :
  Calls Tryz.prog 118 #[.pointer (some ⟨p,0,none⟩),.slice A n cap,.func (.func 119) #[] #[.pointer (some ⟨c,0,none⟩)]] w (WrE p B w (L++aj enc l)):=by
 obtain ⟨A',c',hsl,hlc,hcm⟩:=hv.shape
 injection hsl with e1 e2 e3
 subst e1 e3
 unfold maxLen at hcm
 have HM:=qH e2
 have HV:=qH hv
 have HCL:=qH HC
 have HAt:=qH hc
 have HBel:=qH (fun (w':World) (h:Kp p w w') => h.below hw)
 have HS:Hid ((L++(encN n++l.flatMap enc)).length≤1099511627776):=qH (by rw [e2]; exact hsz)
 have hsn:(L++encN n).length≤1099511627776:=by
  have:=HS.out
  rw [<- List.append_assoc,List.length_append] at this
  omega
 have hE:L++aj enc l = L++(encN n++l.flatMap enc):=by rw [e2]; rfl
 rw [hE]
 have CN:=qH (aC p B [(n:Int)] L w hw (by simp) (by intro m h; rw [List.mem_singleton.1 h]; unfold I64; omega) hB (by simpa using hsn))
 rw [show [(n:Int)].flatMap encN = encN n by simp] at CN
 have hnn:n≤9223372036854775807:=by omega
 clear hv HC hc hsz hE e2 hw hlc hsn
 go_enter Tryz.func118,Tryz.ntmps118
 go_wp2_with fail
 refine CN.out.mono ?_
 rintro e w1 ⟨rfl,hw1,hk1⟩
 have HI0:Hid (WrS p B w1 (L++encN n++(l.take 0).flatMap enc)∧Kp p w w1):=qH ⟨by simpa using hw1,hk1⟩
 clear hw1 hk1 CN
 go_wp2_with fail
 go_loopw [15] (fun iv wr => ∃ k:Nat,k≤n∧iv = .int .i64 (k:Int)∧Hid (WrS p B wr (L++encN n++(l.take k).flatMap enc)∧Kp p w wr)) (fun iv _ => n - (intOf iv).toNat)
 case atStart => exact ⟨0,Nat.zero_le _,rfl,HI0⟩
 obtain ⟨k,hk,rfl,HK⟩:=hrel
 clear HI0
 by_cases hlt:k < n
 ·have hlt':(k:Int) < (n:Int):=by omega
  obtain ⟨x,hx⟩:∃ x,l[k]? = some x:=⟨l[k]'(by rw [<- HM.out]; exact hlt),by simp⟩
  have hvr:=HV.out.below hR hG (HBel.out wr HK.out.2)
  obtain ⟨b,o,vs,rfl,hgb,hbw,hvl,hRx,hcs⟩:=hvr.at k x hx
  obtain ⟨v0,v1,rfl⟩:=len_2 hvl
  have HV2:Hid (R wr G [v0,v1] x∧b < wr.heap.size∧∀ (j:Nat) (u:Value),[v0,v1][j]? = some u→wr.cell? ⟨b,o + k * 2 + j,none⟩ = some u):=qH ⟨hRx,hbw,hcs⟩
  have c0:=HV2.out.2.2 0 v0 rfl
  have c1:=HV2.out.2.2 1 v1 rfl
  simp only [Nat.add_zero] at c0
  have HT:Hid (L++encN n++(l.take (k + 1)).flatMap enc = L++encN n++(l.take k).flatMap enc++enc x):=qH (by
   rw [List.take_add_one,hx,List.flatMap_append,List.append_assoc _ _ (enc x)]
   simp)
  have hll:(L++encN n++(l.take k).flatMap enc++enc x).length≤1099511627776:=by
   rw [<- HT.out]
   have h2:=HS.out
   rw [<- List.take_append_drop (k + 1) l,List.flatMap_append,<- List.append_assoc,<- List.append_assoc,List.length_append] at h2
   omega
  have hp:=HK.out.1.buf.lt
  have hBr:B≤wr.heap.size:=Nat.le_trans hB HK.out.2.size
  have HX:=qH (HCL.out (wr.alloc (.cells #[v0,v1] 190)) [v0,v1] x _ (List.mem_of_getElem? hx) (hR wr _ G G _ x (fun _ h => h) (fun b _ hb => Below.heap_alloc wr _ b hb) hRx) (HK.out.1.alloc _) ((HAt.out.kp HK.out.2).alloc hp _) (by simp; omega) hll)
  have h1:(#[v0,v1]:Array Value).all (·.oneCell') = true:=by
   rw [Array.all_eq_true']
   intro u hu
   exact hO wr G _ x hRx u (by simpa using hu)
  clear hvr hRx hcs hvl hx hgb hbw hll
  go_wp2_with (refine wpList_store_row rfl 190 _ _ rfl wr.heap.size #[v0,v1] rfl rfl 190 _ (heap_alloc_new _ _) size190 rfl h1 ?_; rw [ar])
  refine HX.out.mono ?_
  rintro e w2 ⟨rfl,hw2,hk2⟩
  have HN:Hid (WrS p B w2 (L++encN n++(l.take (k + 1)).flatMap enc)∧Kp p w w2):=qH ⟨by rw [HT.out]; exact hw2,(HK.out.2.alloc hp _).trans hk2⟩
  clear hw2 hk2 HX
  go_wp2_with fail
  go_roundw
  case rel => exact ⟨k + 1,by omega,by go_num,HN⟩
  simp [intOf]; omega
 have hkm:k = n:=by omega
 subst hkm
 have hlt':¬ (k:Int) < (k:Int):=by omega
 go_wp2_with fail
 go_end0
 have e:l.take k = l:=List.take_of_length_le (by rw [<- HM.out]; exact Nat.le_refl _)
 obtain ⟨h1,h2⟩:=HK.out
 rw [e,List.append_assoc] at h1
 exact ⟨rfl,h1,h2⟩
theorem put120 {α:Type} (R:Rp α) (enc:α→List Nat) (p B c:Nat) (A:Option Addr) (n cap:Nat) (l:List α) (L:List Nat) (G:Nat→Prop) (w:World)
  (hw:WrSB p B w L) (hv:Slv R 4 w G (.slice A n cap) l) (hR:Stb R) (hO:One R) (hG:∀ b,G b→b < B) (hc:At p ⟨c,0,none⟩ (.pointer (some ⟨p,0,none⟩)) w) (hB:B≤w.heap.size) (hsz:(L++aj enc l).length≤1099511627776)
  (HC:∀ (wr:World) (vs:List Value) (x:α) (L':List Nat),x∈l→R wr G vs x→WrS p B wr L'→At p ⟨c,0,none⟩ (.pointer (some ⟨p,0,none⟩)) wr→B≤wr.heap.size→(L'++enc x).length≤1099511627776→Calls Tryz.prog 121 #[.agg vs.toArray,.pointer (some ⟨c,0,none⟩)] wr (WrE p B wr (L'++enc x))) :
  Calls Tryz.prog 120 #[.pointer (some ⟨p,0,none⟩),.slice A n cap,.func (.func 121) #[] #[.pointer (some ⟨c,0,none⟩)]] w (WrE p B w (L++aj enc l)):=by
 obtain ⟨A',c',hsl,hlc,hcm⟩:=hv.shape
 injection hsl with e1 e2 e3
 subst e1 e3
 unfold maxLen at hcm
 have HM:=qH e2
 have HV:=qH hv
 have HCL:=qH HC
 have HAt:=qH hc
 have HBel:=qH (fun (w':World) (h:Kp p w w') => h.below hw)
 have HS:Hid ((L++(encN n++l.flatMap enc)).length≤1099511627776):=qH (by rw [e2]; exact hsz)
 have hsn:(L++encN n).length≤1099511627776:=by
  have:=HS.out
  rw [<- List.append_assoc,List.length_append] at this
  omega
 have hE:L++aj enc l = L++(encN n++l.flatMap enc):=by rw [e2]; rfl
 rw [hE]
 have CN:=qH (aC p B [(n:Int)] L w hw (by simp) (by intro m h; rw [List.mem_singleton.1 h]; unfold I64; omega) hB (by simpa using hsn))
 rw [show [(n:Int)].flatMap encN = encN n by simp] at CN
 have hnn:n≤9223372036854775807:=by omega
 clear hv HC hc hsz hE e2 hw hlc hsn
 go_enter Tryz.func120,Tryz.ntmps120
 go_wp2_with fail
 refine CN.out.mono ?_
 rintro e w1 ⟨rfl,hw1,hk1⟩
 have HI0:Hid (WrS p B w1 (L++encN n++(l.take 0).flatMap enc)∧Kp p w w1):=qH ⟨by simpa using hw1,hk1⟩
 clear hw1 hk1 CN
 go_wp2_with fail
 go_loopw [15] (fun iv wr => ∃ k:Nat,k≤n∧iv = .int .i64 (k:Int)∧Hid (WrS p B wr (L++encN n++(l.take k).flatMap enc)∧Kp p w wr)) (fun iv _ => n - (intOf iv).toNat)
 case atStart => exact ⟨0,Nat.zero_le _,rfl,HI0⟩
 obtain ⟨k,hk,rfl,HK⟩:=hrel
 clear HI0
 by_cases hlt:k < n
 ·have hlt':(k:Int) < (n:Int):=by omega
  obtain ⟨x,hx⟩:∃ x,l[k]? = some x:=⟨l[k]'(by rw [<- HM.out]; exact hlt),by simp⟩
  have hvr:=HV.out.below hR hG (HBel.out wr HK.out.2)
  obtain ⟨b,o,vs,rfl,hgb,hbw,hvl,hRx,hcs⟩:=hvr.at k x hx
  obtain ⟨v0,v1,v2,v3,rfl⟩:=len_4 hvl
  have HV2:Hid (R wr G [v0,v1,v2,v3] x∧b < wr.heap.size∧∀ (j:Nat) (u:Value),[v0,v1,v2,v3][j]? = some u→wr.cell? ⟨b,o + k * 4 + j,none⟩ = some u):=qH ⟨hRx,hbw,hcs⟩
  have c0:=HV2.out.2.2 0 v0 rfl
  have c1:=HV2.out.2.2 1 v1 rfl
  have c2:=HV2.out.2.2 2 v2 rfl
  have c3:=HV2.out.2.2 3 v3 rfl
  simp only [Nat.add_zero] at c0
  have HT:Hid (L++encN n++(l.take (k + 1)).flatMap enc = L++encN n++(l.take k).flatMap enc++enc x):=qH (by
   rw [List.take_add_one,hx,List.flatMap_append,List.append_assoc _ _ (enc x)]
   simp)
  have hll:(L++encN n++(l.take k).flatMap enc++enc x).length≤1099511627776:=by
   rw [<- HT.out]
   have h2:=HS.out
   rw [<- List.take_append_drop (k + 1) l,List.flatMap_append,<- List.append_assoc,<- List.append_assoc,List.length_append] at h2
   omega
  have hp:=HK.out.1.buf.lt
  have hBr:B≤wr.heap.size:=Nat.le_trans hB HK.out.2.size
  have HX:=qH (HCL.out (wr.alloc (.cells #[v0,v1,v2,v3] 201)) [v0,v1,v2,v3] x _ (List.mem_of_getElem? hx) (hR wr _ G G _ x (fun _ h => h) (fun b _ hb => Below.heap_alloc wr _ b hb) hRx) (HK.out.1.alloc _) ((HAt.out.kp HK.out.2).alloc hp _) (by simp; omega) hll)
  have h1:(#[v0,v1,v2,v3]:Array Value).all (·.oneCell') = true:=by
   rw [Array.all_eq_true']
   intro u hu
   exact hO wr G _ x hRx u (by simpa using hu)
  clear hvr hRx hcs hvl hx hgb hbw hll
  go_wp2_with (refine wpList_store_row rfl 201 _ _ rfl wr.heap.size #[v0,v1,v2,v3] rfl rfl 201 _ (heap_alloc_new _ _) size201 rfl h1 ?_; rw [ar])
  refine HX.out.mono ?_
  rintro e w2 ⟨rfl,hw2,hk2⟩
  have HN:Hid (WrS p B w2 (L++encN n++(l.take (k + 1)).flatMap enc)∧Kp p w w2):=qH ⟨by rw [HT.out]; exact hw2,(HK.out.2.alloc hp _).trans hk2⟩
  clear hw2 hk2 HX
  go_wp2_with fail
  go_roundw
  case rel => exact ⟨k + 1,by omega,by go_num,HN⟩
  simp [intOf]; omega
 have hkm:k = n:=by omega
 subst hkm
 have hlt':¬ (k:Int) < (k:Int):=by omega
 go_wp2_with fail
 go_end0
 have e:l.take k = l:=List.take_of_length_le (by rw [<- HM.out]; exact Nat.le_refl _)
 obtain ⟨h1,h2⟩:=HK.out
 rw [e,List.append_assoc] at h1
 exact ⟨rfl,h1,h2⟩
theorem put122 {α:Type} (R:Rp α) (enc:α→List Nat) (p B c:Nat) (A:Option Addr) (n cap:Nat) (l:List α) (L:List Nat) (G:Nat→Prop) (w:World)
  (hw:WrSB p B w L) (hv:Slv R 3 w G (.slice A n cap) l) (hR:Stb R) (hO:One R) (hG:∀ b,G b→b < B) (hc:At p ⟨c,0,none⟩ (.pointer (some ⟨p,0,none⟩)) w) (hB:B≤w.heap.size) (hsz:(L++aj enc l).length≤1099511627776)
  (HC:∀ (wr:World) (vs:List Value) (x:α) (L':List Nat),x∈l→R wr G vs x→WrS p B wr L'→At p ⟨c,0,none⟩ (.pointer (some ⟨p,0,none⟩)) wr→B≤wr.heap.size→(L'++enc x).length≤1099511627776→Calls Tryz.prog 123 #[.agg vs.toArray,.pointer (some ⟨c,0,none⟩)] wr (WrE p B wr (L'++enc x))) :
  Calls Tryz.prog 122 #[.pointer (some ⟨p,0,none⟩),.slice A n cap,.func (.func 123) #[] #[.pointer (some ⟨c,0,none⟩)]] w (WrE p B w (L++aj enc l)):=by
 obtain ⟨A',c',hsl,hlc,hcm⟩:=hv.shape
 injection hsl with e1 e2 e3
 subst e1 e3
 unfold maxLen at hcm
 have HM:=qH e2
 have HV:=qH hv
 have HCL:=qH HC
 have HAt:=qH hc
 have HBel:=qH (fun (w':World) (h:Kp p w w') => h.below hw)
 have HS:Hid ((L++(encN n++l.flatMap enc)).length≤1099511627776):=qH (by rw [e2]; exact hsz)
 have hsn:(L++encN n).length≤1099511627776:=by
  have:=HS.out
  rw [<- List.append_assoc,List.length_append] at this
  omega
 have hE:L++aj enc l = L++(encN n++l.flatMap enc):=by rw [e2]; rfl
 rw [hE]
 have CN:=qH (aC p B [(n:Int)] L w hw (by simp) (by intro m h; rw [List.mem_singleton.1 h]; unfold I64; omega) hB (by simpa using hsn))
 rw [show [(n:Int)].flatMap encN = encN n by simp] at CN
 have hnn:n≤9223372036854775807:=by omega
 clear hv HC hc hsz hE e2 hw hlc hsn
 go_enter Tryz.func122,Tryz.ntmps122
 go_wp2_with fail
 refine CN.out.mono ?_
 rintro e w1 ⟨rfl,hw1,hk1⟩
 have HI0:Hid (WrS p B w1 (L++encN n++(l.take 0).flatMap enc)∧Kp p w w1):=qH ⟨by simpa using hw1,hk1⟩
 clear hw1 hk1 CN
 go_wp2_with fail
 go_loopw [15] (fun iv wr => ∃ k:Nat,k≤n∧iv = .int .i64 (k:Int)∧Hid (WrS p B wr (L++encN n++(l.take k).flatMap enc)∧Kp p w wr)) (fun iv _ => n - (intOf iv).toNat)
 case atStart => exact ⟨0,Nat.zero_le _,rfl,HI0⟩
 obtain ⟨k,hk,rfl,HK⟩:=hrel
 clear HI0
 by_cases hlt:k < n
 ·have hlt':(k:Int) < (n:Int):=by omega
  obtain ⟨x,hx⟩:∃ x,l[k]? = some x:=⟨l[k]'(by rw [<- HM.out]; exact hlt),by simp⟩
  have hvr:=HV.out.below hR hG (HBel.out wr HK.out.2)
  obtain ⟨b,o,vs,rfl,hgb,hbw,hvl,hRx,hcs⟩:=hvr.at k x hx
  obtain ⟨v0,v1,v2,rfl⟩:=len_3 hvl
  have HV2:Hid (R wr G [v0,v1,v2] x∧b < wr.heap.size∧∀ (j:Nat) (u:Value),[v0,v1,v2][j]? = some u→wr.cell? ⟨b,o + k * 3 + j,none⟩ = some u):=qH ⟨hRx,hbw,hcs⟩
  have c0:=HV2.out.2.2 0 v0 rfl
  have c1:=HV2.out.2.2 1 v1 rfl
  have c2:=HV2.out.2.2 2 v2 rfl
  simp only [Nat.add_zero] at c0
  have HT:Hid (L++encN n++(l.take (k + 1)).flatMap enc = L++encN n++(l.take k).flatMap enc++enc x):=qH (by
   rw [List.take_add_one,hx,List.flatMap_append,List.append_assoc _ _ (enc x)]
   simp)
  have hll:(L++encN n++(l.take k).flatMap enc++enc x).length≤1099511627776:=by
   rw [<- HT.out]
   have h2:=HS.out
   rw [<- List.take_append_drop (k + 1) l,List.flatMap_append,<- List.append_assoc,<- List.append_assoc,List.length_append] at h2
   omega
  have hp:=HK.out.1.buf.lt
  have hBr:B≤wr.heap.size:=Nat.le_trans hB HK.out.2.size
  have HX:=qH (HCL.out (wr.alloc (.cells #[v0,v1,v2] 141)) [v0,v1,v2] x _ (List.mem_of_getElem? hx) (hR wr _ G G _ x (fun _ h => h) (fun b _ hb => Below.heap_alloc wr _ b hb) hRx) (HK.out.1.alloc _) ((HAt.out.kp HK.out.2).alloc hp _) (by simp; omega) hll)
  have h1:(#[v0,v1,v2]:Array Value).all (·.oneCell') = true:=by
   rw [Array.all_eq_true']
   intro u hu
   exact hO wr G _ x hRx u (by simpa using hu)
  clear hvr hRx hcs hvl hx hgb hbw hll
  go_wp2_with (refine wpList_store_row rfl 141 _ _ rfl wr.heap.size #[v0,v1,v2] rfl rfl 141 _ (heap_alloc_new _ _) size141 rfl h1 ?_; rw [ar])
  refine HX.out.mono ?_
  rintro e w2 ⟨rfl,hw2,hk2⟩
  have HN:Hid (WrS p B w2 (L++encN n++(l.take (k + 1)).flatMap enc)∧Kp p w w2):=qH ⟨by rw [HT.out]; exact hw2,(HK.out.2.alloc hp _).trans hk2⟩
  clear hw2 hk2 HX
  go_wp2_with fail
  go_roundw
  case rel => exact ⟨k + 1,by omega,by go_num,HN⟩
  simp [intOf]; omega
 have hkm:k = n:=by omega
 subst hkm
 have hlt':¬ (k:Int) < (k:Int):=by omega
 go_wp2_with fail
 go_end0
 have e:l.take k = l:=List.take_of_length_le (by rw [<- HM.out]; exact Nat.le_refl _)
 obtain ⟨h1,h2⟩:=HK.out
 rw [e,List.append_assoc] at h1
 exact ⟨rfl,h1,h2⟩
theorem put124 {α:Type} (R:Rp α) (enc:α→List Nat) (p B c:Nat) (A:Option Addr) (n cap:Nat) (l:List α) (L:List Nat) (G:Nat→Prop) (w:World)
  (hw:WrSB p B w L) (hv:Slv R 6 w G (.slice A n cap) l) (hR:Stb R) (hO:One R) (hG:∀ b,G b→b < B) (hc:At p ⟨c,0,none⟩ (.pointer (some ⟨p,0,none⟩)) w) (hB:B≤w.heap.size) (hsz:(L++aj enc l).length≤1099511627776)
  (HC:∀ (wr:World) (vs:List Value) (x:α) (L':List Nat),x∈l→R wr G vs x→WrS p B wr L'→At p ⟨c,0,none⟩ (.pointer (some ⟨p,0,none⟩)) wr→B≤wr.heap.size→(L'++enc x).length≤1099511627776→Calls Tryz.prog 125 #[.agg vs.toArray,.pointer (some ⟨c,0,none⟩)] wr (WrE p B wr (L'++enc x))) :
  Calls Tryz.prog 124 #[.pointer (some ⟨p,0,none⟩),.slice A n cap,.func (.func 125) #[] #[.pointer (some ⟨c,0,none⟩)]] w (WrE p B w (L++aj enc l)):=by
 obtain ⟨A',c',hsl,hlc,hcm⟩:=hv.shape
 injection hsl with e1 e2 e3
 subst e1 e3
 unfold maxLen at hcm
 have HM:=qH e2
 have HV:=qH hv
 have HCL:=qH HC
 have HAt:=qH hc
 have HBel:=qH (fun (w':World) (h:Kp p w w') => h.below hw)
 have HS:Hid ((L++(encN n++l.flatMap enc)).length≤1099511627776):=qH (by rw [e2]; exact hsz)
 have hsn:(L++encN n).length≤1099511627776:=by
  have:=HS.out
  rw [<- List.append_assoc,List.length_append] at this
  omega
 have hE:L++aj enc l = L++(encN n++l.flatMap enc):=by rw [e2]; rfl
 rw [hE]
 have CN:=qH (aC p B [(n:Int)] L w hw (by simp) (by intro m h; rw [List.mem_singleton.1 h]; unfold I64; omega) hB (by simpa using hsn))
 rw [show [(n:Int)].flatMap encN = encN n by simp] at CN
 have hnn:n≤9223372036854775807:=by omega
 clear hv HC hc hsz hE e2 hw hlc hsn
 go_enter Tryz.func124,Tryz.ntmps124
 go_wp2_with fail
 refine CN.out.mono ?_
 rintro e w1 ⟨rfl,hw1,hk1⟩
 have HI0:Hid (WrS p B w1 (L++encN n++(l.take 0).flatMap enc)∧Kp p w w1):=qH ⟨by simpa using hw1,hk1⟩
 clear hw1 hk1 CN
 go_wp2_with fail
 go_loopw [15] (fun iv wr => ∃ k:Nat,k≤n∧iv = .int .i64 (k:Int)∧Hid (WrS p B wr (L++encN n++(l.take k).flatMap enc)∧Kp p w wr)) (fun iv _ => n - (intOf iv).toNat)
 case atStart => exact ⟨0,Nat.zero_le _,rfl,HI0⟩
 obtain ⟨k,hk,rfl,HK⟩:=hrel
 clear HI0
 by_cases hlt:k < n
 ·have hlt':(k:Int) < (n:Int):=by omega
  obtain ⟨x,hx⟩:∃ x,l[k]? = some x:=⟨l[k]'(by rw [<- HM.out]; exact hlt),by simp⟩
  have hvr:=HV.out.below hR hG (HBel.out wr HK.out.2)
  obtain ⟨b,o,vs,rfl,hgb,hbw,hvl,hRx,hcs⟩:=hvr.at k x hx
  obtain ⟨v0,v1,v2,v3,v4,v5,rfl⟩:=len_6 hvl
  have HV2:Hid (R wr G [v0,v1,v2,v3,v4,v5] x∧b < wr.heap.size∧∀ (j:Nat) (u:Value),[v0,v1,v2,v3,v4,v5][j]? = some u→wr.cell? ⟨b,o + k * 6 + j,none⟩ = some u):=qH ⟨hRx,hbw,hcs⟩
  have c0:=HV2.out.2.2 0 v0 rfl
  have c1:=HV2.out.2.2 1 v1 rfl
  have c2:=HV2.out.2.2 2 v2 rfl
  have c3:=HV2.out.2.2 3 v3 rfl
  have c4:=HV2.out.2.2 4 v4 rfl
  have c5:=HV2.out.2.2 5 v5 rfl
  simp only [Nat.add_zero] at c0
  have HT:Hid (L++encN n++(l.take (k + 1)).flatMap enc = L++encN n++(l.take k).flatMap enc++enc x):=qH (by
   rw [List.take_add_one,hx,List.flatMap_append,List.append_assoc _ _ (enc x)]
   simp)
  have hll:(L++encN n++(l.take k).flatMap enc++enc x).length≤1099511627776:=by
   rw [<- HT.out]
   have h2:=HS.out
   rw [<- List.take_append_drop (k + 1) l,List.flatMap_append,<- List.append_assoc,<- List.append_assoc,List.length_append] at h2
   omega
  have hp:=HK.out.1.buf.lt
  have hBr:B≤wr.heap.size:=Nat.le_trans hB HK.out.2.size
  have HX:=qH (HCL.out (wr.alloc (.cells #[v0,v1,v2,v3,v4,v5] 107)) [v0,v1,v2,v3,v4,v5] x _ (List.mem_of_getElem? hx) (hR wr _ G G _ x (fun _ h => h) (fun b _ hb => Below.heap_alloc wr _ b hb) hRx) (HK.out.1.alloc _) ((HAt.out.kp HK.out.2).alloc hp _) (by simp; omega) hll)
  have h1:(#[v0,v1,v2,v3,v4,v5]:Array Value).all (·.oneCell') = true:=by
   rw [Array.all_eq_true']
   intro u hu
   exact hO wr G _ x hRx u (by simpa using hu)
  clear hvr hRx hcs hvl hx hgb hbw hll
  go_wp2_with (refine wpList_store_row rfl 107 _ _ rfl wr.heap.size #[v0,v1,v2,v3,v4,v5] rfl rfl 107 _ (heap_alloc_new _ _) size107 rfl h1 ?_; rw [ar])
  refine HX.out.mono ?_
  rintro e w2 ⟨rfl,hw2,hk2⟩
  have HN:Hid (WrS p B w2 (L++encN n++(l.take (k + 1)).flatMap enc)∧Kp p w w2):=qH ⟨by rw [HT.out]; exact hw2,(HK.out.2.alloc hp _).trans hk2⟩
  clear hw2 hk2 HX
  go_wp2_with fail
  go_roundw
  case rel => exact ⟨k + 1,by omega,by go_num,HN⟩
  simp [intOf]; omega
 have hkm:k = n:=by omega
 subst hkm
 have hlt':¬ (k:Int) < (k:Int):=by omega
 go_wp2_with fail
 go_end0
 have e:l.take k = l:=List.take_of_length_le (by rw [<- HM.out]; exact Nat.le_refl _)
 obtain ⟨h1,h2⟩:=HK.out
 rw [e,List.append_assoc] at h1
 exact ⟨rfl,h1,h2⟩
theorem put126 {α:Type} (R:Rp α) (enc:α→List Nat) (p B c:Nat) (A:Option Addr) (n cap:Nat) (l:List α) (L:List Nat) (G:Nat→Prop) (w:World)
  (hw:WrSB p B w L) (hv:Slv R 2 w G (.slice A n cap) l) (hR:Stb R) (hO:One R) (hG:∀ b,G b→b < B) (hc:At p ⟨c,0,none⟩ (.pointer (some ⟨p,0,none⟩)) w) (hB:B≤w.heap.size) (hsz:(L++aj enc l).length≤1099511627776)
  (HC:∀ (wr:World) (vs:List Value) (x:α) (L':List Nat),x∈l→R wr G vs x→WrS p B wr L'→At p ⟨c,0,none⟩ (.pointer (some ⟨p,0,none⟩)) wr→B≤wr.heap.size→(L'++enc x).length≤1099511627776→Calls Tryz.prog 127 #[.agg vs.toArray,.pointer (some ⟨c,0,none⟩)] wr (WrE p B wr (L'++enc x))) :
  Calls Tryz.prog 126 #[.pointer (some ⟨p,0,none⟩),.slice A n cap,.func (.func 127) #[] #[.pointer (some ⟨c,0,none⟩)]] w (WrE p B w (L++aj enc l)):=by
 obtain ⟨A',c',hsl,hlc,hcm⟩:=hv.shape
 injection hsl with e1 e2 e3
 subst e1 e3
 unfold maxLen at hcm
 have HM:=qH e2
 have HV:=qH hv
 have HCL:=qH HC
 have HAt:=qH hc
 have HBel:=qH (fun (w':World) (h:Kp p w w') => h.below hw)
 have HS:Hid ((L++(encN n++l.flatMap enc)).length≤1099511627776):=qH (by rw [e2]; exact hsz)
 have hsn:(L++encN n).length≤1099511627776:=by
  have:=HS.out
  rw [<- List.append_assoc,List.length_append] at this
  omega
 have hE:L++aj enc l = L++(encN n++l.flatMap enc):=by rw [e2]; rfl
 rw [hE]
 have CN:=qH (aC p B [(n:Int)] L w hw (by simp) (by intro m h; rw [List.mem_singleton.1 h]; unfold I64; omega) hB (by simpa using hsn))
 rw [show [(n:Int)].flatMap encN = encN n by simp] at CN
 have hnn:n≤9223372036854775807:=by omega
 clear hv HC hc hsz hE e2 hw hlc hsn
 go_enter Tryz.func126,Tryz.ntmps126
 go_wp2_with fail
 refine CN.out.mono ?_
 rintro e w1 ⟨rfl,hw1,hk1⟩
 have HI0:Hid (WrS p B w1 (L++encN n++(l.take 0).flatMap enc)∧Kp p w w1):=qH ⟨by simpa using hw1,hk1⟩
 clear hw1 hk1 CN
 go_wp2_with fail
 go_loopw [15] (fun iv wr => ∃ k:Nat,k≤n∧iv = .int .i64 (k:Int)∧Hid (WrS p B wr (L++encN n++(l.take k).flatMap enc)∧Kp p w wr)) (fun iv _ => n - (intOf iv).toNat)
 case atStart => exact ⟨0,Nat.zero_le _,rfl,HI0⟩
 obtain ⟨k,hk,rfl,HK⟩:=hrel
 clear HI0
 by_cases hlt:k < n
 ·have hlt':(k:Int) < (n:Int):=by omega
  obtain ⟨x,hx⟩:∃ x,l[k]? = some x:=⟨l[k]'(by rw [<- HM.out]; exact hlt),by simp⟩
  have hvr:=HV.out.below hR hG (HBel.out wr HK.out.2)
  obtain ⟨b,o,vs,rfl,hgb,hbw,hvl,hRx,hcs⟩:=hvr.at k x hx
  obtain ⟨v0,v1,rfl⟩:=len_2 hvl
  have HV2:Hid (R wr G [v0,v1] x∧b < wr.heap.size∧∀ (j:Nat) (u:Value),[v0,v1][j]? = some u→wr.cell? ⟨b,o + k * 2 + j,none⟩ = some u):=qH ⟨hRx,hbw,hcs⟩
  have c0:=HV2.out.2.2 0 v0 rfl
  have c1:=HV2.out.2.2 1 v1 rfl
  simp only [Nat.add_zero] at c0
  have HT:Hid (L++encN n++(l.take (k + 1)).flatMap enc = L++encN n++(l.take k).flatMap enc++enc x):=qH (by
   rw [List.take_add_one,hx,List.flatMap_append,List.append_assoc _ _ (enc x)]
   simp)
  have hll:(L++encN n++(l.take k).flatMap enc++enc x).length≤1099511627776:=by
   rw [<- HT.out]
   have h2:=HS.out
   rw [<- List.take_append_drop (k + 1) l,List.flatMap_append,<- List.append_assoc,<- List.append_assoc,List.length_append] at h2
   omega
  have hp:=HK.out.1.buf.lt
  have hBr:B≤wr.heap.size:=Nat.le_trans hB HK.out.2.size
  have HX:=qH (HCL.out (wr.alloc (.cells #[v0,v1] 110)) [v0,v1] x _ (List.mem_of_getElem? hx) (hR wr _ G G _ x (fun _ h => h) (fun b _ hb => Below.heap_alloc wr _ b hb) hRx) (HK.out.1.alloc _) ((HAt.out.kp HK.out.2).alloc hp _) (by simp; omega) hll)
  have h1:(#[v0,v1]:Array Value).all (·.oneCell') = true:=by
   rw [Array.all_eq_true']
   intro u hu
   exact hO wr G _ x hRx u (by simpa using hu)
  clear hvr hRx hcs hvl hx hgb hbw hll
  go_wp2_with (refine wpList_store_row rfl 110 _ _ rfl wr.heap.size #[v0,v1] rfl rfl 110 _ (heap_alloc_new _ _) size110 rfl h1 ?_; rw [ar])
  refine HX.out.mono ?_
  rintro e w2 ⟨rfl,hw2,hk2⟩
  have HN:Hid (WrS p B w2 (L++encN n++(l.take (k + 1)).flatMap enc)∧Kp p w w2):=qH ⟨by rw [HT.out]; exact hw2,(HK.out.2.alloc hp _).trans hk2⟩
  clear hw2 hk2 HX
  go_wp2_with fail
  go_roundw
  case rel => exact ⟨k + 1,by omega,by go_num,HN⟩
  simp [intOf]; omega
 have hkm:k = n:=by omega
 subst hkm
 have hlt':¬ (k:Int) < (k:Int):=by omega
 go_wp2_with fail
 go_end0
 have e:l.take k = l:=List.take_of_length_le (by rw [<- HM.out]; exact Nat.le_refl _)
 obtain ⟨h1,h2⟩:=HK.out
 rw [e,List.append_assoc] at h1
 exact ⟨rfl,h1,h2⟩
theorem put128 {α:Type} (R:Rp α) (enc:α→List Nat) (p B c:Nat) (A:Option Addr) (n cap:Nat) (l:List α) (L:List Nat) (G:Nat→Prop) (w:World)
  (hw:WrSB p B w L) (hv:Slv R 4 w G (.slice A n cap) l) (hR:Stb R) (hO:One R) (hG:∀ b,G b→b < B) (hc:At p ⟨c,0,none⟩ (.pointer (some ⟨p,0,none⟩)) w) (hB:B≤w.heap.size) (hsz:(L++aj enc l).length≤1099511627776)
  (HC:∀ (wr:World) (vs:List Value) (x:α) (L':List Nat),x∈l→R wr G vs x→WrS p B wr L'→At p ⟨c,0,none⟩ (.pointer (some ⟨p,0,none⟩)) wr→B≤wr.heap.size→(L'++enc x).length≤1099511627776→Calls Tryz.prog 129 #[.agg vs.toArray,.pointer (some ⟨c,0,none⟩)] wr (WrE p B wr (L'++enc x))) :
  Calls Tryz.prog 128 #[.pointer (some ⟨p,0,none⟩),.slice A n cap,.func (.func 129) #[] #[.pointer (some ⟨c,0,none⟩)]] w (WrE p B w (L++aj enc l)):=by
 obtain ⟨A',c',hsl,hlc,hcm⟩:=hv.shape
 injection hsl with e1 e2 e3
 subst e1 e3
 unfold maxLen at hcm
 have HM:=qH e2
 have HV:=qH hv
 have HCL:=qH HC
 have HAt:=qH hc
 have HBel:=qH (fun (w':World) (h:Kp p w w') => h.below hw)
 have HS:Hid ((L++(encN n++l.flatMap enc)).length≤1099511627776):=qH (by rw [e2]; exact hsz)
 have hsn:(L++encN n).length≤1099511627776:=by
  have:=HS.out
  rw [<- List.append_assoc,List.length_append] at this
  omega
 have hE:L++aj enc l = L++(encN n++l.flatMap enc):=by rw [e2]; rfl
 rw [hE]
 have CN:=qH (aC p B [(n:Int)] L w hw (by simp) (by intro m h; rw [List.mem_singleton.1 h]; unfold I64; omega) hB (by simpa using hsn))
 rw [show [(n:Int)].flatMap encN = encN n by simp] at CN
 have hnn:n≤9223372036854775807:=by omega
 clear hv HC hc hsz hE e2 hw hlc hsn
 go_enter Tryz.func128,Tryz.ntmps128
 go_wp2_with fail
 refine CN.out.mono ?_
 rintro e w1 ⟨rfl,hw1,hk1⟩
 have HI0:Hid (WrS p B w1 (L++encN n++(l.take 0).flatMap enc)∧Kp p w w1):=qH ⟨by simpa using hw1,hk1⟩
 clear hw1 hk1 CN
 go_wp2_with fail
 go_loopw [15] (fun iv wr => ∃ k:Nat,k≤n∧iv = .int .i64 (k:Int)∧Hid (WrS p B wr (L++encN n++(l.take k).flatMap enc)∧Kp p w wr)) (fun iv _ => n - (intOf iv).toNat)
 case atStart => exact ⟨0,Nat.zero_le _,rfl,HI0⟩
 obtain ⟨k,hk,rfl,HK⟩:=hrel
 clear HI0
 by_cases hlt:k < n
 ·have hlt':(k:Int) < (n:Int):=by omega
  obtain ⟨x,hx⟩:∃ x,l[k]? = some x:=⟨l[k]'(by rw [<- HM.out]; exact hlt),by simp⟩
  have hvr:=HV.out.below hR hG (HBel.out wr HK.out.2)
  obtain ⟨b,o,vs,rfl,hgb,hbw,hvl,hRx,hcs⟩:=hvr.at k x hx
  obtain ⟨v0,v1,v2,v3,rfl⟩:=len_4 hvl
  have HV2:Hid (R wr G [v0,v1,v2,v3] x∧b < wr.heap.size∧∀ (j:Nat) (u:Value),[v0,v1,v2,v3][j]? = some u→wr.cell? ⟨b,o + k * 4 + j,none⟩ = some u):=qH ⟨hRx,hbw,hcs⟩
  have c0:=HV2.out.2.2 0 v0 rfl
  have c1:=HV2.out.2.2 1 v1 rfl
  have c2:=HV2.out.2.2 2 v2 rfl
  have c3:=HV2.out.2.2 3 v3 rfl
  simp only [Nat.add_zero] at c0
  have HT:Hid (L++encN n++(l.take (k + 1)).flatMap enc = L++encN n++(l.take k).flatMap enc++enc x):=qH (by
   rw [List.take_add_one,hx,List.flatMap_append,List.append_assoc _ _ (enc x)]
   simp)
  have hll:(L++encN n++(l.take k).flatMap enc++enc x).length≤1099511627776:=by
   rw [<- HT.out]
   have h2:=HS.out
   rw [<- List.take_append_drop (k + 1) l,List.flatMap_append,<- List.append_assoc,<- List.append_assoc,List.length_append] at h2
   omega
  have hp:=HK.out.1.buf.lt
  have hBr:B≤wr.heap.size:=Nat.le_trans hB HK.out.2.size
  have HX:=qH (HCL.out (wr.alloc (.cells #[v0,v1,v2,v3] 112)) [v0,v1,v2,v3] x _ (List.mem_of_getElem? hx) (hR wr _ G G _ x (fun _ h => h) (fun b _ hb => Below.heap_alloc wr _ b hb) hRx) (HK.out.1.alloc _) ((HAt.out.kp HK.out.2).alloc hp _) (by simp; omega) hll)
  have h1:(#[v0,v1,v2,v3]:Array Value).all (·.oneCell') = true:=by
   rw [Array.all_eq_true']
   intro u hu
   exact hO wr G _ x hRx u (by simpa using hu)
  clear hvr hRx hcs hvl hx hgb hbw hll
  go_wp2_with (refine wpList_store_row rfl 112 _ _ rfl wr.heap.size #[v0,v1,v2,v3] rfl rfl 112 _ (heap_alloc_new _ _) size112 rfl h1 ?_; rw [ar])
  refine HX.out.mono ?_
  rintro e w2 ⟨rfl,hw2,hk2⟩
  have HN:Hid (WrS p B w2 (L++encN n++(l.take (k + 1)).flatMap enc)∧Kp p w w2):=qH ⟨by rw [HT.out]; exact hw2,(HK.out.2.alloc hp _).trans hk2⟩
  clear hw2 hk2 HX
  go_wp2_with fail
  go_roundw
  case rel => exact ⟨k + 1,by omega,by go_num,HN⟩
  simp [intOf]; omega
 have hkm:k = n:=by omega
 subst hkm
 have hlt':¬ (k:Int) < (k:Int):=by omega
 go_wp2_with fail
 go_end0
 have e:l.take k = l:=List.take_of_length_le (by rw [<- HM.out]; exact Nat.le_refl _)
 obtain ⟨h1,h2⟩:=HK.out
 rw [e,List.append_assoc] at h1
 exact ⟨rfl,h1,h2⟩
end Go.Proofs.YtmhhcfceikcfbaaGreat
