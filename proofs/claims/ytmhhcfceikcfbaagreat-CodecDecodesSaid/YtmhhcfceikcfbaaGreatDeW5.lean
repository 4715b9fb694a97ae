/- Walks: lists put into a writer. -/
import Derived.Test.YtmhhcfceikcfbaaGreatDeW1
namespace Go.Proofs.YtmhhcfceikcfbaaGreat
open Go.RowKit
set_option maxRecDepth 100000
set_option maxHeartbeats 4000000
theorem put130 {α:Type} (R:Rp α) (enc:α→List Nat) (p B c:Nat) (A:Option Addr) (n cap:Nat) (l:List α) (L:List Nat) (G:Nat→Prop) (w:World)
  (hw:WrSB p B w L) (hv:Slv R 6 w G (.slice A n cap) l) (hR:Stb R) (hO:One R) (hG:∀ b,G b→b < B) (hc:At p ⟨c,0,none⟩ (.pointer (some ⟨p,0,none⟩)) w) (hB:B≤w.heap.size) (hsz:(L++ak enc l).length≤1099511627776)
  (HC:∀ (wr:World) (vs:List Value) (x:α) (L':List Nat),x∈l→R wr G vs x→WrS p B wr L'→At p ⟨c,0,none⟩ (.pointer (some ⟨p,0,none⟩)) wr→B≤wr.heap.size→(L'++enc x).length≤1099511627776→Calls Tryz.prog 131 #[.agg vs.toArray,.pointer (some ⟨c,0,none⟩)] wr (WrE p B wr (L'++enc x))) :
  Calls Tryz.prog 130 #[.pointer (some ⟨p,0,none⟩),.slice A n cap,.func (.func 131) #[] #[.pointer (some ⟨c,0,none⟩)]] w (WrE p B w (L++ak enc l)):=by
 obtain ⟨A',c',hsl,hlc,hcm⟩:=hv.shape
 injection hsl with e1 e2 e3
 subst e1 e3
 unfold maxLen at hcm
 have HM:=qH e2
 have HV:=qH hv
 have HCL:=qH HC
 have HAt:=qH hc
 have HBel:=qH (fun (w':World) (h:Kp p w w') => h.below hw)
 have HS:Hid ((L++(encN n++l.flatMap enc)).length≤1099511627776):=qH (by rw [e2]; exact hsz)
 have hsn:(L++encN n).length≤1099511627776:=by
  have:=HS.out
  rw [<- List.append_assoc,List.length_append] at this
  omega
 have hE:L++ak enc l = L++(encN n++l.flatMap enc):=by rw [e2]; rfl
 rw [hE]
 have CN:=qH (aH p B [(n:Int)] L w hw (by simp) (by intro m h; rw [List.mem_singleton.1 h]; unfold I64; omega) hB (by simpa using hsn))
 rw [show [(n:Int)].flatMap encN = encN n by simp] at CN
 have hnn:n≤9223372036854775807:=by omega
 clear hv HC hc hsz hE e2 hw hlc hsn
 go_enter Tryz.func130,Tryz.ntmps130
 go_wp2_with fail
 refine CN.out.mono ?_
 rintro e w1 ⟨rfl,hw1,hk1⟩
 have HI0:Hid (WrS p B w1 (L++encN n++(l.take 0).flatMap enc)∧Kp p w w1):=qH ⟨by simpa using hw1,hk1⟩
 clear hw1 hk1 CN
 go_wp2_with fail
 go_loopw [15] (fun iv wr => ∃ k:Nat,k≤n∧iv = .int .i64 (k:Int)∧Hid (WrS p B wr (L++encN n++(l.take k).flatMap enc)∧Kp p w wr)) (fun iv _ => n - (intOf iv).toNat)
 case atStart => exact ⟨0,Nat.zero_le _,rfl,HI0⟩
 obtain ⟨k,hk,rfl,HK⟩:=hrel
 clear HI0
 by_cases hlt:k < n
 ·have hlt':(k:Int) < (n:Int):=by omega
  obtain ⟨x,hx⟩:∃ x,l[k]? = some x:=⟨l[k]'(by rw [<- HM.out]; exact hlt),by simp⟩
  have hvr:=HV.out.below hR hG (HBel.out wr HK.out.2)
  obtain ⟨b,o,vs,rfl,hgb,hbw,hvl,hRx,hcs⟩:=hvr.at k x hx
  obtain ⟨v0,v1,v2,v3,v4,v5,rfl⟩:=len_6 hvl
  have HV2:Hid (R wr G [v0,v1,v2,v3,v4,v5] x∧b < wr.heap.size∧∀ (j:Nat) (u:Value),[v0,v1,v2,v3,v4,v5][j]? = some u→wr.cell? ⟨b,o + k * 6 + j,none⟩ = some u):=qH ⟨hRx,hbw,hcs⟩
  have c0:=HV2.out.2.2 0 v0 rfl
  have c1:=HV2.out.2.2 1 v1 rfl
  have c2:=HV2.out.2.2 2 v2 rfl
  have c3:=HV2.out.2.2 3 v3 rfl
  have c4:=HV2.out.2.2 4 v4 rfl
  have c5:=HV2.out.2.2 5 v5 rfl
  simp only [Nat.add_zero] at c0
  have HT:Hid (L++encN n++(l.take (k + 1)).flatMap enc = L++encN n++(l.take k).flatMap enc++enc x):=qH (by
   rw [List.take_add_one,hx,List.flatMap_append,List.append_assoc _ _ (enc x)]
   simp)
  have hll:(L++encN n++(l.take k).flatMap enc++enc x).length≤1099511627776:=by
   rw [<- HT.out]
   have h2:=HS.out
   rw [<- List.take_append_drop (k + 1) l,List.flatMap_append,<- List.append_assoc,<- List.append_assoc,List.length_append] at h2
   omega
  have hp:=HK.out.1.buf.lt
  have hBr:B≤wr.heap.size:=Nat.le_trans hB HK.out.2.size
  have HX:=qH (HCL.out (wr.alloc (.cells #[v0,v1,v2,v3,v4,v5] 114)) [v0,v1,v2,v3,v4,v5] x _ (List.mem_of_getElem? hx) (hR wr _ G G _ x (fun _ h => h) (fun b _ hb => Below.heap_alloc wr _ b hb) hRx) (HK.out.1.alloc _) ((HAt.out.kp HK.out.2).alloc hp _) (by simp; omega) hll)
  have h1:(#[v0,v1,v2,v3,v4,v5]:Array Value).all (·.oneCell') = true:=by
   rw [Array.all_eq_true']
   intro u hu
   exact hO wr G _ x hRx u (by simpa using hu)
  clear hvr hRx hcs hvl hx hgb hbw hll
  go_wp2_with (refine wpList_store_row rfl 114 _ _ rfl wr.heap.size #[v0,v1,v2,v3,v4,v5] rfl rfl 114 _ (heap_alloc_new _ _) size114 rfl h1 ?_; rw [aC])
  refine HX.out.mono ?_
  rintro e w2 ⟨rfl,hw2,hk2⟩
  have HN:Hid (WrS p B w2 (L++encN n++(l.take (k + 1)).flatMap enc)∧Kp p w w2):=qH ⟨by rw [HT.out]; exact hw2,(HK.out.2.alloc hp _).trans hk2⟩
  clear hw2 hk2 HX
  go_wp2_with fail
  go_roundw
  case rel => exact ⟨k + 1,by omega,by go_num,HN⟩
  simp [intOf]; omega
 have hkm:k = n:=by omega
 subst hkm
 have hlt':¬ (k:Int) < (k:Int):=by omega
 go_wp2_with fail
 go_end0
 have e:l.take k = l:=List.take_of_length_le (by rw [<- HM.out]; exact Nat.le_refl _)
 obtain ⟨h1,h2⟩:=HK.out
 rw [e,List.append_assoc] at h1
 exact ⟨rfl,h1,h2⟩
theorem put132 {α:Type} (R:Rp α) (enc:α→List Nat) (p B c:Nat) (A:Option Addr) (n cap:Nat) (l:List α) (L:List Nat) (G:Nat→Prop) (w:World)
  (hw:WrSB p B w L) (hv:Slv R 2 w G (.slice A n cap) l) (hR:Stb R) (hO:One R) (hG:∀ b,G b→b < B) (hc:At p ⟨c,0,none⟩ (.pointer (some ⟨p,0,none⟩)) w) (hB:B≤w.heap.size) (hsz:(L++ak enc l).length≤1099511627776)
  (HC:∀ (wr:World) (vs:List Value) (x:α) (L':List Nat),x∈l→R wr G vs x→WrS p B wr L'→At p ⟨c,0,none⟩ (.pointer (some ⟨p,0,none⟩)) wr→B≤wr.heap.size→(L'++enc x).length≤1099511627776→Calls Tryz.prog 133 #[.agg vs.toArray,.pointer (some ⟨c,0,none⟩)] wr (WrE p B wr (L'++enc x))) :
  Calls Tryz.prog 132 #[.pointer (some ⟨p,0,none⟩),.slice A n cap,.func (.func 133) #[] #[.pointer (some ⟨c,0,none⟩)]] w (WrE p B w (L++ak enc l)):=by
 obtain ⟨A',c',hsl,hlc,hcm⟩:=hv.shape
 injection hsl with e1 e2 e3
 subst e1 e3
 unfold maxLen at hcm
 have HM:=qH e2
 have HV:=qH hv
 have HCL:=qH HC
 have HAt:=qH hc
 have HBel:=qH (fun (w':World) (h:Kp p w w') => h.below hw)
 have HS:Hid ((L++(encN n++l.flatMap enc)).length≤1099511627776):=qH (by rw [e2]; exact hsz)
 have hsn:(L++encN n).length≤1099511627776:=by
  have:=HS.out
  rw [<- List.append_assoc,List.length_append] at this
  omega
 have hE:L++ak enc l = L++(encN n++l.flatMap enc):=by rw [e2]; rfl
 rw [hE]
 have CN:=qH (aH p B [(n:Int)] L w hw (by simp) (by intro m h; rw [List.mem_singleton.1 h]; unfold I64; omega) hB (by simpa using hsn))
 rw [show [(n:Int)].flatMap encN = encN n by simp] at CN
 have hnn:n≤9223372036854775807:=by omega
 clear hv HC hc hsz hE e2 hw hlc hsn
 go_enter Tryz.func132,Tryz.ntmps132
 go_wp2_with fail
 refine CN.out.mono ?_
 rintro e w1 ⟨rfl,hw1,hk1⟩
 have HI0:Hid (WrS p B w1 (L++encN n++(l.take 0).flatMap enc)∧Kp p w w1):=qH ⟨by simpa using hw1,hk1⟩
 clear hw1 hk1 CN
 go_wp2_with fail
 go_loopw [15] (fun iv wr => ∃ k:Nat,k≤n∧iv = .int .i64 (k:Int)∧Hid (WrS p B wr (L++encN n++(l.take k).flatMap enc)∧Kp p w wr)) (fun iv _ => n - (intOf iv).toNat)
 case atStart => exact ⟨0,Nat.zero_le _,rfl,HI0⟩
 obtain ⟨k,hk,rfl,HK⟩:=hrel
 clear HI0
 by_cases hlt:k < n
 ·have hlt':(k:Int) < (n:Int):=by omega
  obtain ⟨x,hx⟩:∃ x,l[k]? = some x:=⟨l[k]'(by rw [<- HM.out]; exact hlt),by simp⟩
  have hvr:=HV.out.below hR hG (HBel.out wr HK.out.2)
  obtain ⟨b,o,vs,rfl,hgb,hbw,hvl,hRx,hcs⟩:=hvr.at k x hx
  obtain ⟨v0,v1,rfl⟩:=len_2 hvl
  have HV2:Hid (R wr G [v0,v1] x∧b < wr.heap.size∧∀ (j:Nat) (u:Value),[v0,v1][j]? = some u→wr.cell? ⟨b,o + k * 2 + j,none⟩ = some u):=qH ⟨hRx,hbw,hcs⟩
  have c0:=HV2.out.2.2 0 v0 rfl
  have c1:=HV2.out.2.2 1 v1 rfl
  simp only [Nat.add_zero] at c0
  have HT:Hid (L++encN n++(l.take (k + 1)).flatMap enc = L++encN n++(l.take k).flatMap enc++enc x):=qH (by
   rw [List.take_add_one,hx,List.flatMap_append,List.append_assoc _ _ (enc x)]
   simp)
  have hll:(L++encN n++(l.take k).flatMap enc++enc x).length≤1099511627776:=by
   rw [<- HT.out]
   have h2:=HS.out
   rw [<- List.take_append_drop (k + 1) l,List.flatMap_append,<- List.append_assoc,<- List.append_assoc,List.length_append] at h2
   omega
  have hp:=HK.out.1.buf.lt
  have hBr:B≤wr.heap.size:=Nat.le_trans hB HK.out.2.size
  have HX:=qH (HCL.out (wr.alloc (.cells #[v0,v1] 116)) [v0,v1] x _ (List.mem_of_getElem? hx) (hR wr _ G G _ x (fun _ h => h) (fun b _ hb => Below.heap_alloc wr _ b hb) hRx) (HK.out.1.alloc _) ((HAt.out.kp HK.out.2).alloc hp _) (by simp; omega) hll)
  have h1:(#[v0,v1]:Array Value).all (·.oneCell') = true:=by
   rw [Array.all_eq_true']
   intro u hu
   exact hO wr G _ x hRx u (by simpa using hu)
  clear hvr hRx hcs hvl hx hgb hbw hll
  go_wp2_with (refine wpList_store_row rfl 116 _ _ rfl wr.heap.size #[v0,v1] rfl rfl 116 _ (heap_alloc_new _ _) size116 rfl h1 ?_; rw [aC])
  refine HX.out.mono ?_
  rintro e w2 ⟨rfl,hw2,hk2⟩
  have HN:Hid (WrS p B w2 (L++encN n++(l.take (k + 1)).flatMap enc)∧Kp p w w2):=qH ⟨by rw [HT.out]; exact hw2,(HK.out.2.alloc hp _).trans hk2⟩
  clear hw2 hk2 HX
  go_wp2_with fail
  go_roundw
  case rel => exact ⟨k + 1,by omega,by go_num,HN⟩
  simp [intOf]; omega
 have hkm:k = n:=by omega
 subst hkm
 have hlt':¬ (k:Int) < (k:Int):=by omega
 go_wp2_with fail
 go_end0
 have e:l.take k = l:=List.take_of_length_le (by rw [<- HM.out]; exact Nat.le_refl _)
 obtain ⟨h1,h2⟩:=HK.out
 rw [e,List.append_assoc] at h1
 exact ⟨rfl,h1,h2⟩
theorem put147 {α:Type} (R:Rp α) (enc:α→List Nat) (p B c:Nat) (A:Option Addr) (n cap:Nat) (l:List α) (L:List Nat) (G:Nat→Prop) (w:World)
  (hw:WrSB p B w L) (hv:Slv R 6 w G (.slice A n cap) l) (hR:Stb R) (hO:One R) (hG:∀ b,G b→b < B) (hc:At p ⟨c,0,none⟩ (.pointer (some ⟨p,0,none⟩)) w) (hB:B≤w.heap.size) (hsz:(L++ak enc l).length≤1099511627776)
  (HC:∀ (wr:World) (vs:List Value) (x:α) (L':List Nat),x∈l→R wr G vs x→WrS p B wr L'→At p ⟨c,0,none⟩ (.pointer (some ⟨p,0,none⟩)) wr→B≤wr.heap.size→(L'++enc x).length≤1099511627776→Calls Tryz.prog 148 #[.agg vs.toArray,.pointer (some ⟨c,0,none⟩)] wr (WrE p B wr (L'++enc x))) :
  Calls Tryz.prog 147 #[.pointer (some ⟨p,0,none⟩),.slice A n cap,.func (.func 148) #[] #[.pointer (some ⟨c,0,none⟩)]] w (WrE p B w (L++ak enc l)):=by
 obtain ⟨A',c',hsl,hlc,hcm⟩:=hv.shape
 injection hsl with e1 e2 e3
 subst e1 e3
 unfold maxLen at hcm
 have HM:=qH e2
 have HV:=qH hv
 have HCL:=qH HC
 have HAt:=qH hc
 have HBel:=qH (fun (w':World) (h:Kp p w w') => h.below hw)
 have HS:Hid ((L++(encN n++l.flatMap enc)).length≤1099511627776):=qH (by rw [e2]; exact hsz)
 have hsn:(L++encN n).length≤1099511627776:=by
  have:=HS.out
  rw [<- List.append_assoc,List.length_append] at this
  omega
 have hE:L++ak enc l = L++(encN n++l.flatMap enc):=by rw [e2]; rfl
 rw [hE]
 have CN:=qH (aH p B [(n:Int)] L w hw (by simp) (by intro m h; rw [List.mem_singleton.1 h]; unfold I64; omega) hB (by simpa using hsn))
 rw [show [(n:Int)].flatMap encN = encN n by simp] at CN
 have hnn:n≤9223372036854775807:=by omega
 clear hv HC hc hsz hE e2 hw hlc hsn
 go_enter Tryz.func147,Tryz.ntmps147
 go_wp2_with fail
 refine CN.out.mono ?_
 rintro e w1 ⟨rfl,hw1,hk1⟩
 have HI0:Hid (WrS p B w1 (L++encN n++(l.take 0).flatMap enc)∧Kp p w w1):=qH ⟨by simpa using hw1,hk1⟩
 clear hw1 hk1 CN
 go_wp2_with fail
 go_loopw [15] (fun iv wr => ∃ k:Nat,k≤n∧iv = .int .i64 (k:Int)∧Hid (WrS p B wr (L++encN n++(l.take k).flatMap enc)∧Kp p w wr)) (fun iv _ => n - (intOf iv).toNat)
 case atStart => exact ⟨0,Nat.zero_le _,rfl,HI0⟩
 obtain ⟨k,hk,rfl,HK⟩:=hrel
 clear HI0
 by_cases hlt:k < n
 ·have hlt':(k:Int) < (n:Int):=by omega
  obtain ⟨x,hx⟩:∃ x,l[k]? = some x:=⟨l[k]'(by rw [<- HM.out]; exact hlt),by simp⟩
  have hvr:=HV.out.below hR hG (HBel.out wr HK.out.2)
  obtain ⟨b,o,vs,rfl,hgb,hbw,hvl,hRx,hcs⟩:=hvr.at k x hx
  obtain ⟨v0,v1,v2,v3,v4,v5,rfl⟩:=len_6 hvl
  have HV2:Hid (R wr G [v0,v1,v2,v3,v4,v5] x∧b < wr.heap.size∧∀ (j:Nat) (u:Value),[v0,v1,v2,v3,v4,v5][j]? = some u→wr.cell? ⟨b,o + k * 6 + j,none⟩ = some u):=qH ⟨hRx,hbw,hcs⟩
  have c0:=HV2.out.2.2 0 v0 rfl
  have c1:=HV2.out.2.2 1 v1 rfl
  have c2:=HV2.out.2.2 2 v2 rfl
  have c3:=HV2.out.2.2 3 v3 rfl
  have c4:=HV2.out.2.2 4 v4 rfl
  have c5:=HV2.out.2.2 5 v5 rfl
  simp only [Nat.add_zero] at c0
  have HT:Hid (L++encN n++(l.take (k + 1)).flatMap enc = L++encN n++(l.take k).flatMap enc++enc x):=qH (by
   rw [List.take_add_one,hx,List.flatMap_append,List.append_assoc _ _ (enc x)]
   simp)
  have hll:(L++encN n++(l.take k).flatMap enc++enc x).length≤1099511627776:=by
   rw [<- HT.out]
   have h2:=HS.out
   rw [<- List.take_append_drop (k + 1) l,List.flatMap_append,<- List.append_assoc,<- List.append_assoc,List.length_append] at h2
   omega
  have hp:=HK.out.1.buf.lt
  have hBr:B≤wr.heap.size:=Nat.le_trans hB HK.out.2.size
  have HX:=qH (HCL.out (wr.alloc (.cells #[v0,v1,v2,v3,v4,v5] 156)) [v0,v1,v2,v3,v4,v5] x _ (List.mem_of_getElem? hx) (hR wr _ G G _ x (fun _ h => h) (fun b _ hb => Below.heap_alloc wr _ b hb) hRx) (HK.out.1.alloc _) ((HAt.out.kp HK.out.2).alloc hp _) (by simp; omega) hll)
  have h1:(#[v0,v1,v2,v3,v4,v5]:Array Value).all (·.oneCell') = true:=by
   rw [Array.all_eq_true']
   intro u hu
   exact hO wr G _ x hRx u (by simpa using hu)
  clear hvr hRx hcs hvl hx hgb hbw hll
  go_wp2_with (refine wpList_store_row rfl 156 _ _ rfl wr.heap.size #[v0,v1,v2,v3,v4,v5] rfl rfl 156 _ (heap_alloc_new _ _) size156 rfl h1 ?_; rw [aC])
  refine HX.out.mono ?_
  rintro e w2 ⟨rfl,hw2,hk2⟩
  have HN:Hid (WrS p B w2 (L++encN n++(l.take (k + 1)).flatMap enc)∧Kp p w w2):=qH ⟨by rw [HT.out]; exact hw2,(HK.out.2.alloc hp _).trans hk2⟩
  clear hw2 hk2 HX
  go_wp2_with fail
  go_roundw
  case rel => exact ⟨k + 1,by omega,by go_num,HN⟩
  simp [intOf]; omega
 have hkm:k = n:=by omega
 subst hkm
 have hlt':¬ (k:Int) < (k:Int):=by omega
 go_wp2_with fail
 go_end0
 have e:l.take k = l:=List.take_of_length_le (by rw [<- HM.out]; exact Nat.le_refl _)
 obtain ⟨h1,h2⟩:=HK.out
 rw [e,List.append_assoc] at h1
 exact ⟨rfl,h1,h2⟩
theorem put149 {α:Type} (R:Rp α) (enc:α→List Nat) (p B c:Nat) (A:Option Addr) (n cap:Nat) (l:List α) (L:List Nat) (G:Nat→Prop) (w:World)
  (hw:WrSB p B w L) (hv:Slv R 7 w G (.slice A n cap) l) (hR:Stb R) (hO:One R) (hG:∀ b,G b→b < B) (hc:At p ⟨c,0,none⟩ (.pointer (some ⟨p,0,none⟩)) w) (hB:B≤w.heap.size) (hsz:(L++ak enc l).length≤1099511627776)
  (HC:∀ (wr:World) (vs:List Value) (x:α) (L':List Nat),x∈l→R wr G vs x→WrS p B wr L'→At p ⟨c,0,none⟩ (.pointer (some ⟨p,0,none⟩)) wr→B≤wr.heap.size→(L'++enc x).length≤1099511627776→Calls Tryz.prog 150 #[.agg vs.toArray,.pointer (some ⟨c,0,none⟩)] wr (WrE p B wr (L'++enc x))) :
  Calls Tryz.prog 149 #[.pointer (some ⟨p,0,none⟩),.slice A n cap,.func (.func 150) #[] #[.pointer (some ⟨c,0,none⟩)]] w (WrE p B w (L++ak enc l)):=by
 obtain ⟨A',c',hsl,hlc,hcm⟩:=hv.shape
 injection hsl with e1 e2 e3
 subst e1 e3
 unfold maxLen at hcm
 have HM:=qH e2
 have HV:=qH hv
 have HCL:=qH HC
 have HAt:=qH hc
 have HBel:=qH (fun (w':World) (h:Kp p w w') => h.below hw)
 have HS:Hid ((L++(encN n++l.flatMap enc)).length≤1099511627776):=qH (by rw [e2]; exact hsz)
 have hsn:(L++encN n).length≤1099511627776:=by
  have:=HS.out
  rw [<- List.append_assoc,List.length_append] at this
  omega
 have hE:L++ak enc l = L++(encN n++l.flatMap enc):=by rw [e2]; rfl
 rw [hE]
 have CN:=qH (aH p B [(n:Int)] L w hw (by simp) (by intro m h; rw [List.mem_singleton.1 h]; unfold I64; omega) hB (by simpa using hsn))
 rw [show [(n:Int)].flatMap encN = encN n by simp] at CN
 have hnn:n≤9223372036854775807:=by omega
 clear hv HC hc hsz hE e2 hw hlc hsn
 go_enter Tryz.func149,Tryz.ntmps149
 go_wp2_with fail
 refine CN.out.mono ?_
 rintro e w1 ⟨rfl,hw1,hk1⟩
 have HI0:Hid (WrS p B w1 (L++encN n++(l.take 0).flatMap enc)∧Kp p w w1):=qH ⟨by simpa using hw1,hk1⟩
 clear hw1 hk1 CN
 go_wp2_with fail
 go_loopw [15] (fun iv wr => ∃ k:Nat,k≤n∧iv = .int .i64 (k:Int)∧Hid (WrS p B wr (L++encN n++(l.take k).flatMap enc)∧Kp p w wr)) (fun iv _ => n - (intOf iv).toNat)
 case atStart => exact ⟨0,Nat.zero_le _,rfl,HI0⟩
 obtain ⟨k,hk,rfl,HK⟩:=hrel
 clear HI0
 by_cases hlt:k < n
 ·have hlt':(k:Int) < (n:Int):=by omega
  obtain ⟨x,hx⟩:∃ x,l[k]? = some x:=⟨l[k]'(by rw [<- HM.out]; exact hlt),by simp⟩
  have hvr:=HV.out.below hR hG (HBel.out wr HK.out.2)
  obtain ⟨b,o,vs,rfl,hgb,hbw,hvl,hRx,hcs⟩:=hvr.at k x hx
  obtain ⟨v0,v1,v2,v3,v4,v5,v6,rfl⟩:=len_7 hvl
  have HV2:Hid (R wr G [v0,v1,v2,v3,v4,v5,v6] x∧b < wr.heap.size∧∀ (j:Nat) (u:Value),[v0,v1,v2,v3,v4,v5,v6][j]? = some u→wr.cell? ⟨b,o + k * 7 + j,none⟩ = some u):=qH ⟨hRx,hbw,hcs⟩
  have c0:=HV2.out.2.2 0 v0 rfl
  have c1:=HV2.out.2.2 1 v1 rfl
  have c2:=HV2.out.2.2 2 v2 rfl
  have c3:=HV2.out.2.2 3 v3 rfl
  have c4:=HV2.out.2.2 4 v4 rfl
  have c5:=HV2.out.2.2 5 v5 rfl
  have c6:=HV2.out.2.2 6 v6 rfl
  simp only [Nat.add_zero] at c0
  have HT:Hid (L++encN n++(l.take (k + 1)).flatMap enc = L++encN n++(l.take k).flatMap enc++enc x):=qH (by
   rw [List.take_add_one,hx,List.flatMap_append,List.append_assoc _ _ (enc x)]
   simp)
  have hll:(L++encN n++(l.take k).flatMap enc++enc x).length≤1099511627776:=by
   rw [<- HT.out]
   have h2:=HS.out
   rw [<- List.take_append_drop (k + 1) l,List.flatMap_append,<- List.append_assoc,<- List.append_assoc,List.length_append] at h2
   omega
  have hp:=HK.out.1.buf.lt
  have hBr:B≤wr.heap.size:=Nat.le_trans hB HK.out.2.size
  have HX:=qH (HCL.out (wr.alloc (.cells #[v0,v1,v2,v3,v4,v5,v6] 174)) [v0,v1,v2,v3,v4,v5,v6] x _ (List.mem_of_getElem? hx) (hR wr _ G G _ x (fun _ h => h) (fun b _ hb => Below.heap_alloc wr _ b hb) hRx) (HK.out.1.alloc _) ((HAt.out.kp HK.out.2).alloc hp _) (by simp; omega) hll)
  have h1:(#[v0,v1,v2,v3,v4,v5,v6]:Array Value).all (·.oneCell') = true:=by
   rw [Array.all_eq_true']
   intro u hu
   exact hO wr G _ x hRx u (by simpa using hu)
  clear hvr hRx hcs hvl hx hgb hbw hll
  go_wp2_with (refine wpList_store_row rfl 174 _ _ rfl wr.heap.size #[v0,v1,v2,v3,v4,v5,v6] rfl rfl 174 _ (heap_alloc_new _ _) size174 rfl h1 ?_; rw [aC])
  refine HX.out.mono ?_
  rintro e w2 ⟨rfl,hw2,hk2⟩
  have HN:Hid (WrS p B w2 (L++encN n++(l.take (k + 1)).flatMap enc)∧Kp p w w2):=qH ⟨by rw [HT.out]; exact hw2,(HK.out.2.alloc hp _).trans hk2⟩
  clear hw2 hk2 HX
  go_wp2_with fail
  go_roundw
  case rel => exact ⟨k + 1,by omega,by go_num,HN⟩
  simp [intOf]; omega
 have hkm:k = n:=by omega
 subst hkm
 have hlt':¬ (k:Int) < (k:Int):=by omega
 go_wp2_with fail
 go_end0
 have e:l.take k = l:=List.take_of_length_le (by rw [<- HM.out]; exact Nat.le_refl _)
 obtain ⟨h1,h2⟩:=HK.out
 rw [e,List.append_assoc] at h1
 exact ⟨rfl,h1,h2⟩
theorem put114 {α:Type} (R:Rp α) (enc:α→List Nat) (p B c:Nat) (A:Option Addr) (n cap:Nat) (l:List α) (L:List Nat) (G:Nat→Prop) (w:World)
  (hw:WrSB p B w L) (hv:Slv R 11 w G (.slice A n cap) l) (hR:Stb R) (hO:One R) (hG:∀ b,G b→b < B) (hc:At p ⟨c,0,none⟩ (.pointer (some ⟨p,0,none⟩)) w) (hB:B≤w.heap.size) (hsz:(L++ak enc l).length≤1099511627776)
  (HC:∀ (wr:World) (vs:List Value) (x:α) (L':List Nat),x∈l→R wr G vs x→WrS p B wr L'→At p ⟨c,0,none⟩ (.pointer (some ⟨p,0,none⟩)) wr→B≤wr.heap.size→(L'++enc x).length≤1099511627776→Calls Tryz.prog 115 #[.agg vs.toArray,.pointer (some ⟨c,0,none⟩)] wr (WrE p B wr (L'++enc x))) :
  Calls Tryz.prog 114 #[.pointer (some ⟨p,0,none⟩),.slice A n cap,.func (.func 115) #[] #[.pointer (some ⟨c,0,none⟩)]] w (WrE p B w (L++ak enc l)):=by
 obtain ⟨A',c',hsl,hlc,hcm⟩:=hv.shape
 injection hsl with e1 e2 e3
 subst e1 e3
 unfold maxLen at hcm
 have HM:=qH e2
 have HV:=qH hv
 have HCL:=qH HC
 have HAt:=qH hc
 have HBel:=qH (fun (w':World) (h:Kp p w w') => h.below hw)
 have HS:Hid ((L++(encN n++l.flatMap enc)).length≤1099511627776):=qH (by rw [e2]; exact hsz)
 have hsn:(L++encN n).length≤1099511627776:=by
  have:=HS.out
  rw [<- List.append_assoc,List.length_append] at this
  omega
 have hE:L++ak enc l = L++(encN n++l.flatMap enc):=by rw [e2]; rfl
 rw [hE]
 have CN:=qH (aH p B [(n:Int)] L w hw (by simp) (by intro m h; rw [List.mem_singleton.1 h]; unfold I64; omega) hB (by simpa using hsn))
 rw [show [(n:Int)].flatMap encN = encN n by simp] at CN
 have hnn:n≤9223372036854775807:=by omega
 clear hv HC hc hsz hE e2 hw hlc hsn
 go_enter Tryz.func114,Tryz.ntmps114
 go_wp2_with fail
 refine CN.out.mono ?_
 rintro e w1 ⟨rfl,hw1,hk1⟩
 have HI0:Hid (WrS p B w1 (L++encN n++(l.take 0).flatMap enc)∧Kp p w w1):=qH ⟨by simpa using hw1,hk1⟩
 clear hw1 hk1 CN
 go_wp2_with fail
 go_loopw [15] (fun iv wr => ∃ k:Nat,k≤n∧iv = .int .i64 (k:Int)∧Hid (WrS p B wr (L++encN n++(l.take k).flatMap enc)∧Kp p w wr)) (fun iv _ => n - (intOf iv).toNat)
 case atStart => exact ⟨0,Nat.zero_le _,rfl,HI0⟩
 obtain ⟨k,hk,rfl,HK⟩:=hrel
 clear HI0
 by_cases hlt:k < n
 ·have hlt':(k:Int) < (n:Int):=by omega
  obtain ⟨x,hx⟩:∃ x,l[k]? = some x:=⟨l[k]'(by rw [<- HM.out]; exact hlt),by simp⟩
  have hvr:=HV.out.below hR hG (HBel.out wr HK.out.2)
  obtain ⟨b,o,vs,rfl,hgb,hbw,hvl,hRx,hcs⟩:=hvr.at k x hx
  obtain ⟨v0,v1,v2,v3,v4,v5,v6,v7,v8,v9,v10,rfl⟩:=len_11 hvl
  have HV2:Hid (R wr G [v0,v1,v2,v3,v4,v5,v6,v7,v8,v9,v10] x∧b < wr.heap.size∧∀ (j:Nat) (u:Value),[v0,v1,v2,v3,v4,v5,v6,v7,v8,v9,v10][j]? = some u→wr.cell? ⟨b,o + k * 11 + j,none⟩ = some u):=qH ⟨hRx,hbw,hcs⟩
  have c0:=HV2.out.2.2 0 v0 rfl
  have c1:=HV2.out.2.2 1 v1 rfl
  have c2:=HV2.out.2.2 2 v2 rfl
  have c3:=HV2.out.2.2 3 v3 rfl
  have c4:=HV2.out.2.2 4 v4 rfl
  have c5:=HV2.out.2.2 5 v5 rfl
  have c6:=HV2.out.2.2 6 v6 rfl
  have c7:=HV2.out.2.2 7 v7 rfl
  have c8:=HV2.out.2.2 8 v8 rfl
  have c9:=HV2.out.2.2 9 v9 rfl
  have c10:=HV2.out.2.2 10 v10 rfl
  simp only [Nat.add_zero] at c0
  have HT:Hid (L++encN n++(l.take (k + 1)).flatMap enc = L++encN n++(l.take k).flatMap enc++enc x):=qH (by
   rw [List.take_add_one,hx,List.flatMap_append,List.append_assoc _ _ (enc x)]
   simp)
  have hll:(L++encN n++(l.take k).flatMap enc++enc x).length≤1099511627776:=by
   rw [<- HT.out]
   have h2:=HS.out
   rw [<- List.take_append_drop (k + 1) l,List.flatMap_append,<- List.append_assoc,<- List.append_assoc,List.length_append] at h2
   omega
  have hp:=HK.out.1.buf.lt
  have hBr:B≤wr.heap.size:=Nat.le_trans hB HK.out.2.size
  have HX:=qH (HCL.out (wr.alloc (.cells #[v0,v1,v2,v3,v4,v5,v6,v7,v8,v9,v10] 53)) [v0,v1,v2,v3,v4,v5,v6,v7,v8,v9,v10] x _ (List.mem_of_getElem? hx) (hR wr _ G G _ x (fun _ h => h) (fun b _ hb => Below.heap_alloc wr _ b hb) hRx) (HK.out.1.alloc _) ((HAt.out.kp HK.out.2).alloc hp _) (by simp; omega) hll)
  have h1:(#[v0,v1,v2,v3,v4,v5,v6,v7,v8,v9,v10]:Array Value).all (·.oneCell') = true:=by
   rw [Array.all_eq_true']
   intro u hu
   exact hO wr G _ x hRx u (by simpa using hu)
  clear hvr hRx hcs hvl hx hgb hbw hll
  go_wp2_with (refine wpList_store_row rfl 53 _ _ rfl wr.heap.size #[v0,v1,v2,v3,v4,v5,v6,v7,v8,v9,v10] rfl rfl 53 _ (heap_alloc_new _ _) size53 rfl h1 ?_; rw [aC])
  refine HX.out.mono ?_
  rintro e w2 ⟨rfl,hw2,hk2⟩
  have HN:Hid (WrS p B w2 (L++encN n++(l.take (k + 1)).flatMap enc)∧Kp p w w2):=qH ⟨by rw [HT.out]; exact hw2,(HK.out.2.alloc hp _).trans hk2⟩
  clear hw2 hk2 HX
  go_wp2_with fail
  go_roundw
  case rel => exact ⟨k + 1,by omega,by go_num,HN⟩
  simp [intOf]; omega
 have hkm:k = n:=by omega
 subst hkm
 have hlt':¬ (k:Int) < (k:Int):=by omega
 go_wp2_with fail
 go_end0
 have e:l.take k = l:=List.take_of_length_le (by rw [<- HM.out]; exact Nat.le_refl _)
 obtain ⟨h1,h2⟩:=HK.out
 rw [e,List.append_assoc] at h1
 exact ⟨rfl,h1,h2⟩
end Go.Proofs.YtmhhcfceikcfbaaGreat
