/- Walks: what the readers read by numbers: sizes, texts, Booleans; a reader's end. -/
import Derived.Deep.RegionHeld3
import Derived.Deep.Cut
import Derived.Maps.AppendAt
import Derived.Test.YtmhhcfceikcfbaaGreatDeR1b
namespace Go.Proofs.YtmhhcfceikcfbaaGreat
open Go.RowKit
set_option maxRecDepth 100000
set_option maxHeartbeats 4000000
theorem Res.szErr {s:ByteArray} {k k':Nat} {e e' x:Int} (h:Res rdN s k e x k' e') (he:e'≠0):Res rdS s k e 0 k' e':=by
 refine ⟨h.1,h.2.1,fun h0 => ?_⟩
 have h2:=h.2.2 h0
 unfold rdS
 cases hq:rdN ((al s).drop k) with
 | ok y n => rw [hq] at h2; exact absurd h2.2.2 he
 | err E => rw [hq] at h2; exact h2
theorem Res.ok0 {α:Type} {p:Rd α} {s:ByteArray} {k k':Nat} {e:Int} {x:α} (h:Res p s k e x k' 0):e = 0∧∃ n,p ((al s).drop k) = .ok x n∧k' = k + n:=by
 have h0:e = 0:=by
  rcases Int.decEq e 0 with q | q
  ·exact (h.2.1 q).symm
  exact q
 have h2:=h.2.2 h0
 cases hq:p ((al s).drop k) with
 | ok y n => rw [hq] at h2; obtain ⟨rfl,h3,_⟩:=h2; exact ⟨h0,n,rfl,h3⟩
 | err E => rw [hq] at h2; exact absurd h2.1.symm h2.2
theorem Res.bad {α:Type} {p:Rd α} {s:ByteArray} {k k':Nat} {x:α} {E:Int} (hk:k'≤s.size) (hE:E≠0) (h:p ((al s).drop k) = .err E):Res p s k 0 x k' E :=
 ⟨hk,fun q => absurd rfl q,fun _ => by rw [h]; exact ⟨rfl,hE⟩⟩
theorem Res.good {α:Type} {p:Rd α} {s:ByteArray} {k k' n:Nat} {x:α} (hk:k'≤s.size) (h:p ((al s).drop k) = .ok x n) (hn:k' = k + n):Res p s k 0 x k' 0 :=
 ⟨hk,fun q => absurd rfl q,fun _ => by rw [h]; exact ⟨rfl,hn,rfl⟩⟩
theorem Res.szNeg {s:ByteArray} {k k':Nat} {e x:Int} (h:Res rdN s k e x k' 0) (hx:x < 0):Res rdS s k e 0 k' 15:=by
 obtain ⟨rfl,n,hp,_⟩:=h.ok0
 exact Res.bad h.1 (by decide) (by unfold rdS; rw [hp]; exact if_pos hx)
theorem Res.szBig {s:ByteArray} {k k' n:Nat} {e:Int} (h:Res rdN s k e (n:Int) k' 0) (hx:s.size - k' < n):Res rdS s k e 0 k' 34:=by
 obtain ⟨rfl,m,hp,hm⟩:=h.ok0
 refine Res.bad h.1 (by decide) ?_
 unfold rdS
 rw [hp]
 show (if (n:Int) < 0 then _ else if ((((al s).drop k).length - m:Nat):Int) < n then _ else _) = _
 rw [if_neg (by omega),List.length_drop,aE,if_pos (by omega)]
theorem Res.szOk {s:ByteArray} {k k' n:Nat} {e:Int} (h:Res rdN s k e (n:Int) k' 0) (hx:¬ s.size - k' < n):Res rdS s k e n k' 0:=by
 obtain ⟨rfl,m,hp,hm⟩:=h.ok0
 refine Res.good h.1 (n:=m) ?_ hm
 unfold rdS
 rw [hp]
 show (if (n:Int) < 0 then _ else if ((((al s).drop k).length - m:Nat):Int) < n then _ else _) = _
 rw [if_neg (by omega),List.length_drop,aE,if_neg (by omega)]
 rfl
theorem bytesN_extract (t:ByteArray) (i j:Nat):al (t.extract i j) = ((al t).take j).drop i:=by
 unfold al
 rw [ByteArray.data_extract,Array.toList_extract,List.extract_eq_take_drop,<- List.drop_take,List.map_drop,List.map_take]
theorem Res.text {s:ByteArray} {k k' n m:Nat} {e e':Int} (h:Res rdS s k e n k' e') (h0:e'≠0→n = 0) (hm:m = k' + n) (hs:m≤s.size):Res strR s k e (s.extract k' m) m e':=by
 rcases Int.decEq e' 0 with q | q
 ·refine ⟨hs,h.2.1,fun he => ?_⟩
  have h2:=h.2.2 he
  unfold strR textR bnd
  cases hq:rdS ((al s).drop k) with
  | ok y n => rw [hq] at h2; exact absurd h2.2.2 q
  | err E => rw [hq] at h2; exact h2
 subst q
 obtain ⟨rfl,c,hp,hc⟩:=h.ok0
 refine Res.good hs (n:=c + n) ?_ (by omega)
 unfold strR textR bnd
 rw [hp]
 show Rs.ok (mkB ((((al s).drop k).drop c).take n)) (c + n) = _
 rw [List.drop_drop,<- hc,show (((al s).drop k').take n) = al (s.extract k' m) by rw [bytesN_extract,List.drop_take,hm,Nat.add_sub_cancel_left],mkB_bytesN]
theorem Res.flagBad {s:ByteArray} {k k':Nat} {e x:Int} {b:Bool} (h:Res rdN s k e x k' 0) (h0:x≠0) (h1:x≠1):Res flagR s k e b k' 15:=by
 obtain ⟨rfl,n,hp,_⟩:=h.ok0
 refine Res.bad h.1 (by decide) ?_
 unfold flagR
 rw [hp]
 show (if x = 0 then _ else if x = 1 then _ else _) = _
 rw [if_neg h0,if_neg h1]
theorem Res.flagErr {s:ByteArray} {k k':Nat} {e e' x:Int} {b:Bool} (h:Res rdN s k e x k' e') (he:e'≠0):Res flagR s k e b k' e':=by
 refine ⟨h.1,h.2.1,fun h0 => ?_⟩
 have h2:=h.2.2 h0
 unfold flagR
 cases hq:rdN ((al s).drop k) with
 | ok y n => rw [hq] at h2; exact absurd h2.2.2 he
 | err E => rw [hq] at h2; exact h2
theorem Res.flag0 {s:ByteArray} {k k':Nat} {e:Int} (h:Res rdN s k e 0 k' 0):Res flagR s k e false k' 0:=by
 obtain ⟨rfl,n,hp,hn⟩:=h.ok0
 exact Res.good h.1 (n:=n) (by unfold flagR; rw [hp]; rfl) hn
theorem Res.flag1 {s:ByteArray} {k k':Nat} {e:Int} (h:Res rdN s k e 1 k' 0):Res flagR s k e true k' 0:=by
 obtain ⟨rfl,n,hp,hn⟩:=h.ok0
 exact Res.good h.1 (n:=n) (by unfold flagR; rw [hp]; rfl) hn
def errC (e E:Int):Int:=if e = 0 then E else e
theorem fail97_any (r k:Nat) (s:ByteArray) (e0 E:Int) (w:World) (h:Rdr 99 r s k e0 w) :
  Calls Tryz.prog 97 #[.pointer (some ⟨r,0,none⟩),.int .i64 E] w fun e w' => e = .returned (.tuple #[])∧Rdr 99 r s k (errC e0 E) w'∧w.grownBy w' (some r):=by
 rcases Int.decEq e0 0 with q | q
 ·refine (fail97_no r k s e0 E w h q).mono ?_
  rintro e w' ⟨rfl,rfl⟩
  exact ⟨rfl,by unfold errC; rw [if_neg q]; exact h,av _ _⟩
 subst q
 exact fail97 r k s E w h
theorem az (r k0:Nat) (s:ByteArray) (e0:Int) (w:World) (h:Rdr 99 r s k0 e0 w) (hk:k0≤s.size) (hs:s.size≤1099511627776) :
  Calls Tryz.prog 43 #[.pointer (some ⟨r,0,none⟩)] w fun e w' => ∃ x k' e',e = .returned (.int .i64 x)∧I64 x∧Rdr 99 r s k' e' w'∧w.grownBy w' (some r)∧Res rdN s k0 e0 x k' e':=by
 rcases Int.decEq e0 0 with he | he
 ·obtain ⟨c0,c1,c2,f1,f2⟩:=h.cells
  have d0:(e0 == 0) = false:=by simpa using he
  have HH:=qH h
  have HE:=qH he
  clear h he
  go_enter Tryz.func43,Tryz.ntmps43
  go_wp2_with fail
  go_loopw [3,4] (fun uv iv wr => uv = .int .u64 0∧iv = .int .i64 0∧wr = w) (fun _ _ _ => 0)
  case atStart => exact ⟨rfl,rfl,rfl⟩
  obtain ⟨rfl,rfl,hw⟩:=hrel
  subst hw
  go_wp2_with fail
  go_ret
  exact ⟨0,k0,e0,rfl,by unfold I64; omega,HH.out,av _ _,hk,fun _ => rfl,fun h => absurd h HE.out⟩
 subst he
 exact number43 r k0 s w h hk hs
theorem size195 (r k0:Nat) (s:ByteArray) (e0:Int) (w:World) (h:Rdr 99 r s k0 e0 w) (hk:k0≤s.size) (hs:s.size≤1099511627776) :
  Calls Tryz.prog 195 #[.pointer (some ⟨r,0,none⟩)] w fun e w' => ∃ (n:Nat) (k':Nat) (e':Int),e = .returned (.int .i64 (n:Int))∧k' + n≤s.size∧(e'≠0→n = 0)∧Rdr 99 r s k' e' w'∧w.grownBy w' (some r)∧Res rdS s k0 e0 n k' e':=by
 have C:=qH (az r k0 s e0 w h hk hs)
 clear h
 go_enter Tryz.func195,Tryz.ntmps195
 go_wp2_with fail
 refine C.out.mono ?_
 rintro e w1 ⟨x,k1,e1,rfl,hx,hr,hg,hres⟩
 have hk1:=hres.1
 obtain ⟨c0,c1,c2,f1,f2⟩:=hr.cells
 have HR:=qH hr
 have HG:=qH hg
 have HS:=qH hres
 clear C hr hg hres
 rcases Int.decEq e1 0 with he | he
 ·have d0:(e1 != 0) = true:=by simpa using he
  have HE:=qH he
  clear he
  go_wp2_with fail
  go_ret
  exact ⟨0,k1,e1,rfl,hk1,fun _ => rfl,HR.out,HG.out,HS.out.szErr HE.out⟩
 subst he
 by_cases hneg:x < 0
 ·have d1:decide (x < 0) = true:=by simp; omega
  have HN:=qH hneg
  clear hneg
  go_wp2_with fail
  refine (fail97 r k1 s 15 w1 HR.out).mono ?_
  rintro e w2 ⟨rfl,hr2,hg2⟩
  have HR2:=qH hr2
  clear hr2
  go_wp2_with fail
  go_ret
  exact ⟨0,k1,15,rfl,hk1,fun _ => rfl,HR2.out,an HG.out hg2,HS.out.szNeg HN.out⟩
 obtain ⟨n,rfl⟩:∃ n:Nat,x = (n:Int):=⟨x.toNat,by omega⟩
 have d1:decide ((n:Int) < 0) = false:=by simp
 have d2:¬ (n:Int) < 0:=by omega
 obtain ⟨m,hm⟩:=gX (s.size - k1)
 have q1:IntKind.i64.wrap ((s.size:Int) - (k1:Int)) = (m:Int):=by rw [IntWalk.i64_in _ (by omega)]; omega
 have q2:RowKit.wrap64 ((s.size:Int) - (k1:Int)) = (m:Int):=by rw [<- IntWalk.i64_left]; exact q1
 by_cases hbig:m < n
 ·have d3:decide ((m:Int) < (n:Int)) = true:=by simp; omega
  have HB:Hid (s.size - k1 < n):=qH (by omega)
  clear hm
  go_wp2_with fail
  go_quiet (fail)
  have HF:=qH (fun j:Nat => fail97 r k1 s 34 (w1.drewN j) (HR.out.drewN j))
  go_wp2_with fail
  refine (HF.out _).mono ?_
  rintro e w2 ⟨rfl,hr2,hg2⟩
  have HR2:=qH hr2
  clear hr2 HF
  go_wp2_with fail
  go_ret
  exact ⟨0,k1,34,rfl,hk1,fun _ => rfl,HR2.out,an (aZ HG.out _) hg2,HS.out.szBig HB.out⟩
 have d3:decide ((m:Int) < (n:Int)) = false:=by simp; omega
 have HB:Hid (¬ s.size - k1 < n):=qH (by omega)
 have HK:Hid (k1 + n≤s.size):=qH (by omega)
 clear hm
 go_wp2_with fail
 go_quiet (fail)
 go_wp2_with fail
 go_ret
 exact ⟨n,k1,0,rfl,HK.out,fun h => absurd rfl h,HR.out.drewN _,aZ HG.out _,HS.out.szOk HB.out⟩
theorem text142 (r k0:Nat) (s:ByteArray) (e0:Int) (w:World) (h:Rdr 99 r s k0 e0 w) (hk:k0≤s.size) (hs:s.size≤1099511627776) :
  Calls Tryz.prog 142 #[.pointer (some ⟨r,0,none⟩)] w fun e w' => ∃ (t:ByteArray) (k':Nat) (e':Int),e = .returned (.string t)∧t.size≤s.size∧Rdr 99 r s k' e' w'∧w.grownBy w' (some r)∧Res strR s k0 e0 t k' e':=by
 have C:=qH (size195 r k0 s e0 w h hk hs)
 clear h
 go_enter Tryz.func142,Tryz.ntmps142
 go_wp2_with fail
 refine C.out.mono ?_
 rintro e w1 ⟨n,k1,e1,rfl,hk1,hn0,hr,hg,hres⟩
 obtain ⟨m,hm⟩:=gX (k1 + n)
 have HT:Hid (Res strR s k0 e0 (s.extract k1 m) m e1):=qH (hres.text hn0 hm (by omega))
 have HZ:Hid ((s.extract k1 m).size≤s.size):=qH (by rw [ByteArray.size_extract]; omega)
 have b1:(k1:Int)≤(m:Int):=by omega
 have b2:(m:Int)≤(s.size:Int):=by omega
 have b3:k1≤m:=by omega
 have b4:m≤s.size:=by omega
 have q1:IntKind.i64.wrap ((k1:Int) + (n:Int)) = (m:Int):=by rw [IntWalk.i64_in _ (by omega)]; omega
 have q3:IntKind.i64.wrap ((m:Int) - (n:Int)) = (k1:Int):=by rw [IntWalk.i64_in _ (by omega)]; omega
 have q2:RowKit.wrap64 ((k1:Int) + (n:Int)) = (m:Int):=by rw [<- IntWalk.i64_left]; exact q1
 have q4:RowKit.wrap64 ((m:Int) - (n:Int)) = (k1:Int):=by rw [<- IntWalk.i64_left]; exact q3
 obtain ⟨c0,c1,c2,f1,f2⟩:=hr.cells
 have HR:=qH hr
 have HG:=qH hg
 clear C hr hg hres hm hk1 hn0
 go_wp2_with fail
 go_quiet (fail)
 go_wp2_with fail
 go_ret
 exact ⟨_,m,e1,rfl,HZ.out,(HR.out.drewN _).setAt m,an (aZ HG.out _) (grown_set _ _ _ _),HT.out⟩
theorem flag80 (r k0:Nat) (s:ByteArray) (e0:Int) (w:World) (h:Rdr 99 r s k0 e0 w) (hk:k0≤s.size) (hs:s.size≤1099511627776) :
  Calls Tryz.prog 80 #[.pointer (some ⟨r,0,none⟩)] w fun e w' => ∃ (b:Bool) (k':Nat) (e':Int),e = .returned (.bool b)∧Rdr 99 r s k' e' w'∧w.grownBy w' (some r)∧Res flagR s k0 e0 b k' e':=by
 have C:=qH (az r k0 s e0 w h hk hs)
 clear h
 go_enter Tryz.func80,Tryz.ntmps80
 go_wp2_with fail
 refine C.out.mono ?_
 rintro e w1 ⟨x,k1,e1,rfl,hx,hr,hg,hres⟩
 have HR:=qH hr
 have HG:=qH hg
 have HS:=qH hres
 clear C hr hg hres
 rcases Int.decEq x 0 with h0 | h0
 ·rcases Int.decEq x 1 with h1 | h1
  ·have d0:(x != 0) = true:=by simpa using h0
   have d1:(x != 1) = true:=by simpa using h1
   have d2:(x == 1) = false:=by simpa using h1
   have H0:=qH h0
   have H1:=qH h1
   clear h0 h1
   go_wp2_with fail
   refine (fail97_any r k1 s e1 15 w1 HR.out).mono ?_
   rintro e w2 ⟨rfl,hr2,hg2⟩
   have HR2:=qH hr2
   clear hr2
   go_wp2_with fail
   go_ret
   refine ⟨_,k1,errC e1 15,rfl,HR2.out,an HG.out hg2,?_⟩
   rcases Int.decEq e1 0 with q | q
   ·unfold errC
    rw [if_neg q]
    exact HS.out.flagErr q
   subst q
   exact HS.out.flagBad H0.out H1.out
  subst h1
  go_wp2_with fail
  go_ret
  refine ⟨true,k1,e1,rfl,HR.out,HG.out,?_⟩
  rcases Int.decEq e1 0 with q | q
  ·exact HS.out.flagErr q
  subst q
  exact HS.out.flag1
 subst h0
 go_wp2_with fail
 go_ret
 refine ⟨false,k1,e1,rfl,HR.out,HG.out,?_⟩
 rcases Int.decEq e1 0 with q | q
 ·exact HS.out.flagErr q
 subst q
 exact HS.out.flag0
theorem end66 (r k0:Nat) (s:ByteArray) (e0:Int) (w:World) (h:Rdr 99 r s k0 e0 w) :
  Calls Tryz.prog 66 #[.pointer (some ⟨r,0,none⟩)] w fun e w' => e = .returned (.int .i64 (if k0 < s.size then errC e0 15 else e0))∧w.grownBy w' (some r):=by
 obtain ⟨c0,c1,c2,f1,f2⟩:=h.cells
 have HR:=qH h
 clear h
 by_cases hk:k0 < s.size
 ·have d0:decide ((k0:Int) < (s.size:Int)) = true:=by simp; omega
  rw [if_pos hk]
  have b1:(k0:Int) < (s.size:Int):=by omega
  have HF:=qH (fun j:Nat => fail97_any r k0 s e0 15 (w.drewN j) (HR.out.drewN j))
  go_enter Tryz.func66,Tryz.ntmps66
  go_wp2_with fail
  go_quiet (fail)
  go_wp2_with fail
  refine (HF.out _).mono ?_
  rintro e w2 ⟨rfl,hr2,hg2⟩
  obtain ⟨c0',c1',c2',f1',f2'⟩:=hr2.cells
  have HG2:=qH (an (aZ (av w (some r)) _) hg2)
  clear hr2 hg2 HF c0 c1 c2
  go_wp2_with fail
  go_ret
  exact ⟨rfl,HG2.out⟩
 have d0:decide ((k0:Int) < (s.size:Int)) = false:=by simp; omega
 have b1:¬ (k0:Int) < (s.size:Int):=by omega
 rw [if_neg hk]
 go_enter Tryz.func66,Tryz.ntmps66
 go_wp2_with fail
 go_quiet (fail)
 go_wp2_with fail
 go_ret
 exact ⟨rfl,aZ (av w (some r)) _⟩
theorem fail44_any (r k:Nat) (s:ByteArray) (e0 E:Int) (w:World) (h:Rdr 30 r s k e0 w) :
  Calls Tryz.prog 44 #[.pointer (some ⟨r,0,none⟩),.int .i64 E] w fun e w' => e = .returned (.tuple #[])∧Rdr 30 r s k (errC e0 E) w'∧w.grownBy w' (some r):=by
 rcases Int.decEq e0 0 with q | q
 ·refine (fail44_no r k s e0 E w h q).mono ?_
  rintro e w' ⟨rfl,rfl⟩
  exact ⟨rfl,by unfold errC; rw [if_neg q]; exact h,av _ _⟩
 subst q
 exact fail44 r k s E w h
theorem aD (r k0:Nat) (s:ByteArray) (e0:Int) (w:World) (h:Rdr 30 r s k0 e0 w) (hk:k0≤s.size) (hs:s.size≤1099511627776) :
  Calls Tryz.prog 17 #[.pointer (some ⟨r,0,none⟩)] w fun e w' => ∃ x k' e',e = .returned (.int .i64 x)∧I64 x∧Rdr 30 r s k' e' w'∧w.grownBy w' (some r)∧Res rdN s k0 e0 x k' e':=by
 rcases Int.decEq e0 0 with he | he
 ·obtain ⟨c0,c1,c2,f1,f2⟩:=h.cells
  have d0:(e0 == 0) = false:=by simpa using he
  have HH:=qH h
  have HE:=qH he
  clear h he
  go_enter Tryz.func17,Tryz.ntmps17
  go_wp2_with fail
  go_loopw [3,4] (fun uv iv wr => uv = .int .u64 0∧iv = .int .i64 0∧wr = w) (fun _ _ _ => 0)
  case atStart => exact ⟨rfl,rfl,rfl⟩
  obtain ⟨rfl,rfl,hw⟩:=hrel
  subst hw
  go_wp2_with fail
  go_ret
  exact ⟨0,k0,e0,rfl,by unfold I64; omega,HH.out,av _ _,hk,fun _ => rfl,fun h => absurd h HE.out⟩
 subst he
 exact number17 r k0 s w h hk hs
theorem size73 (r k0:Nat) (s:ByteArray) (e0:Int) (w:World) (h:Rdr 30 r s k0 e0 w) (hk:k0≤s.size) (hs:s.size≤1099511627776) :
  Calls Tryz.prog 73 #[.pointer (some ⟨r,0,none⟩)] w fun e w' => ∃ (n:Nat) (k':Nat) (e':Int),e = .returned (.int .i64 (n:Int))∧k' + n≤s.size∧(e'≠0→n = 0)∧Rdr 30 r s k' e' w'∧w.grownBy w' (some r)∧Res rdS s k0 e0 n k' e':=by
 have C:=qH (aD r k0 s e0 w h hk hs)
 clear h
 go_enter Tryz.func73,Tryz.ntmps73
 go_wp2_with fail
 refine C.out.mono ?_
 rintro e w1 ⟨x,k1,e1,rfl,hx,hr,hg,hres⟩
 have hk1:=hres.1
 obtain ⟨c0,c1,c2,f1,f2⟩:=hr.cells
 have HR:=qH hr
 have HG:=qH hg
 have HS:=qH hres
 clear C hr hg hres
 rcases Int.decEq e1 0 with he | he
 ·have d0:(e1 != 0) = true:=by simpa using he
  have HE:=qH he
  clear he
  go_wp2_with fail
  go_ret
  exact ⟨0,k1,e1,rfl,hk1,fun _ => rfl,HR.out,HG.out,HS.out.szErr HE.out⟩
 subst he
 by_cases hneg:x < 0
 ·have d1:decide (x < 0) = true:=by simp; omega
  have HN:=qH hneg
  clear hneg
  go_wp2_with fail
  refine (fail44 r k1 s 15 w1 HR.out).mono ?_
  rintro e w2 ⟨rfl,hr2,hg2⟩
  have HR2:=qH hr2
  clear hr2
  go_wp2_with fail
  go_ret
  exact ⟨0,k1,15,rfl,hk1,fun _ => rfl,HR2.out,an HG.out hg2,HS.out.szNeg HN.out⟩
 obtain ⟨n,rfl⟩:∃ n:Nat,x = (n:Int):=⟨x.toNat,by omega⟩
 have d1:decide ((n:Int) < 0) = false:=by simp
 have d2:¬ (n:Int) < 0:=by omega
 obtain ⟨m,hm⟩:=gX (s.size - k1)
 have q1:IntKind.i64.wrap ((s.size:Int) - (k1:Int)) = (m:Int):=by rw [IntWalk.i64_in _ (by omega)]; omega
 have q2:RowKit.wrap64 ((s.size:Int) - (k1:Int)) = (m:Int):=by rw [<- IntWalk.i64_left]; exact q1
 by_cases hbig:m < n
 ·have d3:decide ((m:Int) < (n:Int)) = true:=by simp; omega
  have HB:Hid (s.size - k1 < n):=qH (by omega)
  clear hm
  go_wp2_with fail
  go_quiet (fail)
  have HF:=qH (fun j:Nat => fail44 r k1 s 34 (w1.drewN j) (HR.out.drewN j))
  go_wp2_with fail
  refine (HF.out _).mono ?_
  rintro e w2 ⟨rfl,hr2,hg2⟩
  have HR2:=qH hr2
  clear hr2 HF
  go_wp2_with fail
  go_ret
  exact ⟨0,k1,34,rfl,hk1,fun _ => rfl,HR2.out,an (aZ HG.out _) hg2,HS.out.szBig HB.out⟩
 have d3:decide ((m:Int) < (n:Int)) = false:=by simp; omega
 have HB:Hid (¬ s.size - k1 < n):=qH (by omega)
 have HK:Hid (k1 + n≤s.size):=qH (by omega)
 clear hm
 go_wp2_with fail
 go_quiet (fail)
 go_wp2_with fail
 go_ret
 exact ⟨n,k1,0,rfl,HK.out,fun h => absurd rfl h,HR.out.drewN _,aZ HG.out _,HS.out.szOk HB.out⟩
theorem text74 (r k0:Nat) (s:ByteArray) (e0:Int) (w:World) (h:Rdr 30 r s k0 e0 w) (hk:k0≤s.size) (hs:s.size≤1099511627776) :
  Calls Tryz.prog 74 #[.pointer (some ⟨r,0,none⟩)] w fun e w' => ∃ (t:ByteArray) (k':Nat) (e':Int),e = .returned (.string t)∧t.size≤s.size∧Rdr 30 r s k' e' w'∧w.grownBy w' (some r)∧Res strR s k0 e0 t k' e':=by
 have C:=qH (size73 r k0 s e0 w h hk hs)
 clear h
 go_enter Tryz.func74,Tryz.ntmps74
 go_wp2_with fail
 refine C.out.mono ?_
 rintro e w1 ⟨n,k1,e1,rfl,hk1,hn0,hr,hg,hres⟩
 obtain ⟨m,hm⟩:=gX (k1 + n)
 have HT:Hid (Res strR s k0 e0 (s.extract k1 m) m e1):=qH (hres.text hn0 hm (by omega))
 have HZ:Hid ((s.extract k1 m).size≤s.size):=qH (by rw [ByteArray.size_extract]; omega)
 have b1:(k1:Int)≤(m:Int):=by omega
 have b2:(m:Int)≤(s.size:Int):=by omega
 have b3:k1≤m:=by omega
 have b4:m≤s.size:=by omega
 have q1:IntKind.i64.wrap ((k1:Int) + (n:Int)) = (m:Int):=by rw [IntWalk.i64_in _ (by omega)]; omega
 have q3:IntKind.i64.wrap ((m:Int) - (n:Int)) = (k1:Int):=by rw [IntWalk.i64_in _ (by omega)]; omega
 have q2:RowKit.wrap64 ((k1:Int) + (n:Int)) = (m:Int):=by rw [<- IntWalk.i64_left]; exact q1
 have q4:RowKit.wrap64 ((m:Int) - (n:Int)) = (k1:Int):=by rw [<- IntWalk.i64_left]; exact q3
 obtain ⟨c0,c1,c2,f1,f2⟩:=hr.cells
 have HR:=qH hr
 have HG:=qH hg
 clear C hr hg hres hm hk1 hn0
 go_wp2_with fail
 go_quiet (fail)
 go_wp2_with fail
 go_ret
 exact ⟨_,m,e1,rfl,HZ.out,(HR.out.setAt m).drewN _,aZ (an HG.out (grown_set _ _ _ _)) _,HT.out⟩
theorem flag93 (r k0:Nat) (s:ByteArray) (e0:Int) (w:World) (h:Rdr 30 r s k0 e0 w) (hk:k0≤s.size) (hs:s.size≤1099511627776) :
  Calls Tryz.prog 93 #[.pointer (some ⟨r,0,none⟩)] w fun e w' => ∃ (b:Bool) (k':Nat) (e':Int),e = .returned (.bool b)∧Rdr 30 r s k' e' w'∧w.grownBy w' (some r)∧Res flagR s k0 e0 b k' e':=by
 have C:=qH (aD r k0 s e0 w h hk hs)
 clear h
 go_enter Tryz.func93,Tryz.ntmps93
 go_wp2_with fail
 refine C.out.mono ?_
 rintro e w1 ⟨x,k1,e1,rfl,hx,hr,hg,hres⟩
 have HR:=qH hr
 have HG:=qH hg
 have HS:=qH hres
 clear C hr hg hres
 rcases Int.decEq x 0 with h0 | h0
 ·rcases Int.decEq x 1 with h1 | h1
  ·have d0:(x != 0) = true:=by simpa using h0
   have d1:(x != 1) = true:=by simpa using h1
   have d2:(x == 1) = false:=by simpa using h1
   have H0:=qH h0
   have H1:=qH h1
   clear h0 h1
   go_wp2_with fail
   refine (fail44_any r k1 s e1 15 w1 HR.out).mono ?_
   rintro e w2 ⟨rfl,hr2,hg2⟩
   have HR2:=qH hr2
   clear hr2
   go_wp2_with fail
   go_ret
   refine ⟨_,k1,errC e1 15,rfl,HR2.out,an HG.out hg2,?_⟩
   rcases Int.decEq e1 0 with q | q
   ·unfold errC
    rw [if_neg q]
    exact HS.out.flagErr q
   subst q
   exact HS.out.flagBad H0.out H1.out
  subst h1
  go_wp2_with fail
  go_ret
  refine ⟨true,k1,e1,rfl,HR.out,HG.out,?_⟩
  rcases Int.decEq e1 0 with q | q
  ·exact HS.out.flagErr q
  subst q
  exact HS.out.flag1
 subst h0
 go_wp2_with fail
 go_ret
 refine ⟨false,k1,e1,rfl,HR.out,HG.out,?_⟩
 rcases Int.decEq e1 0 with q | q
 ·exact HS.out.flagErr q
 subst q
 exact HS.out.flag0
end Go.Proofs.YtmhhcfceikcfbaaGreat
namespace Go.Proofs.YtmhhcfceikcfbaaGreat
open Go.RowKit
set_option maxRecDepth 100000
set_option maxHeartbeats 4000000
theorem Res.seq {α β:Type} {p:Rd α} {q:Rd β} {s:ByteArray} {k k1 k2:Nat} {e e1 e2:Int} {x:α} {y:β} (h:Res p s k e x k1 e1) (g:Res q s k1 e1 y k2 e2):Res (seqR p q) s k e (x,y) k2 e2:=by
 refine ⟨g.1,fun he => ?_,fun he => ?_⟩
 ·have h1:=h.2.1 he
  rw [<- h1] at he ⊢
  exact g.2.1 he
 have h1:=h.2.2 he
 unfold seqR bnd
 cases hp:p ((al s).drop k) with
 | err E =>
  rw [hp] at h1
  obtain ⟨h2,h3⟩:=h1
  rw [<- h2] at h3
  have h4:=g.2.1 h3
  exact ⟨by rw [h4,h2],by rw [<- h2]; exact h3⟩
 | ok z n =>
  rw [hp] at h1
  obtain ⟨rfl,h2,h3⟩:=h1
  have g1:=g.2.2 h3
  simp only [List.drop_drop,<- h2]
  cases hq:q ((al s).drop k1) with
  | err E => rw [hq] at g1; exact g1
  | ok y2 m =>
   rw [hq] at g1
   obtain ⟨rfl,g2,g3⟩:=g1
   exact ⟨rfl,by rw [g2,h2]; simp; omega,g3⟩
theorem Rdr.alloc {ty:TypeId} {r k:Nat} {s:ByteArray} {e:Int} {w:World} (h:Rdr ty r s k e w) (o:Obj):Rdr ty r s k e (w.alloc o):=by
 unfold Rdr at h ⊢
 have hl:r < w.heap.size:=by
  rcases Nat.lt_or_ge r w.heap.size with q | q
  ·exact q
  rw [Array.getElem?_eq_none q] at h; exact absurd h (by simp)
 rw [<- h]
 exact Array.getElem?_push_lt hl ▸ (Array.getElem?_eq_getElem hl).symm ▸ rfl
theorem aK {a b:World} {r:Nat} (h:a.grownBy b (some r)) {x:Addr} {v:Value} (hx:a.cell? x = some v) (hn:x.block≠r):b.cell? x = some v:=by
 have hl:=World.block_lt_of_cell? _ _ hx
 exact (World.cell?_of_block (h.block x.block hl (fun e => hn (by injection e)))).trans hx
theorem ae {a:World} {g:Nat} {o:Obj} (hx:a.heap[g]? = some o):g < a.heap.size:=by
 rcases Nat.lt_or_ge g a.heap.size with q | q
 ·exact q
 rw [Array.getElem?_eq_none q] at hx; exact absurd hx (by simp)
theorem blk_over {a b:World} {r g:Nat} {o:Obj} (h:a.grownBy b (some r)) (hx:a.heap[g]? = some o) (hn:g≠r):b.heap[g]? = some o :=
 (h.block g (ae hx) (fun e => hn (by injection e))).trans hx
theorem ap {a b:World} {r:Nat} (h:a.grownBy b (some r)) (o:Obj):a.grownBy (b.alloc o) (some r) :=
 ⟨h.os,h.tape,h.output,by have:=h.size; simp; omega,fun k hk hr => (Below.heap_alloc b o k (Nat.lt_of_lt_of_le hk h.size)).trans (h.block k hk hr)⟩
theorem many_snoc {α:Type} (p:Rd α) (n:Nat) (l:List Nat):aR p (n + 1) l = match aR p n l with
  | .ok r k => (match p (l.drop k) with | .ok x m => .ok (r++[x]) (k + m) | .err e => .err e)
  | .err e => .err e:=by
 induction n generalizing l with
 | zero =>
  rw [many_cons]
  show _ = (match p (l.drop 0) with | Rs.ok x m => Rs.ok ([]++[x]) (0 + m) | Rs.err e => Rs.err e)
  rw [List.drop_zero]
  cases p l with
  | ok x m => show Rs.ok [x] (m + 0) = Rs.ok [x] (0 + m); rw [Nat.add_comm]
  | err e => rfl
 | succ n ih =>
  rw [many_cons,many_cons]
  cases hp:p l with
  | err e => rfl
  | ok x k =>
   simp only
   rw [ih]
   cases hm:aR p n (l.drop k) with
   | err e => rfl
   | ok r k2 =>
    simp only
    rw [List.drop_drop]
    cases p (l.drop (k + k2)) with
    | err e => rfl
    | ok y k3 => simp [Nat.add_assoc]
theorem many_err {α:Type} {p:Rd α} {i n:Nat} {l:List Nat} {E:Int} (h:aR p i l = .err E) (hn:i≤n):aR p n l = .err E:=by
 induction n with
 | zero => rw [show i = 0 by omega] at h; exact h
 | succ n ih =>
  rcases Nat.lt_or_ge n i with q | q
  ·rw [show i = n + 1 by omega] at h; exact h
  rw [many_snoc,ih q]
theorem Res.snoc {α:Type} {p:Rd α} {s:ByteArray} {k k1 k2 i:Nat} {e e2:Int} {l:List α} {x:α} (h:Res (aR p i) s k e l k1 0) (g:Res p s k1 0 x k2 e2):Res (aR p (i + 1)) s k e (l++[x]) k2 e2:=by
 obtain ⟨rfl,n,hp,hn⟩:=h.ok0
 refine ⟨g.1,fun q => absurd rfl q,fun _ => ?_⟩
 have g2:=g.2.2 rfl
 rw [many_snoc,hp]
 simp only
 rw [List.drop_drop,<- hn]
 cases hq:p ((al s).drop k1) with
 | err E => rw [hq] at g2; exact g2
 | ok y m =>
  rw [hq] at g2
  obtain ⟨rfl,g3,g4⟩:=g2
  exact ⟨rfl,by omega,g4⟩
theorem Res.manyErr {α:Type} {p:Rd α} {s:ByteArray} {k k1 i n:Nat} {e e2:Int} {l l':List α} (h:Res (aR p i) s k e l k1 e2) (he:e2≠0) (hn:i≤n):Res (aR p n) s k e l' k1 e2:=by
 refine ⟨h.1,h.2.1,fun h0 => ?_⟩
 have h2:=h.2.2 h0
 cases hq:aR p i ((al s).drop k) with
 | ok y m => rw [hq] at h2; exact absurd h2.2.2 he
 | err E => rw [hq] at h2; rw [many_err hq hn]; exact h2
theorem Res.many0 {α:Type} (p:Rd α) (s:ByteArray) (k:Nat) (e:Int) (hk:k≤s.size):Res (aR p 0) s k e [] k e :=
 ⟨hk,fun _ => rfl,fun h => ⟨rfl,rfl,h⟩⟩
theorem Res.list {α:Type} {p:Rd α} {s:ByteArray} {k k1 k2 n:Nat} {e e1 e2:Int} {l:List α} (h:Res rdS s k e n k1 e1) (g:Res (aR p n) s k1 e1 l k2 e2):Res (be p) s k e l k2 e2:=by
 refine ⟨g.1,fun he => ?_,fun he => ?_⟩
 ·have h1:=h.2.1 he
  rw [<- h1] at he ⊢
  exact g.2.1 he
 have h1:=h.2.2 he
 unfold be bnd
 cases hp:rdS ((al s).drop k) with
 | err E =>
  rw [hp] at h1
  obtain ⟨h2,h3⟩:=h1
  rw [<- h2] at h3
  have h4:=g.2.1 h3
  exact ⟨by rw [h4,h2],by rw [<- h2]; exact h3⟩
 | ok z m =>
  rw [hp] at h1
  obtain ⟨rfl,h2,h3⟩:=h1
  have g1:=g.2.2 h3
  simp only [List.drop_drop,<- h2]
  cases hq:aR p n ((al s).drop k1) with
  | err E => rw [hq] at g1; exact g1
  | ok y2 j =>
   rw [hq] at g1
   obtain ⟨rfl,g2,g3⟩:=g1
   exact ⟨rfl,by omega,g3⟩
end Go.Proofs.YtmhhcfceikcfbaaGreat
namespace Go.Proofs.YtmhhcfceikcfbaaGreat
open Go.RowKit
set_option maxRecDepth 100000
set_option maxHeartbeats 4000000
end Go.Proofs.YtmhhcfceikcfbaaGreat
namespace Go.Proofs.YtmhhcfceikcfbaaGreat
open Go.RowKit
set_option maxRecDepth 100000
set_option maxHeartbeats 4000000
theorem aP {α:Type} {enc:α→List Value} {P:Program} (w:World) {ops:Array Oper} {rest:List Oper} {o:Oper} {a:Act} {Q:Exit→Act→World→Prop}
  (hgd:o.guard = none) (s x:Operand) (t:TypeId)
  (ho:o.op = .call { callee:=.builtin .append,args:=#[s,x],argTypes:=#[t,t] })
  (base:Nat) (E:TypeId) (i:TypeInfo) (z:Value) (sz bytes:Nat) (ht:P.underlying t = some (.slice E)) (hi:P.info? E = some i) (hz:i.zero = some z)
  (hsize:i.size = sz) (hby:i.bytes = bytes) (hzs:z.cells.size = sz) (hsz:0 < sz) (he:∀ x,(enc x).length = sz) (h1:∀ x,∀ u∈enc x,u.oneCell' = true)
  (v:Value) (l:List α) (hs:a.eval s = v) (hown:Own enc sz E w base v l)
  (g c:Nat) (y:α) (hx:a.eval x = .slice (some ⟨g,0,none⟩) 1 c) (hcell:∀ j u,(enc y)[j]? = some u→w.cell? ⟨g,j,none⟩ = some u)
  (hbytes:(l.length + 1) * bytes≤140737488355328) (hlen:l.length < 140737488355328) (hbase:base≤w.heap.size)
  (h:∀ v' w',Own enc sz E w' base v' (l++[y])→w.grownBy w' v.ownBlock→(v'.ownBlock = v.ownBlock∨v'.ownBlock = some w.heap.size)→wpList P ops Q rest (a.put o.dst v') w'):wpList P ops Q (o::rest) a w:=by
 refine wpList_append_own_at _ hgd s x t ho base E i z sz bytes ht hi hz hsize hby hzs hsz v l.length (l.flatMap enc) hs hown ⟨g,0,none⟩ 1 c (enc y) hx (by rw [he,Nat.one_mul]) ?_ (h1 y) ?_ hbytes hbase ?_
 ·intro j u hu
  rw [addr_add,Nat.zero_add]
  exact hcell j u hu
 ·simp only [maxLen]; omega
 intro v' w' hown' hg _ hat
 refine h v' w' ?_ hg hat
 unfold Own
 rw [List.length_append,List.flatMap_append]
 simpa using hown'
theorem Own.base_le {α:Type} {enc:α→List Value} {sz:Nat} {E:TypeId} {w:World} {base g:Nat} {v:Value} {l:List α} (h:Own enc sz E w base v l) (hg:v.ownBlock = some g):base≤g∧g < w.heap.size:=by
 rcases h.2 with ⟨rfl,_⟩ | ⟨g',cap,cur,rfl,hb,hh,_⟩
 ·simp [Value.ownBlock] at hg
 have:g' = g:=by simpa [Value.ownBlock] using hg
 subst this
 exact ⟨hb,ae hh⟩
def Cel (sz:Nat):={ vs:List Value // vs.length = sz∧∀ u∈vs,u.oneCell' = true }
def Cel.val {sz:Nat} (x:Cel sz):List Value:=x.1
def GetI {α:Type} (R:Rp α) (p:Rd α) (sz:Nat) (E ty:TypeId) (r c:Nat) (s:ByteArray) (w:World) (k1:Nat) (e1:Int) (i k:Nat) (v:Value) (wr:World):Prop :=
 ∃ (L:List (Cel sz)) (l:List α),Own Cel.val sz E wr w.heap.size v L∧L.length = i∧l.length = i∧Rdr ty r s k e1 wr∧w.grownBy wr (some r)∧Res (aR p i) s k1 e1 l k e1∧wr.cell? ⟨c,0,none⟩ = some (.pointer (some ⟨r,0,none⟩)) ∧
  ∀ (j:Nat) (x:α),l[j]? = some x→∃ vs:Cel sz,L[j]? = some vs∧∃ G:Nat→Prop,(∀ b,G b→w.heap.size≤b∧b < wr.heap.size∧v.ownBlock≠some b)∧R wr G vs.val x
theorem GetI.start {α:Type} (R:Rp α) (p:Rd α) (sz:Nat) (E ty:TypeId) {r c k:Nat} {s:ByteArray} {w w1:World} {e1:Int} (hk:k≤s.size) (hr:Rdr ty r s k e1 w1) (hg:w.grownBy w1 (some r)) (hc:w1.cell? ⟨c,0,none⟩ = some (.pointer (some ⟨r,0,none⟩))) :
  GetI R p sz E ty r c s w k e1 0 k (.slice none 0 0) w1 :=
 ⟨[],[],Own.nil _ _,rfl,rfl,hr,hg,Res.many0 p s k e1 hk,hc,fun j x h => by simp at h⟩
theorem GetI.slv {α:Type} {R:Rp α} {p:Rd α} {sz:Nat} {E ty:TypeId} {r c:Nat} {s:ByteArray} {w:World} {k1:Nat} {e1:Int} {i k:Nat} {v:Value} {wr:World} (hR:Stb R) (h:GetI R p sz E ty r c s w k1 e1 i k v wr) :
  ∃ l,Slv R sz wr (fun b => w.heap.size≤b∧b < wr.heap.size) v l∧Rdr ty r s k e1 wr∧w.grownBy wr (some r)∧Res (aR p i) s k1 e1 l k e1:=by
 obtain ⟨L,l,hown,hL,hl,hr,hg,hres,hcc,hel⟩:=h
 refine ⟨l,?_,hr,hg,hres⟩
 have hle:L.length = l.length:=by omega
 have hsl:=hown.sl (fun x => x.2.1)
 unfold Own at hown
 rcases hown.2 with ⟨rfl,hn⟩ | ⟨g,cap,cur,rfl,hb,hh,hc1,hc2,hc3,hc4⟩
 ·have:l = []:=List.eq_nil_of_length_eq_zero (by omega)
  subst this
  exact Slv.nil _ _
 refine ⟨_,_,by rw [hle],by omega,hc2,fun hn => ⟨g,0,rfl,⟨hb,ae hh⟩,ae hh,fun j x hx => ?_⟩⟩
 obtain ⟨vs,hvs,G,hG,hRx⟩:=hel j x hx
 refine ⟨vs.val,vs.2.1,hR _ _ _ _ _ _ (fun b hb => ⟨(hG b hb).1,(hG b hb).2.1⟩) (fun b _ _ => rfl) hRx,fun q u hu => ?_⟩
 have:=World.ownsRow.cells hown (g:=g) rfl (j * sz + q) u (flatMap_get (fun x => x.2.1) L j vs hvs q u hu)
 rw [addr_add] at this
 rw [<- this]
 congr 2
 omega
theorem GetI.push {α:Type} {R:Rp α} {p:Rd α} {sz:Nat} {E ty:TypeId} {r c:Nat} {s:ByteArray} {w:World} {k1 i k k2:Nat} {v v':Value} {wr w2 wa w':World} {L:List (Cel sz)} {l:List α} {y:Cel sz} {x:α} (hR:Stb R) (hrw:r < w.heap.size) (hcw:c < w.heap.size)
  (hown:Own Cel.val sz E wr w.heap.size v L) (hL:L.length = i) (hl:l.length = i) (hg:w.grownBy wr (some r)) (hres:Res (aR p i) s k1 0 l k 0)
  (hel:∀ (j:Nat) (x:α),l[j]? = some x→∃ vs:Cel sz,L[j]? = some vs∧∃ G:Nat→Prop,(∀ b,G b→w.heap.size≤b∧b < wr.heap.size∧v.ownBlock≠some b)∧R wr G vs.val x)
  (hg2:wr.grownBy w2 (some r)) (hr2:Rdr ty r s k2 0 w2) (hc2:w2.cell? ⟨c,0,none⟩ = some (.pointer (some ⟨r,0,none⟩))) (hres2:Res p s k 0 x k2 0) (hRx:R w2 (fun b => wr.heap.size≤b∧b < w2.heap.size) y.val x)
  (hba:Below w2.heap.size w2 wa) (hown':Own Cel.val sz E w' w.heap.size v' (L++[y])) (hgo:wa.grownBy w' v.ownBlock) (hat:v'.ownBlock = v.ownBlock∨v'.ownBlock = some wa.heap.size) :
  GetI R p sz E ty r c s w k1 0 (i + 1) k2 v' w':=by
 have z1:=hg.size
 have z2:=hg2.size
 have z3:=hba.size
 have z4:=hgo.size
 have hob:∀ g,v.ownBlock = some g→w.heap.size≤g∧g < wr.heap.size:=fun g h => hown.base_le h
 have key:∀ b,b < w2.heap.size→v.ownBlock≠some b→w'.heap[b]? = w2.heap[b]?:=fun b h1 h2 =>
  (hgo.block b (by omega) (fun e => h2 e.symm)).trans (hba.block b h1)
 have keyr:∀ b,b < wr.heap.size→b≠r→v.ownBlock≠some b→w'.heap[b]? = wr.heap[b]?:=fun b h1 h2 h3 =>
  (key b (by omega) h3).trans (hg2.block b h1 (fun e => h2 (by injection e)))
 have no:∀ b,b < w.heap.size→v.ownBlock≠some b:=fun b h e => by have:=hob b e; omega
 refine ⟨L++[y],l++[x],hown',by simp [hL],by simp [hl],(key r (by omega) (no r hrw)).trans hr2,?_,Res.snoc hres hres2,(World.cell?_of_block (a:=⟨c,0,none⟩) (key c (by omega) (no c hcw))).trans hc2,?_⟩
 ·refine ⟨(hgo.os.trans hba.os).trans (hg2.os.trans hg.os),(hgo.tape.trans hba.tape).trans (hg2.tape.trans hg.tape),(hgo.output.trans hba.output).trans (hg2.output.trans hg.output),by omega,fun b hb hbr => ?_⟩
  exact (keyr b (by omega) (fun e => hbr (by rw [e])) (no b hb)).trans (hg.block b hb hbr)
 intro j x' hx'
 rcases Nat.lt_or_ge j l.length with q | q
 ·rw [List.getElem?_append_left q] at hx'
  obtain ⟨vs,hvs,G,hG,hRj⟩:=hel j x' hx'
  refine ⟨vs,by rw [List.getElem?_append_left (by omega)]; exact hvs,G,fun b hb => ?_,hR _ _ _ _ _ _ (fun _ h => h) (fun b hb hlt => ?_) hRj⟩
  ·obtain ⟨g1,g2,g3⟩:=hG b hb
   refine ⟨g1,by omega,?_⟩
   rcases hat with e | e
   ·rw [e]; exact g3
   rw [e]; intro e2; injection e2 with e3; omega
  obtain ⟨g1,g2,g3⟩:=hG b hb
  exact keyr b g2 (by omega) g3
 have hj:j = l.length:=by
  have:=(List.getElem?_eq_some_iff.1 hx').1
  simp at this
  omega
 subst hj
 have hxx:x' = x:=by simpa using hx'.symm
 subst hxx
 refine ⟨y,by rw [hl,<- hL]; simp,_,fun b hb => ?_,hR _ _ _ _ _ _ (fun _ h => h) (fun b hb hlt => ?_) hRx⟩
 ·refine ⟨by omega,by omega,?_⟩
  rcases hat with e | e
  ·rw [e]; intro e2; have:=hob b e2; omega
  rw [e]; intro e2; injection e2 with e3; omega
 exact key b hlt (fun e => by have:=hob b e; omega)
end Go.Proofs.YtmhhcfceikcfbaaGreat
