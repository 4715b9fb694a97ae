/- Arguments: the records, to all depths. -/
import Derived.Test.YtmhhcfceikcfbaaGreatDcLaw
import Derived.Test.YtmhhcfceikcfbaaGreatDcR11
namespace Go.Proofs.YtmhhcfceikcfbaaGreat
open Go.RowKit
set_option maxRecDepth 100000
set_option maxHeartbeats 4000000
def mkE:Int × Int × List Two × List Lay→List Nat:=seqE encN (seqE encN (seqE (aj twoE) (aj layE)))
def mkP:Rp (Int × Int × List Two × List Lay):=fun w G vs x => ∃ dv lv,vs = [.int .i64 x.1,.int .i64 x.2.1,dv,lv]∧I64 x.1∧I64 x.2.1∧Slv twoP 2 w G dv x.2.2.1∧Slv layP 4 w G lv x.2.2.2
abbrev LsP {α:Type} (R:Rp α) (sz:Nat):Rp (List α):=fun w G vs l => ∃ v,vs = [v]∧Slv R sz w G v l
theorem cc3:Tryz.prog.cellsOf 3 = 1:=by kernel_rfl
theorem cc4:Tryz.prog.cellsOf 4 = 1:=by kernel_rfl
theorem cc9:Tryz.prog.cellsOf 9 = 1:=by kernel_rfl
theorem cc33:Tryz.prog.cellsOf 33 = 1:=by kernel_rfl
theorem cc34:Tryz.prog.cellsOf 34 = 1:=by kernel_rfl
theorem cc35:Tryz.prog.cellsOf 35 = 1:=by kernel_rfl
theorem cc36:Tryz.prog.cellsOf 36 = 1:=by kernel_rfl
theorem cc41:Tryz.prog.cellsOf 41 = 1:=by kernel_rfl
theorem cc108:Tryz.prog.cellsOf 108 = 1:=by kernel_rfl
theorem cc42:Tryz.prog.cellsOf 42 = 1:=by kernel_rfl
theorem cc43:Tryz.prog.cellsOf 43 = 1:=by kernel_rfl
theorem cc44:Tryz.prog.cellsOf 44 = 1:=by kernel_rfl
theorem cc45:Tryz.prog.cellsOf 45 = 1:=by kernel_rfl
theorem cc51:Tryz.prog.cellsOf 51 = 1:=by kernel_rfl
theorem cc66:Tryz.prog.cellsOf 66 = 1:=by kernel_rfl
theorem cc187:Tryz.prog.cellsOf 187 = 2:=by kernel_rfl
theorem cc190:Tryz.prog.cellsOf 190 = 2:=by kernel_rfl
theorem cc201:Tryz.prog.cellsOf 201 = 4:=by kernel_rfl
theorem cc38:Tryz.prog.cellsOf 38 = 4:=by kernel_rfl
theorem cc40:Tryz.prog.cellsOf 40 = 5:=by kernel_rfl
theorem cc112:Tryz.prog.cellsOf 112 = 4:=by kernel_rfl
theorem cc107:Tryz.prog.cellsOf 107 = 6:=by kernel_rfl
theorem cc110:Tryz.prog.cellsOf 110 = 2:=by kernel_rfl
theorem cc114:Tryz.prog.cellsOf 114 = 6:=by kernel_rfl
theorem cc116:Tryz.prog.cellsOf 116 = 2:=by kernel_rfl
theorem cc47:Tryz.prog.cellsOf 47 = 4:=by kernel_rfl
theorem cc53:Tryz.prog.cellsOf 53 = 11:=by kernel_rfl
theorem cc174:Tryz.prog.cellsOf 174 = 7:=by kernel_rfl
theorem cc156:Tryz.prog.cellsOf 156 = 6:=by kernel_rfl
section
variable {H:Type} {enc:TypeId × Value→H} {w:World}
theorem bk {α:Type} {t e sz:Nat} {R:Rp α} {en:α→List Nat} {f:Nat} (ht:Tryz.prog.underlying t = some (.slice e)) (hc:Tryz.prog.cellsOf e = sz) (hsz:0 < sz) (h:RdA enc w e sz R en f):RdA enc w t 1 (LsP R sz) (aj en) f:=(rdA_slice ht hc hsz h).le (Nat.le_succ _)
theorem rdA_187 (f:Nat):RdA enc w 187 2 twoP twoE (f + 1):=by
 intro fuel cs y hf hy hb
 obtain ⟨xs,n,rfl,rfl,hl,hlen,hg⟩:=DataW.trod_struct Tryz.underlying187 hy
 rw [cc187] at hl
 obtain ⟨c0,c1,rfl⟩:∃ c0 c1,cs = [c0,c1]:=by
  match cs,hl with
  | [c0,c1],_ => exact ⟨_,_,rfl⟩
 obtain ⟨y0,y1,rfl⟩:∃ y0 y1,xs = [y0,y1]:=by
  match xs,hlen with
  | [y0,y1],_ => exact ⟨_,_,rfl⟩
 simp only [List.map_cons,List.map_nil,Rows.uptoBulk,Rows.uptoBulkAll] at hb ⊢
 have h0:DataW.trod enc Tryz.prog w 0 (fun _ => true) true n 3 (List.take (Tryz.prog.cellsOf 3) (List.drop 0 [c0,c1])) = some y0:=hg 0 _ rfl
 rw [cc3] at h0
 obtain ⟨_,x0,r0,b0⟩:=(aX n) n [c0] y0 (by omega) h0 (by omega)
 have h1:DataW.trod enc Tryz.prog w 0 (fun _ => true) true n 3 (List.take (Tryz.prog.cellsOf 3) (List.drop 1 [c0,c1])) = some y1:=hg 1 _ rfl
 rw [cc3] at h1
 obtain ⟨_,x1,r1,b1⟩:=(aX n) n [c1] y1 (by omega) h1 (by omega)
 obtain ⟨q0,i0⟩:=r0
 injection q0 with q0 _
 obtain ⟨q1,i1⟩:=r1
 injection q1 with q1 _
 clear hg hl hlen hy h0 h1
 subst q0
 subst q1
 refine ⟨rfl,(x0,x1),⟨rfl,i0,i1⟩,?_⟩
 simp only [twoE,seqE,List.length_append] at *
 omega
theorem rdA_190 (f:Nat):RdA enc w 190 2 twoP twoE (f + 1):=by
 intro fuel cs y hf hy hb
 obtain ⟨xs,n,rfl,rfl,hl,hlen,hg⟩:=DataW.trod_struct Tryz.underlying190 hy
 rw [cc190] at hl
 obtain ⟨c0,c1,rfl⟩:∃ c0 c1,cs = [c0,c1]:=by
  match cs,hl with
  | [c0,c1],_ => exact ⟨_,_,rfl⟩
 obtain ⟨y0,y1,rfl⟩:∃ y0 y1,xs = [y0,y1]:=by
  match xs,hlen with
  | [y0,y1],_ => exact ⟨_,_,rfl⟩
 simp only [List.map_cons,List.map_nil,Rows.uptoBulk,Rows.uptoBulkAll] at hb ⊢
 have h0:DataW.trod enc Tryz.prog w 0 (fun _ => true) true n 3 (List.take (Tryz.prog.cellsOf 3) (List.drop 0 [c0,c1])) = some y0:=hg 0 _ rfl
 rw [cc3] at h0
 obtain ⟨_,x0,r0,b0⟩:=(aX n) n [c0] y0 (by omega) h0 (by omega)
 have h1:DataW.trod enc Tryz.prog w 0 (fun _ => true) true n 3 (List.take (Tryz.prog.cellsOf 3) (List.drop 1 [c0,c1])) = some y1:=hg 1 _ rfl
 rw [cc3] at h1
 obtain ⟨_,x1,r1,b1⟩:=(aX n) n [c1] y1 (by omega) h1 (by omega)
 obtain ⟨q0,i0⟩:=r0
 injection q0 with q0 _
 obtain ⟨q1,i1⟩:=r1
 injection q1 with q1 _
 clear hg hl hlen hy h0 h1
 subst q0
 subst q1
 refine ⟨rfl,(x0,x1),⟨rfl,i0,i1⟩,?_⟩
 simp only [twoE,seqE,List.length_append] at *
 omega
theorem rdA_201 (f:Nat):RdA enc w 201 4 layP layE (f + 1):=by
 intro fuel cs y hf hy hb
 obtain ⟨xs,n,rfl,rfl,hl,hlen,hg⟩:=DataW.trod_struct Tryz.underlying201 hy
 rw [cc201] at hl
 obtain ⟨c0,c1,c2,c3,rfl⟩:∃ c0 c1 c2 c3,cs = [c0,c1,c2,c3]:=by
  match cs,hl with
  | [c0,c1,c2,c3],_ => exact ⟨_,_,_,_,rfl⟩
 obtain ⟨y0,y1,y2,y3,rfl⟩:∃ y0 y1 y2 y3,xs = [y0,y1,y2,y3]:=by
  match xs,hlen with
  | [y0,y1,y2,y3],_ => exact ⟨_,_,_,_,rfl⟩
 simp only [List.map_cons,List.map_nil,Rows.uptoBulk,Rows.uptoBulkAll] at hb ⊢
 have h0:DataW.trod enc Tryz.prog w 0 (fun _ => true) true n 3 (List.take (Tryz.prog.cellsOf 3) (List.drop 0 [c0,c1,c2,c3])) = some y0:=hg 0 _ rfl
 rw [cc3] at h0
 obtain ⟨_,x0,r0,b0⟩:=(aX n) n [c0] y0 (by omega) h0 (by omega)
 have h1:DataW.trod enc Tryz.prog w 0 (fun _ => true) true n 3 (List.take (Tryz.prog.cellsOf 3) (List.drop 1 [c0,c1,c2,c3])) = some y1:=hg 1 _ rfl
 rw [cc3] at h1
 obtain ⟨_,x1,r1,b1⟩:=(aX n) n [c1] y1 (by omega) h1 (by omega)
 have h2:DataW.trod enc Tryz.prog w 0 (fun _ => true) true n 3 (List.take (Tryz.prog.cellsOf 3) (List.drop 2 [c0,c1,c2,c3])) = some y2:=hg 2 _ rfl
 rw [cc3] at h2
 obtain ⟨_,x2,r2,b2⟩:=(aX n) n [c2] y2 (by omega) h2 (by omega)
 have h3:DataW.trod enc Tryz.prog w 0 (fun _ => true) true n 4 (List.take (Tryz.prog.cellsOf 4) (List.drop 3 [c0,c1,c2,c3])) = some y3:=hg 3 _ rfl
 rw [cc4] at h3
 obtain ⟨_,x3,r3,b3⟩:=(rdA_bool n) n [c3] y3 (by omega) h3 (by omega)
 obtain ⟨q0,i0⟩:=r0
 injection q0 with q0 _
 obtain ⟨q1,i1⟩:=r1
 injection q1 with q1 _
 obtain ⟨q2,i2⟩:=r2
 injection q2 with q2 _
 have q3:=r3
 unfold boolP at q3
 injection q3 with q3 _
 clear hg hl hlen hy h0 h1 h2 h3
 subst q0
 subst q1
 subst q2
 subst q3
 refine ⟨rfl,(x0,x1,x2,x3),⟨rfl,i0,i1,i2,trivial⟩,?_⟩
 simp only [layE,seqE,List.length_append] at *
 omega
theorem rdA_34 (f:Nat):RdA enc w 34 1 (LsP twoP 2) (aj twoE) f:=bk Tryz.underlying34 cc187 (by decide) ((rdA_187 f).le (Nat.le_succ _))
theorem rdA_35 (f:Nat):RdA enc w 35 1 (LsP twoP 2) (aj twoE) f:=bk Tryz.underlying35 cc190 (by decide) ((rdA_190 f).le (Nat.le_succ _))
theorem rdA_36 (f:Nat):RdA enc w 36 1 (LsP layP 4) (aj layE) f:=bk Tryz.underlying36 cc201 (by decide) ((rdA_201 f).le (Nat.le_succ _))
theorem rdA_38 (f:Nat):RdA enc w 38 4 mkP mkE (f + 1):=by
 intro fuel cs y hf hy hb
 obtain ⟨xs,n,rfl,rfl,hl,hlen,hg⟩:=DataW.trod_struct Tryz.underlying38 hy
 rw [cc38] at hl
 obtain ⟨c0,c1,c2,c3,rfl⟩:∃ c0 c1 c2 c3,cs = [c0,c1,c2,c3]:=by
  match cs,hl with
  | [c0,c1,c2,c3],_ => exact ⟨_,_,_,_,rfl⟩
 obtain ⟨y0,y1,y2,y3,rfl⟩:∃ y0 y1 y2 y3,xs = [y0,y1,y2,y3]:=by
  match xs,hlen with
  | [y0,y1,y2,y3],_ => exact ⟨_,_,_,_,rfl⟩
 simp only [List.map_cons,List.map_nil,Rows.uptoBulk,Rows.uptoBulkAll] at hb ⊢
 have h0:DataW.trod enc Tryz.prog w 0 (fun _ => true) true n 3 (List.take (Tryz.prog.cellsOf 3) (List.drop 0 [c0,c1,c2,c3])) = some y0:=hg 0 _ rfl
 rw [cc3] at h0
 obtain ⟨_,x0,r0,b0⟩:=(aX n) n [c0] y0 (by omega) h0 (by omega)
 have h1:DataW.trod enc Tryz.prog w 0 (fun _ => true) true n 3 (List.take (Tryz.prog.cellsOf 3) (List.drop 1 [c0,c1,c2,c3])) = some y1:=hg 1 _ rfl
 rw [cc3] at h1
 obtain ⟨_,x1,r1,b1⟩:=(aX n) n [c1] y1 (by omega) h1 (by omega)
 have h2:DataW.trod enc Tryz.prog w 0 (fun _ => true) true n 35 (List.take (Tryz.prog.cellsOf 35) (List.drop 2 [c0,c1,c2,c3])) = some y2:=hg 2 _ rfl
 rw [cc35] at h2
 obtain ⟨_,x2,r2,b2⟩:=(rdA_35 n) n [c2] y2 (by omega) h2 (by omega)
 have h3:DataW.trod enc Tryz.prog w 0 (fun _ => true) true n 36 (List.take (Tryz.prog.cellsOf 36) (List.drop 3 [c0,c1,c2,c3])) = some y3:=hg 3 _ rfl
 rw [cc36] at h3
 obtain ⟨_,x3,r3,b3⟩:=(rdA_36 n) n [c3] y3 (by omega) h3 (by omega)
 obtain ⟨q0,i0⟩:=r0
 injection q0 with q0 _
 obtain ⟨q1,i1⟩:=r1
 injection q1 with q1 _
 obtain ⟨v2,q2,l2⟩:=r2
 injection q2 with q2 _
 obtain ⟨v3,q3,l3⟩:=r3
 injection q3 with q3 _
 clear hg hl hlen hy h0 h1 h2 h3
 subst q0
 subst q1
 subst q2
 subst q3
 refine ⟨rfl,(x0,x1,x2,x3),⟨_,_,rfl,i0,i1,l2,l3⟩,?_⟩
 simp only [mkE,seqE,List.length_append] at *
 omega
theorem rdA_40 (f:Nat):RdA enc w 40 5 hdP hdE (f + 1):=by
 intro fuel cs y hf hy hb
 obtain ⟨xs,n,rfl,rfl,hl,hlen,hg⟩:=DataW.trod_struct Tryz.underlying40 hy
 rw [cc40] at hl
 obtain ⟨c0,c1,c2,c3,c4,rfl⟩:∃ c0 c1 c2 c3 c4,cs = [c0,c1,c2,c3,c4]:=by
  match cs,hl with
  | [c0,c1,c2,c3,c4],_ => exact ⟨_,_,_,_,_,rfl⟩
 obtain ⟨y0,y1,rfl⟩:∃ y0 y1,xs = [y0,y1]:=by
  match xs,hlen with
  | [y0,y1],_ => exact ⟨_,_,rfl⟩
 simp only [List.map_cons,List.map_nil,Rows.uptoBulk,Rows.uptoBulkAll] at hb ⊢
 have h0:DataW.trod enc Tryz.prog w 0 (fun _ => true) true n 34 (List.take (Tryz.prog.cellsOf 34) (List.drop 0 [c0,c1,c2,c3,c4])) = some y0:=hg 0 _ rfl
 rw [cc34] at h0
 obtain ⟨_,x0,r0,b0⟩:=(rdA_34 n) n [c0] y0 (by omega) h0 (by omega)
 have h1:DataW.trod enc Tryz.prog w 0 (fun _ => true) true n 38 (List.take (Tryz.prog.cellsOf 38) (List.drop 1 [c0,c1,c2,c3,c4])) = some y1:=hg 1 _ rfl
 rw [cc38] at h1
 obtain ⟨_,x1,r1,b1⟩:=((rdA_38 n).le (Nat.le_succ _)) n [c1,c2,c3,c4] y1 (by omega) h1 (by omega)
 obtain ⟨v0,q0,l0⟩:=r0
 injection q0 with q0 _
 clear hg hl hlen hy h0 h1
 subst q0
 obtain ⟨dv,lv,q,i1,i2,l2,l3⟩:=r1
 injection q with q0 q
 injection q with q1 q
 injection q with q2 q
 injection q with q3 q
 subst q0 q1 q2 q3
 refine ⟨rfl,(x0,x1.1,x1.2.1,x1.2.2.1,x1.2.2.2),⟨_,_,_,rfl,i1,i2,l0,l2,l3⟩,?_⟩
 simp only [hdE,mkE,seqE,List.length_append] at *
 omega
theorem rdA_112 (f:Nat):RdA enc w 112 4 lvlP lvlE (f + 1):=by
 intro fuel cs y hf hy hb
 obtain ⟨xs,n,rfl,rfl,hl,hlen,hg⟩:=DataW.trod_struct Tryz.underlying112 hy
 rw [cc112] at hl
 obtain ⟨c0,c1,c2,c3,rfl⟩:∃ c0 c1 c2 c3,cs = [c0,c1,c2,c3]:=by
  match cs,hl with
  | [c0,c1,c2,c3],_ => exact ⟨_,_,_,_,rfl⟩
 obtain ⟨y0,y1,y2,y3,rfl⟩:∃ y0 y1 y2 y3,xs = [y0,y1,y2,y3]:=by
  match xs,hlen with
  | [y0,y1,y2,y3],_ => exact ⟨_,_,_,_,rfl⟩
 simp only [List.map_cons,List.map_nil,Rows.uptoBulk,Rows.uptoBulkAll] at hb ⊢
 have h0:DataW.trod enc Tryz.prog w 0 (fun _ => true) true n 3 (List.take (Tryz.prog.cellsOf 3) (List.drop 0 [c0,c1,c2,c3])) = some y0:=hg 0 _ rfl
 rw [cc3] at h0
 obtain ⟨_,x0,r0,b0⟩:=(aX n) n [c0] y0 (by omega) h0 (by omega)
 have h1:DataW.trod enc Tryz.prog w 0 (fun _ => true) true n 3 (List.take (Tryz.prog.cellsOf 3) (List.drop 1 [c0,c1,c2,c3])) = some y1:=hg 1 _ rfl
 rw [cc3] at h1
 obtain ⟨_,x1,r1,b1⟩:=(aX n) n [c1] y1 (by omega) h1 (by omega)
 have h2:DataW.trod enc Tryz.prog w 0 (fun _ => true) true n 9 (List.take (Tryz.prog.cellsOf 9) (List.drop 2 [c0,c1,c2,c3])) = some y2:=hg 2 _ rfl
 rw [cc9] at h2
 obtain ⟨_,x2,r2,b2⟩:=(rdA_str n) n [c2] y2 (by omega) h2 (by omega)
 have h3:DataW.trod enc Tryz.prog w 0 (fun _ => true) true n 3 (List.take (Tryz.prog.cellsOf 3) (List.drop 3 [c0,c1,c2,c3])) = some y3:=hg 3 _ rfl
 rw [cc3] at h3
 obtain ⟨_,x3,r3,b3⟩:=(aX n) n [c3] y3 (by omega) h3 (by omega)
 obtain ⟨q0,i0⟩:=r0
 injection q0 with q0 _
 obtain ⟨q1,i1⟩:=r1
 injection q1 with q1 _
 obtain ⟨q2,i2⟩:=r2
 injection q2 with q2 _
 obtain ⟨q3,i3⟩:=r3
 injection q3 with q3 _
 clear hg hl hlen hy h0 h1 h2 h3
 subst q0
 subst q1
 subst q2
 subst q3
 refine ⟨rfl,(x0,x1,x2,x3),⟨rfl,i0,i1,i2,i3⟩,?_⟩
 simp only [lvlE,seqE,List.length_append] at *
 omega
theorem rdA_108 (f:Nat):RdA enc w 108 1 (LsP lvlP 4) (aj lvlE) f:=bk Tryz.underlying108 cc112 (by decide) ((rdA_112 f).le (Nat.le_succ _))
theorem rdA_107 (f:Nat):RdA enc w 107 6 styP styE (f + 1):=by
 intro fuel cs y hf hy hb
 obtain ⟨xs,n,rfl,rfl,hl,hlen,hg⟩:=DataW.trod_struct Tryz.underlying107 hy
 rw [cc107] at hl
 obtain ⟨c0,c1,c2,c3,c4,c5,rfl⟩:∃ c0 c1 c2 c3 c4 c5,cs = [c0,c1,c2,c3,c4,c5]:=by
  match cs,hl with
  | [c0,c1,c2,c3,c4,c5],_ => exact ⟨_,_,_,_,_,_,rfl⟩
 obtain ⟨y0,y1,y2,y3,y4,y5,rfl⟩:∃ y0 y1 y2 y3 y4 y5,xs = [y0,y1,y2,y3,y4,y5]:=by
  match xs,hlen with
  | [y0,y1,y2,y3,y4,y5],_ => exact ⟨_,_,_,_,_,_,rfl⟩
 simp only [List.map_cons,List.map_nil,Rows.uptoBulk,Rows.uptoBulkAll] at hb ⊢
 have h0:DataW.trod enc Tryz.prog w 0 (fun _ => true) true n 3 (List.take (Tryz.prog.cellsOf 3) (List.drop 0 [c0,c1,c2,c3,c4,c5])) = some y0:=hg 0 _ rfl
 rw [cc3] at h0
 obtain ⟨_,x0,r0,b0⟩:=(aX n) n [c0] y0 (by omega) h0 (by omega)
 have h1:DataW.trod enc Tryz.prog w 0 (fun _ => true) true n 3 (List.take (Tryz.prog.cellsOf 3) (List.drop 1 [c0,c1,c2,c3,c4,c5])) = some y1:=hg 1 _ rfl
 rw [cc3] at h1
 obtain ⟨_,x1,r1,b1⟩:=(aX n) n [c1] y1 (by omega) h1 (by omega)
 have h2:DataW.trod enc Tryz.prog w 0 (fun _ => true) true n 9 (List.take (Tryz.prog.cellsOf 9) (List.drop 2 [c0,c1,c2,c3,c4,c5])) = some y2:=hg 2 _ rfl
 rw [cc9] at h2
 obtain ⟨_,x2,r2,b2⟩:=(rdA_str n) n [c2] y2 (by omega) h2 (by omega)
 have h3:DataW.trod enc Tryz.prog w 0 (fun _ => true) true n 3 (List.take (Tryz.prog.cellsOf 3) (List.drop 3 [c0,c1,c2,c3,c4,c5])) = some y3:=hg 3 _ rfl
 rw [cc3] at h3
 obtain ⟨_,x3,r3,b3⟩:=(aX n) n [c3] y3 (by omega) h3 (by omega)
 have h4:DataW.trod enc Tryz.prog w 0 (fun _ => true) true n 3 (List.take (Tryz.prog.cellsOf 3) (List.drop 4 [c0,c1,c2,c3,c4,c5])) = some y4:=hg 4 _ rfl
 rw [cc3] at h4
 obtain ⟨_,x4,r4,b4⟩:=(aX n) n [c4] y4 (by omega) h4 (by omega)
 have h5:DataW.trod enc Tryz.prog w 0 (fun _ => true) true n 34 (List.take (Tryz.prog.cellsOf 34) (List.drop 5 [c0,c1,c2,c3,c4,c5])) = some y5:=hg 5 _ rfl
 rw [cc34] at h5
 obtain ⟨_,x5,r5,b5⟩:=(rdA_34 n) n [c5] y5 (by omega) h5 (by omega)
 obtain ⟨q0,i0⟩:=r0
 injection q0 with q0 _
 obtain ⟨q1,i1⟩:=r1
 injection q1 with q1 _
 obtain ⟨q2,i2⟩:=r2
 injection q2 with q2 _
 obtain ⟨q3,i3⟩:=r3
 injection q3 with q3 _
 obtain ⟨q4,i4⟩:=r4
 injection q4 with q4 _
 obtain ⟨v5,q5,l5⟩:=r5
 injection q5 with q5 _
 clear hg hl hlen hy h0 h1 h2 h3 h4 h5
 subst q0
 subst q1
 subst q2
 subst q3
 subst q4
 subst q5
 refine ⟨rfl,(x0,x1,x2,x3,x4,x5),⟨_,rfl,⟨i0,i1,i2,i3,i4⟩,l5⟩,?_⟩
 simp only [styE,seqE,List.length_append] at *
 omega
theorem rdA_110 (f:Nat):RdA enc w 110 2 lstP lstE (f + 1):=by
 intro fuel cs y hf hy hb
 obtain ⟨xs,n,rfl,rfl,hl,hlen,hg⟩:=DataW.trod_struct Tryz.underlying110 hy
 rw [cc110] at hl
 obtain ⟨c0,c1,rfl⟩:∃ c0 c1,cs = [c0,c1]:=by
  match cs,hl with
  | [c0,c1],_ => exact ⟨_,_,rfl⟩
 obtain ⟨y0,y1,rfl⟩:∃ y0 y1,xs = [y0,y1]:=by
  match xs,hlen with
  | [y0,y1],_ => exact ⟨_,_,rfl⟩
 simp only [List.map_cons,List.map_nil,Rows.uptoBulk,Rows.uptoBulkAll] at hb ⊢
 have h0:DataW.trod enc Tryz.prog w 0 (fun _ => true) true n 3 (List.take (Tryz.prog.cellsOf 3) (List.drop 0 [c0,c1])) = some y0:=hg 0 _ rfl
 rw [cc3] at h0
 obtain ⟨_,x0,r0,b0⟩:=(aX n) n [c0] y0 (by omega) h0 (by omega)
 have h1:DataW.trod enc Tryz.prog w 0 (fun _ => true) true n 108 (List.take (Tryz.prog.cellsOf 108) (List.drop 1 [c0,c1])) = some y1:=hg 1 _ rfl
 rw [cc108] at h1
 obtain ⟨_,x1,r1,b1⟩:=(rdA_108 n) n [c1] y1 (by omega) h1 (by omega)
 obtain ⟨q0,i0⟩:=r0
 injection q0 with q0 _
 obtain ⟨v1,q1,l1⟩:=r1
 injection q1 with q1 _
 clear hg hl hlen hy h0 h1
 subst q0
 subst q1
 refine ⟨rfl,(x0,x1),⟨_,rfl,i0,l1⟩,?_⟩
 simp only [lstE,seqE,List.length_append] at *
 omega
theorem rdA_114 (f:Nat):RdA enc w 114 6 cmtP cmtE (f + 1):=by
 intro fuel cs y hf hy hb
 obtain ⟨xs,n,rfl,rfl,hl,hlen,hg⟩:=DataW.trod_struct Tryz.underlying114 hy
 rw [cc114] at hl
 obtain ⟨c0,c1,c2,c3,c4,c5,rfl⟩:∃ c0 c1 c2 c3 c4 c5,cs = [c0,c1,c2,c3,c4,c5]:=by
  match cs,hl with
  | [c0,c1,c2,c3,c4,c5],_ => exact ⟨_,_,_,_,_,_,rfl⟩
 obtain ⟨y0,y1,y2,y3,y4,y5,rfl⟩:∃ y0 y1 y2 y3 y4 y5,xs = [y0,y1,y2,y3,y4,y5]:=by
  match xs,hlen with
  | [y0,y1,y2,y3,y4,y5],_ => exact ⟨_,_,_,_,_,_,rfl⟩
 simp only [List.map_cons,List.map_nil,Rows.uptoBulk,Rows.uptoBulkAll] at hb ⊢
 have h0:DataW.trod enc Tryz.prog w 0 (fun _ => true) true n 3 (List.take (Tryz.prog.cellsOf 3) (List.drop 0 [c0,c1,c2,c3,c4,c5])) = some y0:=hg 0 _ rfl
 rw [cc3] at h0
 obtain ⟨_,x0,r0,b0⟩:=(aX n) n [c0] y0 (by omega) h0 (by omega)
 have h1:DataW.trod enc Tryz.prog w 0 (fun _ => true) true n 3 (List.take (Tryz.prog.cellsOf 3) (List.drop 1 [c0,c1,c2,c3,c4,c5])) = some y1:=hg 1 _ rfl
 rw [cc3] at h1
 obtain ⟨_,x1,r1,b1⟩:=(aX n) n [c1] y1 (by omega) h1 (by omega)
 have h2:DataW.trod enc Tryz.prog w 0 (fun _ => true) true n 9 (List.take (Tryz.prog.cellsOf 9) (List.drop 2 [c0,c1,c2,c3,c4,c5])) = some y2:=hg 2 _ rfl
 rw [cc9] at h2
 obtain ⟨_,x2,r2,b2⟩:=(rdA_str n) n [c2] y2 (by omega) h2 (by omega)
 have h3:DataW.trod enc Tryz.prog w 0 (fun _ => true) true n 3 (List.take (Tryz.prog.cellsOf 3) (List.drop 3 [c0,c1,c2,c3,c4,c5])) = some y3:=hg 3 _ rfl
 rw [cc3] at h3
 obtain ⟨_,x3,r3,b3⟩:=(aX n) n [c3] y3 (by omega) h3 (by omega)
 have h4:DataW.trod enc Tryz.prog w 0 (fun _ => true) true n 9 (List.take (Tryz.prog.cellsOf 9) (List.drop 4 [c0,c1,c2,c3,c4,c5])) = some y4:=hg 4 _ rfl
 rw [cc9] at h4
 obtain ⟨_,x4,r4,b4⟩:=(rdA_str n) n [c4] y4 (by omega) h4 (by omega)
 have h5:DataW.trod enc Tryz.prog w 0 (fun _ => true) true n 4 (List.take (Tryz.prog.cellsOf 4) (List.drop 5 [c0,c1,c2,c3,c4,c5])) = some y5:=hg 5 _ rfl
 rw [cc4] at h5
 obtain ⟨_,x5,r5,b5⟩:=(rdA_bool n) n [c5] y5 (by omega) h5 (by omega)
 obtain ⟨q0,i0⟩:=r0
 injection q0 with q0 _
 obtain ⟨q1,i1⟩:=r1
 injection q1 with q1 _
 obtain ⟨q2,i2⟩:=r2
 injection q2 with q2 _
 obtain ⟨q3,i3⟩:=r3
 injection q3 with q3 _
 obtain ⟨q4,i4⟩:=r4
 injection q4 with q4 _
 have q5:=r5
 unfold boolP at q5
 injection q5 with q5 _
 clear hg hl hlen hy h0 h1 h2 h3 h4 h5
 subst q0
 subst q1
 subst q2
 subst q3
 subst q4
 subst q5
 refine ⟨rfl,(x0,x1,x2,x3,x4,x5),⟨rfl,i0,i1,i2,i3,i4,trivial⟩,?_⟩
 simp only [cmtE,seqE,List.length_append] at *
 omega
theorem rdA_116 (f:Nat):RdA enc w 116 2 vrP vrE (f + 1):=by
 intro fuel cs y hf hy hb
 obtain ⟨xs,n,rfl,rfl,hl,hlen,hg⟩:=DataW.trod_struct Tryz.underlying116 hy
 rw [cc116] at hl
 obtain ⟨c0,c1,rfl⟩:∃ c0 c1,cs = [c0,c1]:=by
  match cs,hl with
  | [c0,c1],_ => exact ⟨_,_,rfl⟩
 obtain ⟨y0,y1,rfl⟩:∃ y0 y1,xs = [y0,y1]:=by
  match xs,hlen with
  | [y0,y1],_ => exact ⟨_,_,rfl⟩
 simp only [List.map_cons,List.map_nil,Rows.uptoBulk,Rows.uptoBulkAll] at hb ⊢
 have h0:DataW.trod enc Tryz.prog w 0 (fun _ => true) true n 9 (List.take (Tryz.prog.cellsOf 9) (List.drop 0 [c0,c1])) = some y0:=hg 0 _ rfl
 rw [cc9] at h0
 obtain ⟨_,x0,r0,b0⟩:=(rdA_str n) n [c0] y0 (by omega) h0 (by omega)
 have h1:DataW.trod enc Tryz.prog w 0 (fun _ => true) true n 9 (List.take (Tryz.prog.cellsOf 9) (List.drop 1 [c0,c1])) = some y1:=hg 1 _ rfl
 rw [cc9] at h1
 obtain ⟨_,x1,r1,b1⟩:=(rdA_str n) n [c1] y1 (by omega) h1 (by omega)
 obtain ⟨q0,i0⟩:=r0
 injection q0 with q0 _
 obtain ⟨q1,i1⟩:=r1
 injection q1 with q1 _
 clear hg hl hlen hy h0 h1
 subst q0
 subst q1
 refine ⟨rfl,(x0,x1),⟨rfl,i0,i1⟩,?_⟩
 simp only [vrE,seqE,List.length_append] at *
 omega
theorem rdA_42 (f:Nat):RdA enc w 42 1 (LsP styP 6) (aj styE) f:=bk Tryz.underlying42 cc107 (by decide) ((rdA_107 f).le (Nat.le_succ _))
theorem rdA_43 (f:Nat):RdA enc w 43 1 (LsP lstP 2) (aj lstE) f:=bk Tryz.underlying43 cc110 (by decide) ((rdA_110 f).le (Nat.le_succ _))
theorem rdA_44 (f:Nat):RdA enc w 44 1 (LsP cmtP 6) (aj cmtE) f:=bk Tryz.underlying44 cc114 (by decide) ((rdA_114 f).le (Nat.le_succ _))
theorem rdA_45 (f:Nat):RdA enc w 45 1 (LsP vrP 2) (aj vrE) f:=bk Tryz.underlying45 cc116 (by decide) ((rdA_116 f).le (Nat.le_succ _))
theorem rdA_47 (f:Nat):RdA enc w 47 4 stgP stgE (f + 1):=by
 intro fuel cs y hf hy hb
 obtain ⟨xs,n,rfl,rfl,hl,hlen,hg⟩:=DataW.trod_struct Tryz.underlying47 hy
 rw [cc47] at hl
 obtain ⟨c0,c1,c2,c3,rfl⟩:∃ c0 c1 c2 c3,cs = [c0,c1,c2,c3]:=by
  match cs,hl with
  | [c0,c1,c2,c3],_ => exact ⟨_,_,_,_,rfl⟩
 obtain ⟨y0,y1,y2,y3,rfl⟩:∃ y0 y1 y2 y3,xs = [y0,y1,y2,y3]:=by
  match xs,hlen with
  | [y0,y1,y2,y3],_ => exact ⟨_,_,_,_,rfl⟩
 simp only [List.map_cons,List.map_nil,Rows.uptoBulk,Rows.uptoBulkAll] at hb ⊢
 have h0:DataW.trod enc Tryz.prog w 0 (fun _ => true) true n 42 (List.take (Tryz.prog.cellsOf 42) (List.drop 0 [c0,c1,c2,c3])) = some y0:=hg 0 _ rfl
 rw [cc42] at h0
 obtain ⟨_,x0,r0,b0⟩:=(rdA_42 n) n [c0] y0 (by omega) h0 (by omega)
 have h1:DataW.trod enc Tryz.prog w 0 (fun _ => true) true n 43 (List.take (Tryz.prog.cellsOf 43) (List.drop 1 [c0,c1,c2,c3])) = some y1:=hg 1 _ rfl
 rw [cc43] at h1
 obtain ⟨_,x1,r1,b1⟩:=(rdA_43 n) n [c1] y1 (by omega) h1 (by omega)
 have h2:DataW.trod enc Tryz.prog w 0 (fun _ => true) true n 44 (List.take (Tryz.prog.cellsOf 44) (List.drop 2 [c0,c1,c2,c3])) = some y2:=hg 2 _ rfl
 rw [cc44] at h2
 obtain ⟨_,x2,r2,b2⟩:=(rdA_44 n) n [c2] y2 (by omega) h2 (by omega)
 have h3:DataW.trod enc Tryz.prog w 0 (fun _ => true) true n 45 (List.take (Tryz.prog.cellsOf 45) (List.drop 3 [c0,c1,c2,c3])) = some y3:=hg 3 _ rfl
 rw [cc45] at h3
 obtain ⟨_,x3,r3,b3⟩:=(rdA_45 n) n [c3] y3 (by omega) h3 (by omega)
 obtain ⟨v0,q0,l0⟩:=r0
 injection q0 with q0 _
 obtain ⟨v1,q1,l1⟩:=r1
 injection q1 with q1 _
 obtain ⟨v2,q2,l2⟩:=r2
 injection q2 with q2 _
 obtain ⟨v3,q3,l3⟩:=r3
 injection q3 with q3 _
 clear hg hl hlen hy h0 h1 h2 h3
 subst q0
 subst q1
 subst q2
 subst q3
 refine ⟨rfl,(x0,x1,x2,x3),⟨_,_,_,_,rfl,l0,l1,l2,l3⟩,?_⟩
 simp only [stgE,seqE,List.length_append] at *
 omega
theorem rdA_174 {α:Type} {R:Rp α} {e:α→List Nat} (f:Nat) (H33:RdA enc w 33 1 (LsP R 11) (aj e) f):RdA enc w 174 7 (ceP R) (ceE e) (f + 1):=by
 intro fuel cs y hf hy hb
 obtain ⟨xs,n,rfl,rfl,hl,hlen,hg⟩:=DataW.trod_struct Tryz.underlying174 hy
 rw [cc174] at hl
 obtain ⟨c0,c1,c2,c3,c4,c5,c6,rfl⟩:∃ c0 c1 c2 c3 c4 c5 c6,cs = [c0,c1,c2,c3,c4,c5,c6]:=by
  match cs,hl with
  | [c0,c1,c2,c3,c4,c5,c6],_ => exact ⟨_,_,_,_,_,_,_,rfl⟩
 obtain ⟨y0,y1,y2,rfl⟩:∃ y0 y1 y2,xs = [y0,y1,y2]:=by
  match xs,hlen with
  | [y0,y1,y2],_ => exact ⟨_,_,_,rfl⟩
 simp only [List.map_cons,List.map_nil,Rows.uptoBulk,Rows.uptoBulkAll] at hb ⊢
 have h0:DataW.trod enc Tryz.prog w 0 (fun _ => true) true n 3 (List.take (Tryz.prog.cellsOf 3) (List.drop 0 [c0,c1,c2,c3,c4,c5,c6])) = some y0:=hg 0 _ rfl
 rw [cc3] at h0
 obtain ⟨_,x0,r0,b0⟩:=(aX n) n [c0] y0 (by omega) h0 (by omega)
 have h1:DataW.trod enc Tryz.prog w 0 (fun _ => true) true n 40 (List.take (Tryz.prog.cellsOf 40) (List.drop 1 [c0,c1,c2,c3,c4,c5,c6])) = some y1:=hg 1 _ rfl
 rw [cc40] at h1
 obtain ⟨_,x1,r1,b1⟩:=((rdA_40 n).le (Nat.le_succ _)) n [c1,c2,c3,c4,c5] y1 (by omega) h1 (by omega)
 have h2:DataW.trod enc Tryz.prog w 0 (fun _ => true) true n 33 (List.take (Tryz.prog.cellsOf 33) (List.drop 6 [c0,c1,c2,c3,c4,c5,c6])) = some y2:=hg 2 _ rfl
 rw [cc33] at h2
 obtain ⟨_,x2,r2,b2⟩:=(H33.le (show n≤f by omega)) n [c6] y2 (by omega) h2 (by omega)
 obtain ⟨q0,i0⟩:=r0
 injection q0 with q0 _
 obtain ⟨v2,q2,l2⟩:=r2
 injection q2 with q2 _
 clear hg hl hlen hy h0 h1 h2
 subst q0
 subst q2
 refine ⟨rfl,(x0,x1,x2),⟨_,_,_,_,_,_,rfl,i0,r1,l2⟩,?_⟩
 simp only [ceE,seqE,List.length_append] at *
 omega
theorem rdA_156 {α:Type} {R:Rp α} {e:α→List Nat} (f:Nat) (H66:RdA enc w 66 1 (LsP (ceP R) 7) (aj (ceE e)) f):RdA enc w 156 6 (rwP R) (rwE e) (f + 1):=by
 intro fuel cs y hf hy hb
 obtain ⟨xs,n,rfl,rfl,hl,hlen,hg⟩:=DataW.trod_struct Tryz.underlying156 hy
 rw [cc156] at hl
 obtain ⟨c0,c1,c2,c3,c4,c5,rfl⟩:∃ c0 c1 c2 c3 c4 c5,cs = [c0,c1,c2,c3,c4,c5]:=by
  match cs,hl with
  | [c0,c1,c2,c3,c4,c5],_ => exact ⟨_,_,_,_,_,_,rfl⟩
 obtain ⟨y0,y1,rfl⟩:∃ y0 y1,xs = [y0,y1]:=by
  match xs,hlen with
  | [y0,y1],_ => exact ⟨_,_,rfl⟩
 simp only [List.map_cons,List.map_nil,Rows.uptoBulk,Rows.uptoBulkAll] at hb ⊢
 have h0:DataW.trod enc Tryz.prog w 0 (fun _ => true) true n 40 (List.take (Tryz.prog.cellsOf 40) (List.drop 0 [c0,c1,c2,c3,c4,c5])) = some y0:=hg 0 _ rfl
 rw [cc40] at h0
 obtain ⟨_,x0,r0,b0⟩:=((rdA_40 n).le (Nat.le_succ _)) n [c0,c1,c2,c3,c4] y0 (by omega) h0 (by omega)
 have h1:DataW.trod enc Tryz.prog w 0 (fun _ => true) true n 66 (List.take (Tryz.prog.cellsOf 66) (List.drop 5 [c0,c1,c2,c3,c4,c5])) = some y1:=hg 1 _ rfl
 rw [cc66] at h1
 obtain ⟨_,x1,r1,b1⟩:=(H66.le (show n≤f by omega)) n [c5] y1 (by omega) h1 (by omega)
 obtain ⟨v1,q1,l1⟩:=r1
 injection q1 with q1 _
 clear hg hl hlen hy h0 h1
 subst q1
 refine ⟨rfl,(x0,x1),⟨_,_,_,_,_,_,rfl,r0,l1⟩,?_⟩
 simp only [rwE,seqE,List.length_append] at *
 omega
theorem rdA_53 {α:Type} {R:Rp α} {e:α→List Nat} (f:Nat) (H33:RdA enc w 33 1 (LsP R 11) (aj e) f) (H51:RdA enc w 51 1 (LsP (rwP R) 6) (aj (rwE e)) f):RdA enc w 53 11 (isP R) (isE e) (f + 1):=by
 intro fuel cs y hf hy hb
 obtain ⟨xs,n,rfl,rfl,hl,hlen,hg⟩:=DataW.trod_struct Tryz.underlying53 hy
 rw [cc53] at hl
 obtain ⟨c0,c1,c2,c3,c4,c5,c6,c7,c8,c9,c10,rfl⟩:∃ c0 c1 c2 c3 c4 c5 c6 c7 c8 c9 c10,cs = [c0,c1,c2,c3,c4,c5,c6,c7,c8,c9,c10]:=by
  match cs,hl with
  | [c0,c1,c2,c3,c4,c5,c6,c7,c8,c9,c10],_ => exact ⟨_,_,_,_,_,_,_,_,_,_,_,rfl⟩
 obtain ⟨y0,y1,y2,y3,y4,y5,y6,rfl⟩:∃ y0 y1 y2 y3 y4 y5 y6,xs = [y0,y1,y2,y3,y4,y5,y6]:=by
  match xs,hlen with
  | [y0,y1,y2,y3,y4,y5,y6],_ => exact ⟨_,_,_,_,_,_,_,rfl⟩
 simp only [List.map_cons,List.map_nil,Rows.uptoBulk,Rows.uptoBulkAll] at hb ⊢
 have h0:DataW.trod enc Tryz.prog w 0 (fun _ => true) true n 3 (List.take (Tryz.prog.cellsOf 3) (List.drop 0 [c0,c1,c2,c3,c4,c5,c6,c7,c8,c9,c10])) = some y0:=hg 0 _ rfl
 rw [cc3] at h0
 obtain ⟨_,x0,r0,b0⟩:=(aX n) n [c0] y0 (by omega) h0 (by omega)
 have h1:DataW.trod enc Tryz.prog w 0 (fun _ => true) true n 3 (List.take (Tryz.prog.cellsOf 3) (List.drop 1 [c0,c1,c2,c3,c4,c5,c6,c7,c8,c9,c10])) = some y1:=hg 1 _ rfl
 rw [cc3] at h1
 obtain ⟨_,x1,r1,b1⟩:=(aX n) n [c1] y1 (by omega) h1 (by omega)
 have h2:DataW.trod enc Tryz.prog w 0 (fun _ => true) true n 3 (List.take (Tryz.prog.cellsOf 3) (List.drop 2 [c0,c1,c2,c3,c4,c5,c6,c7,c8,c9,c10])) = some y2:=hg 2 _ rfl
 rw [cc3] at h2
 obtain ⟨_,x2,r2,b2⟩:=(aX n) n [c2] y2 (by omega) h2 (by omega)
 have h3:DataW.trod enc Tryz.prog w 0 (fun _ => true) true n 9 (List.take (Tryz.prog.cellsOf 9) (List.drop 3 [c0,c1,c2,c3,c4,c5,c6,c7,c8,c9,c10])) = some y3:=hg 3 _ rfl
 rw [cc9] at h3
 obtain ⟨_,x3,r3,b3⟩:=(rdA_str n) n [c3] y3 (by omega) h3 (by omega)
 have h4:DataW.trod enc Tryz.prog w 0 (fun _ => true) true n 40 (List.take (Tryz.prog.cellsOf 40) (List.drop 4 [c0,c1,c2,c3,c4,c5,c6,c7,c8,c9,c10])) = some y4:=hg 4 _ rfl
 rw [cc40] at h4
 obtain ⟨_,x4,r4,b4⟩:=((rdA_40 n).le (Nat.le_succ _)) n [c4,c5,c6,c7,c8] y4 (by omega) h4 (by omega)
 have h5:DataW.trod enc Tryz.prog w 0 (fun _ => true) true n 33 (List.take (Tryz.prog.cellsOf 33) (List.drop 9 [c0,c1,c2,c3,c4,c5,c6,c7,c8,c9,c10])) = some y5:=hg 5 _ rfl
 rw [cc33] at h5
 obtain ⟨_,x5,r5,b5⟩:=(H33.le (show n≤f by omega)) n [c9] y5 (by omega) h5 (by omega)
 have h6:DataW.trod enc Tryz.prog w 0 (fun _ => true) true n 51 (List.take (Tryz.prog.cellsOf 51) (List.drop 10 [c0,c1,c2,c3,c4,c5,c6,c7,c8,c9,c10])) = some y6:=hg 6 _ rfl
 rw [cc51] at h6
 obtain ⟨_,x6,r6,b6⟩:=(H51.le (show n≤f by omega)) n [c10] y6 (by omega) h6 (by omega)
 obtain ⟨q0,i0⟩:=r0
 injection q0 with q0 _
 obtain ⟨q1,i1⟩:=r1
 injection q1 with q1 _
 obtain ⟨q2,i2⟩:=r2
 injection q2 with q2 _
 obtain ⟨q3,i3⟩:=r3
 injection q3 with q3 _
 obtain ⟨v5,q5,l5⟩:=r5
 injection q5 with q5 _
 obtain ⟨v6,q6,l6⟩:=r6
 injection q6 with q6 _
 clear hg hl hlen hy h0 h1 h2 h3 h4 h5 h6
 subst q0
 subst q1
 subst q2
 subst q3
 subst q5
 subst q6
 refine ⟨rfl,(x0,x1,x2,x3,x4,x5,x6),⟨_,_,_,_,_,_,_,rfl,⟨i0,i1,i2,i3⟩,r4,l5,l6⟩,?_⟩
 simp only [isE,seqE,List.length_append] at *
 omega
theorem rdA_53n:∀ n,RdA enc w 53 11 (itP n) (itE n) n
 | 0 => fun fuel cs y hf hy _ => by
  have:fuel = 0:=by omega
  subst this
  simp [DataW.trod] at hy
 | n + 1 => by
  have h33:RdA enc w 33 1 (LsP (itP n) 11) (aj (itE n)) n:=bk Tryz.underlying33 cc53 (by decide) (rdA_53n n)
  have h66:RdA enc w 66 1 (LsP (ceP (itP n)) 7) (aj (ceE (itE n))) n:=bk Tryz.underlying66 cc174 (by decide) ((rdA_174 n h33).le (Nat.le_succ _))
  have h51:RdA enc w 51 1 (LsP (rwP (itP n)) 6) (aj (rwE (itE n))) n:=bk Tryz.underlying51 cc156 (by decide) ((rdA_156 n h66).le (Nat.le_succ _))
  exact rdA_53 n h33 h51
theorem rdA_33n (n:Nat):RdA enc w 33 1 (LsP (itP n) 11) (aj (itE n)) n:=bk Tryz.underlying33 cc53 (by decide) (rdA_53n n)
end
end Go.Proofs.YtmhhcfceikcfbaaGreat
