import Derived.Test.YtoodbfkbbchjiaaGreatDoorf3K3
set_option maxRecDepth 100000
set_option maxHeartbeats 16000000
namespace Go.Proofs.YtoodbfkbbchjiaaGreatDoor
open Go.RowKit
theorem ttAct_walkB (w:World) (n:Nat) (k s d l m x:Int) (hn:n≤1000000000) (po pk qk qt ql qm qw:Bool) (ho:(m == -1)=po) (hk:(k == 2)=pk) (hqk:zaj k 0 4=qk) (hqf:zaj s 0 ((n:Int) - 1)=false) (hqt:zaj d 0 ((n:Int) - 1)=qt) (hql:zaj l 1 100000=ql) (hqm:zaj m 1 100000=qm) (hqw:zaj x 0 100000=qw) :
 Calls Tryz.prog 151 #[.int .i64 n,.agg #[.int .i64 k,.int .i64 s,.int .i64 d,.int .i64 l,.int .i64 m,.int .i64 x]] w (zay w (zam [zag qk 15,zag (false && qt) 6,zag (s != d) 26,zag (ql && (po || qm) && qw) 2,zag (po || decide (l≤m)) 9,zag (pk || x == 0) 3])):=by
 have k0:=hA2b w (.cells #[.int .i64 n] 3) (.cells #[.int .i64 k,.int .i64 s,.int .i64 d,.int .i64 l,.int .i64 m,.int .i64 x] 122)
 have hb0:=hB2 w (.cells #[.int .i64 n] 3) (.cells #[.int .i64 k,.int .i64 s,.int .i64 d,.int .i64 l,.int .i64 m,.int .i64 x] 122)
 have d0:((w.alloc (.cells #[.int .i64 n] 3)).alloc (.cells #[.int .i64 k,.int .i64 s,.int .i64 d,.int .i64 l,.int .i64 m,.int .i64 x] 122)).cell? ⟨w.heap.size,0,none⟩=some (.int .i64 n):=zb6 _ (by rw [cell_of_row _ _ _ _ _ _ (by rw [zae,if_pos rfl])];rfl)
 have HB:=Lib.hid hb0
 have hs0:=hb0.size
 obtain ⟨w0,hw0⟩:∃ w0,w0=((w.alloc (.cells #[.int .i64 n] 3)).alloc (.cells #[.int .i64 k,.int .i64 s,.int .i64 d,.int .i64 l,.int .i64 m,.int .i64 x] 122)):=⟨_,rfl⟩
 rw [← hw0] at d0
 have HW:=Lib.hid hw0
 have D0:=fun W=>zdu k 0 4 qk hqk W
 have EF:=fun y:Xt w0=>zil s n _ false y.1 hn (y.cell d0) hqf
 have ET:=fun y:Xt w0=>zil d n _ qt y.1 hn (y.cell d0) hqt
 have EL:=fun W=>zet l ql W hql
 have EM:=fun W=>zet m qm W hqm
 have D1:=fun W=>zdu x 0 100000 qw hqw W
 clear hqk hqf hqt hql hqm hqw hb0 hw0
 by_cases hn2:po=false∧ql=true
 · obtain ⟨rfl,rfl⟩:=hn2
   cases qm <;> cases pk
   all_goals
    first
     | (have ha2:(m != -1)=true:=by simpa using ho)
     | (obtain rfl:m=-1:=by simpa using ho)
    first
     | (have hb2:(k != 2)=true:=by simpa using hk)
     | (obtain rfl:k=2:=by simpa using hk)
    go_enter Tryz.func151,Tryz.ntmps151
    go_upto_region 3 with (fail)
    rw [← HW.out] at k0 HB hs0 ⊢
    clear HW
    have c0:=(cell_of_row w0 _ 0 _ _ _ k0).trans (by rfl:_=some (.int .i64 _))
    have c1:=(cell_of_row w0 _ 1 _ _ _ k0).trans (by rfl:_=some (.int .i64 s))
    have c2:=(cell_of_row w0 _ 2 _ _ _ k0).trans (by rfl:_=some (.int .i64 d))
    have c3:=(cell_of_row w0 _ 3 _ _ _ k0).trans (by rfl:_=some (.int .i64 l))
    have c4:=(cell_of_row w0 _ 4 _ _ _ k0).trans (by rfl:_=some (.int .i64 _))
    have c5:=(cell_of_row w0 _ 5 _ _ _ k0).trans (by rfl:_=some (.int .i64 x))
    go_upto_region 4 with (fail)
    have x0:=fun y:Xt w0=>y.cell c0
    have x1:=fun y:Xt w0=>y.cell c1
    have x2:=fun y:Xt w0=>y.cell c2
    have x3:=fun y:Xt w0=>y.cell c3
    have x4:=fun y:Xt w0=>y.cell c4
    have x5:=fun y:Xt w0=>y.cell c5
    refine zax [] [0,1,2,3,4,5,6,7,8,9,10,11,12,13,14,15,16,17,18,19,20,21,22,23,24,25,26,27,28,29,30,31,32,33,34,35,36,37,38,39,40,41,42,43,44,45,46,47,48,49,50,51,52,53,54,55,56,57] 58 [59,60] (fun w'=>∃ y:Xt w0,w'=y.1) (by as_aux_lemma=>kernel_rfl) (by as_aux_lemma=>kernel_rfl) ⟨⟨w0.drew,(Below.refl _ _).drew⟩,rfl⟩ ?_
    simp only [zad,zac,zaa,zX1,zX2,zX3]
    refine wpQuiet_nil ?_
    show wpQuiet _ _ _ _ _ _
    repeat (go_big_quiet_step (first | (go_at_call_of 201 (Value.int .i64 x);exact Xt.calls_same (D1 _)) | (go_at_call 201;exact Xt.calls_same (D0 _)) | (go_at_call_of 200 (Value.int .i64 s);exact Xt.calls_same (EF _)) | (go_at_call_of 200 (Value.int .i64 d);exact Xt.calls_same (ET _)) | (go_at_call_of 202 (Value.int .i64 l);exact Xt.calls_same (EL _)) | (go_at_call 202;exact Xt.calls_same (EM _)) | (go_at_call 148;exact Xt.calls_same (zdv _ _ _))))
    refine wpQuiet_nil ?_
    intro w1 hx
    have hb1:=Xt.below hx
    go_wp2_with (go_at_call 147;refine (first6 _ _ _ _ _ _ _).mono ?_;rintro e w' ⟨rfl,rfl⟩)
    refine zab ?_
    go_wp2
    go_ret
    exact ⟨by first | (simp only [Bool.true_and,Bool.false_and,Bool.true_or,Bool.false_or,Bool.and_true,Bool.and_false,Bool.or_true,Bool.or_false];rfl) | (simp [zam,zag, *];done),(HB.out.trans (hb1.mono hs0)).alloc (Nat.le_trans hs0 hb1.size) _⟩
 · cases po <;> cases ql <;> cases pk
   all_goals try (exact absurd ⟨rfl,rfl⟩ hn2)
   all_goals clear hn2
   all_goals
    first
     | (have ha2:(m != -1)=true:=by simpa using ho)
     | (obtain rfl:m=-1:=by simpa using ho)
    first
     | (have hb2:(k != 2)=true:=by simpa using hk)
     | (obtain rfl:k=2:=by simpa using hk)
    go_enter Tryz.func151,Tryz.ntmps151
    go_upto_region 3 with (fail)
    rw [← HW.out] at k0 HB hs0 ⊢
    clear HW
    have c0:=(cell_of_row w0 _ 0 _ _ _ k0).trans (by rfl:_=some (.int .i64 _))
    have c1:=(cell_of_row w0 _ 1 _ _ _ k0).trans (by rfl:_=some (.int .i64 s))
    have c2:=(cell_of_row w0 _ 2 _ _ _ k0).trans (by rfl:_=some (.int .i64 d))
    have c3:=(cell_of_row w0 _ 3 _ _ _ k0).trans (by rfl:_=some (.int .i64 l))
    have c4:=(cell_of_row w0 _ 4 _ _ _ k0).trans (by rfl:_=some (.int .i64 _))
    have c5:=(cell_of_row w0 _ 5 _ _ _ k0).trans (by rfl:_=some (.int .i64 x))
    go_upto_region 4 with (fail)
    have x0:=fun y:Xt w0=>y.cell c0
    have x1:=fun y:Xt w0=>y.cell c1
    have x2:=fun y:Xt w0=>y.cell c2
    have x3:=fun y:Xt w0=>y.cell c3
    have x4:=fun y:Xt w0=>y.cell c4
    have x5:=fun y:Xt w0=>y.cell c5
    refine zax [] [0,1,2,3,4,5,6,7,8,9,10,11,12,13,14,15,16,17,18,19,20,21,22,23,24,25,26,27,28,29,30,31,32,33,34,35,36,37,38,39,40,41,42,43,44,45,46,47,48,49,50,51,52,53,54,55,56,57] 58 [59,60] (fun w'=>∃ y:Xt w0,w'=y.1) (by as_aux_lemma=>kernel_rfl) (by as_aux_lemma=>kernel_rfl) ⟨⟨w0.drew,(Below.refl _ _).drew⟩,rfl⟩ ?_
    simp only [zad,zac,zaa,zX1,zX2,zX3]
    refine wpQuiet_nil ?_
    show wpQuiet _ _ _ _ _ _
    repeat (go_big_quiet_step (first | (go_at_call_of 201 (Value.int .i64 x);exact Xt.calls_same (D1 _)) | (go_at_call 201;exact Xt.calls_same (D0 _)) | (go_at_call_of 200 (Value.int .i64 s);exact Xt.calls_same (EF _)) | (go_at_call_of 200 (Value.int .i64 d);exact Xt.calls_same (ET _)) | (go_at_call_of 202 (Value.int .i64 l);exact Xt.calls_same (EL _)) | (go_at_call 202;exact Xt.calls_same (EM _)) | (go_at_call 148;exact Xt.calls_same (zdv _ _ _))))
    refine wpQuiet_nil ?_
    intro w1 hx
    have hb1:=Xt.below hx
    go_wp2_with (go_at_call 147;refine (first6 _ _ _ _ _ _ _).mono ?_;rintro e w' ⟨rfl,rfl⟩)
    refine zab ?_
    go_wp2
    go_ret
    exact ⟨by first | (simp only [Bool.true_and,Bool.false_and,Bool.true_or,Bool.false_or,Bool.and_true];rfl) | (simp [zam,zag, *];done),(HB.out.trans (hb1.mono hs0)).alloc (Nat.le_trans hs0 hb1.size) _⟩
end Go.Proofs.YtoodbfkbbchjiaaGreatDoor
