import Derived.Test.YtoodbfkbbchjiaaGreatDoorf3Y1
set_option maxRecDepth 100000
set_option maxHeartbeats 16000000
namespace Go.Proofs.YtoodbfkbbchjiaaGreatDoor
open Go.RowKit
theorem zdq (w:World) (B:Nat) (h:HouseV) (H:HouseAt w B h) (hS:HouseS h) (hB:B≤w.heap.size):Calls Tryz.prog 11 #[.agg (zah h).toArray] w (HousePost2 w h):=by
 obtain ⟨plant,net,vanes,tn,ps,pcs,sys,es,evs,acs,acts,ms,masts,pp,people⟩:=h
 show Calls Tryz.prog 11 #[.agg (zah ⟨plant,net,vanes,tn,ps,pcs,sys,es,evs,acs,acts,ms,masts,pp,people⟩).toArray] w _
 have k0:((w.alloc (.cells (zah ⟨plant,net,vanes,tn,ps,pcs,sys,es,evs,acs,acts,ms,masts,pp,people⟩).toArray 45)).alloc (.cells #[.slice none 0 0,.slice none 0 0,.slice none 0 0,.slice none 0 0,.slice none 0 0,.slice none 0 0,.slice none 0 0,.slice none 0 0,.int .i64 0,.int .i64 0,.int .i64 0,.int .i64 0,.int .i64 0,.int .i64 0,.int .i64 0,.bool false,.string ⟨#[]⟩,.slice none 0 0,.int .i64 0,.int .i64 0,.int .i64 0,.slice none 0 0,.slice none 0 0,.slice none 0 0,.slice none 0 0] 45)).heap[w.heap.size]?=some (.cells (zah ⟨plant,net,vanes,tn,ps,pcs,sys,es,evs,acs,acts,ms,masts,pp,people⟩).toArray 45 (0,0)):=by
  rw [zae,if_neg (by simp),zae,if_pos rfl]
 have k1:((w.alloc (.cells (zah ⟨plant,net,vanes,tn,ps,pcs,sys,es,evs,acs,acts,ms,masts,pp,people⟩).toArray 45)).alloc (.cells #[.slice none 0 0,.slice none 0 0,.slice none 0 0,.slice none 0 0,.slice none 0 0,.slice none 0 0,.slice none 0 0,.slice none 0 0,.int .i64 0,.int .i64 0,.int .i64 0,.int .i64 0,.int .i64 0,.int .i64 0,.int .i64 0,.bool false,.string ⟨#[]⟩,.slice none 0 0,.int .i64 0,.int .i64 0,.int .i64 0,.slice none 0 0,.slice none 0 0,.slice none 0 0,.slice none 0 0] 45)).heap[w.heap.size+1]?=some (.cells #[.slice none 0 0,.slice none 0 0,.slice none 0 0,.slice none 0 0,.slice none 0 0,.slice none 0 0,.slice none 0 0,.slice none 0 0,.int .i64 0,.int .i64 0,.int .i64 0,.int .i64 0,.int .i64 0,.int .i64 0,.int .i64 0,.bool false,.string ⟨#[]⟩,.slice none 0 0,.int .i64 0,.int .i64 0,.int .i64 0,.slice none 0 0,.slice none 0 0,.slice none 0 0,.slice none 0 0] 45 (0,0)):=by
  rw [zae,if_pos (by simp)]
 have hb0:=hB2 w (.cells (zah ⟨plant,net,vanes,tn,ps,pcs,sys,es,evs,acs,acts,ms,masts,pp,people⟩).toArray 45) (.cells #[.slice none 0 0,.slice none 0 0,.slice none 0 0,.slice none 0 0,.slice none 0 0,.slice none 0 0,.slice none 0 0,.slice none 0 0,.int .i64 0,.int .i64 0,.int .i64 0,.int .i64 0,.int .i64 0,.int .i64 0,.int .i64 0,.bool false,.string ⟨#[]⟩,.slice none 0 0,.int .i64 0,.int .i64 0,.int .i64 0,.slice none 0 0,.slice none 0 0,.slice none 0 0,.slice none 0 0] 45)
 have hs:=hS2 w (.cells (zah ⟨plant,net,vanes,tn,ps,pcs,sys,es,evs,acs,acts,ms,masts,pp,people⟩).toArray 45) (.cells #[.slice none 0 0,.slice none 0 0,.slice none 0 0,.slice none 0 0,.slice none 0 0,.slice none 0 0,.slice none 0 0,.slice none 0 0,.int .i64 0,.int .i64 0,.int .i64 0,.int .i64 0,.int .i64 0,.int .i64 0,.int .i64 0,.bool false,.string ⟨#[]⟩,.slice none 0 0,.int .i64 0,.int .i64 0,.int .i64 0,.slice none 0 0,.slice none 0 0,.slice none 0 0,.slice none 0 0] 45)
 have HH:=Lib.hid ((H.keep hb0).mono hB)
 have HS:=Lib.hid hS
 have HB:=Lib.hid hb0
 clear hb0 H hS
 go_enter Tryz.func11,Tryz.ntmps11
 go_upto_region 1 with (fail)
 generalize ((w.alloc (.cells (zah ⟨plant,net,vanes,tn,ps,pcs,sys,es,evs,acs,acts,ms,masts,pp,people⟩).toArray 45)).alloc (.cells #[.slice none 0 0,.slice none 0 0,.slice none 0 0,.slice none 0 0,.slice none 0 0,.slice none 0 0,.slice none 0 0,.slice none 0 0,.int .i64 0,.int .i64 0,.int .i64 0,.int .i64 0,.int .i64 0,.int .i64 0,.int .i64 0,.bool false,.string ⟨#[]⟩,.slice none 0 0,.int .i64 0,.int .i64 0,.int .i64 0,.slice none 0 0,.slice none 0 0,.slice none 0 0,.slice none 0 0] 45))=w0 at *
 generalize hbw:w.heap.size=bw at *
 have HBW:=Lib.hid hbw
 have hbX:Below bw w0 w0:=Below.refl _ _
 clear hbw
 have hlo:bw<bw+2:=by omega
 have d0:=(cell_of_row w0 _ 0 _ _ _ k0).trans (by rfl:_=some (.slice plant.ss.A plant.ss.n plant.ss.c))
 have d1:=(cell_of_row w0 _ 1 _ _ _ k0).trans (by rfl:_=some (.slice plant.ts.A plant.ts.n plant.ts.c))
 have d2:=(cell_of_row w0 _ 2 _ _ _ k0).trans (by rfl:_=some (.slice plant.ws.A plant.ws.n plant.ws.c))
 have d3:=(cell_of_row w0 _ 3 _ _ _ k0).trans (by rfl:_=some (.slice plant.rs.A plant.rs.n plant.rs.c))
 have RT:Calls Tryz.prog 25 #[.agg #[.slice plant.ss.A plant.ss.n plant.ss.c,.slice plant.ts.A plant.ts.n plant.ts.c,.slice plant.ws.A plant.ws.n plant.ws.c,.slice plant.rs.A plant.rs.n plant.rs.c]] w0 (PlantPost w0 plant):=zlu w0 bw plant (HH.out.plant.below hbX) HS.out.plant (by omega)
 go_wp2_with (first | (go_at_call 25;refine RT.mono ?_;rintro e v1 ⟨qp,hq1,hq2,hq3,hq4,rfl,hO,hb⟩) | (with_reducible refine zas 26 ?_))
 unfold Stp
 have hsz:bw+2≤w0.heap.size:=hs
 replace hbX:=hbX.trans (hb.mono (by omega))
 replace k0:=blk hb k0
 replace k1:=blk hb k1
 have oP:=hO.base hsz
 replace hs:=Nat.le_trans hs hb.size
 refine zbj rfl 26 _ _ rfl bw 0 (zap qp).toArray rfl rfl 45 _ ((zah ⟨qp,net,vanes,tn,ps,pcs,sys,es,evs,acs,acts,ms,masts,pp,people⟩).toArray) k0 (by kernel_rfl) (by show 0+4≤25;decide) (by kernel_rfl) rfl ?_
 clear hb hO RT d0 d1 d2 d3
 replace hbX:=below_setRow hbX (Nat.le_refl bw) ((zah ⟨qp,net,vanes,tn,ps,pcs,sys,es,evs,acs,acts,ms,masts,pp,people⟩).toArray)
 replace k1:=(setRow_other v1 bw (bw+1) ((zah ⟨qp,net,vanes,tn,ps,pcs,sys,es,evs,acs,acts,ms,masts,pp,people⟩).toArray) (by omega)).trans k1
 replace oP:=oP.setRow ((zah ⟨qp,net,vanes,tn,ps,pcs,sys,es,evs,acs,acts,ms,masts,pp,people⟩).toArray) hlo
 replace k0:=setRow_heap v1 bw _ ((zah ⟨qp,net,vanes,tn,ps,pcs,sys,es,evs,acs,acts,ms,masts,pp,people⟩).toArray) 45 (0,0) k0
 replace hs:bw+2≤(v1.setRow bw ((zah ⟨qp,net,vanes,tn,ps,pcs,sys,es,evs,acs,acts,ms,masts,pp,people⟩).toArray)).heap.size:=by rw [setRow_size];exact hs
 go_upto_region 2 with (fail)
 generalize v1.setRow bw ((zah ⟨qp,net,vanes,tn,ps,pcs,sys,es,evs,acs,acts,ms,masts,pp,people⟩).toArray)=u1 at *
 have d4:=(cell_of_row u1 _ 4 _ _ _ k0).trans (by rfl:_=some (.slice net.ss.A net.ss.n net.ss.c))
 have d5:=(cell_of_row u1 _ 5 _ _ _ k0).trans (by rfl:_=some (.slice net.fs.A net.fs.n net.fs.c))
 have d6:=(cell_of_row u1 _ 6 _ _ _ k0).trans (by rfl:_=some (.slice net.ts.A net.ts.n net.ts.c))
 have RT:Calls Tryz.prog 26 #[.agg #[.slice net.ss.A net.ss.n net.ss.c,.slice net.fs.A net.fs.n net.fs.c,.slice net.ts.A net.ts.n net.ts.c]] u1 (NetPost u1 net):=netCopy_any u1 bw net (HH.out.net.belowC hbX) HS.out.net (by omega)
 go_wp2_with (first | (go_at_call 26;refine RT.mono ?_;rintro e v2 ⟨qn,hq5,hq6,hq7,rfl,hO,hb⟩) | (with_reducible refine zas 31 ?_))
 unfold Stp
 have hsz:bw+2≤u1.heap.size:=hs
 replace hbX:=hbX.trans (hb.mono (by omega))
 replace k0:=blk hb k0
 replace k1:=blk hb k1
 replace oP:=oP.keep hb
 have oN:=hO.base hsz
 replace hs:=Nat.le_trans hs hb.size
 refine zbj rfl 31 _ _ rfl bw 4 (zc9 qn).toArray rfl rfl 45 _ ((zah ⟨qp,qn,vanes,tn,ps,pcs,sys,es,evs,acs,acts,ms,masts,pp,people⟩).toArray) k0 (by kernel_rfl) (by show 4+3≤25;decide) (by kernel_rfl) rfl ?_
 clear hb hO RT d4 d5 d6
 replace hbX:=below_setRow hbX (Nat.le_refl bw) ((zah ⟨qp,qn,vanes,tn,ps,pcs,sys,es,evs,acs,acts,ms,masts,pp,people⟩).toArray)
 replace k1:=(setRow_other v2 bw (bw+1) ((zah ⟨qp,qn,vanes,tn,ps,pcs,sys,es,evs,acs,acts,ms,masts,pp,people⟩).toArray) (by omega)).trans k1
 replace oP:=oP.setRow ((zah ⟨qp,qn,vanes,tn,ps,pcs,sys,es,evs,acs,acts,ms,masts,pp,people⟩).toArray) hlo
 replace oN:=oN.setRow ((zah ⟨qp,qn,vanes,tn,ps,pcs,sys,es,evs,acs,acts,ms,masts,pp,people⟩).toArray) hlo
 replace k0:=setRow_heap v2 bw _ ((zah ⟨qp,qn,vanes,tn,ps,pcs,sys,es,evs,acs,acts,ms,masts,pp,people⟩).toArray) 45 (0,0) k0
 replace hs:bw+2≤(v2.setRow bw ((zah ⟨qp,qn,vanes,tn,ps,pcs,sys,es,evs,acs,acts,ms,masts,pp,people⟩).toArray)).heap.size:=by rw [setRow_size];exact hs
 go_upto_region 3 with (fail)
 generalize v2.setRow bw ((zah ⟨qp,qn,vanes,tn,ps,pcs,sys,es,evs,acs,acts,ms,masts,pp,people⟩).toArray)=u2 at *
 have d7:=(cell_of_row u2 _ 7 _ _ _ k0).trans (by rfl:_=some (.slice vanes.vs.A vanes.vs.n vanes.vs.c))
 have d8:=(cell_of_row u2 _ 8 _ _ _ k0).trans (by rfl:_=some (.int .i64 vanes.window))
 have d9:=(cell_of_row u2 _ 9 _ _ _ k0).trans (by rfl:_=some (.int .i64 vanes.tooth))
 have d10:=(cell_of_row u2 _ 10 _ _ _ k0).trans (by rfl:_=some (.int .i64 vanes.per))
 have d11:=(cell_of_row u2 _ 11 _ _ _ k0).trans (by rfl:_=some (.int .i64 vanes.first))
 have d12:=(cell_of_row u2 _ 12 _ _ _ k0).trans (by rfl:_=some (.int .i64 vanes.modulus))
 have d13:=(cell_of_row u2 _ 13 _ _ _ k0).trans (by rfl:_=some (.int .i64 vanes.slack))
 have d14:=(cell_of_row u2 _ 14 _ _ _ k0).trans (by rfl:_=some (.int .i64 vanes.errors))
 have d15:=(cell_of_row u2 _ 15 _ _ _ k0).trans (by rfl:_=some (.bool vanes.round))
 have RT:Calls Tryz.prog 27 #[.agg #[.slice vanes.vs.A vanes.vs.n vanes.vs.c,.int .i64 vanes.window,.int .i64 vanes.tooth,.int .i64 vanes.per,.int .i64 vanes.first,.int .i64 vanes.modulus,.int .i64 vanes.slack,.int .i64 vanes.errors,.bool vanes.round]] u2 (VanPost u2 vanes):=vanCopy_any u2 bw vanes (HH.out.vanes.below hbX) (by omega) HS.out.vanes
 go_wp2_with (first | (go_at_call 27;refine RT.mono ?_;rintro e v3 ⟨sv,rfl,hq8,hc8,hO,hb⟩;have HQ8:=Lib.hid hq8;clear hq8) | (with_reducible refine zas 34 ?_))
 unfold Stp
 have hsz:bw+2≤u2.heap.size:=hs
 replace hbX:=hbX.trans (hb.mono (by omega))
 replace k0:=blk hb k0
 replace k1:=blk hb k1
 replace oP:=oP.keep hb
 replace oN:=oN.keep hb
 have oV:=za0 hO hsz
 replace hs:=Nat.le_trans hs hb.size
 refine zbj rfl 34 _ _ rfl bw 7 (za8 { vanes with vs:=sv }).toArray rfl rfl 45 _ ((zah ⟨qp,qn,{ vanes with vs:=sv },tn,ps,pcs,sys,es,evs,acs,acts,ms,masts,pp,people⟩).toArray) k0 (by kernel_rfl) (by show 7+9≤25;decide) (by kernel_rfl) rfl ?_
 clear hb hO RT d7 d8 d9 d10 d11 d12 d13 d14 d15
 replace hbX:=below_setRow hbX (Nat.le_refl bw) ((zah ⟨qp,qn,{ vanes with vs:=sv },tn,ps,pcs,sys,es,evs,acs,acts,ms,masts,pp,people⟩).toArray)
 replace k1:=(setRow_other v3 bw (bw+1) ((zah ⟨qp,qn,{ vanes with vs:=sv },tn,ps,pcs,sys,es,evs,acs,acts,ms,masts,pp,people⟩).toArray) (by omega)).trans k1
 replace oP:=oP.setRow ((zah ⟨qp,qn,{ vanes with vs:=sv },tn,ps,pcs,sys,es,evs,acs,acts,ms,masts,pp,people⟩).toArray) hlo
 replace oN:=oN.setRow ((zah ⟨qp,qn,{ vanes with vs:=sv },tn,ps,pcs,sys,es,evs,acs,acts,ms,masts,pp,people⟩).toArray) hlo
 replace oV:=zaq oV ((zah ⟨qp,qn,{ vanes with vs:=sv },tn,ps,pcs,sys,es,evs,acs,acts,ms,masts,pp,people⟩).toArray) (zbh oV hlo)
 replace k0:=setRow_heap v3 bw _ ((zah ⟨qp,qn,{ vanes with vs:=sv },tn,ps,pcs,sys,es,evs,acs,acts,ms,masts,pp,people⟩).toArray) 45 (0,0) k0
 replace hs:bw+2≤(v3.setRow bw ((zah ⟨qp,qn,{ vanes with vs:=sv },tn,ps,pcs,sys,es,evs,acs,acts,ms,masts,pp,people⟩).toArray)).heap.size:=by rw [setRow_size];exact hs
 go_upto_region 4 with (fail)
 generalize v3.setRow bw ((zah ⟨qp,qn,{ vanes with vs:=sv },tn,ps,pcs,sys,es,evs,acs,acts,ms,masts,pp,people⟩).toArray)=u3 at *
 have d16:=(cell_of_row u3 _ 16 _ _ _ k0).trans (by rfl:_=some (.string tn))
 have d17:=(cell_of_row u3 _ 17 _ _ _ k0).trans (by rfl:_=some (.slice ps.A ps.n ps.c))
 have RT:Calls Tryz.prog 28 #[.agg #[.string tn,.slice ps.A ps.n ps.c]] u3 (TrackPost u3 tn ps.n pcs):=zld u3 bw tn ps pcs (HH.out.pcs.below hbX) (by omega) HS.out.pcs
 go_wp2_with (first | (go_at_call 28;refine RT.mono ?_;rintro e v4 ⟨st,rfl,hq9,hO,hb⟩;have HQ9:=Lib.hid hq9;clear hq9) | (with_reducible refine zas 37 ?_))
 unfold Stp
 have hsz:bw+2≤u3.heap.size:=hs
 replace hbX:=hbX.trans (hb.mono (by omega))
 replace k0:=blk hb k0
 replace k1:=blk hb k1
 replace oP:=oP.keep hb
 replace oN:=oN.keep hb
 replace oV:=zaf oV hb
 have oT:=za0 hO hsz
 replace hs:=Nat.le_trans hs hb.size
 refine zbj rfl 37 _ _ rfl bw 16 #[.string tn,.slice st.A st.n st.c] rfl rfl 45 _ ((zah ⟨qp,qn,{ vanes with vs:=sv },tn,st,pcs,sys,es,evs,acs,acts,ms,masts,pp,people⟩).toArray) k0 (by kernel_rfl) (by show 16+2≤25;decide) (by kernel_rfl) rfl ?_
 clear hb hO RT d16 d17
 replace hbX:=below_setRow hbX (Nat.le_refl bw) ((zah ⟨qp,qn,{ vanes with vs:=sv },tn,st,pcs,sys,es,evs,acs,acts,ms,masts,pp,people⟩).toArray)
 replace k1:=(setRow_other v4 bw (bw+1) ((zah ⟨qp,qn,{ vanes with vs:=sv },tn,st,pcs,sys,es,evs,acs,acts,ms,masts,pp,people⟩).toArray) (by omega)).trans k1
 replace oP:=oP.setRow ((zah ⟨qp,qn,{ vanes with vs:=sv },tn,st,pcs,sys,es,evs,acs,acts,ms,masts,pp,people⟩).toArray) hlo
 replace oN:=oN.setRow ((zah ⟨qp,qn,{ vanes with vs:=sv },tn,st,pcs,sys,es,evs,acs,acts,ms,masts,pp,people⟩).toArray) hlo
 replace oV:=zaq oV ((zah ⟨qp,qn,{ vanes with vs:=sv },tn,st,pcs,sys,es,evs,acs,acts,ms,masts,pp,people⟩).toArray) (zbh oV hlo)
 replace oT:=zaq oT ((zah ⟨qp,qn,{ vanes with vs:=sv },tn,st,pcs,sys,es,evs,acs,acts,ms,masts,pp,people⟩).toArray) (zbh oT hlo)
 replace k0:=setRow_heap v4 bw _ ((zah ⟨qp,qn,{ vanes with vs:=sv },tn,st,pcs,sys,es,evs,acs,acts,ms,masts,pp,people⟩).toArray) 45 (0,0) k0
 replace hs:bw+2≤(v4.setRow bw ((zah ⟨qp,qn,{ vanes with vs:=sv },tn,st,pcs,sys,es,evs,acs,acts,ms,masts,pp,people⟩).toArray)).heap.size:=by rw [setRow_size];exact hs
 go_upto_region 5 with (fail)
 generalize v4.setRow bw ((zah ⟨qp,qn,{ vanes with vs:=sv },tn,st,pcs,sys,es,evs,acs,acts,ms,masts,pp,people⟩).toArray)=u4 at *
 have d21:=(cell_of_row u4 _ 21 _ _ _ k0).trans (by rfl:_=some (.slice es.A es.n es.c))
 have d22:=(cell_of_row u4 _ 22 _ _ _ k0).trans (by rfl:_=some (.slice acs.A acs.n acs.c))
 have RT:Calls Tryz.prog 29 #[.agg #[.slice es.A es.n es.c,.slice acs.A acs.n acs.c]] u4 (TablePost u4 es.n acs.n evs acts):=zle u4 bw es acs evs acts (HH.out.evs.below hbX) (HH.out.acts.below hbX) (by omega) HS.out.evs.1 HS.out.acts
 go_wp2_with (first | (go_at_call 29;refine RT.mono ?_;rintro e v5 ⟨se,sa,rfl,hq10,hq11,hc11,hO,hO2,hb⟩;have HQ10:=Lib.hid hq10;have HQ11:=Lib.hid hq11;clear hq10 hq11) | (with_reducible refine zas 42 ?_))
 unfold Stp
 have hsz:bw+2≤u4.heap.size:=hs
 replace hbX:=hbX.trans (hb.mono (by omega))
 replace k0:=blk hb k0
 replace k1:=blk hb k1
 replace oP:=oP.keep hb
 replace oN:=oN.keep hb
 replace oV:=zaf oV hb
 replace oT:=zaf oT hb
 have oE:=za0 hO hsz
 have oA:=za0 hO2 hsz
 replace hs:=Nat.le_trans hs hb.size
 refine zbj rfl 42 _ _ rfl bw 21 #[.slice se.A se.n se.c,.slice sa.A sa.n sa.c] rfl rfl 45 _ ((zah ⟨qp,qn,{ vanes with vs:=sv },tn,st,pcs,sys,se,evs,sa,acts,ms,masts,pp,people⟩).toArray) k0 (by kernel_rfl) (by show 21+2≤25;decide) (by kernel_rfl) rfl ?_
 clear hb hO hO2 RT d21 d22
 replace hbX:=below_setRow hbX (Nat.le_refl bw) ((zah ⟨qp,qn,{ vanes with vs:=sv },tn,st,pcs,sys,se,evs,sa,acts,ms,masts,pp,people⟩).toArray)
 replace k1:=(setRow_other v5 bw (bw+1) ((zah ⟨qp,qn,{ vanes with vs:=sv },tn,st,pcs,sys,se,evs,sa,acts,ms,masts,pp,people⟩).toArray) (by omega)).trans k1
 replace oP:=oP.setRow ((zah ⟨qp,qn,{ vanes with vs:=sv },tn,st,pcs,sys,se,evs,sa,acts,ms,masts,pp,people⟩).toArray) hlo
 replace oN:=oN.setRow ((zah ⟨qp,qn,{ vanes with vs:=sv },tn,st,pcs,sys,se,evs,sa,acts,ms,masts,pp,people⟩).toArray) hlo
 replace oV:=zaq oV ((zah ⟨qp,qn,{ vanes with vs:=sv },tn,st,pcs,sys,se,evs,sa,acts,ms,masts,pp,people⟩).toArray) (zbh oV hlo)
 replace oT:=zaq oT ((zah ⟨qp,qn,{ vanes with vs:=sv },tn,st,pcs,sys,se,evs,sa,acts,ms,masts,pp,people⟩).toArray) (zbh oT hlo)
 replace oE:=zaq oE ((zah ⟨qp,qn,{ vanes with vs:=sv },tn,st,pcs,sys,se,evs,sa,acts,ms,masts,pp,people⟩).toArray) (zbh oE hlo)
 replace oA:=zaq oA ((zah ⟨qp,qn,{ vanes with vs:=sv },tn,st,pcs,sys,se,evs,sa,acts,ms,masts,pp,people⟩).toArray) (zbh oA hlo)
 replace k0:=setRow_heap v5 bw _ ((zah ⟨qp,qn,{ vanes with vs:=sv },tn,st,pcs,sys,se,evs,sa,acts,ms,masts,pp,people⟩).toArray) 45 (0,0) k0
 replace hs:bw+2≤(v5.setRow bw ((zah ⟨qp,qn,{ vanes with vs:=sv },tn,st,pcs,sys,se,evs,sa,acts,ms,masts,pp,people⟩).toArray)).heap.size:=by rw [setRow_size];exact hs
 go_upto_region 6 with (fail)
 generalize v5.setRow bw ((zah ⟨qp,qn,{ vanes with vs:=sv },tn,st,pcs,sys,se,evs,sa,acts,ms,masts,pp,people⟩).toArray)=u5 at *
 have d23:=(cell_of_row u5 _ 23 _ _ _ k0).trans (by rfl:_=some (.slice ms.A ms.n ms.c))
 have RT:=zds u5 bw ms.A ms.n ms.c masts HH.out.masts.1 (by have:=HS.out.masts.1;have h2:masts.length=ms.n:=HH.out.masts.1;simp only at this;omega) (HH.out.masts.below hbX).2 (by omega)
 go_wp2_with (first | (go_at_call 30;refine RT.mono ?_;rintro e v6 ⟨Am,cm,rfl,hcm,hO,hb⟩) | (with_reducible refine zas 22 ?_))
 unfold Stp
 have hsz:bw+2≤u5.heap.size:=hs
 replace hbX:=hbX.trans (hb.mono (by omega))
 replace k0:=blk hb k0
 replace k1:=blk hb k1
 replace oP:=oP.keep hb
 replace oN:=oN.keep hb
 replace oV:=zaf oV hb
 replace oT:=zaf oT hb
 replace oE:=zaf oE hb
 replace oA:=zaf oA hb
 have oM:=za0 hO hsz
 replace hs:=Nat.le_trans hs hb.size
 have d23b:=(cell_of_row v6 _ 23 _ _ _ k0).trans (by rfl:_=some (.slice ms.A ms.n ms.c))
 have f23:=frozen_of_row v6 _ 23 _ _ k0
 have HSC:=Lib.hid (setCell_eq_setRow v6 bw 23 _ 45 (0,0) (.slice Am ms.n cm) k0)
 clear hb hO RT d23
 go_upto_region 7 with (fail)
 clear d23b f23
 rw [HSC.out]
 have hse:((zah ⟨qp,qn,{ vanes with vs:=sv },tn,st,pcs,sys,se,evs,sa,acts,ms,masts,pp,people⟩).toArray:Array Value).setIfInBounds 23 (.slice Am ms.n cm)=((zah ⟨qp,qn,{ vanes with vs:=sv },tn,st,pcs,sys,se,evs,sa,acts,⟨Am,ms.n,cm⟩,masts,pp,people⟩).toArray):=rfl
 rw [hse]
 clear HSC hse
 replace hbX:=below_setRow hbX (Nat.le_refl bw) ((zah ⟨qp,qn,{ vanes with vs:=sv },tn,st,pcs,sys,se,evs,sa,acts,⟨Am,ms.n,cm⟩,masts,pp,people⟩).toArray)
 replace k1:=(setRow_other v6 bw (bw+1) ((zah ⟨qp,qn,{ vanes with vs:=sv },tn,st,pcs,sys,se,evs,sa,acts,⟨Am,ms.n,cm⟩,masts,pp,people⟩).toArray) (by omega)).trans k1
 replace oP:=oP.setRow ((zah ⟨qp,qn,{ vanes with vs:=sv },tn,st,pcs,sys,se,evs,sa,acts,⟨Am,ms.n,cm⟩,masts,pp,people⟩).toArray) hlo
 replace oN:=oN.setRow ((zah ⟨qp,qn,{ vanes with vs:=sv },tn,st,pcs,sys,se,evs,sa,acts,⟨Am,ms.n,cm⟩,masts,pp,people⟩).toArray) hlo
 replace oV:=zaq oV ((zah ⟨qp,qn,{ vanes with vs:=sv },tn,st,pcs,sys,se,evs,sa,acts,⟨Am,ms.n,cm⟩,masts,pp,people⟩).toArray) (zbh oV hlo)
 replace oT:=zaq oT ((zah ⟨qp,qn,{ vanes with vs:=sv },tn,st,pcs,sys,se,evs,sa,acts,⟨Am,ms.n,cm⟩,masts,pp,people⟩).toArray) (zbh oT hlo)
 replace oE:=zaq oE ((zah ⟨qp,qn,{ vanes with vs:=sv },tn,st,pcs,sys,se,evs,sa,acts,⟨Am,ms.n,cm⟩,masts,pp,people⟩).toArray) (zbh oE hlo)
 replace oA:=zaq oA ((zah ⟨qp,qn,{ vanes with vs:=sv },tn,st,pcs,sys,se,evs,sa,acts,⟨Am,ms.n,cm⟩,masts,pp,people⟩).toArray) (zbh oA hlo)
 replace oM:=zaq oM ((zah ⟨qp,qn,{ vanes with vs:=sv },tn,st,pcs,sys,se,evs,sa,acts,⟨Am,ms.n,cm⟩,masts,pp,people⟩).toArray) (zbh oM hlo)
 replace k0:=setRow_heap v6 bw _ ((zah ⟨qp,qn,{ vanes with vs:=sv },tn,st,pcs,sys,se,evs,sa,acts,⟨Am,ms.n,cm⟩,masts,pp,people⟩).toArray) 45 (0,0) k0
 replace hs:bw+2≤(v6.setRow bw ((zah ⟨qp,qn,{ vanes with vs:=sv },tn,st,pcs,sys,se,evs,sa,acts,⟨Am,ms.n,cm⟩,masts,pp,people⟩).toArray)).heap.size:=by rw [setRow_size];exact hs
 generalize v6.setRow bw ((zah ⟨qp,qn,{ vanes with vs:=sv },tn,st,pcs,sys,se,evs,sa,acts,⟨Am,ms.n,cm⟩,masts,pp,people⟩).toArray)=u6 at *
 have d24:=(cell_of_row u6 _ 24 _ _ _ k0).trans (by rfl:_=some (.slice pp.A pp.n pp.c))
 obtain ⟨i1,hi1,hy0,hy1,hy2⟩:=info_parts info53s
 have hbn:=hB1 u6 (.cells #[] 53)
 have hpl:people.length=pp.n:=HH.out.people.1
 have hpn:people.length≤1000:=HS.out.people.1
 rw [hpl] at hpn
 have HPL:=Lib.hid hpl
 clear hpl
 have hbwl:bw<u6.heap.size:=by omega
 go_wp2_with (at_builtin;refine stp ?_)
 unfold Stp
 refine za6 _ rfl _ _ 43 rfl (bw+2) 53 i1 _ 2 24 Tryz.underlying43 hi1 hy0 hy1 hy2 rfl (by omega) u6.heap.size rfl (by rw [zae,if_pos rfl]) hs bw pp.A pp.n pp.c (zbl people) rfl (by rw [zhw,HPL.out]) (((HH.out.people.below hbX).2).below (hbn.mono (by omega))) (zdr zkj _) (by simp only [maxLen];omega) (by omega) (by simp;omega) ?_
 intro gp cp v7 oQ hgrow _
 have hb:Below u6.heap.size u6 v7:=hbn.grown hgrow (by simp) (fun k hk=>by rw [← Option.some.inj hk];exact Nat.le_refl _)
 have hsz:bw+2≤u6.heap.size:=hs
 replace hbX:=hbX.trans (hb.mono (by omega))
 replace k0:=blk hb k0
 replace k1:=blk hb k1
 replace oP:=oP.keep hb
 replace oN:=oN.keep hb
 replace oV:=zaf oV hb
 replace oT:=zaf oT hb
 replace oE:=zaf oE hb
 replace oA:=zaf oA hb
 replace oM:=zaf oM hb
 replace hs:=Nat.le_trans hs hb.size
 have d24b:=(cell_of_row v7 _ 24 _ _ _ k0).trans (by rfl:_=some (.slice pp.A pp.n pp.c))
 have f24:=frozen_of_row v7 _ 24 _ _ k0
 have HSC:=Lib.hid (setCell_eq_setRow v7 bw 24 _ 45 (0,0) (.slice (some ⟨gp,0,none⟩) pp.n cp) k0)
 clear hb d24 hbn hgrow hy0 hy1 hy2 hi1
 go_upto_region 8 with (fail)
 clear d24b f24
 rw [HSC.out]
 have hse:((zah ⟨qp,qn,{ vanes with vs:=sv },tn,st,pcs,sys,se,evs,sa,acts,⟨Am,ms.n,cm⟩,masts,pp,people⟩).toArray:Array Value).setIfInBounds 24 (.slice (some ⟨gp,0,none⟩) pp.n cp)=((zah ⟨qp,qn,{ vanes with vs:=sv },tn,st,pcs,sys,se,evs,sa,acts,⟨Am,ms.n,cm⟩,masts,⟨some ⟨gp,0,none⟩,pp.n,cp⟩,people⟩).toArray):=rfl
 rw [hse]
 clear HSC hse
 replace hbX:=below_setRow hbX (Nat.le_refl bw) ((zah ⟨qp,qn,{ vanes with vs:=sv },tn,st,pcs,sys,se,evs,sa,acts,⟨Am,ms.n,cm⟩,masts,⟨some ⟨gp,0,none⟩,pp.n,cp⟩,people⟩).toArray)
 replace k1:=(setRow_other v7 bw (bw+1) ((zah ⟨qp,qn,{ vanes with vs:=sv },tn,st,pcs,sys,se,evs,sa,acts,⟨Am,ms.n,cm⟩,masts,⟨some ⟨gp,0,none⟩,pp.n,cp⟩,people⟩).toArray) (by omega)).trans k1
 replace oP:=oP.setRow ((zah ⟨qp,qn,{ vanes with vs:=sv },tn,st,pcs,sys,se,evs,sa,acts,⟨Am,ms.n,cm⟩,masts,⟨some ⟨gp,0,none⟩,pp.n,cp⟩,people⟩).toArray) hlo
 replace oN:=oN.setRow ((zah ⟨qp,qn,{ vanes with vs:=sv },tn,st,pcs,sys,se,evs,sa,acts,⟨Am,ms.n,cm⟩,masts,⟨some ⟨gp,0,none⟩,pp.n,cp⟩,people⟩).toArray) hlo
 replace oV:=zaq oV ((zah ⟨qp,qn,{ vanes with vs:=sv },tn,st,pcs,sys,se,evs,sa,acts,⟨Am,ms.n,cm⟩,masts,⟨some ⟨gp,0,none⟩,pp.n,cp⟩,people⟩).toArray) (zbh oV hlo)
 replace oT:=zaq oT ((zah ⟨qp,qn,{ vanes with vs:=sv },tn,st,pcs,sys,se,evs,sa,acts,⟨Am,ms.n,cm⟩,masts,⟨some ⟨gp,0,none⟩,pp.n,cp⟩,people⟩).toArray) (zbh oT hlo)
 replace oE:=zaq oE ((zah ⟨qp,qn,{ vanes with vs:=sv },tn,st,pcs,sys,se,evs,sa,acts,⟨Am,ms.n,cm⟩,masts,⟨some ⟨gp,0,none⟩,pp.n,cp⟩,people⟩).toArray) (zbh oE hlo)
 replace oA:=zaq oA ((zah ⟨qp,qn,{ vanes with vs:=sv },tn,st,pcs,sys,se,evs,sa,acts,⟨Am,ms.n,cm⟩,masts,⟨some ⟨gp,0,none⟩,pp.n,cp⟩,people⟩).toArray) (zbh oA hlo)
 replace oM:=zaq oM ((zah ⟨qp,qn,{ vanes with vs:=sv },tn,st,pcs,sys,se,evs,sa,acts,⟨Am,ms.n,cm⟩,masts,⟨some ⟨gp,0,none⟩,pp.n,cp⟩,people⟩).toArray) (zbh oM hlo)
 replace oQ:=zaq oQ ((zah ⟨qp,qn,{ vanes with vs:=sv },tn,st,pcs,sys,se,evs,sa,acts,⟨Am,ms.n,cm⟩,masts,⟨some ⟨gp,0,none⟩,pp.n,cp⟩,people⟩).toArray) (zbh oQ hlo)
 replace k0:=setRow_heap v7 bw _ ((zah ⟨qp,qn,{ vanes with vs:=sv },tn,st,pcs,sys,se,evs,sa,acts,⟨Am,ms.n,cm⟩,masts,⟨some ⟨gp,0,none⟩,pp.n,cp⟩,people⟩).toArray) 45 (0,0) k0
 generalize v7.setRow bw ((zah ⟨qp,qn,{ vanes with vs:=sv },tn,st,pcs,sys,se,evs,sa,acts,⟨Am,ms.n,cm⟩,masts,⟨some ⟨gp,0,none⟩,pp.n,cp⟩,people⟩).toArray)=u7 at *
 have OP:=Lib.hid oP
 have ON:=Lib.hid oN
 have OV:=Lib.hid oV
 have OT:=Lib.hid oT
 have OE:=Lib.hid oE
 have OA:=Lib.hid oA
 have OM:=Lib.hid oM
 have OQ:=Lib.hid oQ
 clear oP oN oV oT oE oA oM oQ
 have HX:=Lib.hid hbX
 clear hbX
 have HQ:=Lib.hid (And.intro hq1 (And.intro hq2 (And.intro hq3 (And.intro hq4 (And.intro hq5 (And.intro hq6 hq7))))))
 have HR:=Lib.hid (And.intro HQ8.out (And.intro HQ9.out (And.intro HQ10.out HQ11.out)))
 clear hq1 hq2 hq3 hq4 hq5 hq6 hq7
 go_wp2_with (with_reducible refine zaw 45 ?_)
 unfold Stp
 refine wpList_load_row rfl 45 _ rfl bw rfl 45 _ (0,0) _ k0 Tryz.underlying45 rfl (by kernel_rfl) ?_
 go_wp2_with (with_reducible refine zas 45 ?_)
 unfold Stp
 refine wpList_store_row rfl 45 _ _ rfl (bw+1) _ rfl rfl 45 _ k1 (by kernel_rfl) rfl (by kernel_rfl) ?_
 go_wp2
 have hFO:HouseOw u7 (bw+2) ⟨qp,qn,{ vanes with vs:=sv },tn,st,pcs,sys,se,evs,sa,acts,⟨Am,ms.n,cm⟩,masts,⟨some ⟨gp,0,none⟩,pp.n,cp⟩,people⟩:=⟨OP.out,ON.out,OV.out,OT.out,OE.out,OA.out,OM.out,OQ.out,HH.out.vanes.1.trans HR.out.1.symm,HH.out.pcs.1.trans HR.out.2.1.symm,HH.out.evs.1.trans HR.out.2.2.1.symm,HH.out.acts.1.trans HR.out.2.2.2.symm,HH.out.masts.1,HPL.out⟩
 refine bodyPost_ret (v:=.agg ((zah ⟨qp,qn,{ vanes with vs:=sv },tn,st,pcs,sys,se,evs,sa,acts,⟨Am,ms.n,cm⟩,masts,⟨some ⟨gp,0,none⟩,pp.n,cp⟩,people⟩).toArray)) (results_cell_row rfl _ _ (bw+1) 45 _ (0,0) _ rfl (setRow_heap u7 (bw+1) _ _ 45 (0,0) k1) Tryz.underlying45 rfl (by kernel_rfl)) rfl ⟨⟨qp,qn,{ vanes with vs:=sv },tn,st,pcs,sys,se,evs,sa,acts,⟨Am,ms.n,cm⟩,masts,⟨some ⟨gp,0,none⟩,pp.n,cp⟩,people⟩,⟨HQ.out.1,HQ.out.2.1,HQ.out.2.2.1,HQ.out.2.2.2.1,HQ.out.2.2.2.2.1,HQ.out.2.2.2.2.2.1,HQ.out.2.2.2.2.2.2,rfl,rfl,rfl,rfl,rfl,rfl,rfl,rfl⟩,rfl,?_,?_⟩
 · rw [HBW.out]
   exact (hFO.setRow _ (by omega)).base (by omega)
 · rw [HBW.out]
   exact below_setRow (HB.out.trans HX.out) (by omega) _
end Go.Proofs.YtoodbfkbbchjiaaGreatDoor
