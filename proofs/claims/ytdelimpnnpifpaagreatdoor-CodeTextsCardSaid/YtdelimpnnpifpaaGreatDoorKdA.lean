/- What closed calls are given and hand back; the first example of Decode. -/
import Derived.Test.YtdelimpnnpifpaaGreatDoorKvW
import Derived.Test.YtdelimpnnpifpaaGreatDoorKaD
set_option linter.all false
namespace Go.Kv
open Go Go.RowKit Go.Proofs
set_option maxRecDepth 100000
noncomputable def qd443 : List AV := [(aI 9)]
noncomputable def qd442 : List AV := [(aI 8)]
noncomputable def qd441 : List AV := [(aI 6)]
noncomputable def qd440 : List AV := [(aI 4)]
noncomputable def qd439 : List AV := [(aI 3)]
noncomputable def qd438 : List AV := [(aI 2)]
noncomputable def qd437 : List AV := [(aI 0)]
noncomputable def qd436 : List AV := [(aI 7)]
noncomputable def qd435 : List AV := [(aI 1)]
noncomputable def qd434 : List AV := [(aI 5)]
noncomputable def qd433 : List AV := [(aI 36)]
noncomputable def qd432 : List AV := [(aI 39)]
noncomputable def qd431 : List AV := [(aI 29)]
noncomputable def qd430 : List AV := [(aI 50)]
noncomputable def qd429 : List AV := [(aI 12)]
noncomputable def qd428 : List AV := [(aI 83)]
noncomputable def qd427 : List AV := [(aI 81)]
noncomputable def qd426 : List AV := [(aI 11)]
noncomputable def qd425 : List AV := [(aI 21)]
noncomputable def qd424 : List AV := [(aI 59)]
noncomputable def qd423 : List AV := [(aI 54)]
noncomputable def qd422 : List AV := [(aI 80)]
noncomputable def qd421 : List AV := [(aI 26)]
noncomputable def qd420 : List AV := [(aI 64)]
noncomputable def qd419 : List AV := [(aI 73)]
noncomputable def qd418 : List AV := [(aI 20)]
noncomputable def qd417 : List AV := [(aI 90)]
noncomputable def qd416 : List AV := [(aI 60)]
noncomputable def qd415 : List AV := [(aI 13)]
noncomputable def qd414 : List AV := [(aI 14)]
noncomputable def qd413 : List AV := [(aI 28)]
noncomputable def qd412 : List AV := [(aI 40)]
noncomputable def qd411 : List AV := [(aI 78)]
noncomputable def qd410 : List AV := [(aI 18)]
noncomputable def qd409 : List AV := [(aI 72)]
noncomputable def qd408 : List AV := [(aI 19)]
noncomputable def qd407 : List AV := [(aI 53)]
noncomputable def qd406 : List AV := [(aI 85)]
noncomputable def qd405 : List AV := [(aI 23)]
noncomputable def qd404 : List AV := [(aI 16)]
noncomputable def qd403 : List AV := [(aI 45)]
noncomputable def qd402 : List AV := [(aI 77)]
noncomputable def qd401 : List AV := [(aI 24)]
noncomputable def qd400 : List AV := [(aI 15)]
noncomputable def qd399 : List AV := [(aI 55)]
noncomputable def qd398 : List AV := [(aI 70)]
noncomputable def qd397 : List AV := [(aI 17)]
noncomputable def qd396 : List AV := [(aI 25)]
noncomputable def qd395 : List AV := [(aI 10)]
noncomputable def qd394 : List AV := [(aI 234)]
noncomputable def qd393 : List AV := [(aI 153)]
noncomputable def qd392 : List AV := [(aI 168)]
noncomputable def qd391 : List AV := [(aI 117)]
noncomputable def qd390 : List AV := [(aI 118)]
noncomputable def qd389 : List AV := [(aI 114)]
noncomputable def qd388 : List AV := [(aI 121)]
noncomputable def qd387 : List AV := [(aI 186)]
noncomputable def qd386 : List AV := [(aI 134)]
noncomputable def qd385 : List AV := [(aI 109)]
noncomputable def qd384 : List AV := [(aI 116)]
noncomputable def qd383 : List AV := [(aI 100)]
noncomputable def qd382 : List AV := [(aI 111)]
noncomputable def qd381 : List AV := [(aI 120)]
noncomputable def qd380 : List AV := [(aI 112)]
noncomputable def qd379 : List AV := [(aI 105)]
noncomputable def qd378 : List AV := [(aI (-5))]
noncomputable def qd377 : List AV := [(aI (-6))]
noncomputable def qd376 : List AV := [(aI (-7))]
noncomputable def qd375 : List AV := [(aI (-4))]
noncomputable def qd374 : List AV := [(aI (-1))]
noncomputable def qd373 : List AV := [(aI (-9))]
noncomputable def qd372 : List AV := [(aI (-3))]
noncomputable def qd371 : List AV := [(aI (-2))]
noncomputable def qd370 : List AV := [(aI (-15))]
noncomputable def qd369 : List AV := [(aI (-16))]
noncomputable def qd368 : List AV := [(aI (-13))]
noncomputable def qd367 : List AV := [(aI (-12))]
noncomputable def qd366 : List AV := [(aI (-34))]
noncomputable def qd365 : List AV := [(aI (-66))]
noncomputable def qd364 : List AV := [(aI (-82))]
noncomputable def qd363 : List AV := [(aI (-10))]
noncomputable def qd362 : List AV := [(aI (-217))]
noncomputable def qd361 : List AV := [(aI (-103))]
noncomputable def qd360 : List AV := [(.d (.v (.slice .none 0 0)))]
noncomputable def qd359 : List AV := [(aI (-172))]
noncomputable def qd358 : DV := (.v (.string (.mk (#[49, 48]))))
noncomputable def qd357 : AV := (.d (.v (.string (.mk (#[48])))))
noncomputable def qd356 : AV := (.d (.v (.string (.mk (#[49])))))
noncomputable def qd355 : AV := (.d (.v (.string (.mk (#[53])))))
noncomputable def qd354 : AV := (.d (.v (.string (.mk (#[50])))))
noncomputable def qd353 : AV := (.d (.v (.string (.mk (#[52])))))
noncomputable def qd352 : AV := (.d (.sl 1 [(vI 2)]))
noncomputable def qd350 : AV := (.d (.sl 1 [(vI 3)]))
noncomputable def qd349 : AV := (.d (.sl 1 [(vI 1)]))
noncomputable def qd348 : AV := (.d (.sl 1 [(vI 0)]))
noncomputable def qd347 : AV := (.d (.sl 1 [(.v (.int .u8 171))]))
noncomputable def qd346 : List AV := [(.d (.v (.float .f32 1056964608)))]
noncomputable def qd345 : List AV := [(.d (.v (.float .f32 1065353216)))]
noncomputable def qd344 : List AV := [qd347]
noncomputable def qd343 : AV := (.d qd358)
noncomputable def qd342 : List AV := [(.d (.v (.float .f64 4620693217682128896)))]
noncomputable def qd341 : List AV := [(.d (.v (.float .f64 4602678819172646912)))]
noncomputable def qd340 : List AV := [(.d (.v (.float .f64 4625196817309499392)))]
noncomputable def qd339 : List AV := [(.d (.v (.float .f64 4607182418800017408)))]
noncomputable def qd338 : DV := (.sl 2 [(vI 1), (vI 2)])
noncomputable def qd337 : DV := (.sl 2 [(vI 0), (vI 2)])
noncomputable def qd336 : List AV := [(.d (.v (.bool false))), (aI 1)]
noncomputable def qd335 : DV := (.sl 2 [(vI 10), (vI 11)])
noncomputable def qd334 : List AV := [(.d (.v (.bool false))), (aI 9)]
noncomputable def qd333 : List AV := [(.d (.v (.bool false))), (aI 5)]
noncomputable def qd332 : List AV := [(.d (.v (.bool false))), (aI 2)]
noncomputable def qd331 : List AV := [(.d (.v (.bool false))), (aI 3)]
noncomputable def qd330 : List AV := [(aI 0), (aI 10)]
noncomputable def qd329 : List AV := [(aI 1), (aI 10)]
noncomputable def qd328 : List AV := [(aI 5), (aI 10)]
noncomputable def qd327 : List AV := [(aI 2), (aI 10)]
noncomputable def qd326 : List AV := [(aI 4), (aI 10)]
noncomputable def qd325 : List AV := [(.d (.v (.bool false))), (aI 12)]
noncomputable def qd324 : List AV := [(.d (.v (.bool false))), (aI 10)]
noncomputable def qd323 : List AV := [(.d (.v (.bool false))), (aI 11)]
noncomputable def qd322 : List AV := [(aI 10), (aI 10)]
noncomputable def qd321 : AV := (.d qd338)
noncomputable def qd319 : AV := (.d (.sl 2 [(vI 1), (vI 0)]))
noncomputable def qd317 : AV := (.d (.sl 2 [(vI 0), (vI 7)]))
noncomputable def qd315 : AV := (.d (.sl 2 [(vI 1), (vI 3)]))
noncomputable def qd314 : List AV := [(aI 3), (.ip [(vI 1)])]
noncomputable def qd313 : List AV := [(aI 3), (.ip [(vI 0)])]
noncomputable def qd312 : AV := (.d qd337)
noncomputable def qd311 : List AV := [(aI 2), (.ip [(vI 1)])]
noncomputable def qd310 : List AV := [(aI 2), (.ip [(vI 0)])]
noncomputable def qd309 : List AV := [(aI 1), (.ip [(vI 1)])]
noncomputable def qd308 : List AV := [(aI 1), (.ip [(vI 0)])]
noncomputable def qd306 : AV := (.d (.sl 2 [(vI 0), (vI 1)]))
noncomputable def qd305 : List AV := [(aI 0), (.ip [(vI 1)])]
noncomputable def qd304 : List AV := [(aI 0), (.ip [(vI 0)])]
noncomputable def qd303 : AV := (.d (.sl 2 [(vI 2), (vI 3)]))
noncomputable def qd302 : AV := (.d (.sl 2 [(vI 0), (vI 0)]))
noncomputable def qd301 : AV := (.d (.sl 2 [(vI 9), (vI 13)]))
noncomputable def qd300 : AV := (.d (.sl 2 [(vI 0), (vI 13)]))
noncomputable def qd298 : AV := (.d (.sl 2 [(vI 5), (vI 12)]))
noncomputable def qd294 : AV := (.d (.sl 2 [(vI 0), (vI 14)]))
noncomputable def qd292 : List AV := [qd321]
noncomputable def qd291 : AV := (.d qd335)
noncomputable def qd289 : List AV := [qd306]
noncomputable def qd288 : List AV := [qd319]
noncomputable def qd287 : AV := (.d (.sl 2 [(vI 12), (vI 12)]))
noncomputable def qd285 : List AV := [qd315]
noncomputable def qd284 : List AV := [qd302]
noncomputable def qd283 : AV := (.tup [(aI 2), (.d (.v (.bool true)))])
noncomputable def qd282 : AV := (.tup [(aI 1), (.d (.v (.bool true)))])
noncomputable def qd281 : AV := (.tup [(.d (.v (.bool true))), (aI 0)])
noncomputable def qd280 : AV := (.tup [(aI 8), (aI 0)])
noncomputable def qd279 : List AV := [qd291]
noncomputable def qd278 : AV := (.tup [(aI 3), (.d (.v (.bool false)))])
noncomputable def qd277 : AV := (.tup [(.d (.v (.bool false))), (aI 0)])
noncomputable def qd276 : AV := (.tup [(aI 2), (aI 0)])
noncomputable def qd275 : AV := (.tup [(aI 4), (aI 0)])
noncomputable def qd274 : AV := (.agg [(aI 4), (aI 2)])
noncomputable def qd273 : List AV := [qd274]
noncomputable def qd272 : AV := (.tup [(.d (.sl 0 [])), (.d (.sl 0 [])), (aI 27)])
noncomputable def qd271 : AV := (.tup [qd347, (aI 0)])
noncomputable def qd270 : DV := (.sl 3 [(vI 1), (vI 5), (vI 6)])
noncomputable def qd269 : DV := (.sl 3 [(vI 1), (vI 2), (vI 4)])
noncomputable def qd268 : DV := (.sl 3 [(vI 4), (vI 5), (vI 6)])
noncomputable def qd267 : DV := (.sl 3 [(vI 1), (vI 2), (vI 3)])
noncomputable def qd264 : List AV := [qd352, qd352]
noncomputable def qd263 : List AV := [(.agg [(aI 7), (.d (.v (.float .f32 1056964608)))])]
noncomputable def qd262 : List AV := [(.d (.v (.float .f64 4602678819172646912))), (aI 0)]
noncomputable def qd261 : List AV := [(.agg [(aI 1), (.d (.v (.float .f32 1065353216)))])]
noncomputable def qd260 : List AV := [(.agg [(aI 5), (.d (.v (.float .f32 1065353216)))])]
noncomputable def qd259 : List AV := [(.d (.v (.float .f64 4607182418800017408))), (aI 0)]
noncomputable def qd258 : List AV := [qd350, qd350]
noncomputable def qd257 : List AV := [(.agg [(aI 10), (.d (.v (.float .f32 1065353216)))])]
noncomputable def qd256 : List AV := [qd347, qd347]
noncomputable def qd255 : List AV := [(.d (.v (.float .f32 1056964608))), (.d (.v (.float .f32 1149239296)))]
noncomputable def qd254 : List AV := [(.d (.v (.float .f32 1065353216))), (.d (.v (.float .f32 1149239296)))]
noncomputable def qd253 : AV := (.d (.sl 3 [(vI 1), (vI 2), (vI 0)]))
noncomputable def qd252 : AV := (.d (.sl 3 [(vI 3), (vI 4), (vI 6)]))
noncomputable def qd251 : AV := (.d (.sl 3 [(vI 2), (vI 2), (vI 5)]))
noncomputable def qd250 : AV := (.d (.sl 3 [(vI 1), (vI 1), (vI 1)]))
noncomputable def qd249 : AV := (.d qd270)
noncomputable def qd248 : AV := (.d qd269)
noncomputable def qd247 : AV := (.d qd268)
noncomputable def qd246 : AV := (.d qd267)
noncomputable def qd245 : AV := (.d (.sl 3 [(vI 0), (vI 0), (vI 0)]))
noncomputable def qd244 : List AV := [qd252]
noncomputable def qd243 : List AV := [qd251]
noncomputable def qd242 : List AV := [qd250]
noncomputable def qd241 : List AV := [qd249]
noncomputable def qd240 : List AV := [qd248]
noncomputable def qd239 : List AV := [(aI 2), (aI 4), (aI 4)]
noncomputable def qd238 : List AV := [(aI 2), (aI 4), (aI 3)]
noncomputable def qd237 : List AV := [(aI 2), (aI 4), (aI 2)]
noncomputable def qd236 : List AV := [(aI 2), (aI 3), (aI 3)]
noncomputable def qd235 : List AV := [qd247]
noncomputable def qd234 : List AV := [qd246]
noncomputable def qd233 : List AV := [qd245]
noncomputable def qd232 : List AV := [(aI 2), (aI 1), (aI 8)]
noncomputable def qd231 : List AV := [(aI 2), (aI 1), (aI 15)]
noncomputable def qd230 : List AV := [(aI 3), (aI 1), (aI 16)]
noncomputable def qd229 : List AV := [(aI 2), (aI 1), (aI 16)]
noncomputable def qd228 : List AV := [(aI 4), (aI 0), (aI 16)]
noncomputable def qd227 : List AV := [(aI 3), (aI 0), (aI 16)]
noncomputable def qd226 : List AV := [(aI 2), (aI 0), (aI 16)]
noncomputable def qd225 : List AV := [(aI 0), (aI 0), (aI 16)]
noncomputable def qd224 : List AV := [(aI 6), (aI 0), (aI 16)]
noncomputable def qd223 : List AV := [(aI 7), (aI 0), (aI 16)]
noncomputable def qd222 : List AV := [(aI 1), (aI 0), (aI 16)]
noncomputable def qd221 : List AV := [(aI 5), (aI 0), (aI 16)]
noncomputable def qd220 : List AV := [(aI 4), (aI 2), (aI 16)]
noncomputable def qd219 : List AV := [(aI 11), (aI 0), (aI 16)]
noncomputable def qd218 : List AV := [(aI 4), (aI 0), (aI 256)]
noncomputable def qd217 : List AV := [(aI 2), (aI 0), (aI 256)]
noncomputable def qd216 : List AV := [(aI 3), (aI 0), (aI 256)]
noncomputable def qd215 : List AV := [(aI 10), (aI 0), (aI 16)]
noncomputable def qd214 : List AV := [qd321, (aI 2)]
noncomputable def qd213 : List AV := [qd312, (aI 0)]
noncomputable def qd212 : List AV := [qd291, (aI 2)]
noncomputable def qd211 : List AV := [qd291, (aI 16)]
noncomputable def qd210 : List AV := [(.d (.sl 2 [(vI 9), (vI 4)])), (.ip [(vI 0)])]
noncomputable def qd209 : List AV := [(.d (.sl 2 [(vI 1), (vI 5)])), (.ip [(vI 0)])]
noncomputable def qd208 : List AV := [(.d (.sl 2 [(vI 9), (vI 7)])), (.ip [(vI 0)])]
noncomputable def qd207 : List AV := [(.d (.sl 2 [(vI 1), (vI 8)])), (.ip [(vI 0)])]
noncomputable def qd206 : List AV := [(.d (.sl 2 [(vI 10), (vI 0)])), (.ip [(vI 0)])]
noncomputable def qd205 : List AV := [(.d (.sl 2 [(vI 3), (vI 13)])), (.ip [(vI 0)])]
noncomputable def qd204 : List AV := [(.d (.sl 2 [(vI 10), (vI 14)])), (.ip [(vI 0)])]
noncomputable def qd195 : AV := (.tup [qd319, (aI 0)])
noncomputable def qd194 : AV := (.tup [qd301, (aI 0)])
noncomputable def qd193 : DV := (.sl 4 [(vI 0), (vI 1), (vI 2), (vI 3)])
noncomputable def qd192 : AV := (.tup [qd291, (aI 0)])
noncomputable def qd191 : AV := (.tup [qd287, (aI 0)])
noncomputable def qd190 : List DV := [qd193]
noncomputable def qd189 : AV := (.d (.sl 4 [(vI 1), (vI 2), (vI 0), (vI 1)]))
noncomputable def qd188 : AV := (.d (.sl 4 [(vI 5), (vI 5), (vI 1), (vI 0)]))
noncomputable def qd187 : AV := (.d (.sl 4 [(vI 0), (vI 0), (vI 1), (vI 0)]))
noncomputable def qd186 : AV := (.d (.sl 4 [(vI 5), (vI 6), (vI 1), (vI 7)]))
noncomputable def qd185 : AV := (.d (.sl 4 [(vI 8), (vI 5), (vI 1), (vI 7)]))
noncomputable def qd184 : AV := (.d qd193)
noncomputable def qd183 : AV := (.d (.sl 4 [(vI 0), (vI 0), (vI 0), (vI 0)]))
noncomputable def qd182 : AV := (.d (.sl 4 [(vI 10), (vI 6), (vI 8), (vI 7)]))
noncomputable def qd181 : AV := (.d (.sl 4 [(vI 10), (vI 6), (vI 1), (vI 7)]))
noncomputable def qd180 : AV := (.d (.sl 4 [(vI 10), (vI 5), (vI 1), (vI 0)]))
noncomputable def qd179 : AV := (.d (.sl 4 [(vI 10), (vI 5), (vI 1), (vI 7)]))
noncomputable def qd178 : List AV := [qd189]
noncomputable def qd177 : List AV := [qd188]
noncomputable def qd176 : List AV := [qd187]
noncomputable def qd175 : AV := (.d (.sl 4 [(vI 10), (vI 6), (vI 1), (vI 15)]))
noncomputable def qd174 : AV := (.d (.sl 4 [(vI 10), (vI 5), (vI 14), (vI 7)]))
noncomputable def qd173 : AV := (.d (.sl 4 [(vI 10), (vI 10), (vI 1), (vI 7)]))
noncomputable def qd172 : List AV := [qd183]
noncomputable def qd171 : List AV := [qd180]
noncomputable def qd170 : List AV := [qd181]
noncomputable def qd169 : List AV := [qd179]
noncomputable def qd168 : List AV := [qd321, (.d (.v (.func (.func 127) (#[]) (#[]))))]
noncomputable def qd167 : List AV := [qd306, (.d (.v (.func (.func 127) (#[]) (#[]))))]
noncomputable def qd166 : List AV := [qd319, (.d (.v (.func (.func 127) (#[]) (#[]))))]
noncomputable def qd165 : List AV := [qd317, (.d (.v (.func (.func 125) (#[]) (#[]))))]
noncomputable def qd164 : List AV := [qd302, (.d (.v (.func (.func 125) (#[]) (#[]))))]
noncomputable def qd163 : List AV := [qd312, (.d (.v (.func (.func 125) (#[]) (#[]))))]
noncomputable def qd162 : List AV := [qd306, (.d (.v (.func (.func 125) (#[]) (#[]))))]
noncomputable def qd161 : List AV := [qd303, (.d (.v (.func (.func 125) (#[]) (#[]))))]
noncomputable def qd160 : List AV := [qd300, (.d (.v (.func (.func 125) (#[]) (#[]))))]
noncomputable def qd159 : List AV := [qd298, (.d (.v (.func (.func 125) (#[]) (#[]))))]
noncomputable def qd158 : List AV := [qd294, (.d (.v (.func (.func 125) (#[]) (#[]))))]
noncomputable def qd157 : List AV := [qd291, (.d (.v (.func (.func 127) (#[]) (#[]))))]
noncomputable def qd156 : List AV := [qd249, (.ip [(vI 2)])]
noncomputable def qd155 : List AV := [qd248, (.ip [(vI 2)])]
noncomputable def qd154 : List AV := [qd246, (.ip [(vI 2)])]
noncomputable def qd153 : List AV := [qd249, (.ip [(vI 1)])]
noncomputable def qd152 : List AV := [qd248, (.ip [(vI 1)])]
noncomputable def qd151 : List AV := [qd246, (.ip [(vI 1)])]
noncomputable def qd150 : List AV := [qd249, (.ip [(vI 0)])]
noncomputable def qd149 : List AV := [qd248, (.ip [(vI 0)])]
noncomputable def qd148 : List AV := [qd246, (.ip [(vI 0)])]
noncomputable def qd147 : List AV := [(.d (.sl 3 [(vI 1), (vI 3), (vI 7)])), (.ip [(vI 0)])]
noncomputable def qd146 : List AV := [(.d (.sl 3 [(vI 1), (vI 3), (vI 8)])), (.ip [(vI 0)])]
noncomputable def qd145 : List AV := [(.d (.sl 3 [(vI 0), (vI 2), (vI 0)])), (.ip [(vI 1)])]
noncomputable def qd144 : List AV := [(.d (.sl 3 [(vI 0), (vI 6), (vI 12)])), (.ip [(vI 1)])]
noncomputable def qd143 : List AV := [(.d (.sl 3 [(vI 0), (vI 6), (vI 13)])), (.ip [(vI 1)])]
noncomputable def qd142 : List AV := [(.d (.sl 3 [(vI 3), (vI 10), (vI 15)])), (.ip [(vI 0)])]
noncomputable def qd137 : List AV := [qd319, qd319]
noncomputable def qd136 : List AV := [qd315, qd315]
noncomputable def qd135 : List AV := [qd301, qd301]
noncomputable def qd134 : AV := (.d (.sl 2 [qd338, qd338]))
noncomputable def qd133 : List AV := [qd291, qd291]
noncomputable def qd132 : List AV := [qd287, qd287]
noncomputable def qd131 : List AV := [qd274, qd306]
noncomputable def qd130 : List AV := [qd274, qd319]
noncomputable def qd129 : List AV := [qd249, (.d (.v (.func (.func 127) (#[]) (#[]))))]
noncomputable def qd128 : List AV := [qd248, (.d (.v (.func (.func 127) (#[]) (#[]))))]
noncomputable def qd127 : List AV := [qd247, (.d (.v (.func (.func 127) (#[]) (#[]))))]
noncomputable def qd126 : List AV := [qd246, (.d (.v (.func (.func 127) (#[]) (#[]))))]
noncomputable def qd125 : List AV := [qd184, (aI 1)]
noncomputable def qd124 : List AV := [qd184, (aI 0)]
noncomputable def qd123 : AV := (.tup [qd189, (aI 0)])
noncomputable def qd122 : AV := (.tup [qd186, (.d (.v (.bool false)))])
noncomputable def qd121 : AV := (.tup [qd180, (.d (.v (.bool true)))])
noncomputable def qd120 : AV := (.tup [qd185, (.d (.v (.bool false)))])
noncomputable def qd119 : AV := (.tup [qd180, (aI 0)])
noncomputable def qd118 : AV := (.tup [qd182, (.d (.v (.bool false)))])
noncomputable def qd117 : AV := (.tup [qd181, (.d (.v (.bool false)))])
noncomputable def qd116 : AV := (.tup [qd179, (.d (.v (.bool false)))])
noncomputable def qd115 : AV := (.tup [qd175, (.d (.v (.bool false)))])
noncomputable def qd114 : AV := (.tup [qd174, (.d (.v (.bool false)))])
noncomputable def qd113 : AV := (.tup [qd173, (.d (.v (.bool false)))])
noncomputable def qd112 : List AV := [qd274, (aI 2), (aI 4), (.d (.v (.bool true)))]
noncomputable def qd111 : AV := (.d (.sl 6 [(vI 0), (vI 0), (vI 0), (vI 0), (vI 0), (vI 0)]))
noncomputable def qd110 : AV := (.d (.sl 6 [(vI 1), (vI 4), (vI 2), (vI 5), (vI 3), (vI 6)]))
noncomputable def qd109 : List AV := [qd274, (aI 2), (aI 3), (.d (.v (.bool false)))]
noncomputable def qd108 : List AV := [qd274, (aI 2), (aI 2), (.d (.v (.bool false)))]
noncomputable def qd107 : List AV := [qd110]
noncomputable def qd106 : List AV := [qd111]
noncomputable def qd105 : List AV := [qd189, (.d (.v (.func (.func 127) (#[]) (#[]))))]
noncomputable def qd104 : List AV := [qd188, (.d (.v (.func (.func 127) (#[]) (#[]))))]
noncomputable def qd103 : List AV := [qd187, (.d (.v (.func (.func 127) (#[]) (#[]))))]
noncomputable def qd102 : AV := (.tup [(.d (.v (.string (.mk (#[119, 111, 114, 100, 32, 52, 32, 50, 32, 49, 48, 32, 53, 32, 49, 32, 48, 10]))))), (aI 0)])
noncomputable def qd101 : List AV := [qd180, (.d (.v (.func (.func 127) (#[]) (#[]))))]
noncomputable def qd100 : List AV := [qd181, (.d (.v (.func (.func 127) (#[]) (#[]))))]
noncomputable def qd99 : List AV := [qd179, (.d (.v (.func (.func 127) (#[]) (#[]))))]
noncomputable def qd98 : AV := (.tup [qd253, qd352, (aI 0)])
noncomputable def qd97 : AV := (.tup [qd134, (aI 0)])
noncomputable def qd96 : DV := (.sl 2 [qd267, qd268])
noncomputable def qd95 : List AV := [qd253, qd253]
noncomputable def qd94 : List DV := [qd96]
noncomputable def qd93 : AV := (.d qd96)
noncomputable def qd92 : List AV := [qd274, qd189]
noncomputable def qd90 : List AV := [qd274, qd188]
noncomputable def qd89 : List AV := [qd274, qd187]
noncomputable def qd88 : List AV := [qd274, qd186]
noncomputable def qd86 : List AV := [qd274, qd185]
noncomputable def qd84 : List AV := [qd93]
noncomputable def qd82 : List AV := [qd274, qd182]
noncomputable def qd79 : List AV := [qd274, qd181]
noncomputable def qd78 : List AV := [qd274, qd180]
noncomputable def qd75 : List AV := [qd274, qd179]
noncomputable def qd74 : List AV := [qd274, qd175]
noncomputable def qd73 : List AV := [qd274, qd174]
noncomputable def qd72 : List AV := [qd274, qd173]
noncomputable def qd71 : List AV := [qd110, (aI 2)]
noncomputable def qd70 : AV := (.tup [qd180, qd350, (aI 0)])
noncomputable def qd69 : AV := (.tup [qd110, (aI 0)])
noncomputable def qd68 : List AV := [qd274, qd181, (.d (.sl 0 []))]
noncomputable def qd67 : List AV := [qd274, qd179, (.d (.sl 0 []))]
noncomputable def qd66 : List AV := [qd110, (.d (.v (.func (.func 127) (#[]) (#[]))))]
noncomputable def qd65 : List AV := [(.d (.sl 6 [(vI 4), (vI 2), (vI 10), (vI 5), (vI 1), (vI 0)])), (.d (.v (.func (.func 114) (#[]) (#[]))))]
noncomputable def qd64 : List AV := [qd93, (aI 16)]
noncomputable def qd63 : AV := (.tup [qd180, qd315, (aI 0)])
noncomputable def qd62 : List AV := [qd274, qd181, (.d (.v (.slice .none 0 0)))]
noncomputable def qd61 : List AV := [qd274, qd179, (.d (.v (.slice .none 0 0)))]
noncomputable def qd60 : AV := (.tup [qd93, (aI 0)])
noncomputable def qd59 : List AV := [qd189, qd189]
noncomputable def qd58 : List AV := [qd274, qd181, qd350]
noncomputable def qd57 : List AV := [qd274, qd181, qd352]
noncomputable def qd56 : List AV := [qd274, qd181, qd349]
noncomputable def qd55 : List AV := [qd274, qd181, qd348]
noncomputable def qd54 : List AV := [qd274, qd179, qd350]
noncomputable def qd53 : List AV := [qd274, qd179, qd352]
noncomputable def qd52 : List AV := [qd274, qd179, qd349]
noncomputable def qd51 : List AV := [qd274, qd179, qd348]
noncomputable def qd50 : List AV := [qd180, qd189]
noncomputable def qd49 : List AV := [qd180, qd180]
noncomputable def qd48 : List AV := [qd180, qd181]
noncomputable def qd47 : List AV := [qd180, qd179]
noncomputable def qd46 : AV := (.d (.sl 6 [(.v (.string (.mk (#[52])))), (.v (.string (.mk (#[50])))), qd358, (.v (.string (.mk (#[53])))), (.v (.string (.mk (#[49])))), (.v (.string (.mk (#[48]))))]))
noncomputable def qd45 : List AV := [qd93, (.d (.v (.func (.func 84) (#[]) (#[]))))]
noncomputable def qd44 : List AV := [qd274, qd181, qd315]
noncomputable def qd43 : AV := (.d (.sl 4 [(vI 10), (.v (.float .f32 1065353216)), (vI 5), (.v (.float .f32 1065353216)), (vI 1), (.v (.float .f32 1065353216)), (vI 7), (.v (.float .f32 1056964608))]))
noncomputable def qd42 : DV := (.sl 3 [qd267, qd269, qd270])
noncomputable def qd41 : List DV := [qd42]
noncomputable def qd40 : AV := (.d qd42)
noncomputable def qd39 : List AV := [qd40]
noncomputable def qd38 : List AV := [qd134, qd134]
noncomputable def qd37 : List AV := [qd247, (.ip qd94)]
noncomputable def qd36 : List AV := [qd246, (.ip qd94)]
noncomputable def qd35 : List AV := [qd40, (aI 15)]
noncomputable def qd34 : List AV := [qd43, (.d (.v (.func (.func 139) (#[]) (#[]))))]
noncomputable def qd33 : List AV := [qd40, (.d (.v (.func (.func 84) (#[]) (#[]))))]
noncomputable def qd32 : List AV := [qd110, qd110]
noncomputable def qd28 : List AV := [qd274, qd43]
noncomputable def qd27 : List AV := [(.d (.sl 7 [(.v (.string (.mk (#[119, 111, 114, 100])))), (.v (.string (.mk (#[52])))), (.v (.string (.mk (#[50])))), qd358, (.v (.string (.mk (#[53])))), (.v (.string (.mk (#[49])))), (.v (.string (.mk (#[48]))))])), (.d (.v (.string (.mk (#[32])))))]
noncomputable def qd26 : List AV := [(.d (.sl 13 [(vI 1), (vI 0), (vI 1), (vI 0), (vI 0), (vI 0), (vI 0), (vI 0), (vI 0), (vI 0), (vI 0), (vI 0), (vI 0)])), (aI 1)]
noncomputable def qd25 : List AV := [qd249, (.ip qd41)]
noncomputable def qd24 : List AV := [qd248, (.ip qd41)]
noncomputable def qd23 : List AV := [qd246, (.ip qd41)]
noncomputable def qd22 : List AV := [qd93, qd93]
noncomputable def qd21 : List AV := [qd43, qd180]
noncomputable def qd20 : List AV := [(.d (.sl 14 [(vI 0), (vI 0), (vI 1), (vI 0), (vI 0), (vI 0), (vI 0), (vI 0), (vI 0), (vI 0), (vI 0), (vI 0), (vI 0), (vI 0)])), (aI 2)]
noncomputable def qd19 : List AV := [qd93, (.fn (.func 143) [] [(.ip qd94)])]
noncomputable def qd18 : List AV := [(.d (.sl 15 [(vI 0), (vI 0), (vI 0), (vI 0), (vI 0), (vI 0), (vI 0), (vI 0), (vI 0), (vI 0), (vI 0), (vI 0), (vI 0), (vI 0), (vI 0)])), (aI 3)]
noncomputable def qd17 : AV := (.d (.sl 16 [(vI 1), (vI 3), (vI 9), (vI 10), (vI 13), (vI 5), (vI 15), (vI 11), (vI 16), (vI 14), (vI 8), (vI 7), (vI 4), (vI 12), (vI 2), (vI 6)]))
noncomputable def qd16 : AV := (.d (.sl 17 [(vI 0), (vI 0), (vI 0), (vI 1), (vI 1), (vI 0), (vI 1), (vI 0), (vI 0), (vI 0), (vI 0), (vI 0), (vI 0), (vI 0), (vI 0), (vI 0), (vI 0)]))
noncomputable def qd15 : AV := (.d (.sl 17 [(vI 0), (vI 0), (vI 2), (vI 0), (vI 0), (vI 1), (vI 0), (vI 0), (vI 0), (vI 0), (vI 0), (vI 0), (vI 0), (vI 0), (vI 0), (vI 0), (vI 0)]))
noncomputable def qd14 : AV := (.d (.sl 17 [(vI 0), (vI 3), (vI 0), (vI 0), (vI 0), (vI 0), (vI 0), (vI 0), (vI 0), (vI 0), (vI 0), (vI 0), (vI 0), (vI 0), (vI 0), (vI 0), (vI 0)]))
noncomputable def qd13 : List AV := [qd16]
noncomputable def qd12 : List AV := [qd15]
noncomputable def qd11 : List AV := [qd14]
noncomputable def qd10 : List AV := [qd17, (aI 6)]
noncomputable def qd9 : List AV := [qd17, (aI 2)]
noncomputable def qd8 : List AV := [qd17, (aI 9)]
noncomputable def qd7 : List AV := [qd17, (aI 3)]
noncomputable def qd6 : List AV := [qd17, (aI 1)]
noncomputable def qd5 : List AV := [qd17, (aI 10)]
noncomputable def qd4 : List AV := [qd274, qd43, qd180]
noncomputable def qd3 : List AV := [qd16, (aI 1)]
noncomputable def qd2 : List AV := [qd15, (aI 2)]
noncomputable def qd1 : List AV := [qd14, (aI 3)]
noncomputable def qd0 : List AV := [qd40, (.fn (.func 143) [] [(.ip qd41)])]
theorem dd0 : PQ 83 qd331 (aI 0) := cq (.run 9 [] <| .run 1 [(.br false)] <| .run 6 [] <| .fin) []

theorem dd1 : PQ 91 qd220 (aI 0) := cq (.run 11 [] <| .run 1 [(.br false)] <| .run 1 [] <| .run 1 [.none] <| .use dd0 <| .run 1 [(.ck 0)] <| .run 3 [] <| .fin) [.eqA qd331 qd331]

theorem dd2 : PQ 91 qd232 (aI 0) := cq (.run 11 [] <| .run 1 [(.br false)] <| .run 1 [] <| .run 1 [.none] <| .use dd0 <| .run 1 [(.ck 0)] <| .run 3 [] <| .fin) [.eqA qd331 qd331]

theorem dd3 : PQ 83 qd323 (aI 0) := cq (.run 9 [] <| .run 1 [(.br false)] <| .run 6 [] <| .fin) []

theorem dd4 : PQ 82 qd233 (aI 0) := cq (.run 25 [] <| .run 1 [.none] <| .run 7 [] <| .run 1 [(.br false)] <| .run 19 [] <| .run 1 [.none] <| .run 7 [] <| .run 1 [(.br false)] <| .run 19 [] <| .run 1 [.none] <| .run 7 [] <| .run 1 [(.br false)] <| .run 19 [] <| .fin) []

theorem dd5 : PQ 27 qd273 (aI 0) := cq (.run 7 [] <| .use dd1 <| .use dd2 <| .use dd3 <| .use dd4 <| .run 1 [.none, (.ck 0), .none, (.ck 1), .none, .none, (.ck 2), (.ck 3)] <| .run 1 [] <| .fin) [.eqA qd220 qd220, .eqA qd232 qd232, .eqA qd323 qd323, .eqA qd233 qd233]

theorem dd6 : PQ 83 qd332 (aI 0) := cq (.run 9 [] <| .run 1 [(.br false)] <| .run 6 [] <| .fin) []

theorem dd7 : PQ 91 qd215 (aI 0) := cq (.run 11 [] <| .run 1 [(.br false)] <| .run 1 [] <| .run 1 [.none] <| .use dd0 <| .run 1 [(.ck 0)] <| .run 3 [] <| .fin) [.eqA qd331 qd331]

theorem dd8 : PQ 127 qd395 (aI 0) := cq (.run 7 [] <| .use dd7 <| .run 1 [(.ck 0)] <| .run 3 [] <| .fin) [.eqA qd215 qd215]

theorem dd9 : PQ 91 qd221 (aI 0) := cq (.run 11 [] <| .run 1 [(.br false)] <| .run 1 [] <| .run 1 [.none] <| .use dd0 <| .run 1 [(.ck 0)] <| .run 3 [] <| .fin) [.eqA qd331 qd331]

theorem dd10 : PQ 127 qd434 (aI 0) := cq (.run 7 [] <| .use dd9 <| .run 1 [(.ck 0)] <| .run 3 [] <| .fin) [.eqA qd221 qd221]

theorem dd11 : PQ 91 qd222 (aI 0) := cq (.run 11 [] <| .run 1 [(.br false)] <| .run 1 [] <| .run 1 [.none] <| .use dd0 <| .run 1 [(.ck 0)] <| .run 3 [] <| .fin) [.eqA qd331 qd331]

theorem dd12 : PQ 127 qd435 (aI 0) := cq (.run 7 [] <| .use dd11 <| .run 1 [(.ck 0)] <| .run 3 [] <| .fin) [.eqA qd222 qd222]

theorem dd13 : PQ 91 qd223 (aI 0) := cq (.run 11 [] <| .run 1 [(.br false)] <| .run 1 [] <| .run 1 [.none] <| .use dd0 <| .run 1 [(.ck 0)] <| .run 3 [] <| .fin) [.eqA qd331 qd331]

theorem dd14 : PQ 127 qd436 (aI 0) := cq (.run 7 [] <| .use dd13 <| .run 1 [(.ck 0)] <| .run 3 [] <| .fin) [.eqA qd223 qd223]

theorem dd15 : PQ 126 qd99 qd183 := cq (.run 29 [] <| .run 1 [.none] <| .run 6 [] <| .use dd8 <| .run 1 [(.ck 0)] <| .run 1 [] <| .run 1 [.mg] <| .run 13 [] <| .run 1 [(.br true)] <| .run 13 [] <| .use dd10 <| .run 1 [(.ck 1)] <| .run 1 [] <| .run 1 [.mg] <| .run 13 [] <| .run 1 [(.br true)] <| .run 13 [] <| .use dd12 <| .run 1 [(.ck 2)] <| .run 1 [] <| .run 1 [.mg] <| .run 13 [] <| .run 1 [(.br true)] <| .run 13 [] <| .use dd14 <| .run 1 [(.ck 3)] <| .run 1 [] <| .run 1 [.mg] <| .run 13 [] <| .run 1 [(.br false)] <| .run 7 [] <| .fin) [.eqA qd395 qd395, .eqA qd434 qd434, .eqA qd435 qd435, .eqA qd436 qd436]

theorem dd16 : PQ 82 qd172 (aI 0) := cq (.run 25 [] <| .run 1 [.none] <| .run 7 [] <| .run 1 [(.br false)] <| .run 19 [] <| .run 1 [.none] <| .run 7 [] <| .run 1 [(.br false)] <| .run 19 [] <| .run 1 [.none] <| .run 7 [] <| .run 1 [(.br false)] <| .run 19 [] <| .run 1 [.none] <| .run 7 [] <| .run 1 [(.br false)] <| .run 19 [] <| .fin) []

theorem dd17 : PQ 84 qd169 (aI 0) := cq (.run 7 [] <| .use dd15 <| .run 1 [(.ck 0)] <| .use dd16 <| .run 1 [(.ck 1)] <| .run 3 [] <| .fin) [.eqA qd99 qd99, .eqA qd172 qd172]

theorem dd18 : PQ 29 qd75 (aI 0) := cq (.run 7 [] <| .use dd5 <| .use dd6 <| .use dd17 <| .use dd4 <| .run 1 [.none, (.ck 0), .none, (.ck 1), (.ck 2), (.ck 3)] <| .run 1 [] <| .fin) [.eqA qd273 qd273, .eqA qd332 qd332, .eqA qd169 qd169, .eqA qd233 qd233]

theorem dd19 : PQ 83 qd333 (aI 0) := cq (.run 9 [] <| .run 1 [(.br false)] <| .run 6 [] <| .fin) []

theorem dd20 : PQ 82 qd284 (aI 0) := cq (.run 25 [] <| .run 1 [.none] <| .run 7 [] <| .run 1 [(.br false)] <| .run 19 [] <| .run 1 [.none] <| .run 7 [] <| .run 1 [(.br false)] <| .run 19 [] <| .fin) []

theorem dd21 : PQ 92 qd124 (.fn (.func 129) [] [(.ip [(vI 0)]), (.ip qd190)]) := cq (.run 12 [] <| .fin) []

theorem dd22 : PQ 123 qd437 (aI 1) := cq (.run 9 [] <| .run 1 [.none] <| .run 3 [] <| .fin) []

theorem dd23 : PQ 122 qd395 (aI 10) := cq (.run 13 [] <| .fin) []

theorem dd24 : PQ 123 qd435 (aI 3) := cq (.run 9 [] <| .run 1 [.none] <| .run 3 [] <| .fin) []

theorem dd25 : PQ 122 qd396 (aI 8) := cq (.run 13 [] <| .fin) []

theorem dd26 : PQ 123 qd438 (aI 9) := cq (.run 9 [] <| .run 1 [.none] <| .run 3 [] <| .fin) []

theorem dd27 : PQ 122 qd397 (aI 0) := cq (.run 13 [] <| .fin) []

theorem dd28 : PQ 123 qd439 (aI 10) := cq (.run 9 [] <| .run 1 [.none] <| .run 3 [] <| .fin) []

theorem dd29 : PQ 122 qd398 (aI 2) := cq (.run 13 [] <| .fin) []

theorem dd30 : PQ 122 qd399 (aI 4) := cq (.run 13 [] <| .fin) []

theorem dd31 : PQ 123 qd440 (aI 13) := cq (.run 9 [] <| .run 1 [.none] <| .run 3 [] <| .fin) []

theorem dd32 : PQ 123 qd441 (aI 15) := cq (.run 9 [] <| .run 1 [.none] <| .run 3 [] <| .fin) []

theorem dd33 : PQ 122 qd379 (aI 3) := cq (.run 13 [] <| .fin) []

theorem dd34 : PQ 80 qd75 qd303 := cq (.run 9 [] <| .run 1 [.none] <| .run 51 [] <| .use dd22 <| .use dd23 <| .run 1 [.none, (.ck 0), (.ck 1), .none] <| .run 11 [] <| .run 1 [(.br true)] <| .run 7 [] <| .run 1 [.none] <| .run 4 [] <| .use dd24 <| .use dd25 <| .run 1 [.none, (.ck 2), (.ck 3), .none] <| .run 11 [] <| .run 1 [(.br true)] <| .run 7 [] <| .run 1 [.none] <| .run 4 [] <| .use dd26 <| .use dd27 <| .run 1 [.none, (.ck 4), (.ck 5), .none] <| .run 11 [] <| .run 1 [(.br true)] <| .run 7 [] <| .run 1 [.none] <| .run 4 [] <| .use dd28 <| .use dd29 <| .run 1 [.none, (.ck 6), (.ck 7), .none] <| .run 11 [] <| .run 1 [(.br false)] <| .run 47 [] <| .run 1 [.none, (.ck 0), (.ck 1), .none] <| .run 11 [] <| .run 1 [(.br true)] <| .run 7 [] <| .run 1 [.none] <| .run 4 [] <| .use dd30 <| .run 1 [.none, (.ck 4), (.ck 8), .none] <| .run 11 [] <| .run 1 [(.br true)] <| .run 7 [] <| .run 1 [.none] <| .run 4 [] <| .use dd31 <| .run 1 [.none, (.ck 9), (.ck 5), .none] <| .run 11 [] <| .run 1 [(.br true)] <| .run 7 [] <| .run 1 [.none] <| .run 4 [] <| .use dd32 <| .use dd33 <| .run 1 [.none, (.ck 10), (.ck 11), .none] <| .run 11 [] <| .run 1 [(.br false)] <| .run 20 [] <| .fin) [.eqA qd437 qd437, .eqA qd395 qd395, .eqA qd435 qd435, .eqA qd396 qd396, .eqA qd438 qd438, .eqA qd397 qd397, .eqA qd439 qd439, .eqA qd398 qd398, .eqA qd437 qd437, .eqA qd395 qd395, .eqA qd438 qd438, .eqA qd399 qd399, .eqA qd440 qd440, .eqA qd397 qd397, .eqA qd441 qd441, .eqA qd379 qd379]

theorem dd36 : PQ 122 qd371 (aI 15) := cq (.run 13 [] <| .fin) []

theorem dd38 : PQ 122 qd372 (aI 14) := cq (.run 13 [] <| .fin) []

theorem dd39 : PQ 125 qd438 (.d (.v (.bool true))) := cq (.run 11 [] <| .fin) []

theorem dd40 : PQ 156 qd161 (aI 0) := cq (.run 33 [] <| .run 1 [.none] <| .use dd39 <| .run 1 [(.ck 0)] <| .run 1 [] <| .run 1 [(.br true)] <| .run 6 [] <| .fin) [.eqA qd438 qd438]

theorem dd41 : PQ 124 qd161 (.d (.v (.bool true))) := cq (.run 8 [] <| .use dd40 <| .run 1 [(.ck 0)] <| .run 4 [] <| .fin) [.eqA qd161 qd161]

theorem dd42 : PQ 81 qd75 (.d (.v (.bool false))) := cq (.run 7 [] <| .run 1 [.none] <| .run 1 [] <| .use dd34 <| .run 1 [(.ck 0)] <| .use dd41 <| .run 1 [(.ck 1)] <| .run 4 [] <| .fin) [.eqA qd75 qd75, .eqA qd161 qd161]

theorem dd43 : PQ 93 qd67 qd116 := cq (.run 33 [] <| .run 1 [(.br false)] <| .run 10 [] <| .run 1 [.enter] <| .run 9 [] <| .run 1 [.none] <| .run 51 [] <| .use dd22 <| .use dd23 <| .run 1 [.none, (.ck 0), (.ck 1), .none] <| .run 11 [] <| .run 1 [(.br true)] <| .run 7 [] <| .run 1 [.none] <| .run 4 [] <| .use dd24 <| .use dd25 <| .run 1 [.none, (.ck 2), (.ck 3), .none] <| .run 11 [] <| .run 1 [(.br true)] <| .run 7 [] <| .run 1 [.none] <| .run 4 [] <| .use dd26 <| .use dd27 <| .run 1 [.none, (.ck 4), (.ck 5), .none] <| .run 11 [] <| .run 1 [(.br true)] <| .run 7 [] <| .run 1 [.none] <| .run 4 [] <| .use dd28 <| .use dd29 <| .run 1 [.none, (.ck 6), (.ck 7), .none] <| .run 11 [] <| .run 1 [(.br false)] <| .run 47 [] <| .run 1 [.none, (.ck 0), (.ck 1), .none] <| .run 11 [] <| .run 1 [(.br true)] <| .run 7 [] <| .run 1 [.none] <| .run 4 [] <| .use dd30 <| .run 1 [.none, (.ck 4), (.ck 8), .none] <| .run 11 [] <| .run 1 [(.br true)] <| .run 7 [] <| .run 1 [.none] <| .run 4 [] <| .use dd31 <| .run 1 [.none, (.ck 9), (.ck 5), .none] <| .run 11 [] <| .run 1 [(.br true)] <| .run 7 [] <| .run 1 [.none] <| .run 4 [] <| .use dd32 <| .use dd33 <| .run 1 [.none, (.ck 10), (.ck 11), .none] <| .run 11 [] <| .run 1 [(.br false)] <| .run 31 [] <| .run 1 [(.br true)] <| .run 7 [] <| .run 1 [.none] <| .run 1 [] <| .run 1 [.none] <| .run 6 [] <| .run 1 [.enter] <| .run 38 [] <| .use dd36 <| .run 1 [(.ck 12)] <| .run 1 [] <| .run 1 [.mg] <| .run 1 [] <| .run 1 [.mg] <| .run 13 [] <| .run 1 [(.br true)] <| .run 7 [] <| .run 1 [.none] <| .run 1 [] <| .run 1 [.none] <| .run 6 [] <| .run 1 [.enter] <| .run 38 [] <| .use dd38 <| .run 1 [(.ck 13)] <| .run 1 [] <| .run 1 [.mg] <| .run 1 [] <| .run 1 [.mg] <| .run 13 [] <| .run 1 [(.br false)] <| .run 15 [] <| .run 1 [(.br false)] <| .run 15 [] <| .run 1 [(.br false)] <| .run 6 [] <| .use dd42 <| .run 1 [(.ck 14)] <| .run 4 [] <| .fin) [.eqA qd437 qd437, .eqA qd395 qd395, .eqA qd435 qd435, .eqA qd396 qd396, .eqA qd438 qd438, .eqA qd397 qd397, .eqA qd439 qd439, .eqA qd398 qd398, .eqA qd437 qd437, .eqA qd395 qd395, .eqA qd438 qd438, .eqA qd399 qd399, .eqA qd440 qd440, .eqA qd397 qd397, .eqA qd441 qd441, .eqA qd379 qd379, .eqA qd371 qd371, .eqA qd372 qd372, .eqA qd75 qd75]

theorem dd44 : PQ 92 qd125 (.fn (.func 129) [] [(.ip [(vI 1)]), (.ip qd190)]) := cq (.run 12 [] <| .fin) []

theorem dd45 : PQ 122 qd437 (aI 0) := cq (.run 13 [] <| .fin) []

theorem dd46 : PQ 122 qd400 (aI 15) := cq (.run 13 [] <| .fin) []

theorem dd47 : PQ 122 qd401 (aI 7) := cq (.run 13 [] <| .fin) []

theorem dd48 : PQ 122 qd402 (aI 9) := cq (.run 13 [] <| .fin) []

theorem dd49 : PQ 122 qd403 (aI 11) := cq (.run 13 [] <| .fin) []

theorem dd50 : PQ 122 qd380 (aI 10) := cq (.run 13 [] <| .fin) []

theorem dd52 : PQ 132 qd304 (aI 1) := cq (.run 7 [] <| .run 1 [.none] <| .run 2 [] <| .use dd22 <| .run 1 [(.ck 0)] <| .run 3 [] <| .fin) [.eqA qd437 qd437]

theorem dd54 : PQ 122 qd373 (aI 8) := cq (.run 13 [] <| .fin) []

theorem dd55 : PQ 132 qd305 (aI 1) := cq (.run 7 [] <| .run 1 [.none] <| .run 2 [] <| .use dd22 <| .run 1 [(.ck 0)] <| .run 3 [] <| .fin) [.eqA qd437 qd437]

theorem dd57 : PQ 122 qd363 (aI 7) := cq (.run 13 [] <| .fin) []

theorem dd58 : PQ 134 qd207 (.d (.v (.bool true))) := cq (.run 7 [] <| .run 1 [.none] <| .run 1 [] <| .run 1 [.none] <| .run 4 [] <| .fin) []

theorem dd59 : PQ 146 qd6 (aI 0) := cq (.run 33 [] <| .run 1 [.none] <| .run 9 [] <| .fin) []

theorem dd60 : PQ 123 qd404 (aI 1) := cq (.run 9 [] <| .run 1 [.none] <| .run 3 [] <| .fin) []

theorem dd61 : PQ 135 qd435 (aI 1) := cq (.run 8 [] <| .use dd59 <| .run 1 [(.ck 0)] <| .run 1 [] <| .use dd60 <| .run 1 [(.ck 1)] <| .run 3 [] <| .fin) [.eqA qd6 qd6, .eqA qd404 qd404]

theorem dd62 : PQ 122 qd435 (aI 1) := cq (.run 13 [] <| .fin) []

theorem dd63 : PQ 122 qd442 (aI 8) := cq (.run 13 [] <| .fin) []

theorem dd64 : PQ 122 qd374 (aI 16) := cq (.run 13 [] <| .fin) []

theorem dd65 : PQ 122 qd405 (aI 6) := cq (.run 13 [] <| .fin) []

theorem dd66 : PQ 122 qd406 (aI 0) := cq (.run 13 [] <| .fin) []

theorem dd67 : PQ 122 qd407 (aI 2) := cq (.run 13 [] <| .fin) []

theorem dd68 : PQ 122 qd381 (aI 1) := cq (.run 13 [] <| .fin) []

theorem dd69 : PQ 80 qd86 qd306 := cq (.run 9 [] <| .run 1 [.none] <| .run 51 [] <| .use dd22 <| .use dd63 <| .run 1 [.none, (.ck 0), (.ck 1), .none] <| .run 11 [] <| .run 1 [(.br true)] <| .run 7 [] <| .run 1 [.none] <| .run 4 [] <| .use dd24 <| .use dd65 <| .run 1 [.none, (.ck 2), (.ck 3), .none] <| .run 11 [] <| .run 1 [(.br true)] <| .run 7 [] <| .run 1 [.none] <| .run 4 [] <| .use dd26 <| .use dd46 <| .run 1 [.none, (.ck 4), (.ck 5), .none] <| .run 11 [] <| .run 1 [(.br true)] <| .run 7 [] <| .run 1 [.none] <| .run 4 [] <| .use dd28 <| .use dd66 <| .run 1 [.none, (.ck 6), (.ck 7), .none] <| .run 11 [] <| .run 1 [(.br false)] <| .run 47 [] <| .run 1 [.none, (.ck 0), (.ck 1), .none] <| .run 11 [] <| .run 1 [(.br true)] <| .run 7 [] <| .run 1 [.none] <| .run 4 [] <| .use dd67 <| .run 1 [.none, (.ck 4), (.ck 8), .none] <| .run 11 [] <| .run 1 [(.br true)] <| .run 7 [] <| .run 1 [.none] <| .run 4 [] <| .use dd31 <| .run 1 [.none, (.ck 9), (.ck 5), .none] <| .run 11 [] <| .run 1 [(.br true)] <| .run 7 [] <| .run 1 [.none] <| .run 4 [] <| .use dd32 <| .use dd68 <| .run 1 [.none, (.ck 10), (.ck 11), .none] <| .run 11 [] <| .run 1 [(.br false)] <| .run 20 [] <| .fin) [.eqA qd437 qd437, .eqA qd442 qd442, .eqA qd435 qd435, .eqA qd405 qd405, .eqA qd438 qd438, .eqA qd400 qd400, .eqA qd439 qd439, .eqA qd406 qd406, .eqA qd437 qd437, .eqA qd442 qd442, .eqA qd438 qd438, .eqA qd407 qd407, .eqA qd440 qd440, .eqA qd400 qd400, .eqA qd441 qd441, .eqA qd381 qd381]

theorem dd70 : PQ 125 qd437 (.d (.v (.bool false))) := cq (.run 11 [] <| .fin) []

theorem dd71 : PQ 125 qd435 (.d (.v (.bool true))) := cq (.run 11 [] <| .fin) []

theorem dd72 : PQ 156 qd162 (aI 1) := cq (.run 33 [] <| .run 1 [.none] <| .use dd70 <| .run 1 [(.ck 0)] <| .run 1 [] <| .run 1 [(.br false)] <| .run 27 [] <| .run 1 [.none] <| .use dd71 <| .run 1 [(.ck 1)] <| .run 1 [] <| .run 1 [(.br true)] <| .run 6 [] <| .fin) [.eqA qd437 qd437, .eqA qd435 qd435]

theorem dd73 : PQ 124 qd162 (.d (.v (.bool true))) := cq (.run 8 [] <| .use dd72 <| .run 1 [(.ck 0)] <| .run 4 [] <| .fin) [.eqA qd162 qd162]

theorem dd74 : PQ 81 qd86 (.d (.v (.bool false))) := cq (.run 7 [] <| .run 1 [.none] <| .run 1 [] <| .use dd69 <| .run 1 [(.ck 0)] <| .use dd73 <| .run 1 [(.ck 1)] <| .run 4 [] <| .fin) [.eqA qd86 qd86, .eqA qd162 qd162]

theorem dd75 : PQ 93 qd51 qd120 := cq (.run 33 [] <| .run 1 [(.br true)] <| .run 13 [] <| .run 1 [.none] <| .run 21 [] <| .run 1 [.none] <| .run 1 [] <| .run 1 [.enter] <| .run 9 [] <| .run 1 [.none] <| .run 51 [] <| .use dd22 <| .use dd45 <| .run 1 [.none, (.ck 0), (.ck 1), .none] <| .run 11 [] <| .run 1 [(.br true)] <| .run 7 [] <| .run 1 [.none] <| .run 4 [] <| .use dd24 <| .use dd46 <| .run 1 [.none, (.ck 2), (.ck 3), .none] <| .run 11 [] <| .run 1 [(.br true)] <| .run 7 [] <| .run 1 [.none] <| .run 4 [] <| .use dd26 <| .use dd47 <| .run 1 [.none, (.ck 4), (.ck 5), .none] <| .run 11 [] <| .run 1 [(.br true)] <| .run 7 [] <| .run 1 [.none] <| .run 4 [] <| .use dd28 <| .use dd48 <| .run 1 [.none, (.ck 6), (.ck 7), .none] <| .run 11 [] <| .run 1 [(.br false)] <| .run 47 [] <| .run 1 [.none, (.ck 0), (.ck 1), .none] <| .run 11 [] <| .run 1 [(.br true)] <| .run 7 [] <| .run 1 [.none] <| .run 4 [] <| .use dd49 <| .run 1 [.none, (.ck 4), (.ck 8), .none] <| .run 11 [] <| .run 1 [(.br true)] <| .run 7 [] <| .run 1 [.none] <| .run 4 [] <| .use dd31 <| .run 1 [.none, (.ck 9), (.ck 5), .none] <| .run 11 [] <| .run 1 [(.br true)] <| .run 7 [] <| .run 1 [.none] <| .run 4 [] <| .use dd32 <| .use dd50 <| .run 1 [.none, (.ck 10), (.ck 11), .none] <| .run 11 [] <| .run 1 [(.br false)] <| .run 31 [] <| .run 1 [(.br true)] <| .run 7 [] <| .run 1 [.none] <| .run 1 [] <| .run 1 [.none] <| .run 6 [] <| .run 1 [.enter] <| .run 29 [] <| .run 1 [.none] <| .run 6 [] <| .use dd52 <| .run 1 [(.ck 12)] <| .run 1 [] <| .run 1 [.mg] <| .run 13 [] <| .run 1 [(.br false)] <| .run 15 [] <| .use dd54 <| .run 1 [(.ck 13)] <| .run 1 [] <| .run 1 [.mg] <| .run 1 [] <| .run 1 [.mg] <| .run 13 [] <| .run 1 [(.br true)] <| .run 7 [] <| .run 1 [.none] <| .run 1 [] <| .run 1 [.none] <| .run 6 [] <| .run 1 [.enter] <| .run 29 [] <| .run 1 [.none] <| .run 6 [] <| .use dd55 <| .run 1 [(.ck 14)] <| .run 1 [] <| .run 1 [.mg] <| .run 13 [] <| .run 1 [(.br false)] <| .run 15 [] <| .use dd57 <| .run 1 [(.ck 15)] <| .run 1 [] <| .run 1 [.mg] <| .run 1 [] <| .run 1 [.mg] <| .run 13 [] <| .run 1 [(.br false)] <| .run 15 [] <| .run 1 [(.br true)] <| .run 7 [] <| .run 1 [.none] <| .run 1 [] <| .run 1 [.none] <| .run 5 [] <| .run 1 [.none] <| .run 2 [] <| .run 1 [.enter] <| .run 33 [] <| .run 1 [.none] <| .use dd58 <| .run 1 [(.ck 16)] <| .run 1 [] <| .run 1 [(.br true)] <| .run 15 [] <| .run 1 [(.br false)] <| .run 13 [] <| .run 1 [.none, .none, .none, .none] <| .run 3 [] <| .run 1 [.none] <| .run 7 [] <| .run 1 [.none] <| .run 1 [] <| .run 1 [.none] <| .use dd61 <| .run 1 [(.ck 17)] <| .run 31 [] <| .run 1 [.none] <| .run 2 [] <| .use dd62 <| .run 1 [(.ck 18)] <| .run 1 [] <| .run 1 [.none] <| .run 27 [] <| .run 1 [.none] <| .run 2 [] <| .use dd63 <| .run 1 [(.ck 19)] <| .run 1 [] <| .run 1 [.none] <| .run 47 [] <| .run 1 [(.br true)] <| .run 11 [] <| .run 1 [(.br true)] <| .run 7 [] <| .run 1 [.none] <| .run 7 [] <| .run 1 [.none] <| .run 7 [] <| .run 1 [.none] <| .run 1 [] <| .run 1 [.none] <| .run 15 [] <| .run 1 [(.br true)] <| .run 9 [] <| .run 1 [.none, .none, (.ck 1), .none] <| .run 11 [] <| .run 1 [(.br true)] <| .run 9 [] <| .use dd64 <| .run 1 [.none, .none, (.ck 20), .none] <| .run 11 [] <| .run 1 [(.br false)] <| .run 31 [] <| .run 1 [(.br false)] <| .run 15 [] <| .run 1 [(.br true)] <| .run 7 [] <| .run 1 [.none] <| .run 9 [] <| .run 1 [.none] <| .run 3 [] <| .run 1 [.none] <| .run 1 [] <| .run 1 [.none] <| .run 17 [] <| .run 1 [.none] <| .run 1 [] <| .use dd74 <| .run 1 [(.ck 21)] <| .run 4 [] <| .fin) [.eqA qd437 qd437, .eqA qd437 qd437, .eqA qd435 qd435, .eqA qd400 qd400, .eqA qd438 qd438, .eqA qd401 qd401, .eqA qd439 qd439, .eqA qd402 qd402, .eqA qd437 qd437, .eqA qd437 qd437, .eqA qd438 qd438, .eqA qd403 qd403, .eqA qd440 qd440, .eqA qd401 qd401, .eqA qd441 qd441, .eqA qd380 qd380, .eqA qd304 qd304, .eqA qd373 qd373, .eqA qd305 qd305, .eqA qd363 qd363, .eqA qd207 qd207, .eqA qd435 qd435, .eqA qd435 qd435, .eqA qd442 qd442, .eqA qd437 qd437, .eqA qd374 qd374, .eqA qd86 qd86]

theorem dd76 : PQ 122 qd408 (aI 2) := cq (.run 13 [] <| .fin) []

theorem dd77 : PQ 122 qd409 (aI 4) := cq (.run 13 [] <| .fin) []

theorem dd78 : PQ 122 qd382 (aI 9) := cq (.run 13 [] <| .fin) []

theorem dd80 : PQ 132 qd308 (aI 3) := cq (.run 7 [] <| .run 1 [.none] <| .run 2 [] <| .use dd24 <| .run 1 [(.ck 0)] <| .run 3 [] <| .fin) [.eqA qd435 qd435]

theorem dd82 : PQ 122 qd375 (aI 13) := cq (.run 13 [] <| .fin) []

theorem dd83 : PQ 132 qd309 (aI 9) := cq (.run 7 [] <| .run 1 [.none] <| .run 2 [] <| .use dd26 <| .run 1 [(.ck 0)] <| .run 3 [] <| .fin) [.eqA qd438 qd438]

theorem dd85 : PQ 134 qd205 (.d (.v (.bool true))) := cq (.run 7 [] <| .run 1 [.none] <| .run 1 [] <| .run 1 [.none] <| .run 4 [] <| .fin) []

theorem dd86 : PQ 146 qd7 (aI 1) := cq (.run 33 [] <| .run 1 [.none] <| .run 15 [] <| .run 1 [(.br true)] <| .run 17 [] <| .run 1 [(.br true)] <| .run 6 [] <| .fin) []

theorem dd87 : PQ 123 qd400 (aI 6) := cq (.run 9 [] <| .run 1 [.none] <| .run 3 [] <| .fin) []

theorem dd88 : PQ 135 qd439 (aI 6) := cq (.run 8 [] <| .use dd86 <| .run 1 [(.ck 0)] <| .run 1 [] <| .use dd87 <| .run 1 [(.ck 1)] <| .run 3 [] <| .fin) [.eqA qd7 qd7, .eqA qd400 qd400]

theorem dd89 : PQ 122 qd410 (aI 1) := cq (.run 13 [] <| .fin) []

theorem dd90 : PQ 122 qd411 (aI 10) := cq (.run 13 [] <| .fin) []

theorem dd91 : PQ 122 qd364 (aI 3) := cq (.run 13 [] <| .fin) []

theorem dd92 : PQ 122 qd412 (aI 6) := cq (.run 13 [] <| .fin) []

theorem dd93 : PQ 122 qd383 (aI 15) := cq (.run 13 [] <| .fin) []

theorem dd94 : PQ 122 qd413 (aI 11) := cq (.run 13 [] <| .fin) []

theorem dd95 : PQ 122 qd384 (aI 14) := cq (.run 13 [] <| .fin) []

theorem dd96 : PQ 80 qd72 qd294 := cq (.run 9 [] <| .run 1 [.none] <| .run 51 [] <| .use dd22 <| .use dd23 <| .run 1 [.none, (.ck 0), (.ck 1), .none] <| .run 11 [] <| .run 1 [(.br true)] <| .run 7 [] <| .run 1 [.none] <| .run 4 [] <| .use dd24 <| .use dd92 <| .run 1 [.none, (.ck 2), (.ck 3), .none] <| .run 11 [] <| .run 1 [(.br true)] <| .run 7 [] <| .run 1 [.none] <| .run 4 [] <| .use dd26 <| .use dd46 <| .run 1 [.none, (.ck 4), (.ck 5), .none] <| .run 11 [] <| .run 1 [(.br true)] <| .run 7 [] <| .run 1 [.none] <| .run 4 [] <| .use dd28 <| .use dd66 <| .run 1 [.none, (.ck 6), (.ck 7), .none] <| .run 11 [] <| .run 1 [(.br false)] <| .run 47 [] <| .run 1 [.none, (.ck 0), (.ck 1), .none] <| .run 11 [] <| .run 1 [(.br true)] <| .run 7 [] <| .run 1 [.none] <| .run 4 [] <| .use dd93 <| .run 1 [.none, (.ck 4), (.ck 8), .none] <| .run 11 [] <| .run 1 [(.br true)] <| .run 7 [] <| .run 1 [.none] <| .run 4 [] <| .use dd31 <| .use dd94 <| .run 1 [.none, (.ck 9), (.ck 10), .none] <| .run 11 [] <| .run 1 [(.br true)] <| .run 7 [] <| .run 1 [.none] <| .run 4 [] <| .use dd32 <| .use dd95 <| .run 1 [.none, (.ck 11), (.ck 12), .none] <| .run 11 [] <| .run 1 [(.br false)] <| .run 20 [] <| .fin) [.eqA qd437 qd437, .eqA qd395 qd395, .eqA qd435 qd435, .eqA qd412 qd412, .eqA qd438 qd438, .eqA qd400 qd400, .eqA qd439 qd439, .eqA qd406 qd406, .eqA qd437 qd437, .eqA qd395 qd395, .eqA qd438 qd438, .eqA qd383 qd383, .eqA qd440 qd440, .eqA qd413 qd413, .eqA qd441 qd441, .eqA qd384 qd384]

theorem dd97 : PQ 125 qd414 (.d (.v (.bool true))) := cq (.run 11 [] <| .fin) []

theorem dd98 : PQ 156 qd158 (aI 1) := cq (.run 33 [] <| .run 1 [.none] <| .use dd70 <| .run 1 [(.ck 0)] <| .run 1 [] <| .run 1 [(.br false)] <| .run 27 [] <| .run 1 [.none] <| .use dd97 <| .run 1 [(.ck 1)] <| .run 1 [] <| .run 1 [(.br true)] <| .run 6 [] <| .fin) [.eqA qd437 qd437, .eqA qd414 qd414]

theorem dd99 : PQ 124 qd158 (.d (.v (.bool true))) := cq (.run 8 [] <| .use dd98 <| .run 1 [(.ck 0)] <| .run 4 [] <| .fin) [.eqA qd158 qd158]

theorem dd100 : PQ 81 qd72 (.d (.v (.bool false))) := cq (.run 7 [] <| .run 1 [.none] <| .run 1 [] <| .use dd96 <| .run 1 [(.ck 0)] <| .use dd99 <| .run 1 [(.ck 1)] <| .run 4 [] <| .fin) [.eqA qd72 qd72, .eqA qd158 qd158]

theorem dd101 : PQ 93 qd52 qd113 := cq (.run 33 [] <| .run 1 [(.br true)] <| .run 13 [] <| .run 1 [.none] <| .run 21 [] <| .run 1 [.none] <| .run 1 [] <| .run 1 [.enter] <| .run 9 [] <| .run 1 [.none] <| .run 51 [] <| .use dd22 <| .use dd23 <| .run 1 [.none, (.ck 0), (.ck 1), .none] <| .run 11 [] <| .run 1 [(.br true)] <| .run 7 [] <| .run 1 [.none] <| .run 4 [] <| .use dd24 <| .run 1 [.none, (.ck 2), (.ck 1), .none] <| .run 11 [] <| .run 1 [(.br true)] <| .run 7 [] <| .run 1 [.none] <| .run 4 [] <| .use dd26 <| .use dd76 <| .run 1 [.none, (.ck 3), (.ck 4), .none] <| .run 11 [] <| .run 1 [(.br true)] <| .run 7 [] <| .run 1 [.none] <| .run 4 [] <| .use dd28 <| .use dd77 <| .run 1 [.none, (.ck 5), (.ck 6), .none] <| .run 11 [] <| .run 1 [(.br false)] <| .run 47 [] <| .run 1 [.none, (.ck 0), (.ck 1), .none] <| .run 11 [] <| .run 1 [(.br true)] <| .run 7 [] <| .run 1 [.none] <| .run 4 [] <| .run 1 [.none, (.ck 3), (.ck 1), .none] <| .run 11 [] <| .run 1 [(.br true)] <| .run 7 [] <| .run 1 [.none] <| .run 4 [] <| .use dd31 <| .use dd65 <| .run 1 [.none, (.ck 7), (.ck 8), .none] <| .run 11 [] <| .run 1 [(.br true)] <| .run 7 [] <| .run 1 [.none] <| .run 4 [] <| .use dd32 <| .use dd78 <| .run 1 [.none, (.ck 9), (.ck 10), .none] <| .run 11 [] <| .run 1 [(.br false)] <| .run 31 [] <| .run 1 [(.br true)] <| .run 7 [] <| .run 1 [.none] <| .run 1 [] <| .run 1 [.none] <| .run 6 [] <| .run 1 [.enter] <| .run 29 [] <| .run 1 [.none] <| .run 6 [] <| .use dd80 <| .run 1 [(.ck 11)] <| .run 1 [] <| .run 1 [.mg] <| .run 13 [] <| .run 1 [(.br false)] <| .run 15 [] <| .use dd82 <| .run 1 [(.ck 12)] <| .run 1 [] <| .run 1 [.mg] <| .run 1 [] <| .run 1 [.mg] <| .run 13 [] <| .run 1 [(.br true)] <| .run 7 [] <| .run 1 [.none] <| .run 1 [] <| .run 1 [.none] <| .run 6 [] <| .run 1 [.enter] <| .run 29 [] <| .run 1 [.none] <| .run 6 [] <| .use dd83 <| .run 1 [(.ck 13)] <| .run 1 [] <| .run 1 [.mg] <| .run 13 [] <| .run 1 [(.br false)] <| .run 15 [] <| .use dd54 <| .run 1 [(.ck 14)] <| .run 1 [] <| .run 1 [.mg] <| .run 1 [] <| .run 1 [.mg] <| .run 13 [] <| .run 1 [(.br false)] <| .run 15 [] <| .run 1 [(.br true)] <| .run 7 [] <| .run 1 [.none] <| .run 1 [] <| .run 1 [.none] <| .run 5 [] <| .run 1 [.none] <| .run 2 [] <| .run 1 [.enter] <| .run 33 [] <| .run 1 [.none] <| .use dd85 <| .run 1 [(.ck 15)] <| .run 1 [] <| .run 1 [(.br true)] <| .run 15 [] <| .run 1 [(.br false)] <| .run 13 [] <| .run 1 [.none, .none, .none, .none] <| .run 3 [] <| .run 1 [.none] <| .run 7 [] <| .run 1 [.none] <| .run 1 [] <| .run 1 [.none] <| .use dd88 <| .run 1 [(.ck 16)] <| .run 31 [] <| .run 1 [.none] <| .run 2 [] <| .use dd89 <| .run 1 [(.ck 17)] <| .run 1 [] <| .run 1 [.none] <| .run 27 [] <| .run 1 [.none] <| .run 2 [] <| .use dd90 <| .run 1 [(.ck 18)] <| .run 1 [] <| .run 1 [.none] <| .run 47 [] <| .run 1 [(.br true)] <| .run 11 [] <| .run 1 [(.br true)] <| .run 7 [] <| .run 1 [.none] <| .run 7 [] <| .run 1 [.none] <| .run 7 [] <| .run 1 [.none] <| .run 1 [] <| .run 1 [.none] <| .run 15 [] <| .run 1 [(.br true)] <| .run 9 [] <| .use dd45 <| .run 1 [.none, .none, (.ck 19), .none] <| .run 11 [] <| .run 1 [(.br true)] <| .run 9 [] <| .use dd91 <| .run 1 [.none, .none, (.ck 20), .none] <| .run 11 [] <| .run 1 [(.br false)] <| .run 31 [] <| .run 1 [(.br false)] <| .run 15 [] <| .run 1 [(.br true)] <| .run 7 [] <| .run 1 [.none] <| .run 9 [] <| .run 1 [.none] <| .run 3 [] <| .run 1 [.none] <| .run 1 [] <| .run 1 [.none] <| .run 17 [] <| .run 1 [.none] <| .run 1 [] <| .use dd100 <| .run 1 [(.ck 21)] <| .run 4 [] <| .fin) [.eqA qd437 qd437, .eqA qd395 qd395, .eqA qd435 qd435, .eqA qd395 qd395, .eqA qd438 qd438, .eqA qd408 qd408, .eqA qd439 qd439, .eqA qd409 qd409, .eqA qd437 qd437, .eqA qd395 qd395, .eqA qd438 qd438, .eqA qd395 qd395, .eqA qd440 qd440, .eqA qd405 qd405, .eqA qd441 qd441, .eqA qd382 qd382, .eqA qd308 qd308, .eqA qd375 qd375, .eqA qd309 qd309, .eqA qd373 qd373, .eqA qd205 qd205, .eqA qd439 qd439, .eqA qd410 qd410, .eqA qd411 qd411, .eqA qd437 qd437, .eqA qd364 qd364, .eqA qd72 qd72]

theorem dd102 : PQ 122 qd440 (aI 4) := cq (.run 13 [] <| .fin) []

theorem dd103 : PQ 122 qd385 (aI 7) := cq (.run 13 [] <| .fin) []

theorem dd105 : PQ 132 qd310 (aI 9) := cq (.run 7 [] <| .run 1 [.none] <| .run 2 [] <| .use dd26 <| .run 1 [(.ck 0)] <| .run 3 [] <| .fin) [.eqA qd438 qd438]

theorem dd107 : PQ 132 qd311 (aI 13) := cq (.run 7 [] <| .run 1 [.none] <| .run 2 [] <| .use dd31 <| .run 1 [(.ck 0)] <| .run 3 [] <| .fin) [.eqA qd440 qd440]

theorem dd109 : PQ 122 qd376 (aI 10) := cq (.run 13 [] <| .fin) []

theorem dd110 : PQ 134 qd208 (.d (.v (.bool true))) := cq (.run 7 [] <| .run 1 [.none] <| .run 1 [] <| .run 1 [.none] <| .run 4 [] <| .fin) []

theorem dd111 : PQ 146 qd8 (aI 2) := cq (.run 33 [] <| .run 1 [.none] <| .run 15 [] <| .run 1 [(.br true)] <| .run 17 [] <| .run 1 [(.br false)] <| .run 27 [] <| .run 1 [.none] <| .run 9 [] <| .fin) []

theorem dd112 : PQ 123 qd414 (aI 2) := cq (.run 9 [] <| .run 1 [.none] <| .run 3 [] <| .fin) []

theorem dd113 : PQ 135 qd443 (aI 2) := cq (.run 8 [] <| .use dd111 <| .run 1 [(.ck 0)] <| .run 1 [] <| .use dd112 <| .run 1 [(.ck 1)] <| .run 3 [] <| .fin) [.eqA qd8 qd8, .eqA qd414 qd414]

theorem dd114 : PQ 122 qd414 (aI 14) := cq (.run 13 [] <| .fin) []

theorem dd115 : PQ 122 qd359 (aI 15) := cq (.run 13 [] <| .fin) []

theorem dd116 : PQ 122 qd386 (aI 15) := cq (.run 13 [] <| .fin) []

theorem dd117 : PQ 122 qd387 (aI 16) := cq (.run 13 [] <| .fin) []

theorem dd118 : PQ 122 qd388 (aI 2) := cq (.run 13 [] <| .fin) []

theorem dd119 : PQ 80 qd73 qd312 := cq (.run 9 [] <| .run 1 [.none] <| .run 51 [] <| .use dd22 <| .use dd23 <| .run 1 [.none, (.ck 0), (.ck 1), .none] <| .run 11 [] <| .run 1 [(.br true)] <| .run 7 [] <| .run 1 [.none] <| .run 4 [] <| .use dd24 <| .use dd25 <| .run 1 [.none, (.ck 2), (.ck 3), .none] <| .run 11 [] <| .run 1 [(.br true)] <| .run 7 [] <| .run 1 [.none] <| .run 4 [] <| .use dd26 <| .use dd116 <| .run 1 [.none, (.ck 4), (.ck 5), .none] <| .run 11 [] <| .run 1 [(.br true)] <| .run 7 [] <| .run 1 [.none] <| .run 4 [] <| .use dd28 <| .use dd66 <| .run 1 [.none, (.ck 6), (.ck 7), .none] <| .run 11 [] <| .run 1 [(.br false)] <| .run 47 [] <| .run 1 [.none, (.ck 0), (.ck 1), .none] <| .run 11 [] <| .run 1 [(.br true)] <| .run 7 [] <| .run 1 [.none] <| .run 4 [] <| .use dd30 <| .run 1 [.none, (.ck 4), (.ck 8), .none] <| .run 11 [] <| .run 1 [(.br true)] <| .run 7 [] <| .run 1 [.none] <| .run 4 [] <| .use dd31 <| .use dd117 <| .run 1 [.none, (.ck 9), (.ck 10), .none] <| .run 11 [] <| .run 1 [(.br true)] <| .run 7 [] <| .run 1 [.none] <| .run 4 [] <| .use dd32 <| .use dd118 <| .run 1 [.none, (.ck 11), (.ck 12), .none] <| .run 11 [] <| .run 1 [(.br false)] <| .run 20 [] <| .fin) [.eqA qd437 qd437, .eqA qd395 qd395, .eqA qd435 qd435, .eqA qd396 qd396, .eqA qd438 qd438, .eqA qd386 qd386, .eqA qd439 qd439, .eqA qd406 qd406, .eqA qd437 qd437, .eqA qd395 qd395, .eqA qd438 qd438, .eqA qd399 qd399, .eqA qd440 qd440, .eqA qd387 qd387, .eqA qd441 qd441, .eqA qd388 qd388]

theorem dd120 : PQ 156 qd163 (aI 1) := cq (.run 33 [] <| .run 1 [.none] <| .use dd70 <| .run 1 [(.ck 0)] <| .run 1 [] <| .run 1 [(.br false)] <| .run 27 [] <| .run 1 [.none] <| .use dd39 <| .run 1 [(.ck 1)] <| .run 1 [] <| .run 1 [(.br true)] <| .run 6 [] <| .fin) [.eqA qd437 qd437, .eqA qd438 qd438]

theorem dd121 : PQ 124 qd163 (.d (.v (.bool true))) := cq (.run 8 [] <| .use dd120 <| .run 1 [(.ck 0)] <| .run 4 [] <| .fin) [.eqA qd163 qd163]

theorem dd122 : PQ 81 qd73 (.d (.v (.bool false))) := cq (.run 7 [] <| .run 1 [.none] <| .run 1 [] <| .use dd119 <| .run 1 [(.ck 0)] <| .use dd121 <| .run 1 [(.ck 1)] <| .run 4 [] <| .fin) [.eqA qd73 qd73, .eqA qd163 qd163]

theorem dd123 : PQ 93 qd53 qd114 := cq (.run 33 [] <| .run 1 [(.br true)] <| .run 13 [] <| .run 1 [.none] <| .run 21 [] <| .run 1 [.none] <| .run 1 [] <| .run 1 [.enter] <| .run 9 [] <| .run 1 [.none] <| .run 51 [] <| .use dd22 <| .use dd23 <| .run 1 [.none, (.ck 0), (.ck 1), .none] <| .run 11 [] <| .run 1 [(.br true)] <| .run 7 [] <| .run 1 [.none] <| .run 4 [] <| .use dd24 <| .use dd25 <| .run 1 [.none, (.ck 2), (.ck 3), .none] <| .run 11 [] <| .run 1 [(.br true)] <| .run 7 [] <| .run 1 [.none] <| .run 4 [] <| .use dd26 <| .use dd63 <| .run 1 [.none, (.ck 4), (.ck 5), .none] <| .run 11 [] <| .run 1 [(.br true)] <| .run 7 [] <| .run 1 [.none] <| .run 4 [] <| .use dd28 <| .use dd90 <| .run 1 [.none, (.ck 6), (.ck 7), .none] <| .run 11 [] <| .run 1 [(.br false)] <| .run 47 [] <| .run 1 [.none, (.ck 0), (.ck 1), .none] <| .run 11 [] <| .run 1 [(.br true)] <| .run 7 [] <| .run 1 [.none] <| .run 4 [] <| .use dd30 <| .run 1 [.none, (.ck 4), (.ck 8), .none] <| .run 11 [] <| .run 1 [(.br true)] <| .run 7 [] <| .run 1 [.none] <| .run 4 [] <| .use dd31 <| .use dd102 <| .run 1 [.none, (.ck 9), (.ck 10), .none] <| .run 11 [] <| .run 1 [(.br true)] <| .run 7 [] <| .run 1 [.none] <| .run 4 [] <| .use dd32 <| .use dd103 <| .run 1 [.none, (.ck 11), (.ck 12), .none] <| .run 11 [] <| .run 1 [(.br false)] <| .run 31 [] <| .run 1 [(.br true)] <| .run 7 [] <| .run 1 [.none] <| .run 1 [] <| .run 1 [.none] <| .run 6 [] <| .run 1 [.enter] <| .run 29 [] <| .run 1 [.none] <| .run 6 [] <| .use dd105 <| .run 1 [(.ck 13)] <| .run 1 [] <| .run 1 [.mg] <| .run 13 [] <| .run 1 [(.br false)] <| .run 15 [] <| .use dd57 <| .run 1 [(.ck 14)] <| .run 1 [] <| .run 1 [.mg] <| .run 1 [] <| .run 1 [.mg] <| .run 13 [] <| .run 1 [(.br true)] <| .run 7 [] <| .run 1 [.none] <| .run 1 [] <| .run 1 [.none] <| .run 6 [] <| .run 1 [.enter] <| .run 29 [] <| .run 1 [.none] <| .run 6 [] <| .use dd107 <| .run 1 [(.ck 15)] <| .run 1 [] <| .run 1 [.mg] <| .run 13 [] <| .run 1 [(.br false)] <| .run 15 [] <| .use dd109 <| .run 1 [(.ck 16)] <| .run 1 [] <| .run 1 [.mg] <| .run 1 [] <| .run 1 [.mg] <| .run 13 [] <| .run 1 [(.br false)] <| .run 15 [] <| .run 1 [(.br true)] <| .run 7 [] <| .run 1 [.none] <| .run 1 [] <| .run 1 [.none] <| .run 5 [] <| .run 1 [.none] <| .run 2 [] <| .run 1 [.enter] <| .run 33 [] <| .run 1 [.none] <| .use dd110 <| .run 1 [(.ck 17)] <| .run 1 [] <| .run 1 [(.br true)] <| .run 15 [] <| .run 1 [(.br false)] <| .run 13 [] <| .run 1 [.none, .none, .none, .none] <| .run 3 [] <| .run 1 [.none] <| .run 7 [] <| .run 1 [.none] <| .run 1 [] <| .run 1 [.none] <| .use dd113 <| .run 1 [(.ck 18)] <| .run 31 [] <| .run 1 [.none] <| .run 2 [] <| .use dd89 <| .run 1 [(.ck 19)] <| .run 1 [] <| .run 1 [.none] <| .run 27 [] <| .run 1 [.none] <| .run 2 [] <| .use dd114 <| .run 1 [(.ck 20)] <| .run 1 [] <| .run 1 [.none] <| .run 47 [] <| .run 1 [(.br true)] <| .run 11 [] <| .run 1 [(.br true)] <| .run 7 [] <| .run 1 [.none] <| .run 7 [] <| .run 1 [.none] <| .run 7 [] <| .run 1 [.none] <| .run 1 [] <| .run 1 [.none] <| .run 15 [] <| .run 1 [(.br true)] <| .run 9 [] <| .use dd45 <| .run 1 [.none, .none, (.ck 21), .none] <| .run 11 [] <| .run 1 [(.br true)] <| .run 9 [] <| .use dd115 <| .run 1 [.none, .none, (.ck 22), .none] <| .run 11 [] <| .run 1 [(.br false)] <| .run 31 [] <| .run 1 [(.br false)] <| .run 15 [] <| .run 1 [(.br true)] <| .run 7 [] <| .run 1 [.none] <| .run 9 [] <| .run 1 [.none] <| .run 3 [] <| .run 1 [.none] <| .run 1 [] <| .run 1 [.none] <| .run 17 [] <| .run 1 [.none] <| .run 1 [] <| .use dd122 <| .run 1 [(.ck 23)] <| .run 4 [] <| .fin) [.eqA qd437 qd437, .eqA qd395 qd395, .eqA qd435 qd435, .eqA qd396 qd396, .eqA qd438 qd438, .eqA qd442 qd442, .eqA qd439 qd439, .eqA qd411 qd411, .eqA qd437 qd437, .eqA qd395 qd395, .eqA qd438 qd438, .eqA qd399 qd399, .eqA qd440 qd440, .eqA qd440 qd440, .eqA qd441 qd441, .eqA qd385 qd385, .eqA qd310 qd310, .eqA qd363 qd363, .eqA qd311 qd311, .eqA qd376 qd376, .eqA qd208 qd208, .eqA qd443 qd443, .eqA qd410 qd410, .eqA qd414 qd414, .eqA qd437 qd437, .eqA qd359 qd359, .eqA qd73 qd73]

theorem dd124 : PQ 80 qd78 qd302 := cq (.run 9 [] <| .run 1 [.none] <| .run 51 [] <| .use dd22 <| .use dd23 <| .run 1 [.none, (.ck 0), (.ck 1), .none] <| .run 11 [] <| .run 1 [(.br true)] <| .run 7 [] <| .run 1 [.none] <| .run 4 [] <| .use dd24 <| .use dd25 <| .run 1 [.none, (.ck 2), (.ck 3), .none] <| .run 11 [] <| .run 1 [(.br true)] <| .run 7 [] <| .run 1 [.none] <| .run 4 [] <| .use dd26 <| .use dd27 <| .run 1 [.none, (.ck 4), (.ck 5), .none] <| .run 11 [] <| .run 1 [(.br true)] <| .run 7 [] <| .run 1 [.none] <| .run 4 [] <| .use dd28 <| .use dd45 <| .run 1 [.none, (.ck 6), (.ck 7), .none] <| .run 11 [] <| .run 1 [(.br false)] <| .run 47 [] <| .run 1 [.none, (.ck 0), (.ck 1), .none] <| .run 11 [] <| .run 1 [(.br true)] <| .run 7 [] <| .run 1 [.none] <| .run 4 [] <| .use dd30 <| .run 1 [.none, (.ck 4), (.ck 8), .none] <| .run 11 [] <| .run 1 [(.br true)] <| .run 7 [] <| .run 1 [.none] <| .run 4 [] <| .use dd31 <| .run 1 [.none, (.ck 9), (.ck 5), .none] <| .run 11 [] <| .run 1 [(.br true)] <| .run 7 [] <| .run 1 [.none] <| .run 4 [] <| .use dd32 <| .run 1 [.none, (.ck 10), (.ck 7), .none] <| .run 11 [] <| .run 1 [(.br false)] <| .run 20 [] <| .fin) [.eqA qd437 qd437, .eqA qd395 qd395, .eqA qd435 qd435, .eqA qd396 qd396, .eqA qd438 qd438, .eqA qd397 qd397, .eqA qd439 qd439, .eqA qd437 qd437, .eqA qd437 qd437, .eqA qd395 qd395, .eqA qd438 qd438, .eqA qd399 qd399, .eqA qd440 qd440, .eqA qd397 qd397, .eqA qd441 qd441, .eqA qd437 qd437]

theorem dd125 : PQ 132 qd313 (aI 10) := cq (.run 7 [] <| .run 1 [.none] <| .run 2 [] <| .use dd28 <| .run 1 [(.ck 0)] <| .run 3 [] <| .fin) [.eqA qd439 qd439]

theorem dd127 : PQ 132 qd314 (aI 15) := cq (.run 7 [] <| .run 1 [.none] <| .run 2 [] <| .use dd32 <| .run 1 [(.ck 0)] <| .run 3 [] <| .fin) [.eqA qd441 qd441]

theorem dd129 : PQ 134 qd206 (.d (.v (.bool true))) := cq (.run 7 [] <| .run 1 [.none] <| .run 1 [] <| .run 1 [.none] <| .run 4 [] <| .fin) []

theorem dd130 : PQ 146 qd5 (aI 3) := cq (.run 33 [] <| .run 1 [.none] <| .run 15 [] <| .run 1 [(.br true)] <| .run 17 [] <| .run 1 [(.br false)] <| .run 27 [] <| .run 1 [.none] <| .run 15 [] <| .run 1 [(.br true)] <| .run 17 [] <| .run 1 [(.br true)] <| .run 6 [] <| .fin) []

theorem dd131 : PQ 123 qd415 (aI 12) := cq (.run 9 [] <| .run 1 [.none] <| .run 3 [] <| .fin) []

theorem dd132 : PQ 135 qd395 (aI 12) := cq (.run 8 [] <| .use dd130 <| .run 1 [(.ck 0)] <| .run 1 [] <| .use dd131 <| .run 1 [(.ck 1)] <| .run 3 [] <| .fin) [.eqA qd5 qd5, .eqA qd415 qd415]

theorem dd133 : PQ 156 qd164 (aI (-1)) := cq (.run 33 [] <| .run 1 [.none] <| .use dd70 <| .run 1 [(.ck 0)] <| .run 1 [] <| .run 1 [(.br false)] <| .run 27 [] <| .run 1 [.none] <| .run 1 [(.ck 0)] <| .run 1 [] <| .run 1 [(.br false)] <| .run 19 [] <| .fin) [.eqA qd437 qd437, .eqA qd437 qd437]

theorem dd134 : PQ 124 qd164 (.d (.v (.bool false))) := cq (.run 8 [] <| .use dd133 <| .run 1 [(.ck 0)] <| .run 4 [] <| .fin) [.eqA qd164 qd164]

theorem dd135 : PQ 81 qd78 (.d (.v (.bool true))) := cq (.run 7 [] <| .run 1 [.none] <| .run 1 [] <| .use dd124 <| .run 1 [(.ck 0)] <| .use dd134 <| .run 1 [(.ck 1)] <| .run 4 [] <| .fin) [.eqA qd78 qd78, .eqA qd164 qd164]

theorem dd136 : PQ 93 qd54 qd121 := cq (.run 33 [] <| .run 1 [(.br true)] <| .run 13 [] <| .run 1 [.none] <| .run 21 [] <| .run 1 [.none] <| .run 1 [] <| .run 1 [.enter] <| .run 9 [] <| .run 1 [.none] <| .run 51 [] <| .use dd22 <| .use dd23 <| .run 1 [.none, (.ck 0), (.ck 1), .none] <| .run 11 [] <| .run 1 [(.br true)] <| .run 7 [] <| .run 1 [.none] <| .run 4 [] <| .use dd24 <| .use dd25 <| .run 1 [.none, (.ck 2), (.ck 3), .none] <| .run 11 [] <| .run 1 [(.br true)] <| .run 7 [] <| .run 1 [.none] <| .run 4 [] <| .use dd26 <| .use dd27 <| .run 1 [.none, (.ck 4), (.ck 5), .none] <| .run 11 [] <| .run 1 [(.br true)] <| .run 7 [] <| .run 1 [.none] <| .run 4 [] <| .use dd28 <| .use dd45 <| .run 1 [.none, (.ck 6), (.ck 7), .none] <| .run 11 [] <| .run 1 [(.br false)] <| .run 47 [] <| .run 1 [.none, (.ck 0), (.ck 1), .none] <| .run 11 [] <| .run 1 [(.br true)] <| .run 7 [] <| .run 1 [.none] <| .run 4 [] <| .use dd30 <| .run 1 [.none, (.ck 4), (.ck 8), .none] <| .run 11 [] <| .run 1 [(.br true)] <| .run 7 [] <| .run 1 [.none] <| .run 4 [] <| .use dd31 <| .run 1 [.none, (.ck 9), (.ck 5), .none] <| .run 11 [] <| .run 1 [(.br true)] <| .run 7 [] <| .run 1 [.none] <| .run 4 [] <| .use dd32 <| .run 1 [.none, (.ck 10), (.ck 7), .none] <| .run 11 [] <| .run 1 [(.br false)] <| .run 31 [] <| .run 1 [(.br true)] <| .run 7 [] <| .run 1 [.none] <| .run 1 [] <| .run 1 [.none] <| .run 6 [] <| .run 1 [.enter] <| .run 29 [] <| .run 1 [.none] <| .run 6 [] <| .use dd125 <| .run 1 [(.ck 11)] <| .run 1 [] <| .run 1 [.mg] <| .run 13 [] <| .run 1 [(.br false)] <| .run 15 [] <| .run 1 [(.ck 7)] <| .run 1 [] <| .run 1 [.mg] <| .run 1 [] <| .run 1 [.mg] <| .run 13 [] <| .run 1 [(.br true)] <| .run 7 [] <| .run 1 [.none] <| .run 1 [] <| .run 1 [.none] <| .run 6 [] <| .run 1 [.enter] <| .run 29 [] <| .run 1 [.none] <| .run 6 [] <| .use dd127 <| .run 1 [(.ck 12)] <| .run 1 [] <| .run 1 [.mg] <| .run 13 [] <| .run 1 [(.br false)] <| .run 15 [] <| .run 1 [(.ck 7)] <| .run 1 [] <| .run 1 [.mg] <| .run 1 [] <| .run 1 [.mg] <| .run 13 [] <| .run 1 [(.br false)] <| .run 15 [] <| .run 1 [(.br true)] <| .run 7 [] <| .run 1 [.none] <| .run 1 [] <| .run 1 [.none] <| .run 5 [] <| .run 1 [.none] <| .run 2 [] <| .run 1 [.enter] <| .run 33 [] <| .run 1 [.none] <| .use dd129 <| .run 1 [(.ck 13)] <| .run 1 [] <| .run 1 [(.br true)] <| .run 15 [] <| .run 1 [(.br false)] <| .run 13 [] <| .run 1 [.none, .none, .none, .none] <| .run 3 [] <| .run 1 [.none] <| .run 7 [] <| .run 1 [.none] <| .run 1 [] <| .run 1 [.none] <| .use dd132 <| .run 1 [(.ck 14)] <| .run 31 [] <| .run 1 [.none] <| .run 2 [] <| .use dd68 <| .run 1 [(.ck 15)] <| .run 1 [] <| .run 1 [.none] <| .run 27 [] <| .run 1 [.none] <| .run 2 [] <| .run 1 [(.ck 7)] <| .run 1 [] <| .run 1 [.none] <| .run 47 [] <| .run 1 [(.br true)] <| .run 11 [] <| .run 1 [(.br true)] <| .run 7 [] <| .run 1 [.none] <| .run 7 [] <| .run 1 [.none] <| .run 7 [] <| .run 1 [.none] <| .run 1 [] <| .run 1 [.none] <| .run 15 [] <| .run 1 [(.br true)] <| .run 9 [] <| .run 1 [.none, .none, (.ck 7), .none] <| .run 11 [] <| .run 1 [(.br true)] <| .run 9 [] <| .run 1 [.none, .none, (.ck 7), .none] <| .run 11 [] <| .run 1 [(.br false)] <| .run 31 [] <| .run 1 [(.br false)] <| .run 15 [] <| .run 1 [(.br true)] <| .run 7 [] <| .run 1 [.none] <| .run 9 [] <| .run 1 [.none] <| .run 3 [] <| .run 1 [.none] <| .run 1 [] <| .run 1 [.none] <| .run 17 [] <| .run 1 [.none] <| .run 1 [] <| .use dd135 <| .run 1 [(.ck 16)] <| .run 4 [] <| .fin) [.eqA qd437 qd437, .eqA qd395 qd395, .eqA qd435 qd435, .eqA qd396 qd396, .eqA qd438 qd438, .eqA qd397 qd397, .eqA qd439 qd439, .eqA qd437 qd437, .eqA qd437 qd437, .eqA qd395 qd395, .eqA qd438 qd438, .eqA qd399 qd399, .eqA qd440 qd440, .eqA qd397 qd397, .eqA qd441 qd441, .eqA qd437 qd437, .eqA qd313 qd313, .eqA qd437 qd437, .eqA qd314 qd314, .eqA qd437 qd437, .eqA qd206 qd206, .eqA qd395 qd395, .eqA qd381 qd381, .eqA qd437 qd437, .eqA qd437 qd437, .eqA qd437 qd437, .eqA qd78 qd78]

theorem dd137 : PQ 94 qd47 qd350 := cq (.run 43 [] <| .run 1 [(.br false)] <| .run 33 [] <| .run 1 [(.br false)] <| .run 33 [] <| .run 1 [(.br false)] <| .run 33 [] <| .run 1 [(.br true)] <| .run 26 [] <| .fin) []

theorem dd138 : PQ 31 qd61 qd70 := cq (.run 12 [] <| .use dd18 <| .use dd19 <| .use dd20 <| .run 1 [.none, .none, (.ck 0), .none, (.ck 1), (.ck 2)] <| .run 5 [] <| .run 1 [(.br false)] <| .run 31 [] <| .run 1 [.none] <| .run 9 [] <| .run 1 [(.br true)] <| .run 19 [] <| .run 1 [.none] <| .run 13 [] <| .run 1 [(.br true)] <| .run 19 [] <| .run 1 [.none] <| .run 13 [] <| .run 1 [(.br true)] <| .run 19 [] <| .run 1 [.none] <| .run 13 [] <| .run 1 [(.br true)] <| .run 19 [] <| .run 1 [.none] <| .run 13 [] <| .run 1 [(.br false)] <| .run 19 [] <| .run 1 [.none] <| .run 3 [] <| .run 1 [.none] <| .run 10 [] <| .use dd21 <| .run 1 [(.ck 3)] <| .run 17 [] <| .run 1 [.none] <| .run 1 [.enter] <| .run 9 [] <| .run 1 [.none] <| .run 5 [] <| .run 1 [.none] <| .run 1 [] <| .run 1 [.enter] <| .run 7 [] <| .use dd43 <| .run 1 [.none, .none, .none, (.call qd360 (.d (.v (.slice .none 0 0)))), .none, (.ck 4)] <| .run 29 [] <| .run 1 [.none] <| .run 3 [] <| .run 1 [.none] <| .run 10 [] <| .use dd44 <| .run 1 [(.ck 5)] <| .run 17 [] <| .run 1 [.none] <| .run 1 [.enter] <| .run 9 [] <| .run 1 [.none] <| .run 26 [] <| .run 1 [.none, (.call qd360 (.d (.v (.slice .none 0 0)))), .none, .none, .none, .enter] <| .run 9 [] <| .run 1 [.none] <| .run 5 [] <| .run 1 [.none] <| .run 1 [] <| .run 1 [.enter] <| .run 7 [] <| .use dd75 <| .run 1 [.none, .none, .none, (.call qd360 (.d (.v (.slice .none 0 0)))), .none, (.ck 6)] <| .run 13 [] <| .run 1 [(.br false)] <| .run 22 [] <| .run 1 [.none, (.call qd360 (.d (.v (.slice .none 0 0)))), .none, .none, .none, .enter] <| .run 9 [] <| .run 1 [.none] <| .run 5 [] <| .run 1 [.none] <| .run 1 [] <| .run 1 [.enter] <| .run 7 [] <| .use dd101 <| .run 1 [.none, .none, .none, (.call qd360 (.d (.v (.slice .none 0 0)))), .none, (.ck 7)] <| .run 13 [] <| .run 1 [(.br false)] <| .run 22 [] <| .run 1 [.none, (.call qd360 (.d (.v (.slice .none 0 0)))), .none, .none, .none, .enter] <| .run 9 [] <| .run 1 [.none] <| .run 5 [] <| .run 1 [.none] <| .run 1 [] <| .run 1 [.enter] <| .run 7 [] <| .use dd123 <| .run 1 [.none, .none, .none, (.call qd360 (.d (.v (.slice .none 0 0)))), .none, (.ck 8)] <| .run 13 [] <| .run 1 [(.br false)] <| .run 22 [] <| .run 1 [.none, (.call qd360 (.d (.v (.slice .none 0 0)))), .none, .none, .none, .enter] <| .run 9 [] <| .run 1 [.none] <| .run 5 [] <| .run 1 [.none] <| .run 1 [] <| .run 1 [.enter] <| .run 7 [] <| .use dd136 <| .run 1 [.none, .none, .none, (.call qd360 (.d (.v (.slice .none 0 0)))), .none, (.ck 9)] <| .run 31 [] <| .run 1 [.none] <| .run 6 [] <| .use dd137 <| .run 1 [.none, .none, .none, (.ck 10)] <| .run 3 [] <| .fin) [.eqA qd75 qd75, .eqA qd333 qd333, .eqA qd284 qd284, .eqA qd124 qd124, (.prop ([AV.d (DV.v (Value.slice none 0 0))] = [AV.d (DV.v (Value.slice none 0 0))])), (.prop (PQ 86 [AV.d (DV.v (Value.slice none 0 0))] (AV.d (DV.v (Value.slice none 0 0))))), .eqA qd67 qd67, .eqA qd125 qd125, (.prop ([AV.d (DV.v (Value.slice none 0 0))] = [AV.d (DV.v (Value.slice none 0 0))])), (.prop (PQ 86 [AV.d (DV.v (Value.slice none 0 0))] (AV.d (DV.v (Value.slice none 0 0))))), (.prop ([AV.d (DV.v (Value.slice none 0 0))] = [AV.d (DV.v (Value.slice none 0 0))])), (.prop (PQ 86 [AV.d (DV.v (Value.slice none 0 0))] (AV.d (DV.v (Value.slice none 0 0))))), .eqA qd51 qd51, (.prop ([AV.d (DV.v (Value.slice none 0 0))] = [AV.d (DV.v (Value.slice none 0 0))])), (.prop (PQ 86 [AV.d (DV.v (Value.slice none 0 0))] (AV.d (DV.v (Value.slice none 0 0))))), (.prop ([AV.d (DV.v (Value.slice none 0 0))] = [AV.d (DV.v (Value.slice none 0 0))])), (.prop (PQ 86 [AV.d (DV.v (Value.slice none 0 0))] (AV.d (DV.v (Value.slice none 0 0))))), .eqA qd52 qd52, (.prop ([AV.d (DV.v (Value.slice none 0 0))] = [AV.d (DV.v (Value.slice none 0 0))])), (.prop (PQ 86 [AV.d (DV.v (Value.slice none 0 0))] (AV.d (DV.v (Value.slice none 0 0))))), (.prop ([AV.d (DV.v (Value.slice none 0 0))] = [AV.d (DV.v (Value.slice none 0 0))])), (.prop (PQ 86 [AV.d (DV.v (Value.slice none 0 0))] (AV.d (DV.v (Value.slice none 0 0))))), .eqA qd53 qd53, (.prop ([AV.d (DV.v (Value.slice none 0 0))] = [AV.d (DV.v (Value.slice none 0 0))])), (.prop (PQ 86 [AV.d (DV.v (Value.slice none 0 0))] (AV.d (DV.v (Value.slice none 0 0))))), (.prop ([AV.d (DV.v (Value.slice none 0 0))] = [AV.d (DV.v (Value.slice none 0 0))])), (.prop (PQ 86 [AV.d (DV.v (Value.slice none 0 0))] (AV.d (DV.v (Value.slice none 0 0))))), .eqA qd54 qd54, .eqA qd47 qd47] (hp := by repeat' (first | exact trivial | exact rfl | exact clnil | apply And.intro))
end Go.Kv
