/- What closed calls are given and hand back; the first example of Decode. -/
import Derived.Test.YtdelimpnnpifpaaGreatDoorKvW
import Derived.Test.YtdelimpnnpifpaaGreatDoorKaD
namespace Go.Kv
set_option linter.all false
open Go Go.RowKit Go.Proofs
set_option maxRecDepth 100000
noncomputable def qd443 : List AV := [(.d (.v (.int .i64 9)))]
noncomputable def qd442 : List AV := [(.d (.v (.int .i64 8)))]
noncomputable def qd441 : List AV := [(.d (.v (.int .i64 6)))]
noncomputable def qd440 : List AV := [(.d (.v (.int .i64 4)))]
noncomputable def qd439 : List AV := [(.d (.v (.int .i64 3)))]
noncomputable def qd438 : List AV := [(.d (.v (.int .i64 2)))]
noncomputable def qd437 : List AV := [(.d (.v (.int .i64 0)))]
noncomputable def qd436 : List AV := [(.d (.v (.int .i64 7)))]
noncomputable def qd435 : List AV := [(.d (.v (.int .i64 1)))]
noncomputable def qd434 : List AV := [(.d (.v (.int .i64 5)))]
noncomputable def qd433 : List AV := [(.d (.v (.int .i64 36)))]
noncomputable def qd432 : List AV := [(.d (.v (.int .i64 39)))]
noncomputable def qd431 : List AV := [(.d (.v (.int .i64 29)))]
noncomputable def qd430 : List AV := [(.d (.v (.int .i64 50)))]
noncomputable def qd429 : List AV := [(.d (.v (.int .i64 12)))]
noncomputable def qd428 : List AV := [(.d (.v (.int .i64 83)))]
noncomputable def qd427 : List AV := [(.d (.v (.int .i64 81)))]
noncomputable def qd426 : List AV := [(.d (.v (.int .i64 11)))]
noncomputable def qd425 : List AV := [(.d (.v (.int .i64 21)))]
noncomputable def qd424 : List AV := [(.d (.v (.int .i64 59)))]
noncomputable def qd423 : List AV := [(.d (.v (.int .i64 54)))]
noncomputable def qd422 : List AV := [(.d (.v (.int .i64 80)))]
noncomputable def qd421 : List AV := [(.d (.v (.int .i64 26)))]
noncomputable def qd420 : List AV := [(.d (.v (.int .i64 64)))]
noncomputable def qd419 : List AV := [(.d (.v (.int .i64 73)))]
noncomputable def qd418 : List AV := [(.d (.v (.int .i64 20)))]
noncomputable def qd417 : List AV := [(.d (.v (.int .i64 90)))]
noncomputable def qd416 : List AV := [(.d (.v (.int .i64 60)))]
noncomputable def qd415 : List AV := [(.d (.v (.int .i64 13)))]
noncomputable def qd414 : List AV := [(.d (.v (.int .i64 14)))]
noncomputable def qd413 : List AV := [(.d (.v (.int .i64 28)))]
noncomputable def qd412 : List AV := [(.d (.v (.int .i64 40)))]
noncomputable def qd411 : List AV := [(.d (.v (.int .i64 78)))]
noncomputable def qd410 : List AV := [(.d (.v (.int .i64 18)))]
noncomputable def qd409 : List AV := [(.d (.v (.int .i64 72)))]
noncomputable def qd408 : List AV := [(.d (.v (.int .i64 19)))]
noncomputable def qd407 : List AV := [(.d (.v (.int .i64 53)))]
noncomputable def qd406 : List AV := [(.d (.v (.int .i64 85)))]
noncomputable def qd405 : List AV := [(.d (.v (.int .i64 23)))]
noncomputable def qd404 : List AV := [(.d (.v (.int .i64 16)))]
noncomputable def qd403 : List AV := [(.d (.v (.int .i64 45)))]
noncomputable def qd402 : List AV := [(.d (.v (.int .i64 77)))]
noncomputable def qd401 : List AV := [(.d (.v (.int .i64 24)))]
noncomputable def qd400 : List AV := [(.d (.v (.int .i64 15)))]
noncomputable def qd399 : List AV := [(.d (.v (.int .i64 55)))]
noncomputable def qd398 : List AV := [(.d (.v (.int .i64 70)))]
noncomputable def qd397 : List AV := [(.d (.v (.int .i64 17)))]
noncomputable def qd396 : List AV := [(.d (.v (.int .i64 25)))]
noncomputable def qd395 : List AV := [(.d (.v (.int .i64 10)))]
noncomputable def qd394 : List AV := [(.d (.v (.int .i64 234)))]
noncomputable def qd393 : List AV := [(.d (.v (.int .i64 153)))]
noncomputable def qd392 : List AV := [(.d (.v (.int .i64 168)))]
noncomputable def qd391 : List AV := [(.d (.v (.int .i64 117)))]
noncomputable def qd390 : List AV := [(.d (.v (.int .i64 118)))]
noncomputable def qd389 : List AV := [(.d (.v (.int .i64 114)))]
noncomputable def qd388 : List AV := [(.d (.v (.int .i64 121)))]
noncomputable def qd387 : List AV := [(.d (.v (.int .i64 186)))]
noncomputable def qd386 : List AV := [(.d (.v (.int .i64 134)))]
noncomputable def qd385 : List AV := [(.d (.v (.int .i64 109)))]
noncomputable def qd384 : List AV := [(.d (.v (.int .i64 116)))]
noncomputable def qd383 : List AV := [(.d (.v (.int .i64 100)))]
noncomputable def qd382 : List AV := [(.d (.v (.int .i64 111)))]
noncomputable def qd381 : List AV := [(.d (.v (.int .i64 120)))]
noncomputable def qd380 : List AV := [(.d (.v (.int .i64 112)))]
noncomputable def qd379 : List AV := [(.d (.v (.int .i64 105)))]
noncomputable def qd378 : List AV := [(.d (.v (.int .i64 (-5))))]
noncomputable def qd377 : List AV := [(.d (.v (.int .i64 (-6))))]
noncomputable def qd376 : List AV := [(.d (.v (.int .i64 (-7))))]
noncomputable def qd375 : List AV := [(.d (.v (.int .i64 (-4))))]
noncomputable def qd374 : List AV := [(.d (.v (.int .i64 (-1))))]
noncomputable def qd373 : List AV := [(.d (.v (.int .i64 (-9))))]
noncomputable def qd372 : List AV := [(.d (.v (.int .i64 (-3))))]
noncomputable def qd371 : List AV := [(.d (.v (.int .i64 (-2))))]
noncomputable def qd370 : List AV := [(.d (.v (.int .i64 (-15))))]
noncomputable def qd369 : List AV := [(.d (.v (.int .i64 (-16))))]
noncomputable def qd368 : List AV := [(.d (.v (.int .i64 (-13))))]
noncomputable def qd367 : List AV := [(.d (.v (.int .i64 (-12))))]
noncomputable def qd366 : List AV := [(.d (.v (.int .i64 (-34))))]
noncomputable def qd365 : List AV := [(.d (.v (.int .i64 (-66))))]
noncomputable def qd364 : List AV := [(.d (.v (.int .i64 (-82))))]
noncomputable def qd363 : List AV := [(.d (.v (.int .i64 (-10))))]
noncomputable def qd362 : List AV := [(.d (.v (.int .i64 (-217))))]
noncomputable def qd361 : List AV := [(.d (.v (.int .i64 (-103))))]
noncomputable def qd360 : List AV := [(.d (.v (.slice .none 0 0)))]
noncomputable def qd359 : List AV := [(.d (.v (.int .i64 (-172))))]
noncomputable def qd358 : DV := (.v (.string (.mk (#[49, 48]))))
noncomputable def qd357 : AV := (.d (.v (.string (.mk (#[48])))))
noncomputable def qd356 : AV := (.d (.v (.string (.mk (#[49])))))
noncomputable def qd355 : AV := (.d (.v (.string (.mk (#[53])))))
noncomputable def qd354 : AV := (.d (.v (.string (.mk (#[50])))))
noncomputable def qd353 : AV := (.d (.v (.string (.mk (#[52])))))
noncomputable def qd352 : AV := (.d (.sl 1 [(.v (.int .i64 2))]))
noncomputable def qd351 : AV := (.d (.sl 1 [(.v (.int .i64 9))]))
noncomputable def qd350 : AV := (.d (.sl 1 [(.v (.int .i64 3))]))
noncomputable def qd349 : AV := (.d (.sl 1 [(.v (.int .i64 1))]))
noncomputable def qd348 : AV := (.d (.sl 1 [(.v (.int .i64 0))]))
noncomputable def qd347 : AV := (.d (.sl 1 [(.v (.int .u8 171))]))
noncomputable def qd346 : List AV := [(.d (.v (.float .f32 1056964608)))]
noncomputable def qd345 : List AV := [(.d (.v (.float .f32 1065353216)))]
noncomputable def qd344 : List AV := [qd347]
noncomputable def qd343 : AV := (.d qd358)
noncomputable def qd342 : List AV := [(.d (.v (.float .f64 4620693217682128896)))]
noncomputable def qd341 : List AV := [(.d (.v (.float .f64 4602678819172646912)))]
noncomputable def qd340 : List AV := [(.d (.v (.float .f64 4625196817309499392)))]
noncomputable def qd339 : List AV := [(.d (.v (.float .f64 4607182418800017408)))]
noncomputable def qd338 : DV := (.sl 2 [(.v (.int .i64 1)), (.v (.int .i64 2))])
noncomputable def qd337 : DV := (.sl 2 [(.v (.int .i64 0)), (.v (.int .i64 2))])
noncomputable def qd336 : List AV := [(.d (.v (.bool false))), (.d (.v (.int .i64 1)))]
noncomputable def qd335 : DV := (.sl 2 [(.v (.int .i64 10)), (.v (.int .i64 11))])
noncomputable def qd334 : List AV := [(.d (.v (.bool false))), (.d (.v (.int .i64 9)))]
noncomputable def qd333 : List AV := [(.d (.v (.bool false))), (.d (.v (.int .i64 5)))]
noncomputable def qd332 : List AV := [(.d (.v (.bool false))), (.d (.v (.int .i64 2)))]
noncomputable def qd331 : List AV := [(.d (.v (.bool false))), (.d (.v (.int .i64 3)))]
noncomputable def qd330 : List AV := [(.d (.v (.int .i64 0))), (.d (.v (.int .i64 10)))]
noncomputable def qd329 : List AV := [(.d (.v (.int .i64 1))), (.d (.v (.int .i64 10)))]
noncomputable def qd328 : List AV := [(.d (.v (.int .i64 5))), (.d (.v (.int .i64 10)))]
noncomputable def qd327 : List AV := [(.d (.v (.int .i64 2))), (.d (.v (.int .i64 10)))]
noncomputable def qd326 : List AV := [(.d (.v (.int .i64 4))), (.d (.v (.int .i64 10)))]
noncomputable def qd325 : List AV := [(.d (.v (.bool false))), (.d (.v (.int .i64 12)))]
noncomputable def qd324 : List AV := [(.d (.v (.bool false))), (.d (.v (.int .i64 10)))]
noncomputable def qd323 : List AV := [(.d (.v (.bool false))), (.d (.v (.int .i64 11)))]
noncomputable def qd322 : List AV := [(.d (.v (.int .i64 10))), (.d (.v (.int .i64 10)))]
noncomputable def qd321 : AV := (.d qd338)
noncomputable def qd320 : AV := (.d (.sl 2 [(.v (.int .i64 1)), (.v (.int .i64 9))]))
noncomputable def qd319 : AV := (.d (.sl 2 [(.v (.int .i64 1)), (.v (.int .i64 0))]))
noncomputable def qd318 : AV := (.d (.sl 2 [(.v (.int .i64 3)), (.v (.int .i64 9))]))
noncomputable def qd317 : AV := (.d (.sl 2 [(.v (.int .i64 0)), (.v (.int .i64 7))]))
noncomputable def qd316 : AV := (.d (.sl 2 [(.v (.int .i64 2)), (.v (.int .i64 6))]))
noncomputable def qd315 : AV := (.d (.sl 2 [(.v (.int .i64 1)), (.v (.int .i64 3))]))
noncomputable def qd314 : List AV := [(.d (.v (.int .i64 3))), (.ip [(.v (.int .i64 1))])]
noncomputable def qd313 : List AV := [(.d (.v (.int .i64 3))), (.ip [(.v (.int .i64 0))])]
noncomputable def qd312 : AV := (.d qd337)
noncomputable def qd311 : List AV := [(.d (.v (.int .i64 2))), (.ip [(.v (.int .i64 1))])]
noncomputable def qd310 : List AV := [(.d (.v (.int .i64 2))), (.ip [(.v (.int .i64 0))])]
noncomputable def qd309 : List AV := [(.d (.v (.int .i64 1))), (.ip [(.v (.int .i64 1))])]
noncomputable def qd308 : List AV := [(.d (.v (.int .i64 1))), (.ip [(.v (.int .i64 0))])]
noncomputable def qd307 : AV := (.d (.sl 2 [(.v (.int .i64 4)), (.v (.int .i64 9))]))
noncomputable def qd306 : AV := (.d (.sl 2 [(.v (.int .i64 0)), (.v (.int .i64 1))]))
noncomputable def qd305 : List AV := [(.d (.v (.int .i64 0))), (.ip [(.v (.int .i64 1))])]
noncomputable def qd304 : List AV := [(.d (.v (.int .i64 0))), (.ip [(.v (.int .i64 0))])]
noncomputable def qd303 : AV := (.d (.sl 2 [(.v (.int .i64 2)), (.v (.int .i64 3))]))
noncomputable def qd302 : AV := (.d (.sl 2 [(.v (.int .i64 0)), (.v (.int .i64 0))]))
noncomputable def qd301 : AV := (.d (.sl 2 [(.v (.int .i64 9)), (.v (.int .i64 13))]))
noncomputable def qd300 : AV := (.d (.sl 2 [(.v (.int .i64 0)), (.v (.int .i64 13))]))
noncomputable def qd299 : AV := (.d (.sl 2 [(.v (.int .i64 12)), (.v (.int .i64 2))]))
noncomputable def qd298 : AV := (.d (.sl 2 [(.v (.int .i64 5)), (.v (.int .i64 12))]))
noncomputable def qd297 : AV := (.d (.sl 2 [(.v (.int .i64 9)), (.v (.int .i64 15))]))
noncomputable def qd296 : AV := (.d (.sl 2 [(.v (.int .i64 3)), (.v (.int .i64 10))]))
noncomputable def qd295 : AV := (.d (.sl 2 [(.v (.int .i64 10)), (.v (.int .i64 7))]))
noncomputable def qd294 : AV := (.d (.sl 2 [(.v (.int .i64 0)), (.v (.int .i64 14))]))
noncomputable def qd293 : AV := (.d (.sl 2 [(.v (.int .i64 9)), (.v (.int .i64 10))]))
noncomputable def qd292 : List AV := [qd321]
noncomputable def qd291 : AV := (.d qd335)
noncomputable def qd290 : AV := (.d (.sl 2 [(.v (.int .i64 10)), (.v (.int .i64 15))]))
noncomputable def qd289 : List AV := [qd306]
noncomputable def qd288 : List AV := [qd319]
noncomputable def qd287 : AV := (.d (.sl 2 [(.v (.int .i64 12)), (.v (.int .i64 12))]))
noncomputable def qd286 : AV := (.d (.sl 2 [(.v (.int .i64 13)), (.v (.int .i64 16))]))
noncomputable def qd285 : List AV := [qd315]
noncomputable def qd284 : List AV := [qd302]
noncomputable def qd283 : AV := (.tup [(.d (.v (.int .i64 2))), (.d (.v (.bool true)))])
noncomputable def qd282 : AV := (.tup [(.d (.v (.int .i64 1))), (.d (.v (.bool true)))])
noncomputable def qd281 : AV := (.tup [(.d (.v (.bool true))), (.d (.v (.int .i64 0)))])
noncomputable def qd280 : AV := (.tup [(.d (.v (.int .i64 8))), (.d (.v (.int .i64 0)))])
noncomputable def qd279 : List AV := [qd291]
noncomputable def qd278 : AV := (.tup [(.d (.v (.int .i64 3))), (.d (.v (.bool false)))])
noncomputable def qd277 : AV := (.tup [(.d (.v (.bool false))), (.d (.v (.int .i64 0)))])
noncomputable def qd276 : AV := (.tup [(.d (.v (.int .i64 2))), (.d (.v (.int .i64 0)))])
noncomputable def qd275 : AV := (.tup [(.d (.v (.int .i64 4))), (.d (.v (.int .i64 0)))])
noncomputable def qd274 : AV := (.agg [(.d (.v (.int .i64 4))), (.d (.v (.int .i64 2)))])
noncomputable def qd273 : List AV := [qd274]
noncomputable def qd272 : AV := (.tup [(.d (.sl 0 [])), (.d (.sl 0 [])), (.d (.v (.int .i64 27)))])
noncomputable def qd271 : AV := (.tup [qd347, (.d (.v (.int .i64 0)))])
noncomputable def qd270 : DV := (.sl 3 [(.v (.int .i64 1)), (.v (.int .i64 5)), (.v (.int .i64 6))])
noncomputable def qd269 : DV := (.sl 3 [(.v (.int .i64 1)), (.v (.int .i64 2)), (.v (.int .i64 4))])
noncomputable def qd268 : DV := (.sl 3 [(.v (.int .i64 4)), (.v (.int .i64 5)), (.v (.int .i64 6))])
noncomputable def qd267 : DV := (.sl 3 [(.v (.int .i64 1)), (.v (.int .i64 2)), (.v (.int .i64 3))])
noncomputable def qd266 : List AV := [(.d (.sl 0 [])), (.fn (.func 132) [] [(.ip [(.v (.int .i64 1))])])]
noncomputable def qd265 : List AV := [(.d (.sl 0 [])), (.fn (.func 132) [] [(.ip [(.v (.int .i64 0))])])]
noncomputable def qd264 : List AV := [qd352, qd352]
noncomputable def qd263 : List AV := [(.agg [(.d (.v (.int .i64 7))), (.d (.v (.float .f32 1056964608)))])]
noncomputable def qd262 : List AV := [(.d (.v (.float .f64 4602678819172646912))), (.d (.v (.int .i64 0)))]
noncomputable def qd261 : List AV := [(.agg [(.d (.v (.int .i64 1))), (.d (.v (.float .f32 1065353216)))])]
noncomputable def qd260 : List AV := [(.agg [(.d (.v (.int .i64 5))), (.d (.v (.float .f32 1065353216)))])]
noncomputable def qd259 : List AV := [(.d (.v (.float .f64 4607182418800017408))), (.d (.v (.int .i64 0)))]
noncomputable def qd258 : List AV := [qd350, qd350]
noncomputable def qd257 : List AV := [(.agg [(.d (.v (.int .i64 10))), (.d (.v (.float .f32 1065353216)))])]
noncomputable def qd256 : List AV := [qd347, qd347]
noncomputable def qd255 : List AV := [(.d (.v (.float .f32 1056964608))), (.d (.v (.float .f32 1149239296)))]
noncomputable def qd254 : List AV := [(.d (.v (.float .f32 1065353216))), (.d (.v (.float .f32 1149239296)))]
noncomputable def qd253 : AV := (.d (.sl 3 [(.v (.int .i64 1)), (.v (.int .i64 2)), (.v (.int .i64 0))]))
noncomputable def qd252 : AV := (.d (.sl 3 [(.v (.int .i64 3)), (.v (.int .i64 4)), (.v (.int .i64 6))]))
noncomputable def qd251 : AV := (.d (.sl 3 [(.v (.int .i64 2)), (.v (.int .i64 2)), (.v (.int .i64 5))]))
noncomputable def qd250 : AV := (.d (.sl 3 [(.v (.int .i64 1)), (.v (.int .i64 1)), (.v (.int .i64 1))]))
noncomputable def qd249 : AV := (.d qd270)
noncomputable def qd248 : AV := (.d qd269)
noncomputable def qd247 : AV := (.d qd268)
noncomputable def qd246 : AV := (.d qd267)
noncomputable def qd245 : AV := (.d (.sl 3 [(.v (.int .i64 0)), (.v (.int .i64 0)), (.v (.int .i64 0))]))
noncomputable def qd244 : List AV := [qd252]
noncomputable def qd243 : List AV := [qd251]
noncomputable def qd242 : List AV := [qd250]
noncomputable def qd241 : List AV := [qd249]
noncomputable def qd240 : List AV := [qd248]
noncomputable def qd239 : List AV := [(.d (.v (.int .i64 2))), (.d (.v (.int .i64 4))), (.d (.v (.int .i64 4)))]
noncomputable def qd238 : List AV := [(.d (.v (.int .i64 2))), (.d (.v (.int .i64 4))), (.d (.v (.int .i64 3)))]
noncomputable def qd237 : List AV := [(.d (.v (.int .i64 2))), (.d (.v (.int .i64 4))), (.d (.v (.int .i64 2)))]
noncomputable def qd236 : List AV := [(.d (.v (.int .i64 2))), (.d (.v (.int .i64 3))), (.d (.v (.int .i64 3)))]
noncomputable def qd235 : List AV := [qd247]
noncomputable def qd234 : List AV := [qd246]
noncomputable def qd233 : List AV := [qd245]
noncomputable def qd232 : List AV := [(.d (.v (.int .i64 2))), (.d (.v (.int .i64 1))), (.d (.v (.int .i64 8)))]
noncomputable def qd231 : List AV := [(.d (.v (.int .i64 2))), (.d (.v (.int .i64 1))), (.d (.v (.int .i64 15)))]
noncomputable def qd230 : List AV := [(.d (.v (.int .i64 3))), (.d (.v (.int .i64 1))), (.d (.v (.int .i64 16)))]
noncomputable def qd229 : List AV := [(.d (.v (.int .i64 2))), (.d (.v (.int .i64 1))), (.d (.v (.int .i64 16)))]
noncomputable def qd228 : List AV := [(.d (.v (.int .i64 4))), (.d (.v (.int .i64 0))), (.d (.v (.int .i64 16)))]
noncomputable def qd227 : List AV := [(.d (.v (.int .i64 3))), (.d (.v (.int .i64 0))), (.d (.v (.int .i64 16)))]
noncomputable def qd226 : List AV := [(.d (.v (.int .i64 2))), (.d (.v (.int .i64 0))), (.d (.v (.int .i64 16)))]
noncomputable def qd225 : List AV := [(.d (.v (.int .i64 0))), (.d (.v (.int .i64 0))), (.d (.v (.int .i64 16)))]
noncomputable def qd224 : List AV := [(.d (.v (.int .i64 6))), (.d (.v (.int .i64 0))), (.d (.v (.int .i64 16)))]
noncomputable def qd223 : List AV := [(.d (.v (.int .i64 7))), (.d (.v (.int .i64 0))), (.d (.v (.int .i64 16)))]
noncomputable def qd222 : List AV := [(.d (.v (.int .i64 1))), (.d (.v (.int .i64 0))), (.d (.v (.int .i64 16)))]
noncomputable def qd221 : List AV := [(.d (.v (.int .i64 5))), (.d (.v (.int .i64 0))), (.d (.v (.int .i64 16)))]
noncomputable def qd220 : List AV := [(.d (.v (.int .i64 4))), (.d (.v (.int .i64 2))), (.d (.v (.int .i64 16)))]
noncomputable def qd219 : List AV := [(.d (.v (.int .i64 11))), (.d (.v (.int .i64 0))), (.d (.v (.int .i64 16)))]
noncomputable def qd218 : List AV := [(.d (.v (.int .i64 4))), (.d (.v (.int .i64 0))), (.d (.v (.int .i64 256)))]
noncomputable def qd217 : List AV := [(.d (.v (.int .i64 2))), (.d (.v (.int .i64 0))), (.d (.v (.int .i64 256)))]
noncomputable def qd216 : List AV := [(.d (.v (.int .i64 3))), (.d (.v (.int .i64 0))), (.d (.v (.int .i64 256)))]
noncomputable def qd215 : List AV := [(.d (.v (.int .i64 10))), (.d (.v (.int .i64 0))), (.d (.v (.int .i64 16)))]
noncomputable def qd214 : List AV := [qd321, (.d (.v (.int .i64 2)))]
noncomputable def qd213 : List AV := [qd312, (.d (.v (.int .i64 0)))]
noncomputable def qd212 : List AV := [qd291, (.d (.v (.int .i64 2)))]
noncomputable def qd211 : List AV := [qd291, (.d (.v (.int .i64 16)))]
noncomputable def qd210 : List AV := [(.d (.sl 2 [(.v (.int .i64 9)), (.v (.int .i64 4))])), (.ip [(.v (.int .i64 0))])]
noncomputable def qd209 : List AV := [(.d (.sl 2 [(.v (.int .i64 1)), (.v (.int .i64 5))])), (.ip [(.v (.int .i64 0))])]
noncomputable def qd208 : List AV := [(.d (.sl 2 [(.v (.int .i64 9)), (.v (.int .i64 7))])), (.ip [(.v (.int .i64 0))])]
noncomputable def qd207 : List AV := [(.d (.sl 2 [(.v (.int .i64 1)), (.v (.int .i64 8))])), (.ip [(.v (.int .i64 0))])]
noncomputable def qd206 : List AV := [(.d (.sl 2 [(.v (.int .i64 10)), (.v (.int .i64 0))])), (.ip [(.v (.int .i64 0))])]
noncomputable def qd205 : List AV := [(.d (.sl 2 [(.v (.int .i64 3)), (.v (.int .i64 13))])), (.ip [(.v (.int .i64 0))])]
noncomputable def qd204 : List AV := [(.d (.sl 2 [(.v (.int .i64 10)), (.v (.int .i64 14))])), (.ip [(.v (.int .i64 0))])]
noncomputable def qd203 : List AV := [qd350, (.fn (.func 132) [] [(.ip [(.v (.int .i64 1))])])]
noncomputable def qd202 : List AV := [qd350, (.fn (.func 132) [] [(.ip [(.v (.int .i64 0))])])]
noncomputable def qd201 : List AV := [qd352, (.fn (.func 132) [] [(.ip [(.v (.int .i64 1))])])]
noncomputable def qd200 : List AV := [qd352, (.fn (.func 132) [] [(.ip [(.v (.int .i64 0))])])]
noncomputable def qd199 : List AV := [qd349, (.fn (.func 132) [] [(.ip [(.v (.int .i64 1))])])]
noncomputable def qd198 : List AV := [qd349, (.fn (.func 132) [] [(.ip [(.v (.int .i64 0))])])]
noncomputable def qd197 : List AV := [qd348, (.fn (.func 132) [] [(.ip [(.v (.int .i64 1))])])]
noncomputable def qd196 : List AV := [qd348, (.fn (.func 132) [] [(.ip [(.v (.int .i64 0))])])]
noncomputable def qd195 : AV := (.tup [qd319, (.d (.v (.int .i64 0)))])
noncomputable def qd194 : AV := (.tup [qd301, (.d (.v (.int .i64 0)))])
noncomputable def qd193 : DV := (.sl 4 [(.v (.int .i64 0)), (.v (.int .i64 1)), (.v (.int .i64 2)), (.v (.int .i64 3))])
noncomputable def qd192 : AV := (.tup [qd291, (.d (.v (.int .i64 0)))])
noncomputable def qd191 : AV := (.tup [qd287, (.d (.v (.int .i64 0)))])
noncomputable def qd190 : List DV := [qd193]
noncomputable def qd189 : AV := (.d (.sl 4 [(.v (.int .i64 1)), (.v (.int .i64 2)), (.v (.int .i64 0)), (.v (.int .i64 1))]))
noncomputable def qd188 : AV := (.d (.sl 4 [(.v (.int .i64 5)), (.v (.int .i64 5)), (.v (.int .i64 1)), (.v (.int .i64 0))]))
noncomputable def qd187 : AV := (.d (.sl 4 [(.v (.int .i64 0)), (.v (.int .i64 0)), (.v (.int .i64 1)), (.v (.int .i64 0))]))
noncomputable def qd186 : AV := (.d (.sl 4 [(.v (.int .i64 5)), (.v (.int .i64 6)), (.v (.int .i64 1)), (.v (.int .i64 7))]))
noncomputable def qd185 : AV := (.d (.sl 4 [(.v (.int .i64 8)), (.v (.int .i64 5)), (.v (.int .i64 1)), (.v (.int .i64 7))]))
noncomputable def qd184 : AV := (.d qd193)
noncomputable def qd183 : AV := (.d (.sl 4 [(.v (.int .i64 0)), (.v (.int .i64 0)), (.v (.int .i64 0)), (.v (.int .i64 0))]))
noncomputable def qd182 : AV := (.d (.sl 4 [(.v (.int .i64 10)), (.v (.int .i64 6)), (.v (.int .i64 8)), (.v (.int .i64 7))]))
noncomputable def qd181 : AV := (.d (.sl 4 [(.v (.int .i64 10)), (.v (.int .i64 6)), (.v (.int .i64 1)), (.v (.int .i64 7))]))
noncomputable def qd180 : AV := (.d (.sl 4 [(.v (.int .i64 10)), (.v (.int .i64 5)), (.v (.int .i64 1)), (.v (.int .i64 0))]))
noncomputable def qd179 : AV := (.d (.sl 4 [(.v (.int .i64 10)), (.v (.int .i64 5)), (.v (.int .i64 1)), (.v (.int .i64 7))]))
noncomputable def qd178 : List AV := [qd189]
noncomputable def qd177 : List AV := [qd188]
noncomputable def qd176 : List AV := [qd187]
noncomputable def qd175 : AV := (.d (.sl 4 [(.v (.int .i64 10)), (.v (.int .i64 6)), (.v (.int .i64 1)), (.v (.int .i64 15))]))
noncomputable def qd174 : AV := (.d (.sl 4 [(.v (.int .i64 10)), (.v (.int .i64 5)), (.v (.int .i64 14)), (.v (.int .i64 7))]))
noncomputable def qd173 : AV := (.d (.sl 4 [(.v (.int .i64 10)), (.v (.int .i64 10)), (.v (.int .i64 1)), (.v (.int .i64 7))]))
noncomputable def qd172 : List AV := [qd183]
noncomputable def qd171 : List AV := [qd180]
noncomputable def qd170 : List AV := [qd181]
noncomputable def qd169 : List AV := [qd179]
noncomputable def qd168 : List AV := [qd321, (.d (.v (.func (.func 127) (#[]) (#[]))))]
noncomputable def qd167 : List AV := [qd306, (.d (.v (.func (.func 127) (#[]) (#[]))))]
noncomputable def qd166 : List AV := [qd319, (.d (.v (.func (.func 127) (#[]) (#[]))))]
noncomputable def qd165 : List AV := [qd317, (.d (.v (.func (.func 125) (#[]) (#[]))))]
noncomputable def qd164 : List AV := [qd302, (.d (.v (.func (.func 125) (#[]) (#[]))))]
noncomputable def qd163 : List AV := [qd312, (.d (.v (.func (.func 125) (#[]) (#[]))))]
noncomputable def qd162 : List AV := [qd306, (.d (.v (.func (.func 125) (#[]) (#[]))))]
noncomputable def qd161 : List AV := [qd303, (.d (.v (.func (.func 125) (#[]) (#[]))))]
noncomputable def qd160 : List AV := [qd300, (.d (.v (.func (.func 125) (#[]) (#[]))))]
noncomputable def qd159 : List AV := [qd298, (.d (.v (.func (.func 125) (#[]) (#[]))))]
noncomputable def qd158 : List AV := [qd294, (.d (.v (.func (.func 125) (#[]) (#[]))))]
noncomputable def qd157 : List AV := [qd291, (.d (.v (.func (.func 127) (#[]) (#[]))))]
noncomputable def qd156 : List AV := [qd249, (.ip [(.v (.int .i64 2))])]
noncomputable def qd155 : List AV := [qd248, (.ip [(.v (.int .i64 2))])]
noncomputable def qd154 : List AV := [qd246, (.ip [(.v (.int .i64 2))])]
noncomputable def qd153 : List AV := [qd249, (.ip [(.v (.int .i64 1))])]
noncomputable def qd152 : List AV := [qd248, (.ip [(.v (.int .i64 1))])]
noncomputable def qd151 : List AV := [qd246, (.ip [(.v (.int .i64 1))])]
noncomputable def qd150 : List AV := [qd249, (.ip [(.v (.int .i64 0))])]
noncomputable def qd149 : List AV := [qd248, (.ip [(.v (.int .i64 0))])]
noncomputable def qd148 : List AV := [qd246, (.ip [(.v (.int .i64 0))])]
noncomputable def qd147 : List AV := [(.d (.sl 3 [(.v (.int .i64 1)), (.v (.int .i64 3)), (.v (.int .i64 7))])), (.ip [(.v (.int .i64 0))])]
noncomputable def qd146 : List AV := [(.d (.sl 3 [(.v (.int .i64 1)), (.v (.int .i64 3)), (.v (.int .i64 8))])), (.ip [(.v (.int .i64 0))])]
noncomputable def qd145 : List AV := [(.d (.sl 3 [(.v (.int .i64 0)), (.v (.int .i64 2)), (.v (.int .i64 0))])), (.ip [(.v (.int .i64 1))])]
noncomputable def qd144 : List AV := [(.d (.sl 3 [(.v (.int .i64 0)), (.v (.int .i64 6)), (.v (.int .i64 12))])), (.ip [(.v (.int .i64 1))])]
noncomputable def qd143 : List AV := [(.d (.sl 3 [(.v (.int .i64 0)), (.v (.int .i64 6)), (.v (.int .i64 13))])), (.ip [(.v (.int .i64 1))])]
noncomputable def qd142 : List AV := [(.d (.sl 3 [(.v (.int .i64 3)), (.v (.int .i64 10)), (.v (.int .i64 15))])), (.ip [(.v (.int .i64 0))])]
noncomputable def qd141 : List AV := [qd306, (.fn (.func 132) [] [(.ip [(.v (.int .i64 1))])])]
noncomputable def qd140 : List AV := [qd306, (.fn (.func 132) [] [(.ip [(.v (.int .i64 0))])])]
noncomputable def qd139 : List AV := [qd315, (.fn (.func 132) [] [(.ip [(.v (.int .i64 1))])])]
noncomputable def qd138 : List AV := [qd315, (.fn (.func 132) [] [(.ip [(.v (.int .i64 0))])])]
noncomputable def qd137 : List AV := [qd319, qd319]
noncomputable def qd136 : List AV := [qd315, qd315]
noncomputable def qd135 : List AV := [qd301, qd301]
noncomputable def qd134 : AV := (.d (.sl 2 [qd338, qd338]))
noncomputable def qd133 : List AV := [qd291, qd291]
noncomputable def qd132 : List AV := [qd287, qd287]
noncomputable def qd131 : List AV := [qd274, qd306]
noncomputable def qd130 : List AV := [qd274, qd319]
noncomputable def qd129 : List AV := [qd249, (.d (.v (.func (.func 127) (#[]) (#[]))))]
noncomputable def qd128 : List AV := [qd248, (.d (.v (.func (.func 127) (#[]) (#[]))))]
noncomputable def qd127 : List AV := [qd247, (.d (.v (.func (.func 127) (#[]) (#[]))))]
noncomputable def qd126 : List AV := [qd246, (.d (.v (.func (.func 127) (#[]) (#[]))))]
noncomputable def qd125 : List AV := [qd184, (.d (.v (.int .i64 1)))]
noncomputable def qd124 : List AV := [qd184, (.d (.v (.int .i64 0)))]
noncomputable def qd123 : AV := (.tup [qd189, (.d (.v (.int .i64 0)))])
noncomputable def qd122 : AV := (.tup [qd186, (.d (.v (.bool false)))])
noncomputable def qd121 : AV := (.tup [qd180, (.d (.v (.bool true)))])
noncomputable def qd120 : AV := (.tup [qd185, (.d (.v (.bool false)))])
noncomputable def qd119 : AV := (.tup [qd180, (.d (.v (.int .i64 0)))])
noncomputable def qd118 : AV := (.tup [qd182, (.d (.v (.bool false)))])
noncomputable def qd117 : AV := (.tup [qd181, (.d (.v (.bool false)))])
noncomputable def qd116 : AV := (.tup [qd179, (.d (.v (.bool false)))])
noncomputable def qd115 : AV := (.tup [qd175, (.d (.v (.bool false)))])
noncomputable def qd114 : AV := (.tup [qd174, (.d (.v (.bool false)))])
noncomputable def qd113 : AV := (.tup [qd173, (.d (.v (.bool false)))])
noncomputable def qd112 : List AV := [qd274, (.d (.v (.int .i64 2))), (.d (.v (.int .i64 4))), (.d (.v (.bool true)))]
noncomputable def qd111 : AV := (.d (.sl 6 [(.v (.int .i64 0)), (.v (.int .i64 0)), (.v (.int .i64 0)), (.v (.int .i64 0)), (.v (.int .i64 0)), (.v (.int .i64 0))]))
noncomputable def qd110 : AV := (.d (.sl 6 [(.v (.int .i64 1)), (.v (.int .i64 4)), (.v (.int .i64 2)), (.v (.int .i64 5)), (.v (.int .i64 3)), (.v (.int .i64 6))]))
noncomputable def qd109 : List AV := [qd274, (.d (.v (.int .i64 2))), (.d (.v (.int .i64 3))), (.d (.v (.bool false)))]
noncomputable def qd108 : List AV := [qd274, (.d (.v (.int .i64 2))), (.d (.v (.int .i64 2))), (.d (.v (.bool false)))]
noncomputable def qd107 : List AV := [qd110]
noncomputable def qd106 : List AV := [qd111]
noncomputable def qd105 : List AV := [qd189, (.d (.v (.func (.func 127) (#[]) (#[]))))]
noncomputable def qd104 : List AV := [qd188, (.d (.v (.func (.func 127) (#[]) (#[]))))]
noncomputable def qd103 : List AV := [qd187, (.d (.v (.func (.func 127) (#[]) (#[]))))]
noncomputable def qd102 : AV := (.tup [(.d (.v (.string (.mk (#[119, 111, 114, 100, 32, 52, 32, 50, 32, 49, 48, 32, 53, 32, 49, 32, 48, 10]))))), (.d (.v (.int .i64 0)))])
noncomputable def qd101 : List AV := [qd180, (.d (.v (.func (.func 127) (#[]) (#[]))))]
noncomputable def qd100 : List AV := [qd181, (.d (.v (.func (.func 127) (#[]) (#[]))))]
noncomputable def qd99 : List AV := [qd179, (.d (.v (.func (.func 127) (#[]) (#[]))))]
noncomputable def qd98 : AV := (.tup [qd253, qd352, (.d (.v (.int .i64 0)))])
noncomputable def qd97 : AV := (.tup [qd134, (.d (.v (.int .i64 0)))])
noncomputable def qd96 : DV := (.sl 2 [qd267, qd268])
noncomputable def qd95 : List AV := [qd253, qd253]
noncomputable def qd94 : List DV := [qd96]
noncomputable def qd93 : AV := (.d qd96)
noncomputable def qd92 : List AV := [qd274, qd189]
noncomputable def qd91 : List AV := [qd274, (.d (.sl 4 [(.v (.int .i64 0)), (.v (.int .i64 0)), (.v (.int .i64 0)), (.v (.int .i64 1))]))]
noncomputable def qd90 : List AV := [qd274, qd188]
noncomputable def qd89 : List AV := [qd274, qd187]
noncomputable def qd88 : List AV := [qd274, qd186]
noncomputable def qd87 : List AV := [qd274, (.d (.sl 4 [(.v (.int .i64 0)), (.v (.int .i64 6)), (.v (.int .i64 1)), (.v (.int .i64 7))]))]
noncomputable def qd86 : List AV := [qd274, qd185]
noncomputable def qd85 : List AV := [qd274, (.d (.sl 4 [(.v (.int .i64 0)), (.v (.int .i64 5)), (.v (.int .i64 1)), (.v (.int .i64 7))]))]
noncomputable def qd84 : List AV := [qd93]
noncomputable def qd83 : List AV := [qd274, (.d (.sl 4 [(.v (.int .i64 10)), (.v (.int .i64 6)), (.v (.int .i64 1)), (.v (.int .i64 0))]))]
noncomputable def qd82 : List AV := [qd274, qd182]
noncomputable def qd81 : List AV := [qd274, (.d (.sl 4 [(.v (.int .i64 10)), (.v (.int .i64 6)), (.v (.int .i64 0)), (.v (.int .i64 7))]))]
noncomputable def qd80 : List AV := [qd274, (.d (.sl 4 [(.v (.int .i64 10)), (.v (.int .i64 0)), (.v (.int .i64 1)), (.v (.int .i64 0))]))]
noncomputable def qd79 : List AV := [qd274, qd181]
noncomputable def qd78 : List AV := [qd274, qd180]
noncomputable def qd77 : List AV := [qd274, (.d (.sl 4 [(.v (.int .i64 10)), (.v (.int .i64 5)), (.v (.int .i64 0)), (.v (.int .i64 7))]))]
noncomputable def qd76 : List AV := [qd274, (.d (.sl 4 [(.v (.int .i64 10)), (.v (.int .i64 0)), (.v (.int .i64 1)), (.v (.int .i64 7))]))]
noncomputable def qd75 : List AV := [qd274, qd179]
noncomputable def qd74 : List AV := [qd274, qd175]
noncomputable def qd73 : List AV := [qd274, qd174]
noncomputable def qd72 : List AV := [qd274, qd173]
noncomputable def qd71 : List AV := [qd110, (.d (.v (.int .i64 2)))]
noncomputable def qd70 : AV := (.tup [qd180, qd350, (.d (.v (.int .i64 0)))])
noncomputable def qd69 : AV := (.tup [qd110, (.d (.v (.int .i64 0)))])
noncomputable def qd68 : List AV := [qd274, qd181, (.d (.sl 0 []))]
noncomputable def qd67 : List AV := [qd274, qd179, (.d (.sl 0 []))]
noncomputable def qd66 : List AV := [qd110, (.d (.v (.func (.func 127) (#[]) (#[]))))]
noncomputable def qd65 : List AV := [(.d (.sl 6 [(.v (.int .i64 4)), (.v (.int .i64 2)), (.v (.int .i64 10)), (.v (.int .i64 5)), (.v (.int .i64 1)), (.v (.int .i64 0))])), (.d (.v (.func (.func 114) (#[]) (#[]))))]
noncomputable def qd64 : List AV := [qd93, (.d (.v (.int .i64 16)))]
noncomputable def qd63 : AV := (.tup [qd180, qd315, (.d (.v (.int .i64 0)))])
noncomputable def qd62 : List AV := [qd274, qd181, (.d (.v (.slice .none 0 0)))]
noncomputable def qd61 : List AV := [qd274, qd179, (.d (.v (.slice .none 0 0)))]
noncomputable def qd60 : AV := (.tup [qd93, (.d (.v (.int .i64 0)))])
noncomputable def qd59 : List AV := [qd189, qd189]
noncomputable def qd58 : List AV := [qd274, qd181, qd350]
noncomputable def qd57 : List AV := [qd274, qd181, qd352]
noncomputable def qd56 : List AV := [qd274, qd181, qd349]
noncomputable def qd55 : List AV := [qd274, qd181, qd348]
noncomputable def qd54 : List AV := [qd274, qd179, qd350]
noncomputable def qd53 : List AV := [qd274, qd179, qd352]
noncomputable def qd52 : List AV := [qd274, qd179, qd349]
noncomputable def qd51 : List AV := [qd274, qd179, qd348]
noncomputable def qd50 : List AV := [qd180, qd189]
noncomputable def qd49 : List AV := [qd180, qd180]
noncomputable def qd48 : List AV := [qd180, qd181]
noncomputable def qd47 : List AV := [qd180, qd179]
noncomputable def qd46 : AV := (.d (.sl 6 [(.v (.string (.mk (#[52])))), (.v (.string (.mk (#[50])))), qd358, (.v (.string (.mk (#[53])))), (.v (.string (.mk (#[49])))), (.v (.string (.mk (#[48]))))]))
noncomputable def qd45 : List AV := [qd93, (.d (.v (.func (.func 84) (#[]) (#[]))))]
noncomputable def qd44 : List AV := [qd274, qd181, qd315]
noncomputable def qd43 : AV := (.d (.sl 4 [(.v (.int .i64 10)), (.v (.float .f32 1065353216)), (.v (.int .i64 5)), (.v (.float .f32 1065353216)), (.v (.int .i64 1)), (.v (.float .f32 1065353216)), (.v (.int .i64 7)), (.v (.float .f32 1056964608))]))
noncomputable def qd42 : DV := (.sl 3 [qd267, qd269, qd270])
noncomputable def qd41 : List DV := [qd42]
noncomputable def qd40 : AV := (.d qd42)
noncomputable def qd39 : List AV := [qd40]
noncomputable def qd38 : List AV := [qd134, qd134]
noncomputable def qd37 : List AV := [qd247, (.ip qd94)]
noncomputable def qd36 : List AV := [qd246, (.ip qd94)]
noncomputable def qd35 : List AV := [qd40, (.d (.v (.int .i64 15)))]
noncomputable def qd34 : List AV := [qd43, (.d (.v (.func (.func 139) (#[]) (#[]))))]
noncomputable def qd33 : List AV := [qd40, (.d (.v (.func (.func 84) (#[]) (#[]))))]
noncomputable def qd32 : List AV := [qd110, qd110]
noncomputable def qd31 : List AV := [qd40, (.fn (.func 109) [] [(.ip [(.v (.int .i64 2))])])]
noncomputable def qd30 : List AV := [qd40, (.fn (.func 109) [] [(.ip [(.v (.int .i64 1))])])]
noncomputable def qd29 : List AV := [qd40, (.fn (.func 109) [] [(.ip [(.v (.int .i64 0))])])]
noncomputable def qd28 : List AV := [qd274, qd43]
noncomputable def qd27 : List AV := [(.d (.sl 7 [(.v (.string (.mk (#[119, 111, 114, 100])))), (.v (.string (.mk (#[52])))), (.v (.string (.mk (#[50])))), qd358, (.v (.string (.mk (#[53])))), (.v (.string (.mk (#[49])))), (.v (.string (.mk (#[48]))))])), (.d (.v (.string (.mk (#[32])))))]
noncomputable def qd26 : List AV := [(.d (.sl 13 [(.v (.int .i64 1)), (.v (.int .i64 0)), (.v (.int .i64 1)), (.v (.int .i64 0)), (.v (.int .i64 0)), (.v (.int .i64 0)), (.v (.int .i64 0)), (.v (.int .i64 0)), (.v (.int .i64 0)), (.v (.int .i64 0)), (.v (.int .i64 0)), (.v (.int .i64 0)), (.v (.int .i64 0))])), (.d (.v (.int .i64 1)))]
noncomputable def qd25 : List AV := [qd249, (.ip qd41)]
noncomputable def qd24 : List AV := [qd248, (.ip qd41)]
noncomputable def qd23 : List AV := [qd246, (.ip qd41)]
noncomputable def qd22 : List AV := [qd93, qd93]
noncomputable def qd21 : List AV := [qd43, qd180]
noncomputable def qd20 : List AV := [(.d (.sl 14 [(.v (.int .i64 0)), (.v (.int .i64 0)), (.v (.int .i64 1)), (.v (.int .i64 0)), (.v (.int .i64 0)), (.v (.int .i64 0)), (.v (.int .i64 0)), (.v (.int .i64 0)), (.v (.int .i64 0)), (.v (.int .i64 0)), (.v (.int .i64 0)), (.v (.int .i64 0)), (.v (.int .i64 0)), (.v (.int .i64 0))])), (.d (.v (.int .i64 2)))]
noncomputable def qd19 : List AV := [qd93, (.fn (.func 143) [] [(.ip qd94)])]
noncomputable def qd18 : List AV := [(.d (.sl 15 [(.v (.int .i64 0)), (.v (.int .i64 0)), (.v (.int .i64 0)), (.v (.int .i64 0)), (.v (.int .i64 0)), (.v (.int .i64 0)), (.v (.int .i64 0)), (.v (.int .i64 0)), (.v (.int .i64 0)), (.v (.int .i64 0)), (.v (.int .i64 0)), (.v (.int .i64 0)), (.v (.int .i64 0)), (.v (.int .i64 0)), (.v (.int .i64 0))])), (.d (.v (.int .i64 3)))]
noncomputable def qd17 : AV := (.d (.sl 16 [(.v (.int .i64 1)), (.v (.int .i64 3)), (.v (.int .i64 9)), (.v (.int .i64 10)), (.v (.int .i64 13)), (.v (.int .i64 5)), (.v (.int .i64 15)), (.v (.int .i64 11)), (.v (.int .i64 16)), (.v (.int .i64 14)), (.v (.int .i64 8)), (.v (.int .i64 7)), (.v (.int .i64 4)), (.v (.int .i64 12)), (.v (.int .i64 2)), (.v (.int .i64 6))]))
noncomputable def qd16 : AV := (.d (.sl 17 [(.v (.int .i64 0)), (.v (.int .i64 0)), (.v (.int .i64 0)), (.v (.int .i64 1)), (.v (.int .i64 1)), (.v (.int .i64 0)), (.v (.int .i64 1)), (.v (.int .i64 0)), (.v (.int .i64 0)), (.v (.int .i64 0)), (.v (.int .i64 0)), (.v (.int .i64 0)), (.v (.int .i64 0)), (.v (.int .i64 0)), (.v (.int .i64 0)), (.v (.int .i64 0)), (.v (.int .i64 0))]))
noncomputable def qd15 : AV := (.d (.sl 17 [(.v (.int .i64 0)), (.v (.int .i64 0)), (.v (.int .i64 2)), (.v (.int .i64 0)), (.v (.int .i64 0)), (.v (.int .i64 1)), (.v (.int .i64 0)), (.v (.int .i64 0)), (.v (.int .i64 0)), (.v (.int .i64 0)), (.v (.int .i64 0)), (.v (.int .i64 0)), (.v (.int .i64 0)), (.v (.int .i64 0)), (.v (.int .i64 0)), (.v (.int .i64 0)), (.v (.int .i64 0))]))
noncomputable def qd14 : AV := (.d (.sl 17 [(.v (.int .i64 0)), (.v (.int .i64 3)), (.v (.int .i64 0)), (.v (.int .i64 0)), (.v (.int .i64 0)), (.v (.int .i64 0)), (.v (.int .i64 0)), (.v (.int .i64 0)), (.v (.int .i64 0)), (.v (.int .i64 0)), (.v (.int .i64 0)), (.v (.int .i64 0)), (.v (.int .i64 0)), (.v (.int .i64 0)), (.v (.int .i64 0)), (.v (.int .i64 0)), (.v (.int .i64 0))]))
noncomputable def qd13 : List AV := [qd16]
noncomputable def qd12 : List AV := [qd15]
noncomputable def qd11 : List AV := [qd14]
noncomputable def qd10 : List AV := [qd17, (.d (.v (.int .i64 6)))]
noncomputable def qd9 : List AV := [qd17, (.d (.v (.int .i64 2)))]
noncomputable def qd8 : List AV := [qd17, (.d (.v (.int .i64 9)))]
noncomputable def qd7 : List AV := [qd17, (.d (.v (.int .i64 3)))]
noncomputable def qd6 : List AV := [qd17, (.d (.v (.int .i64 1)))]
noncomputable def qd5 : List AV := [qd17, (.d (.v (.int .i64 10)))]
noncomputable def qd4 : List AV := [qd274, qd43, qd180]
noncomputable def qd3 : List AV := [qd16, (.d (.v (.int .i64 1)))]
noncomputable def qd2 : List AV := [qd15, (.d (.v (.int .i64 2)))]
noncomputable def qd1 : List AV := [qd14, (.d (.v (.int .i64 3)))]
noncomputable def qd0 : List AV := [qd40, (.fn (.func 143) [] [(.ip qd41)])]
noncomputable def dd0D : CT cfz := .run 9 [] <| .run 1 [(.br false)] <| .run 6 [] <|  .fin
theorem dd0k : crun cfz 83 dd0D [] (ent cfz 83 qd331) = some ((.d (.v (.int .i64 0))), []) := by kernel_rfl
theorem dd0 : PureCalls cfz.P cfz.glob 83 qd331 (.d (.v (.int .i64 0))) := closed_ok knil (by kernel_rfl) dd0k trivial

noncomputable def dd1D : CT cfz := .run 11 [] <| .run 1 [(.br false)] <| .run 1 [] <| .run 1 [.none] <| .use dd0 <| .run 1 [(.ck 0)] <| .run 3 [] <|  .fin
theorem dd1k : crun cfz 91 dd1D [] (ent cfz 91 qd220) = some ((.d (.v (.int .i64 0))), [.eqA qd331 qd331]) := by kernel_rfl
theorem dd1 : PureCalls cfz.P cfz.glob 91 qd220 (.d (.v (.int .i64 0))) := closed_ok knil (by kernel_rfl) dd1k ⟨rfl, trivial⟩

noncomputable def dd2D : CT cfz := .run 11 [] <| .run 1 [(.br false)] <| .run 1 [] <| .run 1 [.none] <| .use dd0 <| .run 1 [(.ck 0)] <| .run 3 [] <|  .fin
theorem dd2k : crun cfz 91 dd2D [] (ent cfz 91 qd232) = some ((.d (.v (.int .i64 0))), [.eqA qd331 qd331]) := by kernel_rfl
theorem dd2 : PureCalls cfz.P cfz.glob 91 qd232 (.d (.v (.int .i64 0))) := closed_ok knil (by kernel_rfl) dd2k ⟨rfl, trivial⟩

noncomputable def dd3D : CT cfz := .run 9 [] <| .run 1 [(.br false)] <| .run 6 [] <|  .fin
theorem dd3k : crun cfz 83 dd3D [] (ent cfz 83 qd323) = some ((.d (.v (.int .i64 0))), []) := by kernel_rfl
theorem dd3 : PureCalls cfz.P cfz.glob 83 qd323 (.d (.v (.int .i64 0))) := closed_ok knil (by kernel_rfl) dd3k trivial

noncomputable def dd4D : CT cfz := .run 25 [] <| .run 1 [.none] <| .run 7 [] <| .run 1 [(.br false)] <| .run 19 [] <| .run 1 [.none] <| .run 7 [] <| .run 1 [(.br false)] <| .run 19 [] <| .run 1 [.none] <| .run 7 [] <| .run 1 [(.br false)] <| .run 19 [] <|  .fin
theorem dd4k : crun cfz 82 dd4D [] (ent cfz 82 qd233) = some ((.d (.v (.int .i64 0))), []) := by kernel_rfl
theorem dd4 : PureCalls cfz.P cfz.glob 82 qd233 (.d (.v (.int .i64 0))) := closed_ok knil (by kernel_rfl) dd4k trivial

noncomputable def dd5D : CT cfz := .run 7 [] <| .use dd1 <| .use dd2 <| .use dd3 <| .use dd4 <| .run 1 [.none, (.ck 0), .none, (.ck 1), .none, .none, (.ck 2), (.ck 3)] <| .run 1 [] <|  .fin
theorem dd5k : crun cfz 27 dd5D [] (ent cfz 27 qd273) = some ((.d (.v (.int .i64 0))), [.eqA qd220 qd220, .eqA qd232 qd232, .eqA qd323 qd323, .eqA qd233 qd233]) := by kernel_rfl
theorem dd5 : PureCalls cfz.P cfz.glob 27 qd273 (.d (.v (.int .i64 0))) := closed_ok knil (by kernel_rfl) dd5k ⟨rfl, rfl, rfl, rfl, trivial⟩

noncomputable def dd6D : CT cfz := .run 9 [] <| .run 1 [(.br false)] <| .run 6 [] <|  .fin
theorem dd6k : crun cfz 83 dd6D [] (ent cfz 83 qd332) = some ((.d (.v (.int .i64 0))), []) := by kernel_rfl
theorem dd6 : PureCalls cfz.P cfz.glob 83 qd332 (.d (.v (.int .i64 0))) := closed_ok knil (by kernel_rfl) dd6k trivial

noncomputable def dd7D : CT cfz := .run 11 [] <| .run 1 [(.br false)] <| .run 1 [] <| .run 1 [.none] <| .use dd0 <| .run 1 [(.ck 0)] <| .run 3 [] <|  .fin
theorem dd7k : crun cfz 91 dd7D [] (ent cfz 91 qd215) = some ((.d (.v (.int .i64 0))), [.eqA qd331 qd331]) := by kernel_rfl
theorem dd7 : PureCalls cfz.P cfz.glob 91 qd215 (.d (.v (.int .i64 0))) := closed_ok knil (by kernel_rfl) dd7k ⟨rfl, trivial⟩

noncomputable def dd8D : CT cfz := .run 7 [] <| .use dd7 <| .run 1 [(.ck 0)] <| .run 3 [] <|  .fin
theorem dd8k : crun cfz 127 dd8D [] (ent cfz 127 qd395) = some ((.d (.v (.int .i64 0))), [.eqA qd215 qd215]) := by kernel_rfl
theorem dd8 : PureCalls cfz.P cfz.glob 127 qd395 (.d (.v (.int .i64 0))) := closed_ok knil (by kernel_rfl) dd8k ⟨rfl, trivial⟩

noncomputable def dd9D : CT cfz := .run 11 [] <| .run 1 [(.br false)] <| .run 1 [] <| .run 1 [.none] <| .use dd0 <| .run 1 [(.ck 0)] <| .run 3 [] <|  .fin
theorem dd9k : crun cfz 91 dd9D [] (ent cfz 91 qd221) = some ((.d (.v (.int .i64 0))), [.eqA qd331 qd331]) := by kernel_rfl
theorem dd9 : PureCalls cfz.P cfz.glob 91 qd221 (.d (.v (.int .i64 0))) := closed_ok knil (by kernel_rfl) dd9k ⟨rfl, trivial⟩

noncomputable def dd10D : CT cfz := .run 7 [] <| .use dd9 <| .run 1 [(.ck 0)] <| .run 3 [] <|  .fin
theorem dd10k : crun cfz 127 dd10D [] (ent cfz 127 qd434) = some ((.d (.v (.int .i64 0))), [.eqA qd221 qd221]) := by kernel_rfl
theorem dd10 : PureCalls cfz.P cfz.glob 127 qd434 (.d (.v (.int .i64 0))) := closed_ok knil (by kernel_rfl) dd10k ⟨rfl, trivial⟩

noncomputable def dd11D : CT cfz := .run 11 [] <| .run 1 [(.br false)] <| .run 1 [] <| .run 1 [.none] <| .use dd0 <| .run 1 [(.ck 0)] <| .run 3 [] <|  .fin
theorem dd11k : crun cfz 91 dd11D [] (ent cfz 91 qd222) = some ((.d (.v (.int .i64 0))), [.eqA qd331 qd331]) := by kernel_rfl
theorem dd11 : PureCalls cfz.P cfz.glob 91 qd222 (.d (.v (.int .i64 0))) := closed_ok knil (by kernel_rfl) dd11k ⟨rfl, trivial⟩

noncomputable def dd12D : CT cfz := .run 7 [] <| .use dd11 <| .run 1 [(.ck 0)] <| .run 3 [] <|  .fin
theorem dd12k : crun cfz 127 dd12D [] (ent cfz 127 qd435) = some ((.d (.v (.int .i64 0))), [.eqA qd222 qd222]) := by kernel_rfl
theorem dd12 : PureCalls cfz.P cfz.glob 127 qd435 (.d (.v (.int .i64 0))) := closed_ok knil (by kernel_rfl) dd12k ⟨rfl, trivial⟩

noncomputable def dd13D : CT cfz := .run 11 [] <| .run 1 [(.br false)] <| .run 1 [] <| .run 1 [.none] <| .use dd0 <| .run 1 [(.ck 0)] <| .run 3 [] <|  .fin
theorem dd13k : crun cfz 91 dd13D [] (ent cfz 91 qd223) = some ((.d (.v (.int .i64 0))), [.eqA qd331 qd331]) := by kernel_rfl
theorem dd13 : PureCalls cfz.P cfz.glob 91 qd223 (.d (.v (.int .i64 0))) := closed_ok knil (by kernel_rfl) dd13k ⟨rfl, trivial⟩

noncomputable def dd14D : CT cfz := .run 7 [] <| .use dd13 <| .run 1 [(.ck 0)] <| .run 3 [] <|  .fin
theorem dd14k : crun cfz 127 dd14D [] (ent cfz 127 qd436) = some ((.d (.v (.int .i64 0))), [.eqA qd223 qd223]) := by kernel_rfl
theorem dd14 : PureCalls cfz.P cfz.glob 127 qd436 (.d (.v (.int .i64 0))) := closed_ok knil (by kernel_rfl) dd14k ⟨rfl, trivial⟩

noncomputable def dd15D : CT cfz := .run 29 [] <| .run 1 [.none] <| .run 6 [] <| .use dd8 <| .run 1 [(.ck 0)] <| .run 1 [] <| .run 1 [.mg] <| .run 13 [] <| .run 1 [(.br true)] <| .run 13 [] <| .use dd10 <| .run 1 [(.ck 1)] <| .run 1 [] <| .run 1 [.mg] <| .run 13 [] <| .run 1 [(.br true)] <| .run 13 [] <| .use dd12 <| .run 1 [(.ck 2)] <| .run 1 [] <| .run 1 [.mg] <| .run 13 [] <| .run 1 [(.br true)] <| .run 13 [] <| .use dd14 <| .run 1 [(.ck 3)] <| .run 1 [] <| .run 1 [.mg] <| .run 13 [] <| .run 1 [(.br false)] <| .run 7 [] <|  .fin
theorem dd15k : crun cfz 126 dd15D [] (ent cfz 126 qd99) = some (qd183, [.eqA qd395 qd395, .eqA qd434 qd434, .eqA qd435 qd435, .eqA qd436 qd436]) := by kernel_rfl
theorem dd15 : PureCalls cfz.P cfz.glob 126 qd99 qd183 := closed_ok knil (by kernel_rfl) dd15k ⟨rfl, rfl, rfl, rfl, trivial⟩

noncomputable def dd16D : CT cfz := .run 25 [] <| .run 1 [.none] <| .run 7 [] <| .run 1 [(.br false)] <| .run 19 [] <| .run 1 [.none] <| .run 7 [] <| .run 1 [(.br false)] <| .run 19 [] <| .run 1 [.none] <| .run 7 [] <| .run 1 [(.br false)] <| .run 19 [] <| .run 1 [.none] <| .run 7 [] <| .run 1 [(.br false)] <| .run 19 [] <|  .fin
theorem dd16k : crun cfz 82 dd16D [] (ent cfz 82 qd172) = some ((.d (.v (.int .i64 0))), []) := by kernel_rfl
theorem dd16 : PureCalls cfz.P cfz.glob 82 qd172 (.d (.v (.int .i64 0))) := closed_ok knil (by kernel_rfl) dd16k trivial

noncomputable def dd17D : CT cfz := .run 7 [] <| .use dd15 <| .run 1 [(.ck 0)] <| .use dd16 <| .run 1 [(.ck 1)] <| .run 3 [] <|  .fin
theorem dd17k : crun cfz 84 dd17D [] (ent cfz 84 qd169) = some ((.d (.v (.int .i64 0))), [.eqA qd99 qd99, .eqA qd172 qd172]) := by kernel_rfl
theorem dd17 : PureCalls cfz.P cfz.glob 84 qd169 (.d (.v (.int .i64 0))) := closed_ok knil (by kernel_rfl) dd17k ⟨rfl, rfl, trivial⟩

noncomputable def dd18D : CT cfz := .run 7 [] <| .use dd5 <| .use dd6 <| .use dd17 <| .use dd4 <| .run 1 [.none, (.ck 0), .none, (.ck 1), (.ck 2), (.ck 3)] <| .run 1 [] <|  .fin
theorem dd18k : crun cfz 29 dd18D [] (ent cfz 29 qd75) = some ((.d (.v (.int .i64 0))), [.eqA qd273 qd273, .eqA qd332 qd332, .eqA qd169 qd169, .eqA qd233 qd233]) := by kernel_rfl
theorem dd18 : PureCalls cfz.P cfz.glob 29 qd75 (.d (.v (.int .i64 0))) := closed_ok knil (by kernel_rfl) dd18k ⟨rfl, rfl, rfl, rfl, trivial⟩

noncomputable def dd19D : CT cfz := .run 9 [] <| .run 1 [(.br false)] <| .run 6 [] <|  .fin
theorem dd19k : crun cfz 83 dd19D [] (ent cfz 83 qd333) = some ((.d (.v (.int .i64 0))), []) := by kernel_rfl
theorem dd19 : PureCalls cfz.P cfz.glob 83 qd333 (.d (.v (.int .i64 0))) := closed_ok knil (by kernel_rfl) dd19k trivial

noncomputable def dd20D : CT cfz := .run 25 [] <| .run 1 [.none] <| .run 7 [] <| .run 1 [(.br false)] <| .run 19 [] <| .run 1 [.none] <| .run 7 [] <| .run 1 [(.br false)] <| .run 19 [] <|  .fin
theorem dd20k : crun cfz 82 dd20D [] (ent cfz 82 qd284) = some ((.d (.v (.int .i64 0))), []) := by kernel_rfl
theorem dd20 : PureCalls cfz.P cfz.glob 82 qd284 (.d (.v (.int .i64 0))) := closed_ok knil (by kernel_rfl) dd20k trivial

noncomputable def dd21D : CT cfz := .run 12 [] <|  .fin
theorem dd21k : crun cfz 92 dd21D [] (ent cfz 92 qd124) = some ((.fn (.func 129) [] [(.ip [(.v (.int .i64 0))]), (.ip qd190)]), []) := by kernel_rfl
theorem dd21 : PureCalls cfz.P cfz.glob 92 qd124 (.fn (.func 129) [] [(.ip [(.v (.int .i64 0))]), (.ip qd190)]) := closed_ok knil (by kernel_rfl) dd21k trivial

noncomputable def dd22D : CT cfz := .run 9 [] <| .run 1 [.none] <| .run 3 [] <|  .fin
theorem dd22k : crun cfz 123 dd22D [] (ent cfz 123 qd437) = some ((.d (.v (.int .i64 1))), []) := by kernel_rfl
theorem dd22 : PureCalls cfz.P cfz.glob 123 qd437 (.d (.v (.int .i64 1))) := closed_ok knil (by kernel_rfl) dd22k trivial

noncomputable def dd23D : CT cfz := .run 13 [] <|  .fin
theorem dd23k : crun cfz 122 dd23D [] (ent cfz 122 qd395) = some ((.d (.v (.int .i64 10))), []) := by kernel_rfl
theorem dd23 : PureCalls cfz.P cfz.glob 122 qd395 (.d (.v (.int .i64 10))) := closed_ok knil (by kernel_rfl) dd23k trivial

noncomputable def dd24D : CT cfz := .run 9 [] <| .run 1 [.none] <| .run 3 [] <|  .fin
theorem dd24k : crun cfz 123 dd24D [] (ent cfz 123 qd435) = some ((.d (.v (.int .i64 3))), []) := by kernel_rfl
theorem dd24 : PureCalls cfz.P cfz.glob 123 qd435 (.d (.v (.int .i64 3))) := closed_ok knil (by kernel_rfl) dd24k trivial

noncomputable def dd25D : CT cfz := .run 13 [] <|  .fin
theorem dd25k : crun cfz 122 dd25D [] (ent cfz 122 qd396) = some ((.d (.v (.int .i64 8))), []) := by kernel_rfl
theorem dd25 : PureCalls cfz.P cfz.glob 122 qd396 (.d (.v (.int .i64 8))) := closed_ok knil (by kernel_rfl) dd25k trivial

noncomputable def dd26D : CT cfz := .run 9 [] <| .run 1 [.none] <| .run 3 [] <|  .fin
theorem dd26k : crun cfz 123 dd26D [] (ent cfz 123 qd438) = some ((.d (.v (.int .i64 9))), []) := by kernel_rfl
theorem dd26 : PureCalls cfz.P cfz.glob 123 qd438 (.d (.v (.int .i64 9))) := closed_ok knil (by kernel_rfl) dd26k trivial

noncomputable def dd27D : CT cfz := .run 13 [] <|  .fin
theorem dd27k : crun cfz 122 dd27D [] (ent cfz 122 qd397) = some ((.d (.v (.int .i64 0))), []) := by kernel_rfl
theorem dd27 : PureCalls cfz.P cfz.glob 122 qd397 (.d (.v (.int .i64 0))) := closed_ok knil (by kernel_rfl) dd27k trivial

noncomputable def dd28D : CT cfz := .run 9 [] <| .run 1 [.none] <| .run 3 [] <|  .fin
theorem dd28k : crun cfz 123 dd28D [] (ent cfz 123 qd439) = some ((.d (.v (.int .i64 10))), []) := by kernel_rfl
theorem dd28 : PureCalls cfz.P cfz.glob 123 qd439 (.d (.v (.int .i64 10))) := closed_ok knil (by kernel_rfl) dd28k trivial

noncomputable def dd29D : CT cfz := .run 13 [] <|  .fin
theorem dd29k : crun cfz 122 dd29D [] (ent cfz 122 qd398) = some ((.d (.v (.int .i64 2))), []) := by kernel_rfl
theorem dd29 : PureCalls cfz.P cfz.glob 122 qd398 (.d (.v (.int .i64 2))) := closed_ok knil (by kernel_rfl) dd29k trivial

noncomputable def dd30D : CT cfz := .run 13 [] <|  .fin
theorem dd30k : crun cfz 122 dd30D [] (ent cfz 122 qd399) = some ((.d (.v (.int .i64 4))), []) := by kernel_rfl
theorem dd30 : PureCalls cfz.P cfz.glob 122 qd399 (.d (.v (.int .i64 4))) := closed_ok knil (by kernel_rfl) dd30k trivial

noncomputable def dd31D : CT cfz := .run 9 [] <| .run 1 [.none] <| .run 3 [] <|  .fin
theorem dd31k : crun cfz 123 dd31D [] (ent cfz 123 qd440) = some ((.d (.v (.int .i64 13))), []) := by kernel_rfl
theorem dd31 : PureCalls cfz.P cfz.glob 123 qd440 (.d (.v (.int .i64 13))) := closed_ok knil (by kernel_rfl) dd31k trivial

noncomputable def dd32D : CT cfz := .run 9 [] <| .run 1 [.none] <| .run 3 [] <|  .fin
theorem dd32k : crun cfz 123 dd32D [] (ent cfz 123 qd441) = some ((.d (.v (.int .i64 15))), []) := by kernel_rfl
theorem dd32 : PureCalls cfz.P cfz.glob 123 qd441 (.d (.v (.int .i64 15))) := closed_ok knil (by kernel_rfl) dd32k trivial

noncomputable def dd33D : CT cfz := .run 13 [] <|  .fin
theorem dd33k : crun cfz 122 dd33D [] (ent cfz 122 qd379) = some ((.d (.v (.int .i64 3))), []) := by kernel_rfl
theorem dd33 : PureCalls cfz.P cfz.glob 122 qd379 (.d (.v (.int .i64 3))) := closed_ok knil (by kernel_rfl) dd33k trivial

noncomputable def dd34D : CT cfz := .run 9 [] <| .run 1 [.none] <| .run 51 [] <| .use dd22 <| .use dd23 <| .run 1 [.none, (.ck 0), (.ck 1), .none] <| .run 11 [] <| .run 1 [(.br true)] <| .run 7 [] <| .run 1 [.none] <| .run 4 [] <| .use dd24 <| .use dd25 <| .run 1 [.none, (.ck 2), (.ck 3), .none] <| .run 11 [] <| .run 1 [(.br true)] <| .run 7 [] <| .run 1 [.none] <| .run 4 [] <| .use dd26 <| .use dd27 <| .run 1 [.none, (.ck 4), (.ck 5), .none] <| .run 11 [] <| .run 1 [(.br true)] <| .run 7 [] <| .run 1 [.none] <| .run 4 [] <| .use dd28 <| .use dd29 <| .run 1 [.none, (.ck 6), (.ck 7), .none] <| .run 11 [] <| .run 1 [(.br false)] <| .run 47 [] <| .run 1 [.none, (.ck 0), (.ck 1), .none] <| .run 11 [] <| .run 1 [(.br true)] <| .run 7 [] <| .run 1 [.none] <| .run 4 [] <| .use dd30 <| .run 1 [.none, (.ck 4), (.ck 8), .none] <| .run 11 [] <| .run 1 [(.br true)] <| .run 7 [] <| .run 1 [.none] <| .run 4 [] <| .use dd31 <| .run 1 [.none, (.ck 9), (.ck 5), .none] <| .run 11 [] <| .run 1 [(.br true)] <| .run 7 [] <| .run 1 [.none] <| .run 4 [] <| .use dd32 <| .use dd33 <| .run 1 [.none, (.ck 10), (.ck 11), .none] <| .run 11 [] <| .run 1 [(.br false)] <| .run 20 [] <|  .fin
theorem dd34k : crun cfz 80 dd34D [] (ent cfz 80 qd75) = some (qd303, [.eqA qd437 qd437, .eqA qd395 qd395, .eqA qd435 qd435, .eqA qd396 qd396, .eqA qd438 qd438, .eqA qd397 qd397, .eqA qd439 qd439, .eqA qd398 qd398, .eqA qd437 qd437, .eqA qd395 qd395, .eqA qd438 qd438, .eqA qd399 qd399, .eqA qd440 qd440, .eqA qd397 qd397, .eqA qd441 qd441, .eqA qd379 qd379]) := by kernel_rfl
theorem dd34 : PureCalls cfz.P cfz.glob 80 qd75 qd303 := closed_ok knil (by kernel_rfl) dd34k ⟨rfl, rfl, rfl, rfl, rfl, rfl, rfl, rfl, rfl, rfl, rfl, rfl, rfl, rfl, rfl, rfl, trivial⟩

noncomputable def dd35D : CT cfz := .run 30 [] <|  .fin
theorem dd35k : crun cfz 131 dd35D [] (ent cfz 131 qd265) = some ((.d (.sl 0 [])), []) := by kernel_rfl
theorem dd35 : PureCalls cfz.P cfz.glob 131 qd265 (.d (.sl 0 [])) := closed_ok knil (by kernel_rfl) dd35k trivial

noncomputable def dd36D : CT cfz := .run 13 [] <|  .fin
theorem dd36k : crun cfz 122 dd36D [] (ent cfz 122 qd371) = some ((.d (.v (.int .i64 15))), []) := by kernel_rfl
theorem dd36 : PureCalls cfz.P cfz.glob 122 qd371 (.d (.v (.int .i64 15))) := closed_ok knil (by kernel_rfl) dd36k trivial

noncomputable def dd37D : CT cfz := .run 30 [] <|  .fin
theorem dd37k : crun cfz 131 dd37D [] (ent cfz 131 qd266) = some ((.d (.sl 0 [])), []) := by kernel_rfl
theorem dd37 : PureCalls cfz.P cfz.glob 131 qd266 (.d (.sl 0 [])) := closed_ok knil (by kernel_rfl) dd37k trivial

noncomputable def dd38D : CT cfz := .run 13 [] <|  .fin
theorem dd38k : crun cfz 122 dd38D [] (ent cfz 122 qd372) = some ((.d (.v (.int .i64 14))), []) := by kernel_rfl
theorem dd38 : PureCalls cfz.P cfz.glob 122 qd372 (.d (.v (.int .i64 14))) := closed_ok knil (by kernel_rfl) dd38k trivial

noncomputable def dd39D : CT cfz := .run 11 [] <|  .fin
theorem dd39k : crun cfz 125 dd39D [] (ent cfz 125 qd438) = some ((.d (.v (.bool true))), []) := by kernel_rfl
theorem dd39 : PureCalls cfz.P cfz.glob 125 qd438 (.d (.v (.bool true))) := closed_ok knil (by kernel_rfl) dd39k trivial

noncomputable def dd40D : CT cfz := .run 33 [] <| .run 1 [.none] <| .use dd39 <| .run 1 [(.ck 0)] <| .run 1 [] <| .run 1 [(.br true)] <| .run 6 [] <|  .fin
theorem dd40k : crun cfz 156 dd40D [] (ent cfz 156 qd161) = some ((.d (.v (.int .i64 0))), [.eqA qd438 qd438]) := by kernel_rfl
theorem dd40 : PureCalls cfz.P cfz.glob 156 qd161 (.d (.v (.int .i64 0))) := closed_ok knil (by kernel_rfl) dd40k ⟨rfl, trivial⟩

noncomputable def dd41D : CT cfz := .run 8 [] <| .use dd40 <| .run 1 [(.ck 0)] <| .run 4 [] <|  .fin
theorem dd41k : crun cfz 124 dd41D [] (ent cfz 124 qd161) = some ((.d (.v (.bool true))), [.eqA qd161 qd161]) := by kernel_rfl
theorem dd41 : PureCalls cfz.P cfz.glob 124 qd161 (.d (.v (.bool true))) := closed_ok knil (by kernel_rfl) dd41k ⟨rfl, trivial⟩

noncomputable def dd42D : CT cfz := .run 7 [] <| .run 1 [.none] <| .run 1 [] <| .use dd34 <| .run 1 [(.ck 0)] <| .use dd41 <| .run 1 [(.ck 1)] <| .run 4 [] <|  .fin
theorem dd42k : crun cfz 81 dd42D [] (ent cfz 81 qd75) = some ((.d (.v (.bool false))), [.eqA qd75 qd75, .eqA qd161 qd161]) := by kernel_rfl
theorem dd42 : PureCalls cfz.P cfz.glob 81 qd75 (.d (.v (.bool false))) := closed_ok knil (by kernel_rfl) dd42k ⟨rfl, rfl, trivial⟩

noncomputable def dd43D : CT cfz := .run 33 [] <| .run 1 [(.br false)] <| .run 10 [] <| .run 1 [.enter] <| .run 9 [] <| .run 1 [.none] <| .run 51 [] <| .use dd22 <| .use dd23 <| .run 1 [.none, (.ck 0), (.ck 1), .none] <| .run 11 [] <| .run 1 [(.br true)] <| .run 7 [] <| .run 1 [.none] <| .run 4 [] <| .use dd24 <| .use dd25 <| .run 1 [.none, (.ck 2), (.ck 3), .none] <| .run 11 [] <| .run 1 [(.br true)] <| .run 7 [] <| .run 1 [.none] <| .run 4 [] <| .use dd26 <| .use dd27 <| .run 1 [.none, (.ck 4), (.ck 5), .none] <| .run 11 [] <| .run 1 [(.br true)] <| .run 7 [] <| .run 1 [.none] <| .run 4 [] <| .use dd28 <| .use dd29 <| .run 1 [.none, (.ck 6), (.ck 7), .none] <| .run 11 [] <| .run 1 [(.br false)] <| .run 47 [] <| .run 1 [.none, (.ck 0), (.ck 1), .none] <| .run 11 [] <| .run 1 [(.br true)] <| .run 7 [] <| .run 1 [.none] <| .run 4 [] <| .use dd30 <| .run 1 [.none, (.ck 4), (.ck 8), .none] <| .run 11 [] <| .run 1 [(.br true)] <| .run 7 [] <| .run 1 [.none] <| .run 4 [] <| .use dd31 <| .run 1 [.none, (.ck 9), (.ck 5), .none] <| .run 11 [] <| .run 1 [(.br true)] <| .run 7 [] <| .run 1 [.none] <| .run 4 [] <| .use dd32 <| .use dd33 <| .run 1 [.none, (.ck 10), (.ck 11), .none] <| .run 11 [] <| .run 1 [(.br false)] <| .run 31 [] <| .run 1 [(.br true)] <| .run 7 [] <| .run 1 [.none] <| .run 1 [] <| .run 1 [.none] <| .run 6 [] <| .run 1 [.enter] <| .run 38 [] <| .use dd36 <| .run 1 [(.ck 12)] <| .run 1 [] <| .run 1 [.mg] <| .run 1 [] <| .run 1 [.mg] <| .run 13 [] <| .run 1 [(.br true)] <| .run 7 [] <| .run 1 [.none] <| .run 1 [] <| .run 1 [.none] <| .run 6 [] <| .run 1 [.enter] <| .run 38 [] <| .use dd38 <| .run 1 [(.ck 13)] <| .run 1 [] <| .run 1 [.mg] <| .run 1 [] <| .run 1 [.mg] <| .run 13 [] <| .run 1 [(.br false)] <| .run 15 [] <| .run 1 [(.br false)] <| .run 15 [] <| .run 1 [(.br false)] <| .run 6 [] <| .use dd42 <| .run 1 [(.ck 14)] <| .run 4 [] <|  .fin
theorem dd43k : crun cfz 93 dd43D [] (ent cfz 93 qd67) = some (qd116, [.eqA qd437 qd437, .eqA qd395 qd395, .eqA qd435 qd435, .eqA qd396 qd396, .eqA qd438 qd438, .eqA qd397 qd397, .eqA qd439 qd439, .eqA qd398 qd398, .eqA qd437 qd437, .eqA qd395 qd395, .eqA qd438 qd438, .eqA qd399 qd399, .eqA qd440 qd440, .eqA qd397 qd397, .eqA qd441 qd441, .eqA qd379 qd379, .eqA qd371 qd371, .eqA qd372 qd372, .eqA qd75 qd75]) := by kernel_rfl
theorem dd43 : PureCalls cfz.P cfz.glob 93 qd67 qd116 := closed_ok knil (by kernel_rfl) dd43k ⟨rfl, rfl, rfl, rfl, rfl, rfl, rfl, rfl, rfl, rfl, rfl, rfl, rfl, rfl, rfl, rfl, rfl, rfl, rfl, trivial⟩

noncomputable def dd44D : CT cfz := .run 12 [] <|  .fin
theorem dd44k : crun cfz 92 dd44D [] (ent cfz 92 qd125) = some ((.fn (.func 129) [] [(.ip [(.v (.int .i64 1))]), (.ip qd190)]), []) := by kernel_rfl
theorem dd44 : PureCalls cfz.P cfz.glob 92 qd125 (.fn (.func 129) [] [(.ip [(.v (.int .i64 1))]), (.ip qd190)]) := closed_ok knil (by kernel_rfl) dd44k trivial

noncomputable def dd45D : CT cfz := .run 13 [] <|  .fin
theorem dd45k : crun cfz 122 dd45D [] (ent cfz 122 qd437) = some ((.d (.v (.int .i64 0))), []) := by kernel_rfl
theorem dd45 : PureCalls cfz.P cfz.glob 122 qd437 (.d (.v (.int .i64 0))) := closed_ok knil (by kernel_rfl) dd45k trivial

noncomputable def dd46D : CT cfz := .run 13 [] <|  .fin
theorem dd46k : crun cfz 122 dd46D [] (ent cfz 122 qd400) = some ((.d (.v (.int .i64 15))), []) := by kernel_rfl
theorem dd46 : PureCalls cfz.P cfz.glob 122 qd400 (.d (.v (.int .i64 15))) := closed_ok knil (by kernel_rfl) dd46k trivial

noncomputable def dd47D : CT cfz := .run 13 [] <|  .fin
theorem dd47k : crun cfz 122 dd47D [] (ent cfz 122 qd401) = some ((.d (.v (.int .i64 7))), []) := by kernel_rfl
theorem dd47 : PureCalls cfz.P cfz.glob 122 qd401 (.d (.v (.int .i64 7))) := closed_ok knil (by kernel_rfl) dd47k trivial

noncomputable def dd48D : CT cfz := .run 13 [] <|  .fin
theorem dd48k : crun cfz 122 dd48D [] (ent cfz 122 qd402) = some ((.d (.v (.int .i64 9))), []) := by kernel_rfl
theorem dd48 : PureCalls cfz.P cfz.glob 122 qd402 (.d (.v (.int .i64 9))) := closed_ok knil (by kernel_rfl) dd48k trivial

noncomputable def dd49D : CT cfz := .run 13 [] <|  .fin
theorem dd49k : crun cfz 122 dd49D [] (ent cfz 122 qd403) = some ((.d (.v (.int .i64 11))), []) := by kernel_rfl
theorem dd49 : PureCalls cfz.P cfz.glob 122 qd403 (.d (.v (.int .i64 11))) := closed_ok knil (by kernel_rfl) dd49k trivial

noncomputable def dd50D : CT cfz := .run 13 [] <|  .fin
theorem dd50k : crun cfz 122 dd50D [] (ent cfz 122 qd380) = some ((.d (.v (.int .i64 10))), []) := by kernel_rfl
theorem dd50 : PureCalls cfz.P cfz.glob 122 qd380 (.d (.v (.int .i64 10))) := closed_ok knil (by kernel_rfl) dd50k trivial

noncomputable def dd51D : CT cfz := .run 9 [] <| .run 1 [.none] <| .run 51 [] <| .use dd22 <| .use dd45 <| .run 1 [.none, (.ck 0), (.ck 1), .none] <| .run 11 [] <| .run 1 [(.br true)] <| .run 7 [] <| .run 1 [.none] <| .run 4 [] <| .use dd24 <| .use dd46 <| .run 1 [.none, (.ck 2), (.ck 3), .none] <| .run 11 [] <| .run 1 [(.br true)] <| .run 7 [] <| .run 1 [.none] <| .run 4 [] <| .use dd26 <| .use dd47 <| .run 1 [.none, (.ck 4), (.ck 5), .none] <| .run 11 [] <| .run 1 [(.br true)] <| .run 7 [] <| .run 1 [.none] <| .run 4 [] <| .use dd28 <| .use dd48 <| .run 1 [.none, (.ck 6), (.ck 7), .none] <| .run 11 [] <| .run 1 [(.br false)] <| .run 47 [] <| .run 1 [.none, (.ck 0), (.ck 1), .none] <| .run 11 [] <| .run 1 [(.br true)] <| .run 7 [] <| .run 1 [.none] <| .run 4 [] <| .use dd49 <| .run 1 [.none, (.ck 4), (.ck 8), .none] <| .run 11 [] <| .run 1 [(.br true)] <| .run 7 [] <| .run 1 [.none] <| .run 4 [] <| .use dd31 <| .run 1 [.none, (.ck 9), (.ck 5), .none] <| .run 11 [] <| .run 1 [(.br true)] <| .run 7 [] <| .run 1 [.none] <| .run 4 [] <| .use dd32 <| .use dd50 <| .run 1 [.none, (.ck 10), (.ck 11), .none] <| .run 11 [] <| .run 1 [(.br false)] <| .run 20 [] <|  .fin
theorem dd51k : crun cfz 80 dd51D [] (ent cfz 80 qd85) = some (qd293, [.eqA qd437 qd437, .eqA qd437 qd437, .eqA qd435 qd435, .eqA qd400 qd400, .eqA qd438 qd438, .eqA qd401 qd401, .eqA qd439 qd439, .eqA qd402 qd402, .eqA qd437 qd437, .eqA qd437 qd437, .eqA qd438 qd438, .eqA qd403 qd403, .eqA qd440 qd440, .eqA qd401 qd401, .eqA qd441 qd441, .eqA qd380 qd380]) := by kernel_rfl
theorem dd51 : PureCalls cfz.P cfz.glob 80 qd85 qd293 := closed_ok knil (by kernel_rfl) dd51k ⟨rfl, rfl, rfl, rfl, rfl, rfl, rfl, rfl, rfl, rfl, rfl, rfl, rfl, rfl, rfl, rfl, trivial⟩

noncomputable def dd52D : CT cfz := .run 7 [] <| .run 1 [.none] <| .run 2 [] <| .use dd22 <| .run 1 [(.ck 0)] <| .run 3 [] <|  .fin
theorem dd52k : crun cfz 132 dd52D [] (ent cfz 132 qd304) = some ((.d (.v (.int .i64 1))), [.eqA qd437 qd437]) := by kernel_rfl
theorem dd52 : PureCalls cfz.P cfz.glob 132 qd304 (.d (.v (.int .i64 1))) := closed_ok knil (by kernel_rfl) dd52k ⟨rfl, trivial⟩

noncomputable def dd53D : CT cfz := .run 29 [] <| .run 1 [.none] <| .run 6 [] <| .use dd52 <| .run 1 [(.ck 0)] <| .run 1 [] <| .run 1 [.mg] <| .run 13 [] <| .run 1 [(.br false)] <| .run 7 [] <|  .fin
theorem dd53k : crun cfz 131 dd53D [] (ent cfz 131 qd196) = some (qd349, [.eqA qd304 qd304]) := by kernel_rfl
theorem dd53 : PureCalls cfz.P cfz.glob 131 qd196 qd349 := closed_ok knil (by kernel_rfl) dd53k ⟨rfl, trivial⟩

noncomputable def dd54D : CT cfz := .run 13 [] <|  .fin
theorem dd54k : crun cfz 122 dd54D [] (ent cfz 122 qd373) = some ((.d (.v (.int .i64 8))), []) := by kernel_rfl
theorem dd54 : PureCalls cfz.P cfz.glob 122 qd373 (.d (.v (.int .i64 8))) := closed_ok knil (by kernel_rfl) dd54k trivial

noncomputable def dd55D : CT cfz := .run 7 [] <| .run 1 [.none] <| .run 2 [] <| .use dd22 <| .run 1 [(.ck 0)] <| .run 3 [] <|  .fin
theorem dd55k : crun cfz 132 dd55D [] (ent cfz 132 qd305) = some ((.d (.v (.int .i64 1))), [.eqA qd437 qd437]) := by kernel_rfl
theorem dd55 : PureCalls cfz.P cfz.glob 132 qd305 (.d (.v (.int .i64 1))) := closed_ok knil (by kernel_rfl) dd55k ⟨rfl, trivial⟩

noncomputable def dd56D : CT cfz := .run 29 [] <| .run 1 [.none] <| .run 6 [] <| .use dd55 <| .run 1 [(.ck 0)] <| .run 1 [] <| .run 1 [.mg] <| .run 13 [] <| .run 1 [(.br false)] <| .run 7 [] <|  .fin
theorem dd56k : crun cfz 131 dd56D [] (ent cfz 131 qd197) = some (qd349, [.eqA qd305 qd305]) := by kernel_rfl
theorem dd56 : PureCalls cfz.P cfz.glob 131 qd197 qd349 := closed_ok knil (by kernel_rfl) dd56k ⟨rfl, trivial⟩

noncomputable def dd57D : CT cfz := .run 13 [] <|  .fin
theorem dd57k : crun cfz 122 dd57D [] (ent cfz 122 qd363) = some ((.d (.v (.int .i64 7))), []) := by kernel_rfl
theorem dd57 : PureCalls cfz.P cfz.glob 122 qd363 (.d (.v (.int .i64 7))) := closed_ok knil (by kernel_rfl) dd57k trivial

noncomputable def dd58D : CT cfz := .run 7 [] <| .run 1 [.none] <| .run 1 [] <| .run 1 [.none] <| .run 4 [] <|  .fin
theorem dd58k : crun cfz 134 dd58D [] (ent cfz 134 qd207) = some ((.d (.v (.bool true))), []) := by kernel_rfl
theorem dd58 : PureCalls cfz.P cfz.glob 134 qd207 (.d (.v (.bool true))) := closed_ok knil (by kernel_rfl) dd58k trivial

noncomputable def dd59D : CT cfz := .run 33 [] <| .run 1 [.none] <| .run 9 [] <|  .fin
theorem dd59k : crun cfz 146 dd59D [] (ent cfz 146 qd6) = some ((.d (.v (.int .i64 0))), []) := by kernel_rfl
theorem dd59 : PureCalls cfz.P cfz.glob 146 qd6 (.d (.v (.int .i64 0))) := closed_ok knil (by kernel_rfl) dd59k trivial

noncomputable def dd60D : CT cfz := .run 9 [] <| .run 1 [.none] <| .run 3 [] <|  .fin
theorem dd60k : crun cfz 123 dd60D [] (ent cfz 123 qd404) = some ((.d (.v (.int .i64 1))), []) := by kernel_rfl
theorem dd60 : PureCalls cfz.P cfz.glob 123 qd404 (.d (.v (.int .i64 1))) := closed_ok knil (by kernel_rfl) dd60k trivial

noncomputable def dd61D : CT cfz := .run 8 [] <| .use dd59 <| .run 1 [(.ck 0)] <| .run 1 [] <| .use dd60 <| .run 1 [(.ck 1)] <| .run 3 [] <|  .fin
theorem dd61k : crun cfz 135 dd61D [] (ent cfz 135 qd435) = some ((.d (.v (.int .i64 1))), [.eqA qd6 qd6, .eqA qd404 qd404]) := by kernel_rfl
theorem dd61 : PureCalls cfz.P cfz.glob 135 qd435 (.d (.v (.int .i64 1))) := closed_ok knil (by kernel_rfl) dd61k ⟨rfl, rfl, trivial⟩

noncomputable def dd62D : CT cfz := .run 13 [] <|  .fin
theorem dd62k : crun cfz 122 dd62D [] (ent cfz 122 qd435) = some ((.d (.v (.int .i64 1))), []) := by kernel_rfl
theorem dd62 : PureCalls cfz.P cfz.glob 122 qd435 (.d (.v (.int .i64 1))) := closed_ok knil (by kernel_rfl) dd62k trivial

noncomputable def dd63D : CT cfz := .run 13 [] <|  .fin
theorem dd63k : crun cfz 122 dd63D [] (ent cfz 122 qd442) = some ((.d (.v (.int .i64 8))), []) := by kernel_rfl
theorem dd63 : PureCalls cfz.P cfz.glob 122 qd442 (.d (.v (.int .i64 8))) := closed_ok knil (by kernel_rfl) dd63k trivial

noncomputable def dd64D : CT cfz := .run 13 [] <|  .fin
theorem dd64k : crun cfz 122 dd64D [] (ent cfz 122 qd374) = some ((.d (.v (.int .i64 16))), []) := by kernel_rfl
theorem dd64 : PureCalls cfz.P cfz.glob 122 qd374 (.d (.v (.int .i64 16))) := closed_ok knil (by kernel_rfl) dd64k trivial

noncomputable def dd65D : CT cfz := .run 13 [] <|  .fin
theorem dd65k : crun cfz 122 dd65D [] (ent cfz 122 qd405) = some ((.d (.v (.int .i64 6))), []) := by kernel_rfl
theorem dd65 : PureCalls cfz.P cfz.glob 122 qd405 (.d (.v (.int .i64 6))) := closed_ok knil (by kernel_rfl) dd65k trivial

noncomputable def dd66D : CT cfz := .run 13 [] <|  .fin
theorem dd66k : crun cfz 122 dd66D [] (ent cfz 122 qd406) = some ((.d (.v (.int .i64 0))), []) := by kernel_rfl
theorem dd66 : PureCalls cfz.P cfz.glob 122 qd406 (.d (.v (.int .i64 0))) := closed_ok knil (by kernel_rfl) dd66k trivial

noncomputable def dd67D : CT cfz := .run 13 [] <|  .fin
theorem dd67k : crun cfz 122 dd67D [] (ent cfz 122 qd407) = some ((.d (.v (.int .i64 2))), []) := by kernel_rfl
theorem dd67 : PureCalls cfz.P cfz.glob 122 qd407 (.d (.v (.int .i64 2))) := closed_ok knil (by kernel_rfl) dd67k trivial

noncomputable def dd68D : CT cfz := .run 13 [] <|  .fin
theorem dd68k : crun cfz 122 dd68D [] (ent cfz 122 qd381) = some ((.d (.v (.int .i64 1))), []) := by kernel_rfl
theorem dd68 : PureCalls cfz.P cfz.glob 122 qd381 (.d (.v (.int .i64 1))) := closed_ok knil (by kernel_rfl) dd68k trivial

noncomputable def dd69D : CT cfz := .run 9 [] <| .run 1 [.none] <| .run 51 [] <| .use dd22 <| .use dd63 <| .run 1 [.none, (.ck 0), (.ck 1), .none] <| .run 11 [] <| .run 1 [(.br true)] <| .run 7 [] <| .run 1 [.none] <| .run 4 [] <| .use dd24 <| .use dd65 <| .run 1 [.none, (.ck 2), (.ck 3), .none] <| .run 11 [] <| .run 1 [(.br true)] <| .run 7 [] <| .run 1 [.none] <| .run 4 [] <| .use dd26 <| .use dd46 <| .run 1 [.none, (.ck 4), (.ck 5), .none] <| .run 11 [] <| .run 1 [(.br true)] <| .run 7 [] <| .run 1 [.none] <| .run 4 [] <| .use dd28 <| .use dd66 <| .run 1 [.none, (.ck 6), (.ck 7), .none] <| .run 11 [] <| .run 1 [(.br false)] <| .run 47 [] <| .run 1 [.none, (.ck 0), (.ck 1), .none] <| .run 11 [] <| .run 1 [(.br true)] <| .run 7 [] <| .run 1 [.none] <| .run 4 [] <| .use dd67 <| .run 1 [.none, (.ck 4), (.ck 8), .none] <| .run 11 [] <| .run 1 [(.br true)] <| .run 7 [] <| .run 1 [.none] <| .run 4 [] <| .use dd31 <| .run 1 [.none, (.ck 9), (.ck 5), .none] <| .run 11 [] <| .run 1 [(.br true)] <| .run 7 [] <| .run 1 [.none] <| .run 4 [] <| .use dd32 <| .use dd68 <| .run 1 [.none, (.ck 10), (.ck 11), .none] <| .run 11 [] <| .run 1 [(.br false)] <| .run 20 [] <|  .fin
theorem dd69k : crun cfz 80 dd69D [] (ent cfz 80 qd86) = some (qd306, [.eqA qd437 qd437, .eqA qd442 qd442, .eqA qd435 qd435, .eqA qd405 qd405, .eqA qd438 qd438, .eqA qd400 qd400, .eqA qd439 qd439, .eqA qd406 qd406, .eqA qd437 qd437, .eqA qd442 qd442, .eqA qd438 qd438, .eqA qd407 qd407, .eqA qd440 qd440, .eqA qd400 qd400, .eqA qd441 qd441, .eqA qd381 qd381]) := by kernel_rfl
theorem dd69 : PureCalls cfz.P cfz.glob 80 qd86 qd306 := closed_ok knil (by kernel_rfl) dd69k ⟨rfl, rfl, rfl, rfl, rfl, rfl, rfl, rfl, rfl, rfl, rfl, rfl, rfl, rfl, rfl, rfl, trivial⟩

noncomputable def dd70D : CT cfz := .run 11 [] <|  .fin
theorem dd70k : crun cfz 125 dd70D [] (ent cfz 125 qd437) = some ((.d (.v (.bool false))), []) := by kernel_rfl
theorem dd70 : PureCalls cfz.P cfz.glob 125 qd437 (.d (.v (.bool false))) := closed_ok knil (by kernel_rfl) dd70k trivial

noncomputable def dd71D : CT cfz := .run 11 [] <|  .fin
theorem dd71k : crun cfz 125 dd71D [] (ent cfz 125 qd435) = some ((.d (.v (.bool true))), []) := by kernel_rfl
theorem dd71 : PureCalls cfz.P cfz.glob 125 qd435 (.d (.v (.bool true))) := closed_ok knil (by kernel_rfl) dd71k trivial

noncomputable def dd72D : CT cfz := .run 33 [] <| .run 1 [.none] <| .use dd70 <| .run 1 [(.ck 0)] <| .run 1 [] <| .run 1 [(.br false)] <| .run 27 [] <| .run 1 [.none] <| .use dd71 <| .run 1 [(.ck 1)] <| .run 1 [] <| .run 1 [(.br true)] <| .run 6 [] <|  .fin
theorem dd72k : crun cfz 156 dd72D [] (ent cfz 156 qd162) = some ((.d (.v (.int .i64 1))), [.eqA qd437 qd437, .eqA qd435 qd435]) := by kernel_rfl
theorem dd72 : PureCalls cfz.P cfz.glob 156 qd162 (.d (.v (.int .i64 1))) := closed_ok knil (by kernel_rfl) dd72k ⟨rfl, rfl, trivial⟩

noncomputable def dd73D : CT cfz := .run 8 [] <| .use dd72 <| .run 1 [(.ck 0)] <| .run 4 [] <|  .fin
theorem dd73k : crun cfz 124 dd73D [] (ent cfz 124 qd162) = some ((.d (.v (.bool true))), [.eqA qd162 qd162]) := by kernel_rfl
theorem dd73 : PureCalls cfz.P cfz.glob 124 qd162 (.d (.v (.bool true))) := closed_ok knil (by kernel_rfl) dd73k ⟨rfl, trivial⟩

noncomputable def dd74D : CT cfz := .run 7 [] <| .run 1 [.none] <| .run 1 [] <| .use dd69 <| .run 1 [(.ck 0)] <| .use dd73 <| .run 1 [(.ck 1)] <| .run 4 [] <|  .fin
theorem dd74k : crun cfz 81 dd74D [] (ent cfz 81 qd86) = some ((.d (.v (.bool false))), [.eqA qd86 qd86, .eqA qd162 qd162]) := by kernel_rfl
theorem dd74 : PureCalls cfz.P cfz.glob 81 qd86 (.d (.v (.bool false))) := closed_ok knil (by kernel_rfl) dd74k ⟨rfl, rfl, trivial⟩

noncomputable def dd75D : CT cfz := .run 33 [] <| .run 1 [(.br true)] <| .run 13 [] <| .run 1 [.none] <| .run 21 [] <| .run 1 [.none] <| .run 1 [] <| .run 1 [.enter] <| .run 9 [] <| .run 1 [.none] <| .run 51 [] <| .use dd22 <| .use dd45 <| .run 1 [.none, (.ck 0), (.ck 1), .none] <| .run 11 [] <| .run 1 [(.br true)] <| .run 7 [] <| .run 1 [.none] <| .run 4 [] <| .use dd24 <| .use dd46 <| .run 1 [.none, (.ck 2), (.ck 3), .none] <| .run 11 [] <| .run 1 [(.br true)] <| .run 7 [] <| .run 1 [.none] <| .run 4 [] <| .use dd26 <| .use dd47 <| .run 1 [.none, (.ck 4), (.ck 5), .none] <| .run 11 [] <| .run 1 [(.br true)] <| .run 7 [] <| .run 1 [.none] <| .run 4 [] <| .use dd28 <| .use dd48 <| .run 1 [.none, (.ck 6), (.ck 7), .none] <| .run 11 [] <| .run 1 [(.br false)] <| .run 47 [] <| .run 1 [.none, (.ck 0), (.ck 1), .none] <| .run 11 [] <| .run 1 [(.br true)] <| .run 7 [] <| .run 1 [.none] <| .run 4 [] <| .use dd49 <| .run 1 [.none, (.ck 4), (.ck 8), .none] <| .run 11 [] <| .run 1 [(.br true)] <| .run 7 [] <| .run 1 [.none] <| .run 4 [] <| .use dd31 <| .run 1 [.none, (.ck 9), (.ck 5), .none] <| .run 11 [] <| .run 1 [(.br true)] <| .run 7 [] <| .run 1 [.none] <| .run 4 [] <| .use dd32 <| .use dd50 <| .run 1 [.none, (.ck 10), (.ck 11), .none] <| .run 11 [] <| .run 1 [(.br false)] <| .run 31 [] <| .run 1 [(.br true)] <| .run 7 [] <| .run 1 [.none] <| .run 1 [] <| .run 1 [.none] <| .run 6 [] <| .run 1 [.enter] <| .run 29 [] <| .run 1 [.none] <| .run 6 [] <| .use dd52 <| .run 1 [(.ck 12)] <| .run 1 [] <| .run 1 [.mg] <| .run 13 [] <| .run 1 [(.br false)] <| .run 15 [] <| .use dd54 <| .run 1 [(.ck 13)] <| .run 1 [] <| .run 1 [.mg] <| .run 1 [] <| .run 1 [.mg] <| .run 13 [] <| .run 1 [(.br true)] <| .run 7 [] <| .run 1 [.none] <| .run 1 [] <| .run 1 [.none] <| .run 6 [] <| .run 1 [.enter] <| .run 29 [] <| .run 1 [.none] <| .run 6 [] <| .use dd55 <| .run 1 [(.ck 14)] <| .run 1 [] <| .run 1 [.mg] <| .run 13 [] <| .run 1 [(.br false)] <| .run 15 [] <| .use dd57 <| .run 1 [(.ck 15)] <| .run 1 [] <| .run 1 [.mg] <| .run 1 [] <| .run 1 [.mg] <| .run 13 [] <| .run 1 [(.br false)] <| .run 15 [] <| .run 1 [(.br true)] <| .run 7 [] <| .run 1 [.none] <| .run 1 [] <| .run 1 [.none] <| .run 5 [] <| .run 1 [.none] <| .run 2 [] <| .run 1 [.enter] <| .run 33 [] <| .run 1 [.none] <| .use dd58 <| .run 1 [(.ck 16)] <| .run 1 [] <| .run 1 [(.br true)] <| .run 15 [] <| .run 1 [(.br false)] <| .run 13 [] <| .run 1 [.none, .none, .none, .none] <| .run 3 [] <| .run 1 [.none] <| .run 7 [] <| .run 1 [.none] <| .run 1 [] <| .run 1 [.none] <| .use dd61 <| .run 1 [(.ck 17)] <| .run 31 [] <| .run 1 [.none] <| .run 2 [] <| .use dd62 <| .run 1 [(.ck 18)] <| .run 1 [] <| .run 1 [.none] <| .run 27 [] <| .run 1 [.none] <| .run 2 [] <| .use dd63 <| .run 1 [(.ck 19)] <| .run 1 [] <| .run 1 [.none] <| .run 47 [] <| .run 1 [(.br true)] <| .run 11 [] <| .run 1 [(.br true)] <| .run 7 [] <| .run 1 [.none] <| .run 7 [] <| .run 1 [.none] <| .run 7 [] <| .run 1 [.none] <| .run 1 [] <| .run 1 [.none] <| .run 15 [] <| .run 1 [(.br true)] <| .run 9 [] <| .run 1 [.none, .none, (.ck 1), .none] <| .run 11 [] <| .run 1 [(.br true)] <| .run 9 [] <| .use dd64 <| .run 1 [.none, .none, (.ck 20), .none] <| .run 11 [] <| .run 1 [(.br false)] <| .run 31 [] <| .run 1 [(.br false)] <| .run 15 [] <| .run 1 [(.br true)] <| .run 7 [] <| .run 1 [.none] <| .run 9 [] <| .run 1 [.none] <| .run 3 [] <| .run 1 [.none] <| .run 1 [] <| .run 1 [.none] <| .run 17 [] <| .run 1 [.none] <| .run 1 [] <| .use dd74 <| .run 1 [(.ck 21)] <| .run 4 [] <|  .fin
theorem dd75k : crun cfz 93 dd75D [] (ent cfz 93 qd51) = some (qd120, [.eqA qd437 qd437, .eqA qd437 qd437, .eqA qd435 qd435, .eqA qd400 qd400, .eqA qd438 qd438, .eqA qd401 qd401, .eqA qd439 qd439, .eqA qd402 qd402, .eqA qd437 qd437, .eqA qd437 qd437, .eqA qd438 qd438, .eqA qd403 qd403, .eqA qd440 qd440, .eqA qd401 qd401, .eqA qd441 qd441, .eqA qd380 qd380, .eqA qd304 qd304, .eqA qd373 qd373, .eqA qd305 qd305, .eqA qd363 qd363, .eqA qd207 qd207, .eqA qd435 qd435, .eqA qd435 qd435, .eqA qd442 qd442, .eqA qd437 qd437, .eqA qd374 qd374, .eqA qd86 qd86]) := by kernel_rfl
theorem dd75 : PureCalls cfz.P cfz.glob 93 qd51 qd120 := closed_ok knil (by kernel_rfl) dd75k ⟨rfl, rfl, rfl, rfl, rfl, rfl, rfl, rfl, rfl, rfl, rfl, rfl, rfl, rfl, rfl, rfl, rfl, rfl, rfl, rfl, rfl, rfl, rfl, rfl, rfl, rfl, rfl, trivial⟩

noncomputable def dd76D : CT cfz := .run 13 [] <|  .fin
theorem dd76k : crun cfz 122 dd76D [] (ent cfz 122 qd408) = some ((.d (.v (.int .i64 2))), []) := by kernel_rfl
theorem dd76 : PureCalls cfz.P cfz.glob 122 qd408 (.d (.v (.int .i64 2))) := closed_ok knil (by kernel_rfl) dd76k trivial

noncomputable def dd77D : CT cfz := .run 13 [] <|  .fin
theorem dd77k : crun cfz 122 dd77D [] (ent cfz 122 qd409) = some ((.d (.v (.int .i64 4))), []) := by kernel_rfl
theorem dd77 : PureCalls cfz.P cfz.glob 122 qd409 (.d (.v (.int .i64 4))) := closed_ok knil (by kernel_rfl) dd77k trivial

noncomputable def dd78D : CT cfz := .run 13 [] <|  .fin
theorem dd78k : crun cfz 122 dd78D [] (ent cfz 122 qd382) = some ((.d (.v (.int .i64 9))), []) := by kernel_rfl
theorem dd78 : PureCalls cfz.P cfz.glob 122 qd382 (.d (.v (.int .i64 9))) := closed_ok knil (by kernel_rfl) dd78k trivial

noncomputable def dd79D : CT cfz := .run 9 [] <| .run 1 [.none] <| .run 51 [] <| .use dd22 <| .use dd23 <| .run 1 [.none, (.ck 0), (.ck 1), .none] <| .run 11 [] <| .run 1 [(.br true)] <| .run 7 [] <| .run 1 [.none] <| .run 4 [] <| .use dd24 <| .run 1 [.none, (.ck 2), (.ck 1), .none] <| .run 11 [] <| .run 1 [(.br true)] <| .run 7 [] <| .run 1 [.none] <| .run 4 [] <| .use dd26 <| .use dd76 <| .run 1 [.none, (.ck 3), (.ck 4), .none] <| .run 11 [] <| .run 1 [(.br true)] <| .run 7 [] <| .run 1 [.none] <| .run 4 [] <| .use dd28 <| .use dd77 <| .run 1 [.none, (.ck 5), (.ck 6), .none] <| .run 11 [] <| .run 1 [(.br false)] <| .run 47 [] <| .run 1 [.none, (.ck 0), (.ck 1), .none] <| .run 11 [] <| .run 1 [(.br true)] <| .run 7 [] <| .run 1 [.none] <| .run 4 [] <| .run 1 [.none, (.ck 3), (.ck 1), .none] <| .run 11 [] <| .run 1 [(.br true)] <| .run 7 [] <| .run 1 [.none] <| .run 4 [] <| .use dd31 <| .use dd65 <| .run 1 [.none, (.ck 7), (.ck 8), .none] <| .run 11 [] <| .run 1 [(.br true)] <| .run 7 [] <| .run 1 [.none] <| .run 4 [] <| .use dd32 <| .use dd78 <| .run 1 [.none, (.ck 9), (.ck 10), .none] <| .run 11 [] <| .run 1 [(.br false)] <| .run 20 [] <|  .fin
theorem dd79k : crun cfz 80 dd79D [] (ent cfz 80 qd76) = some (qd307, [.eqA qd437 qd437, .eqA qd395 qd395, .eqA qd435 qd435, .eqA qd395 qd395, .eqA qd438 qd438, .eqA qd408 qd408, .eqA qd439 qd439, .eqA qd409 qd409, .eqA qd437 qd437, .eqA qd395 qd395, .eqA qd438 qd438, .eqA qd395 qd395, .eqA qd440 qd440, .eqA qd405 qd405, .eqA qd441 qd441, .eqA qd382 qd382]) := by kernel_rfl
theorem dd79 : PureCalls cfz.P cfz.glob 80 qd76 qd307 := closed_ok knil (by kernel_rfl) dd79k ⟨rfl, rfl, rfl, rfl, rfl, rfl, rfl, rfl, rfl, rfl, rfl, rfl, rfl, rfl, rfl, rfl, trivial⟩

noncomputable def dd80D : CT cfz := .run 7 [] <| .run 1 [.none] <| .run 2 [] <| .use dd24 <| .run 1 [(.ck 0)] <| .run 3 [] <|  .fin
theorem dd80k : crun cfz 132 dd80D [] (ent cfz 132 qd308) = some ((.d (.v (.int .i64 3))), [.eqA qd435 qd435]) := by kernel_rfl
theorem dd80 : PureCalls cfz.P cfz.glob 132 qd308 (.d (.v (.int .i64 3))) := closed_ok knil (by kernel_rfl) dd80k ⟨rfl, trivial⟩

noncomputable def dd81D : CT cfz := .run 29 [] <| .run 1 [.none] <| .run 6 [] <| .use dd80 <| .run 1 [(.ck 0)] <| .run 1 [] <| .run 1 [.mg] <| .run 13 [] <| .run 1 [(.br false)] <| .run 7 [] <|  .fin
theorem dd81k : crun cfz 131 dd81D [] (ent cfz 131 qd198) = some (qd350, [.eqA qd308 qd308]) := by kernel_rfl
theorem dd81 : PureCalls cfz.P cfz.glob 131 qd198 qd350 := closed_ok knil (by kernel_rfl) dd81k ⟨rfl, trivial⟩

noncomputable def dd82D : CT cfz := .run 13 [] <|  .fin
theorem dd82k : crun cfz 122 dd82D [] (ent cfz 122 qd375) = some ((.d (.v (.int .i64 13))), []) := by kernel_rfl
theorem dd82 : PureCalls cfz.P cfz.glob 122 qd375 (.d (.v (.int .i64 13))) := closed_ok knil (by kernel_rfl) dd82k trivial

noncomputable def dd83D : CT cfz := .run 7 [] <| .run 1 [.none] <| .run 2 [] <| .use dd26 <| .run 1 [(.ck 0)] <| .run 3 [] <|  .fin
theorem dd83k : crun cfz 132 dd83D [] (ent cfz 132 qd309) = some ((.d (.v (.int .i64 9))), [.eqA qd438 qd438]) := by kernel_rfl
theorem dd83 : PureCalls cfz.P cfz.glob 132 qd309 (.d (.v (.int .i64 9))) := closed_ok knil (by kernel_rfl) dd83k ⟨rfl, trivial⟩

noncomputable def dd84D : CT cfz := .run 29 [] <| .run 1 [.none] <| .run 6 [] <| .use dd83 <| .run 1 [(.ck 0)] <| .run 1 [] <| .run 1 [.mg] <| .run 13 [] <| .run 1 [(.br false)] <| .run 7 [] <|  .fin
theorem dd84k : crun cfz 131 dd84D [] (ent cfz 131 qd199) = some (qd351, [.eqA qd309 qd309]) := by kernel_rfl
theorem dd84 : PureCalls cfz.P cfz.glob 131 qd199 qd351 := closed_ok knil (by kernel_rfl) dd84k ⟨rfl, trivial⟩

noncomputable def dd85D : CT cfz := .run 7 [] <| .run 1 [.none] <| .run 1 [] <| .run 1 [.none] <| .run 4 [] <|  .fin
theorem dd85k : crun cfz 134 dd85D [] (ent cfz 134 qd205) = some ((.d (.v (.bool true))), []) := by kernel_rfl
theorem dd85 : PureCalls cfz.P cfz.glob 134 qd205 (.d (.v (.bool true))) := closed_ok knil (by kernel_rfl) dd85k trivial

noncomputable def dd86D : CT cfz := .run 33 [] <| .run 1 [.none] <| .run 15 [] <| .run 1 [(.br true)] <| .run 17 [] <| .run 1 [(.br true)] <| .run 6 [] <|  .fin
theorem dd86k : crun cfz 146 dd86D [] (ent cfz 146 qd7) = some ((.d (.v (.int .i64 1))), []) := by kernel_rfl
theorem dd86 : PureCalls cfz.P cfz.glob 146 qd7 (.d (.v (.int .i64 1))) := closed_ok knil (by kernel_rfl) dd86k trivial

noncomputable def dd87D : CT cfz := .run 9 [] <| .run 1 [.none] <| .run 3 [] <|  .fin
theorem dd87k : crun cfz 123 dd87D [] (ent cfz 123 qd400) = some ((.d (.v (.int .i64 6))), []) := by kernel_rfl
theorem dd87 : PureCalls cfz.P cfz.glob 123 qd400 (.d (.v (.int .i64 6))) := closed_ok knil (by kernel_rfl) dd87k trivial

noncomputable def dd88D : CT cfz := .run 8 [] <| .use dd86 <| .run 1 [(.ck 0)] <| .run 1 [] <| .use dd87 <| .run 1 [(.ck 1)] <| .run 3 [] <|  .fin
theorem dd88k : crun cfz 135 dd88D [] (ent cfz 135 qd439) = some ((.d (.v (.int .i64 6))), [.eqA qd7 qd7, .eqA qd400 qd400]) := by kernel_rfl
theorem dd88 : PureCalls cfz.P cfz.glob 135 qd439 (.d (.v (.int .i64 6))) := closed_ok knil (by kernel_rfl) dd88k ⟨rfl, rfl, trivial⟩

noncomputable def dd89D : CT cfz := .run 13 [] <|  .fin
theorem dd89k : crun cfz 122 dd89D [] (ent cfz 122 qd410) = some ((.d (.v (.int .i64 1))), []) := by kernel_rfl
theorem dd89 : PureCalls cfz.P cfz.glob 122 qd410 (.d (.v (.int .i64 1))) := closed_ok knil (by kernel_rfl) dd89k trivial

noncomputable def dd90D : CT cfz := .run 13 [] <|  .fin
theorem dd90k : crun cfz 122 dd90D [] (ent cfz 122 qd411) = some ((.d (.v (.int .i64 10))), []) := by kernel_rfl
theorem dd90 : PureCalls cfz.P cfz.glob 122 qd411 (.d (.v (.int .i64 10))) := closed_ok knil (by kernel_rfl) dd90k trivial

noncomputable def dd91D : CT cfz := .run 13 [] <|  .fin
theorem dd91k : crun cfz 122 dd91D [] (ent cfz 122 qd364) = some ((.d (.v (.int .i64 3))), []) := by kernel_rfl
theorem dd91 : PureCalls cfz.P cfz.glob 122 qd364 (.d (.v (.int .i64 3))) := closed_ok knil (by kernel_rfl) dd91k trivial

noncomputable def dd92D : CT cfz := .run 13 [] <|  .fin
theorem dd92k : crun cfz 122 dd92D [] (ent cfz 122 qd412) = some ((.d (.v (.int .i64 6))), []) := by kernel_rfl
theorem dd92 : PureCalls cfz.P cfz.glob 122 qd412 (.d (.v (.int .i64 6))) := closed_ok knil (by kernel_rfl) dd92k trivial

noncomputable def dd93D : CT cfz := .run 13 [] <|  .fin
theorem dd93k : crun cfz 122 dd93D [] (ent cfz 122 qd383) = some ((.d (.v (.int .i64 15))), []) := by kernel_rfl
theorem dd93 : PureCalls cfz.P cfz.glob 122 qd383 (.d (.v (.int .i64 15))) := closed_ok knil (by kernel_rfl) dd93k trivial

noncomputable def dd94D : CT cfz := .run 13 [] <|  .fin
theorem dd94k : crun cfz 122 dd94D [] (ent cfz 122 qd413) = some ((.d (.v (.int .i64 11))), []) := by kernel_rfl
theorem dd94 : PureCalls cfz.P cfz.glob 122 qd413 (.d (.v (.int .i64 11))) := closed_ok knil (by kernel_rfl) dd94k trivial

noncomputable def dd95D : CT cfz := .run 13 [] <|  .fin
theorem dd95k : crun cfz 122 dd95D [] (ent cfz 122 qd384) = some ((.d (.v (.int .i64 14))), []) := by kernel_rfl
theorem dd95 : PureCalls cfz.P cfz.glob 122 qd384 (.d (.v (.int .i64 14))) := closed_ok knil (by kernel_rfl) dd95k trivial

noncomputable def dd96D : CT cfz := .run 9 [] <| .run 1 [.none] <| .run 51 [] <| .use dd22 <| .use dd23 <| .run 1 [.none, (.ck 0), (.ck 1), .none] <| .run 11 [] <| .run 1 [(.br true)] <| .run 7 [] <| .run 1 [.none] <| .run 4 [] <| .use dd24 <| .use dd92 <| .run 1 [.none, (.ck 2), (.ck 3), .none] <| .run 11 [] <| .run 1 [(.br true)] <| .run 7 [] <| .run 1 [.none] <| .run 4 [] <| .use dd26 <| .use dd46 <| .run 1 [.none, (.ck 4), (.ck 5), .none] <| .run 11 [] <| .run 1 [(.br true)] <| .run 7 [] <| .run 1 [.none] <| .run 4 [] <| .use dd28 <| .use dd66 <| .run 1 [.none, (.ck 6), (.ck 7), .none] <| .run 11 [] <| .run 1 [(.br false)] <| .run 47 [] <| .run 1 [.none, (.ck 0), (.ck 1), .none] <| .run 11 [] <| .run 1 [(.br true)] <| .run 7 [] <| .run 1 [.none] <| .run 4 [] <| .use dd93 <| .run 1 [.none, (.ck 4), (.ck 8), .none] <| .run 11 [] <| .run 1 [(.br true)] <| .run 7 [] <| .run 1 [.none] <| .run 4 [] <| .use dd31 <| .use dd94 <| .run 1 [.none, (.ck 9), (.ck 10), .none] <| .run 11 [] <| .run 1 [(.br true)] <| .run 7 [] <| .run 1 [.none] <| .run 4 [] <| .use dd32 <| .use dd95 <| .run 1 [.none, (.ck 11), (.ck 12), .none] <| .run 11 [] <| .run 1 [(.br false)] <| .run 20 [] <|  .fin
theorem dd96k : crun cfz 80 dd96D [] (ent cfz 80 qd72) = some (qd294, [.eqA qd437 qd437, .eqA qd395 qd395, .eqA qd435 qd435, .eqA qd412 qd412, .eqA qd438 qd438, .eqA qd400 qd400, .eqA qd439 qd439, .eqA qd406 qd406, .eqA qd437 qd437, .eqA qd395 qd395, .eqA qd438 qd438, .eqA qd383 qd383, .eqA qd440 qd440, .eqA qd413 qd413, .eqA qd441 qd441, .eqA qd384 qd384]) := by kernel_rfl
theorem dd96 : PureCalls cfz.P cfz.glob 80 qd72 qd294 := closed_ok knil (by kernel_rfl) dd96k ⟨rfl, rfl, rfl, rfl, rfl, rfl, rfl, rfl, rfl, rfl, rfl, rfl, rfl, rfl, rfl, rfl, trivial⟩

noncomputable def dd97D : CT cfz := .run 11 [] <|  .fin
theorem dd97k : crun cfz 125 dd97D [] (ent cfz 125 qd414) = some ((.d (.v (.bool true))), []) := by kernel_rfl
theorem dd97 : PureCalls cfz.P cfz.glob 125 qd414 (.d (.v (.bool true))) := closed_ok knil (by kernel_rfl) dd97k trivial

noncomputable def dd98D : CT cfz := .run 33 [] <| .run 1 [.none] <| .use dd70 <| .run 1 [(.ck 0)] <| .run 1 [] <| .run 1 [(.br false)] <| .run 27 [] <| .run 1 [.none] <| .use dd97 <| .run 1 [(.ck 1)] <| .run 1 [] <| .run 1 [(.br true)] <| .run 6 [] <|  .fin
theorem dd98k : crun cfz 156 dd98D [] (ent cfz 156 qd158) = some ((.d (.v (.int .i64 1))), [.eqA qd437 qd437, .eqA qd414 qd414]) := by kernel_rfl
theorem dd98 : PureCalls cfz.P cfz.glob 156 qd158 (.d (.v (.int .i64 1))) := closed_ok knil (by kernel_rfl) dd98k ⟨rfl, rfl, trivial⟩

noncomputable def dd99D : CT cfz := .run 8 [] <| .use dd98 <| .run 1 [(.ck 0)] <| .run 4 [] <|  .fin
theorem dd99k : crun cfz 124 dd99D [] (ent cfz 124 qd158) = some ((.d (.v (.bool true))), [.eqA qd158 qd158]) := by kernel_rfl
theorem dd99 : PureCalls cfz.P cfz.glob 124 qd158 (.d (.v (.bool true))) := closed_ok knil (by kernel_rfl) dd99k ⟨rfl, trivial⟩

noncomputable def dd100D : CT cfz := .run 7 [] <| .run 1 [.none] <| .run 1 [] <| .use dd96 <| .run 1 [(.ck 0)] <| .use dd99 <| .run 1 [(.ck 1)] <| .run 4 [] <|  .fin
theorem dd100k : crun cfz 81 dd100D [] (ent cfz 81 qd72) = some ((.d (.v (.bool false))), [.eqA qd72 qd72, .eqA qd158 qd158]) := by kernel_rfl
theorem dd100 : PureCalls cfz.P cfz.glob 81 qd72 (.d (.v (.bool false))) := closed_ok knil (by kernel_rfl) dd100k ⟨rfl, rfl, trivial⟩

noncomputable def dd101D : CT cfz := .run 33 [] <| .run 1 [(.br true)] <| .run 13 [] <| .run 1 [.none] <| .run 21 [] <| .run 1 [.none] <| .run 1 [] <| .run 1 [.enter] <| .run 9 [] <| .run 1 [.none] <| .run 51 [] <| .use dd22 <| .use dd23 <| .run 1 [.none, (.ck 0), (.ck 1), .none] <| .run 11 [] <| .run 1 [(.br true)] <| .run 7 [] <| .run 1 [.none] <| .run 4 [] <| .use dd24 <| .run 1 [.none, (.ck 2), (.ck 1), .none] <| .run 11 [] <| .run 1 [(.br true)] <| .run 7 [] <| .run 1 [.none] <| .run 4 [] <| .use dd26 <| .use dd76 <| .run 1 [.none, (.ck 3), (.ck 4), .none] <| .run 11 [] <| .run 1 [(.br true)] <| .run 7 [] <| .run 1 [.none] <| .run 4 [] <| .use dd28 <| .use dd77 <| .run 1 [.none, (.ck 5), (.ck 6), .none] <| .run 11 [] <| .run 1 [(.br false)] <| .run 47 [] <| .run 1 [.none, (.ck 0), (.ck 1), .none] <| .run 11 [] <| .run 1 [(.br true)] <| .run 7 [] <| .run 1 [.none] <| .run 4 [] <| .run 1 [.none, (.ck 3), (.ck 1), .none] <| .run 11 [] <| .run 1 [(.br true)] <| .run 7 [] <| .run 1 [.none] <| .run 4 [] <| .use dd31 <| .use dd65 <| .run 1 [.none, (.ck 7), (.ck 8), .none] <| .run 11 [] <| .run 1 [(.br true)] <| .run 7 [] <| .run 1 [.none] <| .run 4 [] <| .use dd32 <| .use dd78 <| .run 1 [.none, (.ck 9), (.ck 10), .none] <| .run 11 [] <| .run 1 [(.br false)] <| .run 31 [] <| .run 1 [(.br true)] <| .run 7 [] <| .run 1 [.none] <| .run 1 [] <| .run 1 [.none] <| .run 6 [] <| .run 1 [.enter] <| .run 29 [] <| .run 1 [.none] <| .run 6 [] <| .use dd80 <| .run 1 [(.ck 11)] <| .run 1 [] <| .run 1 [.mg] <| .run 13 [] <| .run 1 [(.br false)] <| .run 15 [] <| .use dd82 <| .run 1 [(.ck 12)] <| .run 1 [] <| .run 1 [.mg] <| .run 1 [] <| .run 1 [.mg] <| .run 13 [] <| .run 1 [(.br true)] <| .run 7 [] <| .run 1 [.none] <| .run 1 [] <| .run 1 [.none] <| .run 6 [] <| .run 1 [.enter] <| .run 29 [] <| .run 1 [.none] <| .run 6 [] <| .use dd83 <| .run 1 [(.ck 13)] <| .run 1 [] <| .run 1 [.mg] <| .run 13 [] <| .run 1 [(.br false)] <| .run 15 [] <| .use dd54 <| .run 1 [(.ck 14)] <| .run 1 [] <| .run 1 [.mg] <| .run 1 [] <| .run 1 [.mg] <| .run 13 [] <| .run 1 [(.br false)] <| .run 15 [] <| .run 1 [(.br true)] <| .run 7 [] <| .run 1 [.none] <| .run 1 [] <| .run 1 [.none] <| .run 5 [] <| .run 1 [.none] <| .run 2 [] <| .run 1 [.enter] <| .run 33 [] <| .run 1 [.none] <| .use dd85 <| .run 1 [(.ck 15)] <| .run 1 [] <| .run 1 [(.br true)] <| .run 15 [] <| .run 1 [(.br false)] <| .run 13 [] <| .run 1 [.none, .none, .none, .none] <| .run 3 [] <| .run 1 [.none] <| .run 7 [] <| .run 1 [.none] <| .run 1 [] <| .run 1 [.none] <| .use dd88 <| .run 1 [(.ck 16)] <| .run 31 [] <| .run 1 [.none] <| .run 2 [] <| .use dd89 <| .run 1 [(.ck 17)] <| .run 1 [] <| .run 1 [.none] <| .run 27 [] <| .run 1 [.none] <| .run 2 [] <| .use dd90 <| .run 1 [(.ck 18)] <| .run 1 [] <| .run 1 [.none] <| .run 47 [] <| .run 1 [(.br true)] <| .run 11 [] <| .run 1 [(.br true)] <| .run 7 [] <| .run 1 [.none] <| .run 7 [] <| .run 1 [.none] <| .run 7 [] <| .run 1 [.none] <| .run 1 [] <| .run 1 [.none] <| .run 15 [] <| .run 1 [(.br true)] <| .run 9 [] <| .use dd45 <| .run 1 [.none, .none, (.ck 19), .none] <| .run 11 [] <| .run 1 [(.br true)] <| .run 9 [] <| .use dd91 <| .run 1 [.none, .none, (.ck 20), .none] <| .run 11 [] <| .run 1 [(.br false)] <| .run 31 [] <| .run 1 [(.br false)] <| .run 15 [] <| .run 1 [(.br true)] <| .run 7 [] <| .run 1 [.none] <| .run 9 [] <| .run 1 [.none] <| .run 3 [] <| .run 1 [.none] <| .run 1 [] <| .run 1 [.none] <| .run 17 [] <| .run 1 [.none] <| .run 1 [] <| .use dd100 <| .run 1 [(.ck 21)] <| .run 4 [] <|  .fin
theorem dd101k : crun cfz 93 dd101D [] (ent cfz 93 qd52) = some (qd113, [.eqA qd437 qd437, .eqA qd395 qd395, .eqA qd435 qd435, .eqA qd395 qd395, .eqA qd438 qd438, .eqA qd408 qd408, .eqA qd439 qd439, .eqA qd409 qd409, .eqA qd437 qd437, .eqA qd395 qd395, .eqA qd438 qd438, .eqA qd395 qd395, .eqA qd440 qd440, .eqA qd405 qd405, .eqA qd441 qd441, .eqA qd382 qd382, .eqA qd308 qd308, .eqA qd375 qd375, .eqA qd309 qd309, .eqA qd373 qd373, .eqA qd205 qd205, .eqA qd439 qd439, .eqA qd410 qd410, .eqA qd411 qd411, .eqA qd437 qd437, .eqA qd364 qd364, .eqA qd72 qd72]) := by kernel_rfl
theorem dd101 : PureCalls cfz.P cfz.glob 93 qd52 qd113 := closed_ok knil (by kernel_rfl) dd101k ⟨rfl, rfl, rfl, rfl, rfl, rfl, rfl, rfl, rfl, rfl, rfl, rfl, rfl, rfl, rfl, rfl, rfl, rfl, rfl, rfl, rfl, rfl, rfl, rfl, rfl, rfl, rfl, trivial⟩

noncomputable def dd102D : CT cfz := .run 13 [] <|  .fin
theorem dd102k : crun cfz 122 dd102D [] (ent cfz 122 qd440) = some ((.d (.v (.int .i64 4))), []) := by kernel_rfl
theorem dd102 : PureCalls cfz.P cfz.glob 122 qd440 (.d (.v (.int .i64 4))) := closed_ok knil (by kernel_rfl) dd102k trivial

noncomputable def dd103D : CT cfz := .run 13 [] <|  .fin
theorem dd103k : crun cfz 122 dd103D [] (ent cfz 122 qd385) = some ((.d (.v (.int .i64 7))), []) := by kernel_rfl
theorem dd103 : PureCalls cfz.P cfz.glob 122 qd385 (.d (.v (.int .i64 7))) := closed_ok knil (by kernel_rfl) dd103k trivial

noncomputable def dd104D : CT cfz := .run 9 [] <| .run 1 [.none] <| .run 51 [] <| .use dd22 <| .use dd23 <| .run 1 [.none, (.ck 0), (.ck 1), .none] <| .run 11 [] <| .run 1 [(.br true)] <| .run 7 [] <| .run 1 [.none] <| .run 4 [] <| .use dd24 <| .use dd25 <| .run 1 [.none, (.ck 2), (.ck 3), .none] <| .run 11 [] <| .run 1 [(.br true)] <| .run 7 [] <| .run 1 [.none] <| .run 4 [] <| .use dd26 <| .use dd63 <| .run 1 [.none, (.ck 4), (.ck 5), .none] <| .run 11 [] <| .run 1 [(.br true)] <| .run 7 [] <| .run 1 [.none] <| .run 4 [] <| .use dd28 <| .use dd90 <| .run 1 [.none, (.ck 6), (.ck 7), .none] <| .run 11 [] <| .run 1 [(.br false)] <| .run 47 [] <| .run 1 [.none, (.ck 0), (.ck 1), .none] <| .run 11 [] <| .run 1 [(.br true)] <| .run 7 [] <| .run 1 [.none] <| .run 4 [] <| .use dd30 <| .run 1 [.none, (.ck 4), (.ck 8), .none] <| .run 11 [] <| .run 1 [(.br true)] <| .run 7 [] <| .run 1 [.none] <| .run 4 [] <| .use dd31 <| .use dd102 <| .run 1 [.none, (.ck 9), (.ck 10), .none] <| .run 11 [] <| .run 1 [(.br true)] <| .run 7 [] <| .run 1 [.none] <| .run 4 [] <| .use dd32 <| .use dd103 <| .run 1 [.none, (.ck 11), (.ck 12), .none] <| .run 11 [] <| .run 1 [(.br false)] <| .run 20 [] <|  .fin
theorem dd104k : crun cfz 80 dd104D [] (ent cfz 80 qd77) = some (qd295, [.eqA qd437 qd437, .eqA qd395 qd395, .eqA qd435 qd435, .eqA qd396 qd396, .eqA qd438 qd438, .eqA qd442 qd442, .eqA qd439 qd439, .eqA qd411 qd411, .eqA qd437 qd437, .eqA qd395 qd395, .eqA qd438 qd438, .eqA qd399 qd399, .eqA qd440 qd440, .eqA qd440 qd440, .eqA qd441 qd441, .eqA qd385 qd385]) := by kernel_rfl
theorem dd104 : PureCalls cfz.P cfz.glob 80 qd77 qd295 := closed_ok knil (by kernel_rfl) dd104k ⟨rfl, rfl, rfl, rfl, rfl, rfl, rfl, rfl, rfl, rfl, rfl, rfl, rfl, rfl, rfl, rfl, trivial⟩

noncomputable def dd105D : CT cfz := .run 7 [] <| .run 1 [.none] <| .run 2 [] <| .use dd26 <| .run 1 [(.ck 0)] <| .run 3 [] <|  .fin
theorem dd105k : crun cfz 132 dd105D [] (ent cfz 132 qd310) = some ((.d (.v (.int .i64 9))), [.eqA qd438 qd438]) := by kernel_rfl
theorem dd105 : PureCalls cfz.P cfz.glob 132 qd310 (.d (.v (.int .i64 9))) := closed_ok knil (by kernel_rfl) dd105k ⟨rfl, trivial⟩

noncomputable def dd106D : CT cfz := .run 29 [] <| .run 1 [.none] <| .run 6 [] <| .use dd105 <| .run 1 [(.ck 0)] <| .run 1 [] <| .run 1 [.mg] <| .run 13 [] <| .run 1 [(.br false)] <| .run 7 [] <|  .fin
theorem dd106k : crun cfz 131 dd106D [] (ent cfz 131 qd200) = some (qd351, [.eqA qd310 qd310]) := by kernel_rfl
theorem dd106 : PureCalls cfz.P cfz.glob 131 qd200 qd351 := closed_ok knil (by kernel_rfl) dd106k ⟨rfl, trivial⟩

noncomputable def dd107D : CT cfz := .run 7 [] <| .run 1 [.none] <| .run 2 [] <| .use dd31 <| .run 1 [(.ck 0)] <| .run 3 [] <|  .fin
theorem dd107k : crun cfz 132 dd107D [] (ent cfz 132 qd311) = some ((.d (.v (.int .i64 13))), [.eqA qd440 qd440]) := by kernel_rfl
theorem dd107 : PureCalls cfz.P cfz.glob 132 qd311 (.d (.v (.int .i64 13))) := closed_ok knil (by kernel_rfl) dd107k ⟨rfl, trivial⟩

noncomputable def dd108D : CT cfz := .run 29 [] <| .run 1 [.none] <| .run 6 [] <| .use dd107 <| .run 1 [(.ck 0)] <| .run 1 [] <| .run 1 [.mg] <| .run 13 [] <| .run 1 [(.br false)] <| .run 7 [] <|  .fin
theorem dd108k : crun cfz 131 dd108D [] (ent cfz 131 qd201) = some ((.d (.sl 1 [(.v (.int .i64 13))])), [.eqA qd311 qd311]) := by kernel_rfl
theorem dd108 : PureCalls cfz.P cfz.glob 131 qd201 (.d (.sl 1 [(.v (.int .i64 13))])) := closed_ok knil (by kernel_rfl) dd108k ⟨rfl, trivial⟩

noncomputable def dd109D : CT cfz := .run 13 [] <|  .fin
theorem dd109k : crun cfz 122 dd109D [] (ent cfz 122 qd376) = some ((.d (.v (.int .i64 10))), []) := by kernel_rfl
theorem dd109 : PureCalls cfz.P cfz.glob 122 qd376 (.d (.v (.int .i64 10))) := closed_ok knil (by kernel_rfl) dd109k trivial

noncomputable def dd110D : CT cfz := .run 7 [] <| .run 1 [.none] <| .run 1 [] <| .run 1 [.none] <| .run 4 [] <|  .fin
theorem dd110k : crun cfz 134 dd110D [] (ent cfz 134 qd208) = some ((.d (.v (.bool true))), []) := by kernel_rfl
theorem dd110 : PureCalls cfz.P cfz.glob 134 qd208 (.d (.v (.bool true))) := closed_ok knil (by kernel_rfl) dd110k trivial

noncomputable def dd111D : CT cfz := .run 33 [] <| .run 1 [.none] <| .run 15 [] <| .run 1 [(.br true)] <| .run 17 [] <| .run 1 [(.br false)] <| .run 27 [] <| .run 1 [.none] <| .run 9 [] <|  .fin
theorem dd111k : crun cfz 146 dd111D [] (ent cfz 146 qd8) = some ((.d (.v (.int .i64 2))), []) := by kernel_rfl
theorem dd111 : PureCalls cfz.P cfz.glob 146 qd8 (.d (.v (.int .i64 2))) := closed_ok knil (by kernel_rfl) dd111k trivial

noncomputable def dd112D : CT cfz := .run 9 [] <| .run 1 [.none] <| .run 3 [] <|  .fin
theorem dd112k : crun cfz 123 dd112D [] (ent cfz 123 qd414) = some ((.d (.v (.int .i64 2))), []) := by kernel_rfl
theorem dd112 : PureCalls cfz.P cfz.glob 123 qd414 (.d (.v (.int .i64 2))) := closed_ok knil (by kernel_rfl) dd112k trivial

noncomputable def dd113D : CT cfz := .run 8 [] <| .use dd111 <| .run 1 [(.ck 0)] <| .run 1 [] <| .use dd112 <| .run 1 [(.ck 1)] <| .run 3 [] <|  .fin
theorem dd113k : crun cfz 135 dd113D [] (ent cfz 135 qd443) = some ((.d (.v (.int .i64 2))), [.eqA qd8 qd8, .eqA qd414 qd414]) := by kernel_rfl
theorem dd113 : PureCalls cfz.P cfz.glob 135 qd443 (.d (.v (.int .i64 2))) := closed_ok knil (by kernel_rfl) dd113k ⟨rfl, rfl, trivial⟩

noncomputable def dd114D : CT cfz := .run 13 [] <|  .fin
theorem dd114k : crun cfz 122 dd114D [] (ent cfz 122 qd414) = some ((.d (.v (.int .i64 14))), []) := by kernel_rfl
theorem dd114 : PureCalls cfz.P cfz.glob 122 qd414 (.d (.v (.int .i64 14))) := closed_ok knil (by kernel_rfl) dd114k trivial

noncomputable def dd115D : CT cfz := .run 13 [] <|  .fin
theorem dd115k : crun cfz 122 dd115D [] (ent cfz 122 qd359) = some ((.d (.v (.int .i64 15))), []) := by kernel_rfl
theorem dd115 : PureCalls cfz.P cfz.glob 122 qd359 (.d (.v (.int .i64 15))) := closed_ok knil (by kernel_rfl) dd115k trivial

noncomputable def dd116D : CT cfz := .run 13 [] <|  .fin
theorem dd116k : crun cfz 122 dd116D [] (ent cfz 122 qd386) = some ((.d (.v (.int .i64 15))), []) := by kernel_rfl
theorem dd116 : PureCalls cfz.P cfz.glob 122 qd386 (.d (.v (.int .i64 15))) := closed_ok knil (by kernel_rfl) dd116k trivial

noncomputable def dd117D : CT cfz := .run 13 [] <|  .fin
theorem dd117k : crun cfz 122 dd117D [] (ent cfz 122 qd387) = some ((.d (.v (.int .i64 16))), []) := by kernel_rfl
theorem dd117 : PureCalls cfz.P cfz.glob 122 qd387 (.d (.v (.int .i64 16))) := closed_ok knil (by kernel_rfl) dd117k trivial

noncomputable def dd118D : CT cfz := .run 13 [] <|  .fin
theorem dd118k : crun cfz 122 dd118D [] (ent cfz 122 qd388) = some ((.d (.v (.int .i64 2))), []) := by kernel_rfl
theorem dd118 : PureCalls cfz.P cfz.glob 122 qd388 (.d (.v (.int .i64 2))) := closed_ok knil (by kernel_rfl) dd118k trivial

noncomputable def dd119D : CT cfz := .run 9 [] <| .run 1 [.none] <| .run 51 [] <| .use dd22 <| .use dd23 <| .run 1 [.none, (.ck 0), (.ck 1), .none] <| .run 11 [] <| .run 1 [(.br true)] <| .run 7 [] <| .run 1 [.none] <| .run 4 [] <| .use dd24 <| .use dd25 <| .run 1 [.none, (.ck 2), (.ck 3), .none] <| .run 11 [] <| .run 1 [(.br true)] <| .run 7 [] <| .run 1 [.none] <| .run 4 [] <| .use dd26 <| .use dd116 <| .run 1 [.none, (.ck 4), (.ck 5), .none] <| .run 11 [] <| .run 1 [(.br true)] <| .run 7 [] <| .run 1 [.none] <| .run 4 [] <| .use dd28 <| .use dd66 <| .run 1 [.none, (.ck 6), (.ck 7), .none] <| .run 11 [] <| .run 1 [(.br false)] <| .run 47 [] <| .run 1 [.none, (.ck 0), (.ck 1), .none] <| .run 11 [] <| .run 1 [(.br true)] <| .run 7 [] <| .run 1 [.none] <| .run 4 [] <| .use dd30 <| .run 1 [.none, (.ck 4), (.ck 8), .none] <| .run 11 [] <| .run 1 [(.br true)] <| .run 7 [] <| .run 1 [.none] <| .run 4 [] <| .use dd31 <| .use dd117 <| .run 1 [.none, (.ck 9), (.ck 10), .none] <| .run 11 [] <| .run 1 [(.br true)] <| .run 7 [] <| .run 1 [.none] <| .run 4 [] <| .use dd32 <| .use dd118 <| .run 1 [.none, (.ck 11), (.ck 12), .none] <| .run 11 [] <| .run 1 [(.br false)] <| .run 20 [] <|  .fin
theorem dd119k : crun cfz 80 dd119D [] (ent cfz 80 qd73) = some (qd312, [.eqA qd437 qd437, .eqA qd395 qd395, .eqA qd435 qd435, .eqA qd396 qd396, .eqA qd438 qd438, .eqA qd386 qd386, .eqA qd439 qd439, .eqA qd406 qd406, .eqA qd437 qd437, .eqA qd395 qd395, .eqA qd438 qd438, .eqA qd399 qd399, .eqA qd440 qd440, .eqA qd387 qd387, .eqA qd441 qd441, .eqA qd388 qd388]) := by kernel_rfl
theorem dd119 : PureCalls cfz.P cfz.glob 80 qd73 qd312 := closed_ok knil (by kernel_rfl) dd119k ⟨rfl, rfl, rfl, rfl, rfl, rfl, rfl, rfl, rfl, rfl, rfl, rfl, rfl, rfl, rfl, rfl, trivial⟩

noncomputable def dd120D : CT cfz := .run 33 [] <| .run 1 [.none] <| .use dd70 <| .run 1 [(.ck 0)] <| .run 1 [] <| .run 1 [(.br false)] <| .run 27 [] <| .run 1 [.none] <| .use dd39 <| .run 1 [(.ck 1)] <| .run 1 [] <| .run 1 [(.br true)] <| .run 6 [] <|  .fin
theorem dd120k : crun cfz 156 dd120D [] (ent cfz 156 qd163) = some ((.d (.v (.int .i64 1))), [.eqA qd437 qd437, .eqA qd438 qd438]) := by kernel_rfl
theorem dd120 : PureCalls cfz.P cfz.glob 156 qd163 (.d (.v (.int .i64 1))) := closed_ok knil (by kernel_rfl) dd120k ⟨rfl, rfl, trivial⟩

noncomputable def dd121D : CT cfz := .run 8 [] <| .use dd120 <| .run 1 [(.ck 0)] <| .run 4 [] <|  .fin
theorem dd121k : crun cfz 124 dd121D [] (ent cfz 124 qd163) = some ((.d (.v (.bool true))), [.eqA qd163 qd163]) := by kernel_rfl
theorem dd121 : PureCalls cfz.P cfz.glob 124 qd163 (.d (.v (.bool true))) := closed_ok knil (by kernel_rfl) dd121k ⟨rfl, trivial⟩

noncomputable def dd122D : CT cfz := .run 7 [] <| .run 1 [.none] <| .run 1 [] <| .use dd119 <| .run 1 [(.ck 0)] <| .use dd121 <| .run 1 [(.ck 1)] <| .run 4 [] <|  .fin
theorem dd122k : crun cfz 81 dd122D [] (ent cfz 81 qd73) = some ((.d (.v (.bool false))), [.eqA qd73 qd73, .eqA qd163 qd163]) := by kernel_rfl
theorem dd122 : PureCalls cfz.P cfz.glob 81 qd73 (.d (.v (.bool false))) := closed_ok knil (by kernel_rfl) dd122k ⟨rfl, rfl, trivial⟩

noncomputable def dd123D : CT cfz := .run 33 [] <| .run 1 [(.br true)] <| .run 13 [] <| .run 1 [.none] <| .run 21 [] <| .run 1 [.none] <| .run 1 [] <| .run 1 [.enter] <| .run 9 [] <| .run 1 [.none] <| .run 51 [] <| .use dd22 <| .use dd23 <| .run 1 [.none, (.ck 0), (.ck 1), .none] <| .run 11 [] <| .run 1 [(.br true)] <| .run 7 [] <| .run 1 [.none] <| .run 4 [] <| .use dd24 <| .use dd25 <| .run 1 [.none, (.ck 2), (.ck 3), .none] <| .run 11 [] <| .run 1 [(.br true)] <| .run 7 [] <| .run 1 [.none] <| .run 4 [] <| .use dd26 <| .use dd63 <| .run 1 [.none, (.ck 4), (.ck 5), .none] <| .run 11 [] <| .run 1 [(.br true)] <| .run 7 [] <| .run 1 [.none] <| .run 4 [] <| .use dd28 <| .use dd90 <| .run 1 [.none, (.ck 6), (.ck 7), .none] <| .run 11 [] <| .run 1 [(.br false)] <| .run 47 [] <| .run 1 [.none, (.ck 0), (.ck 1), .none] <| .run 11 [] <| .run 1 [(.br true)] <| .run 7 [] <| .run 1 [.none] <| .run 4 [] <| .use dd30 <| .run 1 [.none, (.ck 4), (.ck 8), .none] <| .run 11 [] <| .run 1 [(.br true)] <| .run 7 [] <| .run 1 [.none] <| .run 4 [] <| .use dd31 <| .use dd102 <| .run 1 [.none, (.ck 9), (.ck 10), .none] <| .run 11 [] <| .run 1 [(.br true)] <| .run 7 [] <| .run 1 [.none] <| .run 4 [] <| .use dd32 <| .use dd103 <| .run 1 [.none, (.ck 11), (.ck 12), .none] <| .run 11 [] <| .run 1 [(.br false)] <| .run 31 [] <| .run 1 [(.br true)] <| .run 7 [] <| .run 1 [.none] <| .run 1 [] <| .run 1 [.none] <| .run 6 [] <| .run 1 [.enter] <| .run 29 [] <| .run 1 [.none] <| .run 6 [] <| .use dd105 <| .run 1 [(.ck 13)] <| .run 1 [] <| .run 1 [.mg] <| .run 13 [] <| .run 1 [(.br false)] <| .run 15 [] <| .use dd57 <| .run 1 [(.ck 14)] <| .run 1 [] <| .run 1 [.mg] <| .run 1 [] <| .run 1 [.mg] <| .run 13 [] <| .run 1 [(.br true)] <| .run 7 [] <| .run 1 [.none] <| .run 1 [] <| .run 1 [.none] <| .run 6 [] <| .run 1 [.enter] <| .run 29 [] <| .run 1 [.none] <| .run 6 [] <| .use dd107 <| .run 1 [(.ck 15)] <| .run 1 [] <| .run 1 [.mg] <| .run 13 [] <| .run 1 [(.br false)] <| .run 15 [] <| .use dd109 <| .run 1 [(.ck 16)] <| .run 1 [] <| .run 1 [.mg] <| .run 1 [] <| .run 1 [.mg] <| .run 13 [] <| .run 1 [(.br false)] <| .run 15 [] <| .run 1 [(.br true)] <| .run 7 [] <| .run 1 [.none] <| .run 1 [] <| .run 1 [.none] <| .run 5 [] <| .run 1 [.none] <| .run 2 [] <| .run 1 [.enter] <| .run 33 [] <| .run 1 [.none] <| .use dd110 <| .run 1 [(.ck 17)] <| .run 1 [] <| .run 1 [(.br true)] <| .run 15 [] <| .run 1 [(.br false)] <| .run 13 [] <| .run 1 [.none, .none, .none, .none] <| .run 3 [] <| .run 1 [.none] <| .run 7 [] <| .run 1 [.none] <| .run 1 [] <| .run 1 [.none] <| .use dd113 <| .run 1 [(.ck 18)] <| .run 31 [] <| .run 1 [.none] <| .run 2 [] <| .use dd89 <| .run 1 [(.ck 19)] <| .run 1 [] <| .run 1 [.none] <| .run 27 [] <| .run 1 [.none] <| .run 2 [] <| .use dd114 <| .run 1 [(.ck 20)] <| .run 1 [] <| .run 1 [.none] <| .run 47 [] <| .run 1 [(.br true)] <| .run 11 [] <| .run 1 [(.br true)] <| .run 7 [] <| .run 1 [.none] <| .run 7 [] <| .run 1 [.none] <| .run 7 [] <| .run 1 [.none] <| .run 1 [] <| .run 1 [.none] <| .run 15 [] <| .run 1 [(.br true)] <| .run 9 [] <| .use dd45 <| .run 1 [.none, .none, (.ck 21), .none] <| .run 11 [] <| .run 1 [(.br true)] <| .run 9 [] <| .use dd115 <| .run 1 [.none, .none, (.ck 22), .none] <| .run 11 [] <| .run 1 [(.br false)] <| .run 31 [] <| .run 1 [(.br false)] <| .run 15 [] <| .run 1 [(.br true)] <| .run 7 [] <| .run 1 [.none] <| .run 9 [] <| .run 1 [.none] <| .run 3 [] <| .run 1 [.none] <| .run 1 [] <| .run 1 [.none] <| .run 17 [] <| .run 1 [.none] <| .run 1 [] <| .use dd122 <| .run 1 [(.ck 23)] <| .run 4 [] <|  .fin
theorem dd123k : crun cfz 93 dd123D [] (ent cfz 93 qd53) = some (qd114, [.eqA qd437 qd437, .eqA qd395 qd395, .eqA qd435 qd435, .eqA qd396 qd396, .eqA qd438 qd438, .eqA qd442 qd442, .eqA qd439 qd439, .eqA qd411 qd411, .eqA qd437 qd437, .eqA qd395 qd395, .eqA qd438 qd438, .eqA qd399 qd399, .eqA qd440 qd440, .eqA qd440 qd440, .eqA qd441 qd441, .eqA qd385 qd385, .eqA qd310 qd310, .eqA qd363 qd363, .eqA qd311 qd311, .eqA qd376 qd376, .eqA qd208 qd208, .eqA qd443 qd443, .eqA qd410 qd410, .eqA qd414 qd414, .eqA qd437 qd437, .eqA qd359 qd359, .eqA qd73 qd73]) := by kernel_rfl
theorem dd123 : PureCalls cfz.P cfz.glob 93 qd53 qd114 := closed_ok knil (by kernel_rfl) dd123k ⟨rfl, rfl, rfl, rfl, rfl, rfl, rfl, rfl, rfl, rfl, rfl, rfl, rfl, rfl, rfl, rfl, rfl, rfl, rfl, rfl, rfl, rfl, rfl, rfl, rfl, rfl, rfl, trivial⟩

noncomputable def dd124D : CT cfz := .run 9 [] <| .run 1 [.none] <| .run 51 [] <| .use dd22 <| .use dd23 <| .run 1 [.none, (.ck 0), (.ck 1), .none] <| .run 11 [] <| .run 1 [(.br true)] <| .run 7 [] <| .run 1 [.none] <| .run 4 [] <| .use dd24 <| .use dd25 <| .run 1 [.none, (.ck 2), (.ck 3), .none] <| .run 11 [] <| .run 1 [(.br true)] <| .run 7 [] <| .run 1 [.none] <| .run 4 [] <| .use dd26 <| .use dd27 <| .run 1 [.none, (.ck 4), (.ck 5), .none] <| .run 11 [] <| .run 1 [(.br true)] <| .run 7 [] <| .run 1 [.none] <| .run 4 [] <| .use dd28 <| .use dd45 <| .run 1 [.none, (.ck 6), (.ck 7), .none] <| .run 11 [] <| .run 1 [(.br false)] <| .run 47 [] <| .run 1 [.none, (.ck 0), (.ck 1), .none] <| .run 11 [] <| .run 1 [(.br true)] <| .run 7 [] <| .run 1 [.none] <| .run 4 [] <| .use dd30 <| .run 1 [.none, (.ck 4), (.ck 8), .none] <| .run 11 [] <| .run 1 [(.br true)] <| .run 7 [] <| .run 1 [.none] <| .run 4 [] <| .use dd31 <| .run 1 [.none, (.ck 9), (.ck 5), .none] <| .run 11 [] <| .run 1 [(.br true)] <| .run 7 [] <| .run 1 [.none] <| .run 4 [] <| .use dd32 <| .run 1 [.none, (.ck 10), (.ck 7), .none] <| .run 11 [] <| .run 1 [(.br false)] <| .run 20 [] <|  .fin
theorem dd124k : crun cfz 80 dd124D [] (ent cfz 80 qd78) = some (qd302, [.eqA qd437 qd437, .eqA qd395 qd395, .eqA qd435 qd435, .eqA qd396 qd396, .eqA qd438 qd438, .eqA qd397 qd397, .eqA qd439 qd439, .eqA qd437 qd437, .eqA qd437 qd437, .eqA qd395 qd395, .eqA qd438 qd438, .eqA qd399 qd399, .eqA qd440 qd440, .eqA qd397 qd397, .eqA qd441 qd441, .eqA qd437 qd437]) := by kernel_rfl
theorem dd124 : PureCalls cfz.P cfz.glob 80 qd78 qd302 := closed_ok knil (by kernel_rfl) dd124k ⟨rfl, rfl, rfl, rfl, rfl, rfl, rfl, rfl, rfl, rfl, rfl, rfl, rfl, rfl, rfl, rfl, trivial⟩

noncomputable def dd125D : CT cfz := .run 7 [] <| .run 1 [.none] <| .run 2 [] <| .use dd28 <| .run 1 [(.ck 0)] <| .run 3 [] <|  .fin
theorem dd125k : crun cfz 132 dd125D [] (ent cfz 132 qd313) = some ((.d (.v (.int .i64 10))), [.eqA qd439 qd439]) := by kernel_rfl
theorem dd125 : PureCalls cfz.P cfz.glob 132 qd313 (.d (.v (.int .i64 10))) := closed_ok knil (by kernel_rfl) dd125k ⟨rfl, trivial⟩

noncomputable def dd126D : CT cfz := .run 29 [] <| .run 1 [.none] <| .run 6 [] <| .use dd125 <| .run 1 [(.ck 0)] <| .run 1 [] <| .run 1 [.mg] <| .run 13 [] <| .run 1 [(.br false)] <| .run 7 [] <|  .fin
theorem dd126k : crun cfz 131 dd126D [] (ent cfz 131 qd202) = some ((.d (.sl 1 [(.v (.int .i64 10))])), [.eqA qd313 qd313]) := by kernel_rfl
theorem dd126 : PureCalls cfz.P cfz.glob 131 qd202 (.d (.sl 1 [(.v (.int .i64 10))])) := closed_ok knil (by kernel_rfl) dd126k ⟨rfl, trivial⟩

noncomputable def dd127D : CT cfz := .run 7 [] <| .run 1 [.none] <| .run 2 [] <| .use dd32 <| .run 1 [(.ck 0)] <| .run 3 [] <|  .fin
theorem dd127k : crun cfz 132 dd127D [] (ent cfz 132 qd314) = some ((.d (.v (.int .i64 15))), [.eqA qd441 qd441]) := by kernel_rfl
theorem dd127 : PureCalls cfz.P cfz.glob 132 qd314 (.d (.v (.int .i64 15))) := closed_ok knil (by kernel_rfl) dd127k ⟨rfl, trivial⟩

noncomputable def dd128D : CT cfz := .run 29 [] <| .run 1 [.none] <| .run 6 [] <| .use dd127 <| .run 1 [(.ck 0)] <| .run 1 [] <| .run 1 [.mg] <| .run 13 [] <| .run 1 [(.br false)] <| .run 7 [] <|  .fin
theorem dd128k : crun cfz 131 dd128D [] (ent cfz 131 qd203) = some ((.d (.sl 1 [(.v (.int .i64 15))])), [.eqA qd314 qd314]) := by kernel_rfl
theorem dd128 : PureCalls cfz.P cfz.glob 131 qd203 (.d (.sl 1 [(.v (.int .i64 15))])) := closed_ok knil (by kernel_rfl) dd128k ⟨rfl, trivial⟩

noncomputable def dd129D : CT cfz := .run 7 [] <| .run 1 [.none] <| .run 1 [] <| .run 1 [.none] <| .run 4 [] <|  .fin
theorem dd129k : crun cfz 134 dd129D [] (ent cfz 134 qd206) = some ((.d (.v (.bool true))), []) := by kernel_rfl
theorem dd129 : PureCalls cfz.P cfz.glob 134 qd206 (.d (.v (.bool true))) := closed_ok knil (by kernel_rfl) dd129k trivial

noncomputable def dd130D : CT cfz := .run 33 [] <| .run 1 [.none] <| .run 15 [] <| .run 1 [(.br true)] <| .run 17 [] <| .run 1 [(.br false)] <| .run 27 [] <| .run 1 [.none] <| .run 15 [] <| .run 1 [(.br true)] <| .run 17 [] <| .run 1 [(.br true)] <| .run 6 [] <|  .fin
theorem dd130k : crun cfz 146 dd130D [] (ent cfz 146 qd5) = some ((.d (.v (.int .i64 3))), []) := by kernel_rfl
theorem dd130 : PureCalls cfz.P cfz.glob 146 qd5 (.d (.v (.int .i64 3))) := closed_ok knil (by kernel_rfl) dd130k trivial

noncomputable def dd131D : CT cfz := .run 9 [] <| .run 1 [.none] <| .run 3 [] <|  .fin
theorem dd131k : crun cfz 123 dd131D [] (ent cfz 123 qd415) = some ((.d (.v (.int .i64 12))), []) := by kernel_rfl
theorem dd131 : PureCalls cfz.P cfz.glob 123 qd415 (.d (.v (.int .i64 12))) := closed_ok knil (by kernel_rfl) dd131k trivial

noncomputable def dd132D : CT cfz := .run 8 [] <| .use dd130 <| .run 1 [(.ck 0)] <| .run 1 [] <| .use dd131 <| .run 1 [(.ck 1)] <| .run 3 [] <|  .fin
theorem dd132k : crun cfz 135 dd132D [] (ent cfz 135 qd395) = some ((.d (.v (.int .i64 12))), [.eqA qd5 qd5, .eqA qd415 qd415]) := by kernel_rfl
theorem dd132 : PureCalls cfz.P cfz.glob 135 qd395 (.d (.v (.int .i64 12))) := closed_ok knil (by kernel_rfl) dd132k ⟨rfl, rfl, trivial⟩

noncomputable def dd133D : CT cfz := .run 33 [] <| .run 1 [.none] <| .use dd70 <| .run 1 [(.ck 0)] <| .run 1 [] <| .run 1 [(.br false)] <| .run 27 [] <| .run 1 [.none] <| .run 1 [(.ck 0)] <| .run 1 [] <| .run 1 [(.br false)] <| .run 19 [] <|  .fin
theorem dd133k : crun cfz 156 dd133D [] (ent cfz 156 qd164) = some ((.d (.v (.int .i64 (-1)))), [.eqA qd437 qd437, .eqA qd437 qd437]) := by kernel_rfl
theorem dd133 : PureCalls cfz.P cfz.glob 156 qd164 (.d (.v (.int .i64 (-1)))) := closed_ok knil (by kernel_rfl) dd133k ⟨rfl, rfl, trivial⟩

noncomputable def dd134D : CT cfz := .run 8 [] <| .use dd133 <| .run 1 [(.ck 0)] <| .run 4 [] <|  .fin
theorem dd134k : crun cfz 124 dd134D [] (ent cfz 124 qd164) = some ((.d (.v (.bool false))), [.eqA qd164 qd164]) := by kernel_rfl
theorem dd134 : PureCalls cfz.P cfz.glob 124 qd164 (.d (.v (.bool false))) := closed_ok knil (by kernel_rfl) dd134k ⟨rfl, trivial⟩

noncomputable def dd135D : CT cfz := .run 7 [] <| .run 1 [.none] <| .run 1 [] <| .use dd124 <| .run 1 [(.ck 0)] <| .use dd134 <| .run 1 [(.ck 1)] <| .run 4 [] <|  .fin
theorem dd135k : crun cfz 81 dd135D [] (ent cfz 81 qd78) = some ((.d (.v (.bool true))), [.eqA qd78 qd78, .eqA qd164 qd164]) := by kernel_rfl
theorem dd135 : PureCalls cfz.P cfz.glob 81 qd78 (.d (.v (.bool true))) := closed_ok knil (by kernel_rfl) dd135k ⟨rfl, rfl, trivial⟩

noncomputable def dd136D : CT cfz := .run 33 [] <| .run 1 [(.br true)] <| .run 13 [] <| .run 1 [.none] <| .run 21 [] <| .run 1 [.none] <| .run 1 [] <| .run 1 [.enter] <| .run 9 [] <| .run 1 [.none] <| .run 51 [] <| .use dd22 <| .use dd23 <| .run 1 [.none, (.ck 0), (.ck 1), .none] <| .run 11 [] <| .run 1 [(.br true)] <| .run 7 [] <| .run 1 [.none] <| .run 4 [] <| .use dd24 <| .use dd25 <| .run 1 [.none, (.ck 2), (.ck 3), .none] <| .run 11 [] <| .run 1 [(.br true)] <| .run 7 [] <| .run 1 [.none] <| .run 4 [] <| .use dd26 <| .use dd27 <| .run 1 [.none, (.ck 4), (.ck 5), .none] <| .run 11 [] <| .run 1 [(.br true)] <| .run 7 [] <| .run 1 [.none] <| .run 4 [] <| .use dd28 <| .use dd45 <| .run 1 [.none, (.ck 6), (.ck 7), .none] <| .run 11 [] <| .run 1 [(.br false)] <| .run 47 [] <| .run 1 [.none, (.ck 0), (.ck 1), .none] <| .run 11 [] <| .run 1 [(.br true)] <| .run 7 [] <| .run 1 [.none] <| .run 4 [] <| .use dd30 <| .run 1 [.none, (.ck 4), (.ck 8), .none] <| .run 11 [] <| .run 1 [(.br true)] <| .run 7 [] <| .run 1 [.none] <| .run 4 [] <| .use dd31 <| .run 1 [.none, (.ck 9), (.ck 5), .none] <| .run 11 [] <| .run 1 [(.br true)] <| .run 7 [] <| .run 1 [.none] <| .run 4 [] <| .use dd32 <| .run 1 [.none, (.ck 10), (.ck 7), .none] <| .run 11 [] <| .run 1 [(.br false)] <| .run 31 [] <| .run 1 [(.br true)] <| .run 7 [] <| .run 1 [.none] <| .run 1 [] <| .run 1 [.none] <| .run 6 [] <| .run 1 [.enter] <| .run 29 [] <| .run 1 [.none] <| .run 6 [] <| .use dd125 <| .run 1 [(.ck 11)] <| .run 1 [] <| .run 1 [.mg] <| .run 13 [] <| .run 1 [(.br false)] <| .run 15 [] <| .run 1 [(.ck 7)] <| .run 1 [] <| .run 1 [.mg] <| .run 1 [] <| .run 1 [.mg] <| .run 13 [] <| .run 1 [(.br true)] <| .run 7 [] <| .run 1 [.none] <| .run 1 [] <| .run 1 [.none] <| .run 6 [] <| .run 1 [.enter] <| .run 29 [] <| .run 1 [.none] <| .run 6 [] <| .use dd127 <| .run 1 [(.ck 12)] <| .run 1 [] <| .run 1 [.mg] <| .run 13 [] <| .run 1 [(.br false)] <| .run 15 [] <| .run 1 [(.ck 7)] <| .run 1 [] <| .run 1 [.mg] <| .run 1 [] <| .run 1 [.mg] <| .run 13 [] <| .run 1 [(.br false)] <| .run 15 [] <| .run 1 [(.br true)] <| .run 7 [] <| .run 1 [.none] <| .run 1 [] <| .run 1 [.none] <| .run 5 [] <| .run 1 [.none] <| .run 2 [] <| .run 1 [.enter] <| .run 33 [] <| .run 1 [.none] <| .use dd129 <| .run 1 [(.ck 13)] <| .run 1 [] <| .run 1 [(.br true)] <| .run 15 [] <| .run 1 [(.br false)] <| .run 13 [] <| .run 1 [.none, .none, .none, .none] <| .run 3 [] <| .run 1 [.none] <| .run 7 [] <| .run 1 [.none] <| .run 1 [] <| .run 1 [.none] <| .use dd132 <| .run 1 [(.ck 14)] <| .run 31 [] <| .run 1 [.none] <| .run 2 [] <| .use dd68 <| .run 1 [(.ck 15)] <| .run 1 [] <| .run 1 [.none] <| .run 27 [] <| .run 1 [.none] <| .run 2 [] <| .run 1 [(.ck 7)] <| .run 1 [] <| .run 1 [.none] <| .run 47 [] <| .run 1 [(.br true)] <| .run 11 [] <| .run 1 [(.br true)] <| .run 7 [] <| .run 1 [.none] <| .run 7 [] <| .run 1 [.none] <| .run 7 [] <| .run 1 [.none] <| .run 1 [] <| .run 1 [.none] <| .run 15 [] <| .run 1 [(.br true)] <| .run 9 [] <| .run 1 [.none, .none, (.ck 7), .none] <| .run 11 [] <| .run 1 [(.br true)] <| .run 9 [] <| .run 1 [.none, .none, (.ck 7), .none] <| .run 11 [] <| .run 1 [(.br false)] <| .run 31 [] <| .run 1 [(.br false)] <| .run 15 [] <| .run 1 [(.br true)] <| .run 7 [] <| .run 1 [.none] <| .run 9 [] <| .run 1 [.none] <| .run 3 [] <| .run 1 [.none] <| .run 1 [] <| .run 1 [.none] <| .run 17 [] <| .run 1 [.none] <| .run 1 [] <| .use dd135 <| .run 1 [(.ck 16)] <| .run 4 [] <|  .fin
theorem dd136k : crun cfz 93 dd136D [] (ent cfz 93 qd54) = some (qd121, [.eqA qd437 qd437, .eqA qd395 qd395, .eqA qd435 qd435, .eqA qd396 qd396, .eqA qd438 qd438, .eqA qd397 qd397, .eqA qd439 qd439, .eqA qd437 qd437, .eqA qd437 qd437, .eqA qd395 qd395, .eqA qd438 qd438, .eqA qd399 qd399, .eqA qd440 qd440, .eqA qd397 qd397, .eqA qd441 qd441, .eqA qd437 qd437, .eqA qd313 qd313, .eqA qd437 qd437, .eqA qd314 qd314, .eqA qd437 qd437, .eqA qd206 qd206, .eqA qd395 qd395, .eqA qd381 qd381, .eqA qd437 qd437, .eqA qd437 qd437, .eqA qd437 qd437, .eqA qd78 qd78]) := by kernel_rfl
theorem dd136 : PureCalls cfz.P cfz.glob 93 qd54 qd121 := closed_ok knil (by kernel_rfl) dd136k ⟨rfl, rfl, rfl, rfl, rfl, rfl, rfl, rfl, rfl, rfl, rfl, rfl, rfl, rfl, rfl, rfl, rfl, rfl, rfl, rfl, rfl, rfl, rfl, rfl, rfl, rfl, rfl, trivial⟩

noncomputable def dd137D : CT cfz := .run 43 [] <| .run 1 [(.br false)] <| .run 33 [] <| .run 1 [(.br false)] <| .run 33 [] <| .run 1 [(.br false)] <| .run 33 [] <| .run 1 [(.br true)] <| .run 26 [] <|  .fin
theorem dd137k : crun cfz 94 dd137D [] (ent cfz 94 qd47) = some (qd350, []) := by kernel_rfl
theorem dd137 : PureCalls cfz.P cfz.glob 94 qd47 qd350 := closed_ok knil (by kernel_rfl) dd137k trivial

noncomputable def dd138D : CT cfz := .run 12 [] <| .use dd18 <| .use dd19 <| .use dd20 <| .run 1 [.none, .none, (.ck 0), .none, (.ck 1), (.ck 2)] <| .run 5 [] <| .run 1 [(.br false)] <| .run 31 [] <| .run 1 [.none] <| .run 9 [] <| .run 1 [(.br true)] <| .run 19 [] <| .run 1 [.none] <| .run 13 [] <| .run 1 [(.br true)] <| .run 19 [] <| .run 1 [.none] <| .run 13 [] <| .run 1 [(.br true)] <| .run 19 [] <| .run 1 [.none] <| .run 13 [] <| .run 1 [(.br true)] <| .run 19 [] <| .run 1 [.none] <| .run 13 [] <| .run 1 [(.br false)] <| .run 19 [] <| .run 1 [.none] <| .run 3 [] <| .run 1 [.none] <| .run 10 [] <| .use dd21 <| .run 1 [(.ck 3)] <| .run 17 [] <| .run 1 [.none] <| .run 1 [.enter] <| .run 9 [] <| .run 1 [.none] <| .run 5 [] <| .run 1 [.none] <| .run 1 [] <| .run 1 [.enter] <| .run 7 [] <| .use dd43 <| .run 1 [.none, .none, .none, (.call qd360 (.d (.v (.slice .none 0 0)))), .none, (.ck 4)] <| .run 29 [] <| .run 1 [.none] <| .run 3 [] <| .run 1 [.none] <| .run 10 [] <| .use dd44 <| .run 1 [(.ck 5)] <| .run 17 [] <| .run 1 [.none] <| .run 1 [.enter] <| .run 9 [] <| .run 1 [.none] <| .run 26 [] <| .run 1 [.none, (.call qd360 (.d (.v (.slice .none 0 0)))), .none, .none, .none, .enter] <| .run 9 [] <| .run 1 [.none] <| .run 5 [] <| .run 1 [.none] <| .run 1 [] <| .run 1 [.enter] <| .run 7 [] <| .use dd75 <| .run 1 [.none, .none, .none, (.call qd360 (.d (.v (.slice .none 0 0)))), .none, (.ck 6)] <| .run 13 [] <| .run 1 [(.br false)] <| .run 22 [] <| .run 1 [.none, (.call qd360 (.d (.v (.slice .none 0 0)))), .none, .none, .none, .enter] <| .run 9 [] <| .run 1 [.none] <| .run 5 [] <| .run 1 [.none] <| .run 1 [] <| .run 1 [.enter] <| .run 7 [] <| .use dd101 <| .run 1 [.none, .none, .none, (.call qd360 (.d (.v (.slice .none 0 0)))), .none, (.ck 7)] <| .run 13 [] <| .run 1 [(.br false)] <| .run 22 [] <| .run 1 [.none, (.call qd360 (.d (.v (.slice .none 0 0)))), .none, .none, .none, .enter] <| .run 9 [] <| .run 1 [.none] <| .run 5 [] <| .run 1 [.none] <| .run 1 [] <| .run 1 [.enter] <| .run 7 [] <| .use dd123 <| .run 1 [.none, .none, .none, (.call qd360 (.d (.v (.slice .none 0 0)))), .none, (.ck 8)] <| .run 13 [] <| .run 1 [(.br false)] <| .run 22 [] <| .run 1 [.none, (.call qd360 (.d (.v (.slice .none 0 0)))), .none, .none, .none, .enter] <| .run 9 [] <| .run 1 [.none] <| .run 5 [] <| .run 1 [.none] <| .run 1 [] <| .run 1 [.enter] <| .run 7 [] <| .use dd136 <| .run 1 [.none, .none, .none, (.call qd360 (.d (.v (.slice .none 0 0)))), .none, (.ck 9)] <| .run 31 [] <| .run 1 [.none] <| .run 6 [] <| .use dd137 <| .run 1 [.none, .none, .none, (.ck 10)] <| .run 3 [] <|  .fin
theorem dd138k : crun cfz 31 dd138D [] (ent cfz 31 qd61) = some (qd70, [.eqA qd75 qd75, .eqA qd333 qd333, .eqA qd284 qd284, .eqA qd124 qd124, (.prop ([AV.d (DV.v (Value.slice none 0 0))] = [AV.d (DV.v (Value.slice none 0 0))])), (.prop (PureCalls cfz.P cfz.glob 86 [AV.d (DV.v (Value.slice none 0 0))] (AV.d (DV.v (Value.slice none 0 0))))), .eqA qd67 qd67, .eqA qd125 qd125, (.prop ([AV.d (DV.v (Value.slice none 0 0))] = [AV.d (DV.v (Value.slice none 0 0))])), (.prop (PureCalls cfz.P cfz.glob 86 [AV.d (DV.v (Value.slice none 0 0))] (AV.d (DV.v (Value.slice none 0 0))))), (.prop ([AV.d (DV.v (Value.slice none 0 0))] = [AV.d (DV.v (Value.slice none 0 0))])), (.prop (PureCalls cfz.P cfz.glob 86 [AV.d (DV.v (Value.slice none 0 0))] (AV.d (DV.v (Value.slice none 0 0))))), .eqA qd51 qd51, (.prop ([AV.d (DV.v (Value.slice none 0 0))] = [AV.d (DV.v (Value.slice none 0 0))])), (.prop (PureCalls cfz.P cfz.glob 86 [AV.d (DV.v (Value.slice none 0 0))] (AV.d (DV.v (Value.slice none 0 0))))), (.prop ([AV.d (DV.v (Value.slice none 0 0))] = [AV.d (DV.v (Value.slice none 0 0))])), (.prop (PureCalls cfz.P cfz.glob 86 [AV.d (DV.v (Value.slice none 0 0))] (AV.d (DV.v (Value.slice none 0 0))))), .eqA qd52 qd52, (.prop ([AV.d (DV.v (Value.slice none 0 0))] = [AV.d (DV.v (Value.slice none 0 0))])), (.prop (PureCalls cfz.P cfz.glob 86 [AV.d (DV.v (Value.slice none 0 0))] (AV.d (DV.v (Value.slice none 0 0))))), (.prop ([AV.d (DV.v (Value.slice none 0 0))] = [AV.d (DV.v (Value.slice none 0 0))])), (.prop (PureCalls cfz.P cfz.glob 86 [AV.d (DV.v (Value.slice none 0 0))] (AV.d (DV.v (Value.slice none 0 0))))), .eqA qd53 qd53, (.prop ([AV.d (DV.v (Value.slice none 0 0))] = [AV.d (DV.v (Value.slice none 0 0))])), (.prop (PureCalls cfz.P cfz.glob 86 [AV.d (DV.v (Value.slice none 0 0))] (AV.d (DV.v (Value.slice none 0 0))))), (.prop ([AV.d (DV.v (Value.slice none 0 0))] = [AV.d (DV.v (Value.slice none 0 0))])), (.prop (PureCalls cfz.P cfz.glob 86 [AV.d (DV.v (Value.slice none 0 0))] (AV.d (DV.v (Value.slice none 0 0))))), .eqA qd54 qd54, .eqA qd47 qd47]) := by kernel_rfl
theorem dd138 : PureCalls cfz.P cfz.glob 31 qd61 qd70 := closed_ok knil (by kernel_rfl) dd138k ⟨rfl, ⟨rfl, ⟨rfl, ⟨rfl, ⟨rfl, ⟨clnil, ⟨rfl, ⟨rfl, ⟨rfl, ⟨clnil, ⟨rfl, ⟨clnil, ⟨rfl, ⟨rfl, ⟨clnil, ⟨rfl, ⟨clnil, ⟨rfl, ⟨rfl, ⟨clnil, ⟨rfl, ⟨clnil, ⟨rfl, ⟨rfl, ⟨clnil, ⟨rfl, ⟨clnil, ⟨rfl, rfl, trivial⟩⟩⟩⟩⟩⟩⟩⟩⟩⟩⟩⟩⟩⟩⟩⟩⟩⟩⟩⟩⟩⟩⟩⟩⟩⟩⟩⟩
end Go.Kv
